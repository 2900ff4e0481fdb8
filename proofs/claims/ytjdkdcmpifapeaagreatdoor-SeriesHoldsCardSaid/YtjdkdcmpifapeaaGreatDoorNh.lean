/- The document's sums told as ratios: the law's back. -/
import Derived.Test.YtjdkdcmpifapeaaGreatDoorNg
import Derived.Test.YtjdkdcmpifapeaaGreatDoorNf
import Derived.Test.YtjdkdcmpifapeaaGreatDoorMv
import Derived.Test.YtjdkdcmpifapeaaGreatDoorMw
set_option linter.unusedVariables false
set_option linter.unusedSectionVars false
set_option linter.unusedSimpArgs false
set_option maxHeartbeats 4000000
set_option maxRecDepth 10000
namespace Go.Proofs.YtjdkdcmpifapeaaGreatDoor.Abs
set_option exponentiation.threshold 20000
section
open Go Go.RowKit Go.Proofs.Tryz
attribute [local irreducible] qMk qMake bkQ
theorem big8 {n:Nat} (h:n<Big):(digs8 n).length<100000:=by
 have:Dg8 2048 n:=by
  unfold Dg8;have e:(256:Nat)^2048=Big:=by unfold Big B; decide +kernel
  rw[e];exact h
 have:=this.len;omega
theorem bkQ_make {q:Nat} {x:XI} (h1:x.2<Big) (hq:q<Big):∃ n d:FZ,n.z=x.v/\d.z=(q:Int)/\qMk n d=bkQ q x:=by
 refine⟨⟨x.v,by rw[xv_abs]; exact h1⟩,⟨(q:Int),hq⟩,rfl,rfl,?_⟩;unfold bkQ;rw[dif_pos ⟨h1,hq⟩]
def bks (q:Nat) (p:List (List XI)) (m:Nat):List AV:=(p.take m).map fun r=>lQ (bkR q r)
def bkr (q:Nat) (r:List XI) (m:Nat):List AV:=(r.take m).map fun x=>ratv (bkQ q x)
theorem bks_all {q:Nat} {p:List (List XI)}:AV.sl (bks q p p.length)=lT (bkT q p):=by
 unfold bks lT bkT;rw[List.take_length,List.map_map];rfl
theorem bkr_all {q:Nat} {r:List XI}:AV.sl (bkr q r r.length)=lQ (bkR q r):=by
 unfold bkr lQ bkR;rw[List.take_length,List.map_map];rfl
theorem bks_len {q:Nat} {p:List (List XI)} {m:Nat} (h:m<=p.length):(bks q p m).length=m:=by simp[bks,h]
theorem bkr_len {q:Nat} {r:List XI} {m:Nat} (h:m<=r.length):(bkr q r m).length=m:=by simp[bkr,h]
theorem bks_succ {q:Nat} {p:List (List XI)} {m:Nat} (h:m<p.length):bks q p m++[lQ (bkR q p[m])]=bks q p (m+1):=by
 unfold bks;rw[List.take_succ_eq_append_getElem h,List.map_append];rfl
theorem bkr_succ {q:Nat} {r:List XI} {m:Nat} (h:m<r.length):bkr q r m++[ratv (bkQ q r[m])]=bkr q r (m+1):=by
 unfold bkr;rw[List.take_succ_eq_append_getElem h,List.map_append];rfl
theorem bkr_cl (q:Nat) (r:List XI) (m:Nat):AV.closedL (bkr q r m)=true:=closedL_map (fun _=>rfl) _
theorem bks_cl (q:Nat) (p:List (List XI)) (m:Nat):AV.closedL (bks q p m)=true:=closedL_map (fun _=>rfl) _
theorem ok_map {α:Type} {ρ:Ren} {n:Nat} {f:α->AV} (h:∀ x,(f x).lt n=true) (h2:∀ x,(f x).off ρ=true):∀ l:List α,(AV.ltL n (l.map f)&&AV.offL ρ (l.map f))=true
 |[]=>by cases ρ <;> rfl
 |x::l=>by
  have h3:=ok_map h h2 l;simp only[List.map_cons,AV.ltL,AV.offL,Bool.and_eq_true] at h3 ⊢;exact⟨⟨h x,h3.1⟩,h2 x,h3.2⟩
theorem lt_map {α:Type} {n:Nat} {f:α->AV} (h:∀ x,(f x).lt n=true):∀ l:List α,AV.ltL n (l.map f)=true
 |[]=>rfl
 |x::l=>by simp only[List.map_cons,AV.ltL,Bool.and_eq_true]; exact⟨h x,lt_map h l⟩
theorem c_wCheckZ (z:Int) (h:z.natAbs<Big):ACalls prog 86 [int z] (i64 0):=by
 have hl:=lt_Big.1 h;have C:=c_wCheck (decide (z<0)) (digs z.natAbs) (by omega);have e:(if checkN (digs z.natAbs)≠0 then checkN (digs z.natAbs) else if decide (z<0)=true/\digs z.natAbs=[] then 2 else 0)=0:=by
  rw[checkN_digs h,if_neg (by simp),if_neg];rintro⟨h1,h2⟩;have h3:=of_decide_eq_true h1;have h4:=digs_eq_nil.1 h2;omega
 rw[e] at C;exact C
theorem c_xBack (q:Nat) (p:List (List XI)) (hq0:0<q) (hq:q<Big) (hp0:0<p.length) (hp:p.length<1000) (hr:∀ r∈p,0<r.length/\r.length<1000) (hx:∀ r∈p,∀ x∈r,x.2<Big) :
  ACalls prog 106 [lX p,n8 q] (.tup [lT (bkT q p),boo true]):=by
 have lp:(((p.map rX).length:Nat):Int)=(p.length:Int):=by simp
 have CB:=c_rBack q (big8 hq);have CN:=c_wNat q hq;refine conP func106 rfl (by kernel_rfl) ?_;repeat ((first | refine .goF rfl (by kernel_rfl) ?_ | refine .endF rfl (by kernel_rfl) ?_ | refine callE CB rfl rfl ?_ | refine callE CN rfl rfl ?_ | refine⟨by kernel_rfl,?_⟩ | rw[decide_eq_true (by omega)] | rw[decide_eq_false (by omega)] | fail); conv=>whnf)
 refine .weaken (i:={ F:=[(2,3)],fr:=[(0,lX p),(6,nilA),(7,.rptr (int (q:Int)) 0)],st:=[],g:=9 }) ?_ ?_
 ·repeat' (first | exact trivial | exact .inl ⟨.refl _,rfl⟩ | exact⟨.same rfl rfl,x_N ,Nat.le_of_ble_eq_true rfl⟩ | exact⟨_,rfl⟩ | exact .inl ⟨.of_eq (congrArg i64 (Eq.trans (wI (by omega) (by omega)) (by omega))),rfl⟩ | exact rfl | exact x_N | exact Nat.le_of_ble_eq_true rfl | refine⟨?_,?_⟩ | fail)
  exact .inr (.inl (.ptr (2,3) 0 0 _ _ _ (.head _) rfl rfl (.refl rfl)))
 refine .cut (fun _:Unit=>True) (fun _=>{ fr:=[(6,.own (5,0) p.length)],st:=[((5,0),⟨22,1,bks q p p.length⟩)],g:=90 }) ?_ ?_
 ·repeat ((first | refine .goF rfl (by kernel_rfl) ?_ | refine .endF rfl (by kernel_rfl) ?_ | refine⟨by kernel_rfl,?_⟩ | rw[decide_eq_true (by omega)] | rw[decide_eq_false (by omega)] | fail); conv=>whnf)
  rw[lp];refine .block (.loop (fun i:Nat=>i<=p.length) (fun i=>match i with
   |0=>{ fr:=[(6,nilA),(7,.rptr (int (q:Int)) 0),(19,lX p),(20,i64 (p.length:Nat)),(21,i64 (0:Nat))],st:=[],g:=9 }
   |m+1=>{ fr:=[(6,.own (5,0) (m+1)),(7,.rptr (int (q:Int)) 0),(19,lX p),(20,i64 (p.length:Nat)),(21,i64 (m+1:Nat))],st:=[((5,0),⟨22,1,bks q p (m+1)⟩)],g:=9 }) (fun i=>p.length-i) 0 (Nat.zero_le _) ?_ ?_)
  ·repeat' (first | exact trivial | exact .inl ⟨.refl _,rfl⟩ | exact⟨.same rfl rfl,x_N ,Nat.le_of_ble_eq_true rfl⟩ | exact⟨_,rfl⟩ | exact .inl ⟨.of_eq (congrArg i64 (Eq.trans (wI (by omega) (by omega)) (by omega))),rfl⟩ | exact rfl | exact x_N | exact Nat.le_of_ble_eq_true rfl | refine⟨?_,?_⟩ | fail)
  intro i hi;cases i with
  |zero =>
   have hi':0<p.length:=hp0;obtain⟨r,hre⟩:∃ r,p[0]=r:=⟨_,rfl⟩
   repeat ((first | refine .goF rfl (by kernel_rfl) ?_ | refine .endF rfl (by kernel_rfl) ?_ | refine⟨by kernel_rfl,?_⟩ | rw[decide_eq_true (by omega)] | rw[decide_eq_false (by omega)] | fail); conv=>whnf)
   refine .cut (fun _:Unit=>True) (fun _=>{ ren:=[((20,3),(5,0))],fr:=[(6,.own (5,0) 1),(7,.rptr (int (q:Int)) 0),(19,lX p),(20,i64 (p.length:Nat)),(21,i64 (0:Nat))],st:=[((5,0),⟨22,1,bks q p 1⟩)],g:=60 }) ?_ ?_
   ·refine .block ?_;have hrp:r∈p:=by rw[<- hre]; exact List.getElem_mem hi'
    obtain⟨hr0,hr1⟩:=hr r hrp;have hI':(p.map rX)[((0:Nat):Int).toNat]?=some (rX r):=by rw[Int.toNat_natCast,List.getElem?_map,List.getElem?_eq_getElem hi',hre]; rfl
    have lr:(((r.map xi).length:Nat):Int)=(r.length:Int):=by simp
    have hS':=bks_succ (q:=q) hi';rw[hre] at hS';repeat ((first | refine .goF rfl (by kernel_rfl) ?_ | refine .endF rfl (by kernel_rfl) ?_ | refine⟨_,⟨by omega,hI',rfl,rfl⟩,?_⟩ | refine⟨by kernel_rfl,?_⟩ | rw[decide_eq_true (by omega)] | rw[decide_eq_false (by omega)] | fail); conv=>whnf)
    refine .cut (fun _:Unit=>True) (fun _=>{ fr:=[(6,nilA),(7,.rptr (int (q:Int)) 0),(10,.own (5,1) r.length),(19,lX p),(20,i64 (p.length:Nat)),(21,i64 (0:Nat))],st:=[((5,1),⟨28,3,bkr q r r.length⟩)],g:=60 }) ?_ ?_
    ·repeat ((first | refine .goF rfl (by kernel_rfl) ?_ | refine .endF rfl (by kernel_rfl) ?_ | refine⟨by kernel_rfl,?_⟩ | rw[decide_eq_true (by omega)] | rw[decide_eq_false (by omega)] | fail); conv=>whnf)
     rw[lr];refine .block (.loop (fun j:Nat=>j<=r.length) (fun j=>match j with
      |0=>{ fr:=[(6,nilA),(7,.rptr (int (q:Int)) 0),(10,nilA),(19,lX p),(20,i64 (p.length:Nat)),(21,i64 (0:Nat)),(25,rX r),(26,i64 (r.length:Nat)),(27,i64 (0:Nat))],st:=[],g:=9 }
      |m+1=>{ fr:=[(6,nilA),(7,.rptr (int (q:Int)) 0),(10,.own (5,1) (m+1)),(19,lX p),(20,i64 (p.length:Nat)),(21,i64 (0:Nat)),(25,rX r),(26,i64 (r.length:Nat)),(27,i64 (m+1:Nat))],st:=[((5,1),⟨28,3,bkr q r (m+1)⟩)],g:=9 }) (fun j=>r.length-j) 0 (Nat.zero_le _) ?_ ?_)
     ·repeat' (first | exact trivial | exact .inl ⟨.refl _,rfl⟩ | exact⟨.same rfl rfl,x_N ,Nat.le_of_ble_eq_true rfl⟩ | exact⟨_,rfl⟩ | exact .inl ⟨.of_eq (congrArg i64 (Eq.trans (wI (by omega) (by omega)) (by omega))),rfl⟩ | exact rfl | exact⟨.same rfl (lt_map (fun _=>rfl) _),x_N,x_L⟩ | exact x_N | exact Nat.le_of_ble_eq_true rfl | refine⟨?_,?_⟩ | fail)
     intro j hjl;cases j with
     |zero =>
      have hj:0<r.length:=hr0;repeat ((first | refine .goF rfl (by kernel_rfl) ?_ | refine .endF rfl (by kernel_rfl) ?_ | refine⟨by kernel_rfl,?_⟩ | rw[decide_eq_true (by omega)] | rw[decide_eq_false (by omega)] | fail); conv=>whnf)
      refine .cut (fun _:Unit=>True) (fun _=>{ ren:=[((15,3),(5,1)),((16,3),(5,1))],fr:=[(6,nilA),(7,.rptr (int (q:Int)) 0),(10,.own (5,1) (0+1)),(19,lX p),(20,i64 (p.length:Nat)),(21,i64 (0:Nat)),(25,rX r),(26,i64 (r.length:Nat)),(27,i64 (0:Nat))],st:=[((5,1),⟨28,3,bkr q r (0+1)⟩)],g:=60 }) ?_ ?_
      ·refine .block ?_;obtain⟨x,hxe⟩:∃ x,r[0]=x:=⟨_,rfl⟩
       have hxj:x∈r:=by rw[<- hxe]; exact List.getElem_mem hj
       have hb:=hx r hrp x hxj;have hI:(r.map xi)[((0:Nat):Int).toNat]?=some (xi x):=by rw[Int.toNat_natCast,List.getElem?_map,List.getElem?_eq_getElem hj,hxe]; rfl
       have hS:=bkr_succ (q:=q) hj;rw[hxe] at hS;have C8:=c_rBack x.2 (big8 hb);have C9:=c_wNat x.2 hb;obtain⟨n,d,en,ed,em⟩:=bkQ_make hb hq;have CM:=c_qMake n d;rw[qMake_ok (by rw[ed]; omega),em,ed,en] at CM;change ACalls prog _ _ (.tup [rat (bkQ q x).q,i64 0]) at CM;obtain⟨b,v⟩:=x;obtain⟨y,hy⟩:∃ y,bkQ q (b,v)=y:=⟨_,rfl⟩
       rw[hy] at CM hS;have CG:=c_wNeg ⟨(v:Int),by simpa using hb⟩;have CK:=c_wCheckZ (XI.v (b,v)) (by rw[xv_abs]; exact hb);cases b with
       |false =>
        repeat ((first | refine .goF rfl (by kernel_rfl) ?_ | refine .endF rfl (by kernel_rfl) ?_ | refine callE C8 rfl rfl ?_ | refine callE C9 rfl rfl ?_ | refine callE CM rfl rfl ?_ | refine callE CG rfl rfl ?_ | refine callE CK rfl rfl ?_ | refine⟨_,⟨by omega,hI,rfl,rfl⟩,?_⟩ | refine⟨⟨by show 0<1; decide,by show 1<=1099511627776; decide,trivial⟩,?_⟩ | refine⟨by kernel_rfl,?_⟩ | rw[decide_eq_true (by omega)] | rw[decide_eq_false (by omega)] | fail); conv=>whnf)
        refine⟨(),trivial,?_⟩;repeat' (first | exact trivial | exact .inl ⟨.refl _,rfl⟩ | exact⟨.same rfl rfl,x_N ,Nat.le_of_ble_eq_true rfl⟩ | exact⟨_,rfl⟩ | exact .inl ⟨.of_eq (congrArg i64 (Eq.trans (wI (by omega) (by omega)) (by omega))),rfl⟩ | exact rfl | exact .inr (.inr (.own (5,1) (0+1) rfl)) | exact .inr (.inr (.own (5,0) (0) rfl)) | exact⟨.same (congrArg (fun z=>some (Row.mk 28 3 z)) hS) (ok_map (fun _=>rfl) (fun _=>rfl) _),x_N,x_L⟩ | exact⟨.same rfl (ok_map (fun _=>rfl) (fun _=>rfl) _),x_N,x_L⟩ | exact x_N | exact Nat.le_of_ble_eq_true rfl | refine⟨?_,?_⟩ | fail)
       |true =>
        repeat ((first | refine .goF rfl (by kernel_rfl) ?_ | refine .endF rfl (by kernel_rfl) ?_ | refine callE C8 rfl rfl ?_ | refine callE C9 rfl rfl ?_ | refine callE CM rfl rfl ?_ | refine callE CG rfl rfl ?_ | refine callE CK rfl rfl ?_ | refine⟨_,⟨by omega,hI,rfl,rfl⟩,?_⟩ | refine⟨⟨by show 0<1; decide,by show 1<=1099511627776; decide,trivial⟩,?_⟩ | refine⟨by kernel_rfl,?_⟩ | rw[decide_eq_true (by omega)] | rw[decide_eq_false (by omega)] | fail); conv=>whnf)
        refine⟨(),trivial,?_⟩;repeat' (first | exact trivial | exact .inl ⟨.refl _,rfl⟩ | exact⟨.same rfl rfl,x_N ,Nat.le_of_ble_eq_true rfl⟩ | exact⟨_,rfl⟩ | exact .inl ⟨.of_eq (congrArg i64 (Eq.trans (wI (by omega) (by omega)) (by omega))),rfl⟩ | exact rfl | exact .inr (.inr (.own (5,1) (0+1) rfl)) | exact .inr (.inr (.own (5,0) (0) rfl)) | exact⟨.same (congrArg (fun z=>some (Row.mk 28 3 z)) hS) (ok_map (fun _=>rfl) (fun _=>rfl) _),x_N,x_L⟩ | exact⟨.same rfl (ok_map (fun _=>rfl) (fun _=>rfl) _),x_N,x_L⟩ | exact x_N | exact Nat.le_of_ble_eq_true rfl | refine⟨?_,?_⟩ | fail)
      ·rintro⟨⟩ _;repeat ((first | refine .goF rfl (by kernel_rfl) ?_ | refine .endF rfl (by kernel_rfl) ?_ | refine⟨by kernel_rfl,?_⟩ | rw[decide_eq_true (by omega)] | rw[decide_eq_false (by omega)] | fail); conv=>whnf)
       refine⟨0+1,hj,?_,by show r.length-(0+1)<r.length-(0); omega⟩;repeat' (first | exact trivial | exact .inl ⟨.refl _,rfl⟩ | exact⟨.same rfl rfl,x_N ,Nat.le_of_ble_eq_true rfl⟩ | exact⟨_,rfl⟩ | exact .inl ⟨.of_eq (congrArg i64 (Eq.trans (wI (by omega) (by omega)) (by omega))),rfl⟩ | exact rfl | exact⟨.same rfl (lt_map (fun _=>rfl) _),x_N,x_L⟩ | exact x_N | exact Nat.le_of_ble_eq_true rfl | refine⟨?_,?_⟩ | fail)
     |succ m =>
      repeat ((first | refine .goF rfl (by kernel_rfl) ?_ | refine .endF rfl (by kernel_rfl) ?_ | refine⟨by kernel_rfl,?_⟩ | rw[decide_eq_true (by omega)] | rw[decide_eq_false (by omega)] | fail); conv=>whnf)
      refine Br.mk (fun q'=>?_) (fun q'=>?_)
      ·have hj:m+1<r.length:=by
        have:=of_decide_eq_true q';omega
       clear q';conv=>whnf
       refine .cut (fun _:Unit=>True) (fun _=>{ ren:=[((15,3),(5,1)),((16,3),(5,1))],fr:=[(6,nilA),(7,.rptr (int (q:Int)) 0),(10,.own (5,1) (m+1+1)),(19,lX p),(20,i64 (p.length:Nat)),(21,i64 (0:Nat)),(25,rX r),(26,i64 (r.length:Nat)),(27,i64 (m+1:Nat))],st:=[((5,1),⟨28,3,bkr q r (m+1+1)⟩)],g:=60 }) ?_ ?_
       ·refine .block ?_;obtain⟨x,hxe⟩:∃ x,r[m+1]=x:=⟨_,rfl⟩
        have hxj:x∈r:=by rw[<- hxe]; exact List.getElem_mem hj
        have hb:=hx r hrp x hxj;have hI:(r.map xi)[((m+1:Nat):Int).toNat]?=some (xi x):=by rw[Int.toNat_natCast,List.getElem?_map,List.getElem?_eq_getElem hj,hxe]; rfl
        have hS:=bkr_succ (q:=q) hj;rw[hxe] at hS;have C8:=c_rBack x.2 (big8 hb);have C9:=c_wNat x.2 hb;obtain⟨n,d,en,ed,em⟩:=bkQ_make hb hq;have CM:=c_qMake n d;rw[qMake_ok (by rw[ed]; omega),em,ed,en] at CM;change ACalls prog _ _ (.tup [rat (bkQ q x).q,i64 0]) at CM;obtain⟨b,v⟩:=x;obtain⟨y,hy⟩:∃ y,bkQ q (b,v)=y:=⟨_,rfl⟩
        rw[hy] at CM hS;have CG:=c_wNeg ⟨(v:Int),by simpa using hb⟩;have CK:=c_wCheckZ (XI.v (b,v)) (by rw[xv_abs]; exact hb);cases b with
        |false =>
         repeat ((first | refine .goF rfl (by kernel_rfl) ?_ | refine .endF rfl (by kernel_rfl) ?_ | refine callE C8 rfl rfl ?_ | refine callE C9 rfl rfl ?_ | refine callE CM rfl rfl ?_ | refine callE CG rfl rfl ?_ | refine callE CK rfl rfl ?_ | refine⟨_,⟨by omega,hI,rfl,rfl⟩,?_⟩ | refine⟨⟨bkr_len (by omega),rfl,rfl,by show m+1+1<=1099511627776; omega,trivial⟩,?_⟩ | refine⟨by kernel_rfl,?_⟩ | rw[decide_eq_true (by omega)] | rw[decide_eq_false (by omega)] | fail); conv=>whnf)
         refine⟨(),trivial,?_⟩;repeat' (first | exact trivial | exact .inl ⟨.refl _,rfl⟩ | exact⟨.same rfl rfl,x_N ,Nat.le_of_ble_eq_true rfl⟩ | exact⟨_,rfl⟩ | exact .inl ⟨.of_eq (congrArg i64 (Eq.trans (wI (by omega) (by omega)) (by omega))),rfl⟩ | exact rfl | exact .inr (.inr (.own (5,1) (m+1+1) rfl)) | exact .inr (.inr (.own (5,0) (0) rfl)) | exact⟨.same (congrArg (fun z=>some (Row.mk 28 3 z)) hS) (ok_map (fun _=>rfl) (fun _=>rfl) _),x_N,x_L⟩ | exact⟨.same rfl (ok_map (fun _=>rfl) (fun _=>rfl) _),x_N,x_L⟩ | exact x_N | exact Nat.le_of_ble_eq_true rfl | refine⟨?_,?_⟩ | fail)
        |true =>
         repeat ((first | refine .goF rfl (by kernel_rfl) ?_ | refine .endF rfl (by kernel_rfl) ?_ | refine callE C8 rfl rfl ?_ | refine callE C9 rfl rfl ?_ | refine callE CM rfl rfl ?_ | refine callE CG rfl rfl ?_ | refine callE CK rfl rfl ?_ | refine⟨_,⟨by omega,hI,rfl,rfl⟩,?_⟩ | refine⟨⟨bkr_len (by omega),rfl,rfl,by show m+1+1<=1099511627776; omega,trivial⟩,?_⟩ | refine⟨by kernel_rfl,?_⟩ | rw[decide_eq_true (by omega)] | rw[decide_eq_false (by omega)] | fail); conv=>whnf)
         refine⟨(),trivial,?_⟩;repeat' (first | exact trivial | exact .inl ⟨.refl _,rfl⟩ | exact⟨.same rfl rfl,x_N ,Nat.le_of_ble_eq_true rfl⟩ | exact⟨_,rfl⟩ | exact .inl ⟨.of_eq (congrArg i64 (Eq.trans (wI (by omega) (by omega)) (by omega))),rfl⟩ | exact rfl | exact .inr (.inr (.own (5,1) (m+1+1) rfl)) | exact .inr (.inr (.own (5,0) (0) rfl)) | exact⟨.same (congrArg (fun z=>some (Row.mk 28 3 z)) hS) (ok_map (fun _=>rfl) (fun _=>rfl) _),x_N,x_L⟩ | exact⟨.same rfl (ok_map (fun _=>rfl) (fun _=>rfl) _),x_N,x_L⟩ | exact x_N | exact Nat.le_of_ble_eq_true rfl | refine⟨?_,?_⟩ | fail)
       ·rintro⟨⟩ _;repeat ((first | refine .goF rfl (by kernel_rfl) ?_ | refine .endF rfl (by kernel_rfl) ?_ | refine⟨by kernel_rfl,?_⟩ | rw[decide_eq_true (by omega)] | rw[decide_eq_false (by omega)] | fail); conv=>whnf)
        refine⟨m+1+1,hj,?_,by show r.length-(m+1+1)<r.length-(m+1); omega⟩;repeat' (first | exact trivial | exact .inl ⟨.refl _,rfl⟩ | exact⟨.same rfl rfl,x_N ,Nat.le_of_ble_eq_true rfl⟩ | exact⟨_,rfl⟩ | exact .inl ⟨.of_eq (congrArg i64 (Eq.trans (wI (by omega) (by omega)) (by omega))),rfl⟩ | exact rfl | exact⟨.same rfl (lt_map (fun _=>rfl) _),x_N,x_L⟩ | exact x_N | exact Nat.le_of_ble_eq_true rfl | refine⟨?_,?_⟩ | fail)
      ·have hj:m+1=r.length:=by
        have:=of_decide_eq_false q';omega
       conv=>whnf
       refine⟨(),trivial,?_⟩;rw[<- hj];repeat' (first | exact trivial | exact .inl ⟨.refl _,rfl⟩ | exact⟨.same rfl rfl,x_N ,Nat.le_of_ble_eq_true rfl⟩ | exact⟨_,rfl⟩ | exact .inl ⟨.of_eq (congrArg i64 (Eq.trans (wI (by omega) (by omega)) (by omega))),rfl⟩ | exact rfl | exact⟨.same rfl (lt_map (fun _=>rfl) _),x_N,x_L⟩ | exact x_N | exact Nat.le_of_ble_eq_true rfl | refine⟨?_,?_⟩ | fail)
    ·rintro⟨⟩ _;refine .weaken (i:={ F:=[(5,1)],fr:=[(6,nilA),(7,.rptr (int (q:Int)) 0),(10,lQ (bkR q r)),(19,lX p),(20,i64 (p.length:Nat)),(21,i64 (0:Nat))],st:=[],g:=20 }) ?_ ?_
     ·repeat' (first | exact trivial | exact .inl ⟨.refl _,rfl⟩ | exact⟨.same rfl rfl,x_N ,Nat.le_of_ble_eq_true rfl⟩ | exact⟨_,rfl⟩ | exact .inl ⟨.of_eq (congrArg i64 (Eq.trans (wI (by omega) (by omega)) (by omega))),rfl⟩ | exact rfl | exact .inr (.inl (.own2 (.head _) rfl (bkr_len (Nat.le_refl _)) (bkr_cl _ _ _) (AV.sl.inj bkr_all))) | exact⟨.same rfl (lt_map (fun _=>rfl) _),by show ((5,0):Rid)∉[((5,1):Rid)]; decide,x_L⟩ | exact x_N | exact Nat.le_of_ble_eq_true rfl | refine⟨?_,?_⟩ | fail)
     repeat ((first | refine .goF rfl (by kernel_rfl) ?_ | refine .endF rfl (by kernel_rfl) ?_ | refine⟨⟨by show 0<1; decide,by show 1<=1099511627776; decide,trivial⟩,?_⟩ | refine⟨by kernel_rfl,?_⟩ | rw[decide_eq_true (by omega)] | rw[decide_eq_false (by omega)] | fail); conv=>whnf)
     refine⟨(),trivial,?_⟩;repeat' (first | exact trivial | exact .inl ⟨.refl _,rfl⟩ | exact⟨.same rfl rfl,x_N ,Nat.le_of_ble_eq_true rfl⟩ | exact⟨_,rfl⟩ | exact .inl ⟨.of_eq (congrArg i64 (Eq.trans (wI (by omega) (by omega)) (by omega))),rfl⟩ | exact rfl | exact .inr (.inr (.own (5,0) (0+1) rfl)) | exact⟨.same (congrArg (fun z=>some (Row.mk 22 1 z)) hS') (ok_map (fun _=>rfl) (fun _=>rfl) _),x_N,x_L⟩ | exact x_N | exact Nat.le_of_ble_eq_true rfl | refine⟨?_,?_⟩ | fail)
   ·rintro⟨⟩ _;repeat ((first | refine .goF rfl (by kernel_rfl) ?_ | refine .endF rfl (by kernel_rfl) ?_ | refine⟨by kernel_rfl,?_⟩ | rw[decide_eq_true (by omega)] | rw[decide_eq_false (by omega)] | fail); conv=>whnf)
    refine⟨0+1,hi',?_,by show p.length-(0+1)<p.length-0; omega⟩;repeat' (first | exact trivial | exact .inl ⟨.refl _,rfl⟩ | exact⟨.same rfl rfl,x_N ,Nat.le_of_ble_eq_true rfl⟩ | exact⟨_,rfl⟩ | exact .inl ⟨.of_eq (congrArg i64 (Eq.trans (wI (by omega) (by omega)) (by omega))),rfl⟩ | exact rfl | exact⟨.same rfl (lt_map (fun _=>rfl) _),x_N,x_L⟩ | exact x_N | exact Nat.le_of_ble_eq_true rfl | refine⟨?_,?_⟩ | fail)
  |succ k =>
   repeat ((first | refine .goF rfl (by kernel_rfl) ?_ | refine .endF rfl (by kernel_rfl) ?_ | refine⟨by kernel_rfl,?_⟩ | rw[decide_eq_true (by omega)] | rw[decide_eq_false (by omega)] | fail); conv=>whnf)
   refine Br.mk (fun q'=>?_) (fun q'=>?_)
   ·have hi':k+1<p.length:=by
     have:=of_decide_eq_true q';omega
    clear q';obtain⟨r,hre⟩:∃ r,p[k+1]=r:=⟨_,rfl⟩
    conv=>whnf
    refine .cut (fun _:Unit=>True) (fun _=>{ ren:=[((20,3),(5,0))],fr:=[(6,.own (5,0) (k+1+1)),(7,.rptr (int (q:Int)) 0),(19,lX p),(20,i64 (p.length:Nat)),(21,i64 (k+1:Nat))],st:=[((5,0),⟨22,1,bks q p (k+1+1)⟩)],g:=60 }) ?_ ?_
    ·refine .block ?_;have hrp:r∈p:=by rw[<- hre]; exact List.getElem_mem hi'
     obtain⟨hr0,hr1⟩:=hr r hrp;have hI':(p.map rX)[((k+1:Nat):Int).toNat]?=some (rX r):=by rw[Int.toNat_natCast,List.getElem?_map,List.getElem?_eq_getElem hi',hre]; rfl
     have lr:(((r.map xi).length:Nat):Int)=(r.length:Int):=by simp
     have hS':=bks_succ (q:=q) hi';rw[hre] at hS';repeat ((first | refine .goF rfl (by kernel_rfl) ?_ | refine .endF rfl (by kernel_rfl) ?_ | refine⟨_,⟨by omega,hI',rfl,rfl⟩,?_⟩ | refine⟨by kernel_rfl,?_⟩ | rw[decide_eq_true (by omega)] | rw[decide_eq_false (by omega)] | fail); conv=>whnf)
     refine .cut (fun _:Unit=>True) (fun _=>{ fr:=[(6,.own (5,0) (k+1)),(7,.rptr (int (q:Int)) 0),(10,.own (5,1) r.length),(19,lX p),(20,i64 (p.length:Nat)),(21,i64 (k+1:Nat))],st:=[((5,1),⟨28,3,bkr q r r.length⟩),((5,0),⟨22,1,bks q p (k+1)⟩)],g:=60 }) ?_ ?_
     ·repeat ((first | refine .goF rfl (by kernel_rfl) ?_ | refine .endF rfl (by kernel_rfl) ?_ | refine⟨by kernel_rfl,?_⟩ | rw[decide_eq_true (by omega)] | rw[decide_eq_false (by omega)] | fail); conv=>whnf)
      rw[lr];refine .block (.loop (fun j:Nat=>j<=r.length) (fun j=>match j with
       |0=>{ fr:=[(6,.own (5,0) (k+1)),(7,.rptr (int (q:Int)) 0),(10,nilA),(19,lX p),(20,i64 (p.length:Nat)),(21,i64 (k+1:Nat)),(25,rX r),(26,i64 (r.length:Nat)),(27,i64 (0:Nat))],st:=[((5,0),⟨22,1,bks q p (k+1)⟩)],g:=9 }
       |m+1=>{ fr:=[(6,.own (5,0) (k+1)),(7,.rptr (int (q:Int)) 0),(10,.own (5,1) (m+1)),(19,lX p),(20,i64 (p.length:Nat)),(21,i64 (k+1:Nat)),(25,rX r),(26,i64 (r.length:Nat)),(27,i64 (m+1:Nat))],st:=[((5,1),⟨28,3,bkr q r (m+1)⟩),((5,0),⟨22,1,bks q p (k+1)⟩)],g:=9 }) (fun j=>r.length-j) 0 (Nat.zero_le _) ?_ ?_)
      ·repeat' (first | exact trivial | exact .inl ⟨.refl _,rfl⟩ | exact⟨.same rfl rfl,x_N ,Nat.le_of_ble_eq_true rfl⟩ | exact⟨_,rfl⟩ | exact .inl ⟨.of_eq (congrArg i64 (Eq.trans (wI (by omega) (by omega)) (by omega))),rfl⟩ | exact rfl | exact⟨.same rfl (lt_map (fun _=>rfl) _),x_N,x_L⟩ | exact x_N | exact Nat.le_of_ble_eq_true rfl | refine⟨?_,?_⟩ | fail)
      intro j hjl;cases j with
      |zero =>
       have hj:0<r.length:=hr0;repeat ((first | refine .goF rfl (by kernel_rfl) ?_ | refine .endF rfl (by kernel_rfl) ?_ | refine⟨by kernel_rfl,?_⟩ | rw[decide_eq_true (by omega)] | rw[decide_eq_false (by omega)] | fail); conv=>whnf)
       refine .cut (fun _:Unit=>True) (fun _=>{ ren:=[((15,3),(5,1)),((16,3),(5,1))],fr:=[(6,.own (5,0) (k+1)),(7,.rptr (int (q:Int)) 0),(10,.own (5,1) (0+1)),(19,lX p),(20,i64 (p.length:Nat)),(21,i64 (k+1:Nat)),(25,rX r),(26,i64 (r.length:Nat)),(27,i64 (0:Nat))],st:=[((5,1),⟨28,3,bkr q r (0+1)⟩),((5,0),⟨22,1,bks q p (k+1)⟩)],g:=60 }) ?_ ?_
       ·refine .block ?_;obtain⟨x,hxe⟩:∃ x,r[0]=x:=⟨_,rfl⟩
        have hxj:x∈r:=by rw[<- hxe]; exact List.getElem_mem hj
        have hb:=hx r hrp x hxj;have hI:(r.map xi)[((0:Nat):Int).toNat]?=some (xi x):=by rw[Int.toNat_natCast,List.getElem?_map,List.getElem?_eq_getElem hj,hxe]; rfl
        have hS:=bkr_succ (q:=q) hj;rw[hxe] at hS;have C8:=c_rBack x.2 (big8 hb);have C9:=c_wNat x.2 hb;obtain⟨n,d,en,ed,em⟩:=bkQ_make hb hq;have CM:=c_qMake n d;rw[qMake_ok (by rw[ed]; omega),em,ed,en] at CM;change ACalls prog _ _ (.tup [rat (bkQ q x).q,i64 0]) at CM;obtain⟨b,v⟩:=x;obtain⟨y,hy⟩:∃ y,bkQ q (b,v)=y:=⟨_,rfl⟩
        rw[hy] at CM hS;have CG:=c_wNeg ⟨(v:Int),by simpa using hb⟩;have CK:=c_wCheckZ (XI.v (b,v)) (by rw[xv_abs]; exact hb);cases b with
        |false =>
         repeat ((first | refine .goF rfl (by kernel_rfl) ?_ | refine .endF rfl (by kernel_rfl) ?_ | refine callE C8 rfl rfl ?_ | refine callE C9 rfl rfl ?_ | refine callE CM rfl rfl ?_ | refine callE CG rfl rfl ?_ | refine callE CK rfl rfl ?_ | refine⟨_,⟨by omega,hI,rfl,rfl⟩,?_⟩ | refine⟨⟨by show 0<1; decide,by show 1<=1099511627776; decide,trivial⟩,?_⟩ | refine⟨by kernel_rfl,?_⟩ | rw[decide_eq_true (by omega)] | rw[decide_eq_false (by omega)] | fail); conv=>whnf)
         refine⟨(),trivial,?_⟩;repeat' (first | exact trivial | exact .inl ⟨.refl _,rfl⟩ | exact⟨.same rfl rfl,x_N ,Nat.le_of_ble_eq_true rfl⟩ | exact⟨_,rfl⟩ | exact .inl ⟨.of_eq (congrArg i64 (Eq.trans (wI (by omega) (by omega)) (by omega))),rfl⟩ | exact rfl | exact .inr (.inr (.own (5,1) (0+1) rfl)) | exact .inr (.inr (.own (5,0) (k+1) rfl)) | exact⟨.same (congrArg (fun z=>some (Row.mk 28 3 z)) hS) (ok_map (fun _=>rfl) (fun _=>rfl) _),x_N,x_L⟩ | exact⟨.same rfl (ok_map (fun _=>rfl) (fun _=>rfl) _),x_N,x_L⟩ | exact x_N | exact Nat.le_of_ble_eq_true rfl | refine⟨?_,?_⟩ | fail)
        |true =>
         repeat ((first | refine .goF rfl (by kernel_rfl) ?_ | refine .endF rfl (by kernel_rfl) ?_ | refine callE C8 rfl rfl ?_ | refine callE C9 rfl rfl ?_ | refine callE CM rfl rfl ?_ | refine callE CG rfl rfl ?_ | refine callE CK rfl rfl ?_ | refine⟨_,⟨by omega,hI,rfl,rfl⟩,?_⟩ | refine⟨⟨by show 0<1; decide,by show 1<=1099511627776; decide,trivial⟩,?_⟩ | refine⟨by kernel_rfl,?_⟩ | rw[decide_eq_true (by omega)] | rw[decide_eq_false (by omega)] | fail); conv=>whnf)
         refine⟨(),trivial,?_⟩;repeat' (first | exact trivial | exact .inl ⟨.refl _,rfl⟩ | exact⟨.same rfl rfl,x_N ,Nat.le_of_ble_eq_true rfl⟩ | exact⟨_,rfl⟩ | exact .inl ⟨.of_eq (congrArg i64 (Eq.trans (wI (by omega) (by omega)) (by omega))),rfl⟩ | exact rfl | exact .inr (.inr (.own (5,1) (0+1) rfl)) | exact .inr (.inr (.own (5,0) (k+1) rfl)) | exact⟨.same (congrArg (fun z=>some (Row.mk 28 3 z)) hS) (ok_map (fun _=>rfl) (fun _=>rfl) _),x_N,x_L⟩ | exact⟨.same rfl (ok_map (fun _=>rfl) (fun _=>rfl) _),x_N,x_L⟩ | exact x_N | exact Nat.le_of_ble_eq_true rfl | refine⟨?_,?_⟩ | fail)
       ·rintro⟨⟩ _;repeat ((first | refine .goF rfl (by kernel_rfl) ?_ | refine .endF rfl (by kernel_rfl) ?_ | refine⟨by kernel_rfl,?_⟩ | rw[decide_eq_true (by omega)] | rw[decide_eq_false (by omega)] | fail); conv=>whnf)
        refine⟨0+1,hj,?_,by show r.length-(0+1)<r.length-(0); omega⟩;repeat' (first | exact trivial | exact .inl ⟨.refl _,rfl⟩ | exact⟨.same rfl rfl,x_N ,Nat.le_of_ble_eq_true rfl⟩ | exact⟨_,rfl⟩ | exact .inl ⟨.of_eq (congrArg i64 (Eq.trans (wI (by omega) (by omega)) (by omega))),rfl⟩ | exact rfl | exact⟨.same rfl (lt_map (fun _=>rfl) _),x_N,x_L⟩ | exact x_N | exact Nat.le_of_ble_eq_true rfl | refine⟨?_,?_⟩ | fail)
      |succ m =>
       repeat ((first | refine .goF rfl (by kernel_rfl) ?_ | refine .endF rfl (by kernel_rfl) ?_ | refine⟨by kernel_rfl,?_⟩ | rw[decide_eq_true (by omega)] | rw[decide_eq_false (by omega)] | fail); conv=>whnf)
       refine Br.mk (fun q'=>?_) (fun q'=>?_)
       ·have hj:m+1<r.length:=by
         have:=of_decide_eq_true q';omega
        clear q';conv=>whnf
        refine .cut (fun _:Unit=>True) (fun _=>{ ren:=[((15,3),(5,1)),((16,3),(5,1))],fr:=[(6,.own (5,0) (k+1)),(7,.rptr (int (q:Int)) 0),(10,.own (5,1) (m+1+1)),(19,lX p),(20,i64 (p.length:Nat)),(21,i64 (k+1:Nat)),(25,rX r),(26,i64 (r.length:Nat)),(27,i64 (m+1:Nat))],st:=[((5,1),⟨28,3,bkr q r (m+1+1)⟩),((5,0),⟨22,1,bks q p (k+1)⟩)],g:=60 }) ?_ ?_
        ·refine .block ?_;obtain⟨x,hxe⟩:∃ x,r[m+1]=x:=⟨_,rfl⟩
         have hxj:x∈r:=by rw[<- hxe]; exact List.getElem_mem hj
         have hb:=hx r hrp x hxj;have hI:(r.map xi)[((m+1:Nat):Int).toNat]?=some (xi x):=by rw[Int.toNat_natCast,List.getElem?_map,List.getElem?_eq_getElem hj,hxe]; rfl
         have hS:=bkr_succ (q:=q) hj;rw[hxe] at hS;have C8:=c_rBack x.2 (big8 hb);have C9:=c_wNat x.2 hb;obtain⟨n,d,en,ed,em⟩:=bkQ_make hb hq;have CM:=c_qMake n d;rw[qMake_ok (by rw[ed]; omega),em,ed,en] at CM;change ACalls prog _ _ (.tup [rat (bkQ q x).q,i64 0]) at CM;obtain⟨b,v⟩:=x;obtain⟨y,hy⟩:∃ y,bkQ q (b,v)=y:=⟨_,rfl⟩
         rw[hy] at CM hS;have CG:=c_wNeg ⟨(v:Int),by simpa using hb⟩;have CK:=c_wCheckZ (XI.v (b,v)) (by rw[xv_abs]; exact hb);cases b with
         |false =>
          repeat ((first | refine .goF rfl (by kernel_rfl) ?_ | refine .endF rfl (by kernel_rfl) ?_ | refine callE C8 rfl rfl ?_ | refine callE C9 rfl rfl ?_ | refine callE CM rfl rfl ?_ | refine callE CG rfl rfl ?_ | refine callE CK rfl rfl ?_ | refine⟨_,⟨by omega,hI,rfl,rfl⟩,?_⟩ | refine⟨⟨bkr_len (by omega),rfl,rfl,by show m+1+1<=1099511627776; omega,trivial⟩,?_⟩ | refine⟨by kernel_rfl,?_⟩ | rw[decide_eq_true (by omega)] | rw[decide_eq_false (by omega)] | fail); conv=>whnf)
          refine⟨(),trivial,?_⟩;repeat' (first | exact trivial | exact .inl ⟨.refl _,rfl⟩ | exact⟨.same rfl rfl,x_N ,Nat.le_of_ble_eq_true rfl⟩ | exact⟨_,rfl⟩ | exact .inl ⟨.of_eq (congrArg i64 (Eq.trans (wI (by omega) (by omega)) (by omega))),rfl⟩ | exact rfl | exact .inr (.inr (.own (5,1) (m+1+1) rfl)) | exact .inr (.inr (.own (5,0) (k+1) rfl)) | exact⟨.same (congrArg (fun z=>some (Row.mk 28 3 z)) hS) (ok_map (fun _=>rfl) (fun _=>rfl) _),x_N,x_L⟩ | exact⟨.same rfl (ok_map (fun _=>rfl) (fun _=>rfl) _),x_N,x_L⟩ | exact x_N | exact Nat.le_of_ble_eq_true rfl | refine⟨?_,?_⟩ | fail)
         |true =>
          repeat ((first | refine .goF rfl (by kernel_rfl) ?_ | refine .endF rfl (by kernel_rfl) ?_ | refine callE C8 rfl rfl ?_ | refine callE C9 rfl rfl ?_ | refine callE CM rfl rfl ?_ | refine callE CG rfl rfl ?_ | refine callE CK rfl rfl ?_ | refine⟨_,⟨by omega,hI,rfl,rfl⟩,?_⟩ | refine⟨⟨bkr_len (by omega),rfl,rfl,by show m+1+1<=1099511627776; omega,trivial⟩,?_⟩ | refine⟨by kernel_rfl,?_⟩ | rw[decide_eq_true (by omega)] | rw[decide_eq_false (by omega)] | fail); conv=>whnf)
          refine⟨(),trivial,?_⟩;repeat' (first | exact trivial | exact .inl ⟨.refl _,rfl⟩ | exact⟨.same rfl rfl,x_N ,Nat.le_of_ble_eq_true rfl⟩ | exact⟨_,rfl⟩ | exact .inl ⟨.of_eq (congrArg i64 (Eq.trans (wI (by omega) (by omega)) (by omega))),rfl⟩ | exact rfl | exact .inr (.inr (.own (5,1) (m+1+1) rfl)) | exact .inr (.inr (.own (5,0) (k+1) rfl)) | exact⟨.same (congrArg (fun z=>some (Row.mk 28 3 z)) hS) (ok_map (fun _=>rfl) (fun _=>rfl) _),x_N,x_L⟩ | exact⟨.same rfl (ok_map (fun _=>rfl) (fun _=>rfl) _),x_N,x_L⟩ | exact x_N | exact Nat.le_of_ble_eq_true rfl | refine⟨?_,?_⟩ | fail)
        ·rintro⟨⟩ _;repeat ((first | refine .goF rfl (by kernel_rfl) ?_ | refine .endF rfl (by kernel_rfl) ?_ | refine⟨by kernel_rfl,?_⟩ | rw[decide_eq_true (by omega)] | rw[decide_eq_false (by omega)] | fail); conv=>whnf)
         refine⟨m+1+1,hj,?_,by show r.length-(m+1+1)<r.length-(m+1); omega⟩;repeat' (first | exact trivial | exact .inl ⟨.refl _,rfl⟩ | exact⟨.same rfl rfl,x_N ,Nat.le_of_ble_eq_true rfl⟩ | exact⟨_,rfl⟩ | exact .inl ⟨.of_eq (congrArg i64 (Eq.trans (wI (by omega) (by omega)) (by omega))),rfl⟩ | exact rfl | exact⟨.same rfl (lt_map (fun _=>rfl) _),x_N,x_L⟩ | exact x_N | exact Nat.le_of_ble_eq_true rfl | refine⟨?_,?_⟩ | fail)
       ·have hj:m+1=r.length:=by
         have:=of_decide_eq_false q';omega
        conv=>whnf
        refine⟨(),trivial,?_⟩;rw[<- hj];repeat' (first | exact trivial | exact .inl ⟨.refl _,rfl⟩ | exact⟨.same rfl rfl,x_N ,Nat.le_of_ble_eq_true rfl⟩ | exact⟨_,rfl⟩ | exact .inl ⟨.of_eq (congrArg i64 (Eq.trans (wI (by omega) (by omega)) (by omega))),rfl⟩ | exact rfl | exact⟨.same rfl (lt_map (fun _=>rfl) _),x_N,x_L⟩ | exact x_N | exact Nat.le_of_ble_eq_true rfl | refine⟨?_,?_⟩ | fail)
     ·rintro⟨⟩ _;refine .weaken (i:={ F:=[(5,1)],fr:=[(6,.own (5,0) (k+1)),(7,.rptr (int (q:Int)) 0),(10,lQ (bkR q r)),(19,lX p),(20,i64 (p.length:Nat)),(21,i64 (k+1:Nat))],st:=[((5,0),⟨22,1,bks q p (k+1)⟩)],g:=20 }) ?_ ?_
      ·repeat' (first | exact trivial | exact .inl ⟨.refl _,rfl⟩ | exact⟨.same rfl rfl,x_N ,Nat.le_of_ble_eq_true rfl⟩ | exact⟨_,rfl⟩ | exact .inl ⟨.of_eq (congrArg i64 (Eq.trans (wI (by omega) (by omega)) (by omega))),rfl⟩ | exact rfl | exact .inr (.inl (.own2 (.head _) rfl (bkr_len (Nat.le_refl _)) (bkr_cl _ _ _) (AV.sl.inj bkr_all))) | exact⟨.same rfl (lt_map (fun _=>rfl) _),by show ((5,0):Rid)∉[((5,1):Rid)]; decide,x_L⟩ | exact x_N | exact Nat.le_of_ble_eq_true rfl | refine⟨?_,?_⟩ | fail)
      repeat ((first | refine .goF rfl (by kernel_rfl) ?_ | refine .endF rfl (by kernel_rfl) ?_ | refine⟨⟨bks_len (by omega),rfl,rfl,by show k+1+1<=1099511627776; omega,trivial⟩,?_⟩ | refine⟨by kernel_rfl,?_⟩ | rw[decide_eq_true (by omega)] | rw[decide_eq_false (by omega)] | fail); conv=>whnf)
      refine⟨(),trivial,?_⟩;repeat' (first | exact trivial | exact .inl ⟨.refl _,rfl⟩ | exact⟨.same rfl rfl,x_N ,Nat.le_of_ble_eq_true rfl⟩ | exact⟨_,rfl⟩ | exact .inl ⟨.of_eq (congrArg i64 (Eq.trans (wI (by omega) (by omega)) (by omega))),rfl⟩ | exact rfl | exact .inr (.inr (.own (5,0) (k+1+1) rfl)) | exact⟨.same (congrArg (fun z=>some (Row.mk 22 1 z)) hS') (ok_map (fun _=>rfl) (fun _=>rfl) _),x_N,x_L⟩ | exact x_N | exact Nat.le_of_ble_eq_true rfl | refine⟨?_,?_⟩ | fail)
    ·rintro⟨⟩ _;repeat ((first | refine .goF rfl (by kernel_rfl) ?_ | refine .endF rfl (by kernel_rfl) ?_ | refine⟨by kernel_rfl,?_⟩ | rw[decide_eq_true (by omega)] | rw[decide_eq_false (by omega)] | fail); conv=>whnf)
     refine⟨k+1+1,hi',?_,by show p.length-(k+1+1)<p.length-(k+1); omega⟩;repeat' (first | exact trivial | exact .inl ⟨.refl _,rfl⟩ | exact⟨.same rfl rfl,x_N ,Nat.le_of_ble_eq_true rfl⟩ | exact⟨_,rfl⟩ | exact .inl ⟨.of_eq (congrArg i64 (Eq.trans (wI (by omega) (by omega)) (by omega))),rfl⟩ | exact rfl | exact⟨.same rfl (lt_map (fun _=>rfl) _),x_N,x_L⟩ | exact x_N | exact Nat.le_of_ble_eq_true rfl | refine⟨?_,?_⟩ | fail)
   ·have hk:k+1=p.length:=by
     have:=of_decide_eq_false q';omega
    conv=>whnf
    refine⟨(),trivial,?_⟩;rw[<- hk];repeat' (first | exact trivial | exact .inl ⟨.refl _,rfl⟩ | exact⟨.same rfl rfl,x_N ,Nat.le_of_ble_eq_true rfl⟩ | exact⟨_,rfl⟩ | exact .inl ⟨.of_eq (congrArg i64 (Eq.trans (wI (by omega) (by omega)) (by omega))),rfl⟩ | exact rfl | exact⟨.same rfl (lt_map (fun _=>rfl) _),x_N,x_L⟩ | exact x_N | exact Nat.le_of_ble_eq_true rfl | refine⟨?_,?_⟩ | fail)
 ·rintro⟨⟩ _;repeat ((first | refine .goF rfl (by kernel_rfl) ?_ | refine .endF rfl (by kernel_rfl) ?_ | refine⟨by kernel_rfl,?_⟩ | rw[decide_eq_true (by omega)] | rw[decide_eq_false (by omega)] | fail); conv=>whnf)
  refine⟨.own2 trivial rfl (bks_len (Nat.le_refl _)) (bks_cl _ _ _) ?_,fin rfl rfl,trivial⟩;exact AV.sl.inj bks_all
end
set_option exponentiation.threshold 20000
section
open Go Go.RowKit Go.Proofs.Tryz
attribute [local irreducible] qMk qMake mMake mTwice mTimes mHolds mScale mPlus mNear mOne mNorm qMul qAdd qSub dCmpQ gT qCmp
theorem lQ_get {k:Nat} {a:List (List FQ)} (ha:Sqr k a) {i:Nat} (hi:i<k):(a.map lQ)[((i:Nat):Int).toNat]?=some (lQ (a.getD i [])):=by
 rw[Int.toNat_natCast,List.getElem?_map,get_ne (d:=[]) (by rw[ha.1]; exact hi)];rfl
theorem lQ_get2 {k:Nat} {a:List (List FQ)} (ha:Sqr k a) {i j:Nat} (hi:i<k) (hj:j<k):((a.getD i []).map ratv)[((j:Nat):Int).toNat]?=some (rat ((a.getD i []).getD j q0).q):=by
 rw[Int.toNat_natCast,List.getElem?_map,get_ne (d:=q0) (by rw[(ha.row hi).2]; exact hj)];rfl
theorem c_meets {k:Nat} (hk:k<1000000) (a:List (List FS)) (x:List (List FQ)) (b:FQ) (ha:SqG k a) (hx:Sqr k x) (h:∀ i j,i<k->j<k->∃ low high l h,MtS (sp a i j) ((x.getD i []).getD j q0) b low high l h) :
  ACalls prog 28 [lU a,lT x,rat b.q] (boo true):=by
 have hla:(((a.map lS).length:Nat):Int)=(k:Int):=by rw[List.length_map,ha.1]
 have hlx:(((x.map lQ).length:Nat):Int)=(k:Int):=by rw[List.length_map,hx.1]
 refine conP func28 rfl (by kernel_rfl) ?_;refine .gk ?_;conv=>whnf
 refine .gk ?_;conv=>whnf
 rw[hla,hlx,show ((k:Int) !=(k:Int))=false by simp];conv=>whnf
 refine .cut (fun _:Unit=>True) (fun _=>{ fr:=[],g:=9 }) ?_ ?_
 ·repeat ((first | refine .goF rfl (by kernel_rfl) ?_ | refine .endF rfl (by kernel_rfl) ?_ | refine⟨by kernel_rfl,?_⟩ | rw[decide_eq_true (by omega)] | rw[decide_eq_false (by omega)] | fail); conv=>whnf)
  rw[hla];refine .block (.loop (fun i:Nat=>i<=k) (fun i=>{ fr:=[(0,lU a),(1,lT x),(5,.ptr (0,0) 0 0),(23,i64 (k:Nat)),(24,i64 (i:Nat))],st:=[((0,0),⟨28,3,[rat b.q]⟩)],g:=9 }) (fun i=>k-i) 0 (Nat.zero_le _) ?_ ?_)
  ·repeat' (first | exact trivial | exact .inl ⟨.refl _,rfl⟩ | exact⟨.same rfl rfl,x_N ,Nat.le_of_ble_eq_true rfl⟩ | exact⟨_,rfl⟩ | exact .inl ⟨.of_eq (congrArg i64 (Eq.trans (wI (by omega) (by omega)) (by omega))),rfl⟩ | exact rfl | exact x_N | exact Nat.le_of_ble_eq_true rfl | refine⟨?_,?_⟩ | fail)
  intro i hi;dsimp only;refine .gk ?_;conv=>whnf
  refine .gk ?_;conv=>whnf
  refine Br.mk (fun q=>?_) (fun q=>?_)
  ·have hlt:i<k:=by
    have:=of_decide_eq_true q;omega
   clear q;have hlr:((((a.getD i []).map spa).length:Nat):Int)=(k:Int):=by rw[List.length_map,ha.row hlt]
   have hlq:((((x.getD i []).map ratv).length:Nat):Int)=(k:Int):=by rw[List.length_map,(hx.row hlt).2]
   have I1:=sp_get ha hlt;have I2:=lQ_get hx hlt;conv=>whnf
   refine .cut (fun _:Unit=>True) (fun _=>{ fr:=[(0,lU a),(1,lT x),(5,.ptr (0,0) 0 0),(23,i64 (k:Nat)),(24,i64 (i:Nat))],st:=[((0,0),⟨28,3,[rat b.q]⟩)],g:=40 }) ?_ ?_
   ·refine .block ?_;refine .gk ?_;conv=>whnf
    refine .gk ?_;conv=>whnf
    refine⟨by kernel_rfl,?_⟩;conv=>whnf
    refine⟨_,⟨Int.natCast_nonneg _,I1,rfl,rfl⟩,?_⟩;conv=>whnf
    refine⟨_,⟨Int.natCast_nonneg _,I2,rfl,rfl⟩,?_⟩;conv=>whnf
    rw[hlr,hlq,show ((k:Int) !=(k:Int))=false by simp];conv=>whnf
    refine .gk ?_;conv=>whnf
    refine⟨_,⟨Int.natCast_nonneg _,I1,rfl,rfl⟩,?_⟩;conv=>whnf
    rw[hlr];refine .block (.loop (fun j:Nat=>j<=k) (fun j=>{ fr:=[(0,lU a),(1,lT x),(5,.ptr (0,0) 0 0),(7,i64 (i:Nat)),(23,i64 (k:Nat)),(24,i64 (i:Nat)),(42,i64 (k:Nat)),(43,i64 (j:Nat))],st:=[((0,0),⟨28,3,[rat b.q]⟩)],g:=20 }) (fun j=>k-j) 0 (Nat.zero_le _) ?_ ?_)
    ·repeat' (first | exact trivial | exact .inl ⟨.refl _,rfl⟩ | exact⟨.same rfl rfl,x_N ,Nat.le_of_ble_eq_true rfl⟩ | exact⟨_,rfl⟩ | exact .inl ⟨.of_eq (congrArg i64 (Eq.trans (wI (by omega) (by omega)) (by omega))),rfl⟩ | exact rfl | exact x_N | exact Nat.le_of_ble_eq_true rfl | refine⟨?_,?_⟩ | fail)
    intro j hj;dsimp only;refine .gk ?_;conv=>whnf
    refine .gk ?_;conv=>whnf
    refine Br.mk (fun q=>?_) (fun q=>?_)
    ·have hlj:j<k:=by
      have:=of_decide_eq_true q;omega
     clear q;obtain⟨low,high,l,u,m1,m2,m3,m4,m5,m6⟩:=h i j hlt hlj;have I3:=sp_get2 ha hlt hlj;have I4:=lQ_get2 hx hlt hlj;obtain⟨s,hs⟩:∃ s,sp a i j=s:=⟨_,rfl⟩
     obtain⟨y,hy⟩:∃ y,(x.getD i []).getD j q0=y:=⟨_,rfl⟩
     rw[hs] at I3 m3 m5;rw[hy] at I4 m1 m2;have C1:=c_qSub y b;have C2:=c_qAdd y b;have C3:=c_dCmpQ s.lo high;have C4:=c_dCmpQ s.hi low;rw[m1] at C1;rw[m2] at C2;rw[m3] at C3;rw[m5] at C4;change ACalls prog _ _ (.tup [i64 l,i64 0]) at C3;change ACalls prog _ _ (.tup [i64 u,i64 0]) at C4;conv=>whnf
     refine .cut (fun _:Unit=>True) (fun _=>{ fr:=[(0,lU a),(1,lT x),(5,.ptr (0,0) 0 0),(7,i64 (i:Nat)),(23,i64 (k:Nat)),(24,i64 (i:Nat)),(42,i64 (k:Nat)),(43,i64 (j:Nat))],st:=[((0,0),⟨28,3,[rat b.q]⟩)],g:=60 }) ?_ ?_
     ·refine .block ?_;repeat ((first | refine .goF rfl (by kernel_rfl) ?_ | refine .endF rfl (by kernel_rfl) ?_ | refine callE C1 rfl rfl ?_ | refine callE C2 rfl rfl ?_ | refine callE C3 rfl rfl ?_ | refine callE C4 rfl rfl ?_ | refine⟨_,⟨Int.natCast_nonneg _,I1,rfl,rfl⟩,?_⟩ | refine⟨_,⟨Int.natCast_nonneg _,I2,rfl,rfl⟩,?_⟩ | refine⟨_,⟨Int.natCast_nonneg _,I3,rfl,rfl⟩,?_⟩ | refine⟨_,⟨Int.natCast_nonneg _,I4,rfl,rfl⟩,?_⟩ | refine⟨by kernel_rfl,?_⟩ | rw[decide_eq_true (by omega)] | rw[decide_eq_false (by omega)] | fail); conv=>whnf)
      refine⟨(),trivial,?_⟩;repeat' (first | exact trivial | exact .inl ⟨.refl _,rfl⟩ | exact⟨.same rfl rfl,x_N ,Nat.le_of_ble_eq_true rfl⟩ | exact⟨_,rfl⟩ | exact .inl ⟨.of_eq (congrArg i64 (Eq.trans (wI (by omega) (by omega)) (by omega))),rfl⟩ | exact rfl | exact x_N | exact Nat.le_of_ble_eq_true rfl | refine⟨?_,?_⟩ | fail)
     ·rintro⟨⟩ _;repeat ((first | refine .goF rfl (by kernel_rfl) ?_ | refine .endF rfl (by kernel_rfl) ?_ | refine⟨by kernel_rfl,?_⟩ | rw[decide_eq_true (by omega)] | rw[decide_eq_false (by omega)] | fail); conv=>whnf)
      refine⟨j+1,by omega,?_,by show k-(j+1)<k-j; omega⟩;repeat' (first | exact trivial | exact .inl ⟨.refl _,rfl⟩ | exact⟨.same rfl rfl,x_N ,Nat.le_of_ble_eq_true rfl⟩ | exact⟨_,rfl⟩ | exact .inl ⟨.of_eq (congrArg i64 (Eq.trans (wI (by omega) (by omega)) (by omega))),rfl⟩ | exact rfl | exact x_N | exact Nat.le_of_ble_eq_true rfl | refine⟨?_,?_⟩ | fail)
    ·have:j=k:=by
      have:=of_decide_eq_false q;omega
     conv=>whnf
     refine⟨(),trivial,?_⟩;repeat' (first | exact trivial | exact .inl ⟨.refl _,rfl⟩ | exact⟨.same rfl rfl,x_N ,Nat.le_of_ble_eq_true rfl⟩ | exact⟨_,rfl⟩ | exact .inl ⟨.of_eq (congrArg i64 (Eq.trans (wI (by omega) (by omega)) (by omega))),rfl⟩ | exact rfl | exact x_N | exact Nat.le_of_ble_eq_true rfl | refine⟨?_,?_⟩ | fail)
   ·rintro⟨⟩ _;repeat ((first | refine .goF rfl (by kernel_rfl) ?_ | refine .endF rfl (by kernel_rfl) ?_ | refine⟨by kernel_rfl,?_⟩ | rw[decide_eq_true (by omega)] | rw[decide_eq_false (by omega)] | fail); conv=>whnf)
    refine⟨i+1,by omega,?_,by show k-(i+1)<k-i; omega⟩;repeat' (first | exact trivial | exact .inl ⟨.refl _,rfl⟩ | exact⟨.same rfl rfl,x_N ,Nat.le_of_ble_eq_true rfl⟩ | exact⟨_,rfl⟩ | exact .inl ⟨.of_eq (congrArg i64 (Eq.trans (wI (by omega) (by omega)) (by omega))),rfl⟩ | exact rfl | exact x_N | exact Nat.le_of_ble_eq_true rfl | refine⟨?_,?_⟩ | fail)
  ·conv=>whnf
   refine⟨(),trivial,?_⟩;repeat' (first | exact trivial | exact .inl ⟨.refl _,rfl⟩ | exact⟨.same rfl rfl,x_N ,Nat.le_of_ble_eq_true rfl⟩ | exact⟨_,rfl⟩ | exact .inl ⟨.of_eq (congrArg i64 (Eq.trans (wI (by omega) (by omega)) (by omega))),rfl⟩ | exact rfl | exact x_N | exact Nat.le_of_ble_eq_true rfl | refine⟨?_,?_⟩ | fail)
 ·rintro⟨⟩ _;repeat ((first | refine .goF rfl (by kernel_rfl) ?_ | refine .endF rfl (by kernel_rfl) ?_ | refine⟨by kernel_rfl,?_⟩ | rw[decide_eq_true (by omega)] | rw[decide_eq_false (by omega)] | fail); conv=>whnf)
  exact fin rfl rfl
theorem c_left13 {N rest:FQ} (h0:0<=N.q) (hN:Sz N.q 196 196) (h6:N.q<=6) (hr:rest.q=2*ex 24 N.q):ACalls prog 26 [rat N.q,i64 24] (.tup [rat rest.q,boo true]):=by
 have C2:ACalls prog 20 [i64 2,i64 1] (rat (qOf 2 1).q):=c_qOf 2 1 (by decide) (by decide) (by decide) (by decide);have C24:ACalls prog 20 [i64 24,i64 2] (rat (qOf 24 2).q):=c_qOf 24 2 (by decide) (by decide) (by decide) (by decide);have e12:(qOf 24 2).q=12:=by with_unfolding_all kernel_rfl
 have z12:Sz (qOf 24 2).q 5 1:=⟨by rw[e12]; decide,by rw[e12]; decide⟩
 have CC:=c_qCompare N (qOf 24 2);rw[qCmp_ok hN z12 (by omega) (by omega)] at CC;obtain⟨c,hc⟩:∃ c,cmpQ N.q (qOf 24 2).q=c:=⟨_,rfl⟩
 have c0:c<0:=by
  rw[<- hc,e12];unfold cmpQ;rw[if_pos (by grind)];decide
 rw[hc] at CC;change ACalls prog _ _ (.tup [i64 c,i64 0]) at CC;refine conP func26 rfl (by kernel_rfl) ?_;repeat ((first | refine .goF rfl (by kernel_rfl) ?_ | refine .endF rfl (by kernel_rfl) ?_ | refine callE C2 rfl rfl ?_ | refine⟨by kernel_rfl,?_⟩ | rw[decide_eq_true (by omega)] | rw[decide_eq_false (by omega)] | fail); conv=>whnf)
 refine .cut (fun o:FQ=>o.q=2*ex 24 N.q) (fun o=>{ fr:=[(1,i64 24),(2,.ptr (0,0) 0 0),(4,.ptr (0,1) 0 0),(6,.ptr (1,1) 0 0)],st:=[((0,0),⟨28,3,[rat N.q]⟩),((0,1),⟨28,3,[AV.ofVal (ty 28).zero]⟩),((1,1),⟨28,3,[rat o.q]⟩)],g:=90 }) ?_ ?_
 ·repeat ((first | refine .goF rfl (by kernel_rfl) ?_ | refine .endF rfl (by kernel_rfl) ?_ | refine⟨by kernel_rfl,?_⟩ | rw[decide_eq_true (by omega)] | rw[decide_eq_false (by omega)] | fail); conv=>whnf)
  refine .block (.loop (fun x:Nat×FQ=>x.1<=24/\x.2.q=2*ex x.1 N.q) (fun x=>{ fr:=[(1,i64 24),(2,.ptr (0,0) 0 0),(4,.ptr (0,1) 0 0),(6,.ptr (1,1) 0 0),(7,i64 (x.1+1:Nat))],st:=[((0,0),⟨28,3,[rat N.q]⟩),((0,1),⟨28,3,[AV.ofVal (ty 28).zero]⟩),((1,1),⟨28,3,[rat x.2.q]⟩)],g:=9 }) (fun x=>24-x.1) (0,qOf 2 1) ⟨Nat.zero_le _,?_⟩ ?_ ?_)
  ·with_unfolding_all kernel_rfl
  ·dsimp only;repeat' (first | exact trivial | exact .inl ⟨.refl _,rfl⟩ | exact⟨.same rfl rfl,x_N ,Nat.le_of_ble_eq_true rfl⟩ | exact⟨_,rfl⟩ | exact .inl ⟨.of_eq (congrArg i64 (Eq.trans (wI (by omega) (by omega)) (by omega))),rfl⟩ | exact rfl | exact x_N | exact Nat.le_of_ble_eq_true rfl | refine⟨?_,?_⟩ | fail)
  rintro⟨m,o⟩ ⟨hm,ho⟩;dsimp only at hm ho ⊢;refine .gk ?_;conv=>whnf
  refine Br.mk (fun q=>?_) (fun q=>?_)
  ·have hlt:m<24:=by
    have:=of_decide_eq_true q;omega
   clear q;obtain⟨x,o',m1,m2,m3⟩:=left_T h0 hN hlt ho;have C3:=c_qMul o N;have C4:=c_qOf 1 (m+1:Nat) (by decide) (by decide) (by omega) (by omega);have C5:=c_qMul x (qOf 1 (m+1:Nat));rw[m1] at C3;rw[m2] at C5;conv=>whnf
   refine .cut (fun _:Unit=>True) (fun _=>{ fr:=[(1,i64 24),(2,.ptr (0,0) 0 0),(4,.ptr (0,1) 0 0),(6,.ptr (1,1) 0 0),(7,i64 (m+1:Nat))],st:=[((0,0),⟨28,3,[rat N.q]⟩),((0,1),⟨28,3,[AV.ofVal (ty 28).zero]⟩),((1,1),⟨28,3,[rat o'.q]⟩)],g:=60 }) ?_ ?_
   ·refine .block ?_;repeat ((first | refine .goF rfl (by kernel_rfl) ?_ | refine .endF rfl (by kernel_rfl) ?_ | refine callE C3 rfl rfl ?_ | refine callE C4 rfl rfl ?_ | refine callE C5 rfl rfl ?_ | refine⟨by kernel_rfl,?_⟩ | rw[decide_eq_true (by omega)] | rw[decide_eq_false (by omega)] | fail); conv=>whnf)
    refine⟨(),trivial,?_⟩;repeat' (first | exact trivial | exact .inl ⟨.refl _,rfl⟩ | exact⟨.same rfl rfl,x_N ,Nat.le_of_ble_eq_true rfl⟩ | exact⟨_,rfl⟩ | exact .inl ⟨.of_eq (congrArg i64 (Eq.trans (wI (by omega) (by omega)) (by omega))),rfl⟩ | exact rfl | exact x_N | exact Nat.le_of_ble_eq_true rfl | refine⟨?_,?_⟩ | fail)
   ·rintro⟨⟩ _;repeat ((first | refine .goF rfl (by kernel_rfl) ?_ | refine .endF rfl (by kernel_rfl) ?_ | refine⟨by kernel_rfl,?_⟩ | rw[decide_eq_true (by omega)] | rw[decide_eq_false (by omega)] | fail); conv=>whnf)
    refine⟨(m+1,o'),⟨by omega,m3⟩,?_,by show 24-(m+1)<24-m; omega⟩;repeat' (first | exact trivial | exact .inl ⟨.refl _,rfl⟩ | exact⟨.same rfl rfl,x_N ,Nat.le_of_ble_eq_true rfl⟩ | exact⟨_,rfl⟩ | exact .inl ⟨.of_eq (congrArg i64 (Eq.trans (wI (by omega) (by omega)) (by omega))),rfl⟩ | exact rfl | exact x_N | exact Nat.le_of_ble_eq_true rfl | refine⟨?_,?_⟩ | fail)
  ·obtain rfl:m=24:=by
    have:=of_decide_eq_false q;omega
   conv=>whnf
   refine⟨o,ho,?_⟩;repeat' (first | exact trivial | exact .inl ⟨.refl _,rfl⟩ | exact⟨.same rfl rfl,x_N ,Nat.le_of_ble_eq_true rfl⟩ | exact⟨_,rfl⟩ | exact .inl ⟨.of_eq (congrArg i64 (Eq.trans (wI (by omega) (by omega)) (by omega))),rfl⟩ | exact rfl | exact x_N | exact Nat.le_of_ble_eq_true rfl | refine⟨?_,?_⟩ | fail)
 ·intro o ho;dsimp only at ho ⊢;have er:rest.q=o.q:=by rw[hr,ho]
  rw[er];repeat ((first | refine .goF rfl (by kernel_rfl) ?_ | refine .endF rfl (by kernel_rfl) ?_ | refine callE CC rfl rfl ?_ | refine callE C24 rfl rfl ?_ | refine⟨by kernel_rfl,?_⟩ | rw[decide_eq_true (by omega)] | rw[decide_eq_false (by omega)] | fail); conv=>whnf)
  exact⟨fin rfl rfl,fin rfl rfl,trivial⟩
end
set_option exponentiation.threshold 20000
section
open Go Go.RowKit Go.Proofs.Tryz
attribute [local irreducible] qMk qMake mMake mTwice mTimes mHolds mScale mPlus mNear mOne mNorm qMul qAdd qSub dCmpQ gT qCmp xSt bkT bkQ zE uT uR
theorem c_wMulZ (a b:Int) (ha:a.natAbs<Big) (hb:b.natAbs<Big) (h:(a*b).natAbs<Big):ACalls prog 91 [int a,int b] (.tup [int (a*b),i64 0]):=by
 have C:=c_wMul ⟨a,ha⟩ ⟨b,hb⟩;have e:zMul ⟨a,ha⟩ ⟨b,hb⟩=.ok ⟨a*b,h⟩:=fitZ_ok h;rw[e] at C;exact C
theorem c_lMulN (a b:Nat) (ha:a<Big) (hb:b<Big) (h:a*b<Big):ACalls prog 102 [nat a,nat b] (.tup [nat (a*b),i64 0]):=by
 have C:=c_Mul a b ha hb;rw[fitN_ok h] at C;exact C
theorem c_wDivN (a b:Nat) (ha:a<Big) (hb:b<Big) (h:0<b):ACalls prog 103 [int (a:Int),int (b:Int)] (.tup [int ((a/b:Nat):Int),int ((a%b:Nat):Int),i64 0]):=by
 have C:=c_wDiv ⟨(a:Int),ha⟩ ⟨(b:Int),hb⟩ (by show (b:Int)≠0; omega);exact C
theorem c_rOfN (n:Nat) (h:n<Big):ACalls prog 104 [nat n] (n8 n):=by
 have C:=c_rOf (digs n) (fun x hx=>digs_lt hx) (by have:=lt_Big.1 h; omega);rw[val_digs] at C;exact C
theorem uN_lt {k:Nat} {T:List (List FQ)} {t:FQ} (h:In3 k T t):uN T t<2^320:=by
 have h1:=uT_lt (k:=k) (n:=32) T (u:=t.q.den) (fun r hr=>⟨h.sq.2 r hr,fun x hx=>(h.sz r hr x hx).2⟩) h.st.2;have k3:=h.k3;have e:32+32*k*T.length<=320:=by
  rw[h.sq.1];have:k=0\/k=1\/k=2\/k=3:=by omega
  rcases this with rfl | rfl | rfl | rfl <;> decide
 exact Nat.lt_of_lt_of_le h1 (Nat.pow_le_pow_right (by decide) e)
def tRs (U:Nat) (t:FQ) (T:List (List FQ)) (m:Nat):List AV:=(T.take m).map fun r=>rX (r.map (xE U t))
def tRr (U:Nat) (t:FQ) (r:List FQ) (m:Nat):List AV:=(r.take m).map fun x=>xi (xE U t x)
theorem tRs_all {U:Nat} {t:FQ} {T:List (List FQ)}:AV.sl (tRs U t T T.length)=lX (tX U t T):=by
 unfold tRs lX tX;rw[List.take_length,List.map_map];rfl
theorem tRr_all {U:Nat} {t:FQ} {r:List FQ}:AV.sl (tRr U t r r.length)=rX (r.map (xE U t)):=by
 unfold tRr rX;rw[List.take_length,List.map_map];rfl
theorem tRs_len {U:Nat} {t:FQ} {T:List (List FQ)} {m:Nat} (h:m<=T.length):(tRs U t T m).length=m:=by simp[tRs,h]
theorem tRr_len {U:Nat} {t:FQ} {r:List FQ} {m:Nat} (h:m<=r.length):(tRr U t r m).length=m:=by simp[tRr,h]
theorem tRs_succ {U:Nat} {t:FQ} {T:List (List FQ)} {m:Nat} (h:m<T.length):tRs U t T m++[rX (T[m].map (xE U t))]=tRs U t T (m+1):=by
 unfold tRs;rw[List.take_succ_eq_append_getElem h,List.map_append];rfl
theorem tRr_succ {U:Nat} {t:FQ} {r:List FQ} {m:Nat} (h:m<r.length):tRr U t r m++[xi (xE U t r[m])]=tRr U t r (m+1):=by
 unfold tRr;rw[List.take_succ_eq_append_getElem h,List.map_append];rfl
theorem tRr_cl (U:Nat) (t:FQ) (r:List FQ) (m:Nat):AV.closedL (tRr U t r m)=true:=closedL_map (fun _=>rfl) _
theorem tRs_cl (U:Nat) (t:FQ) (T:List (List FQ)) (m:Nat):AV.closedL (tRs U t T m)=true:=closedL_map (fun _=>rfl) _
theorem c_xSumk {k U u first:Nat} {a:List (List XI)} (h1:1<=k) (h3:k<=3) (ha:XT k 42 a) (hu:Dg8 42 u) (hf:first=1\/first=2) :
  ACalls prog 107 [lX a,n8 u,i64 24,i64 (first:Nat)] (.tup [lX (xSt k a u (22+first) 23).1,n8 (xSt k a u (22+first) 23).2]):=by
 have hk:k=1\/k=2\/k=3:=by omega
 have f1:1<=first:=by omega
 have f2:24+first<250:=by omega
 rcases hk with rfl | rfl | rfl
 ·exact c_xSum1 (terms:=24) ha hu (by decide) f1 f2 (by decide)
 ·exact c_xSum2 (terms:=24) ha hu (by decide) f1 f2 (by decide)
 ·exact c_xSum3 (terms:=24) ha hu (by decide) f1 f2 (by decide)
theorem c_back13 {k hi D:Nat} {a:List (List XI)} {u:Nat} (h1:1<=k) (h3:k<=3) (hu:0<u) (hh:23<=hi) (hx:XT k D (xSt k a u hi 23).1) (hq:Dg8 D (xSt k a u hi 23).2) (hD:D<=2048) :
  ACalls prog 106 [lX (xSt k a u hi 23).1,n8 (xSt k a u hi 23).2] (.tup [lT (bkT (xSt k a u hi 23).2 (xSt k a u hi 23).1),boo true]) :=
 c_xBack _ _ (xSt_q hu _ hh) (big_of_dg (hq.mono hD)) (by rw[hx.l]; exact h1) (by rw[hx.l]; exact Nat.lt_of_le_of_lt h3 (by decide)) (fun r hr=>by rw[hx.r r hr]; exact⟨h1,Nat.lt_of_le_of_lt h3 (by decide)⟩) fun r hr x hxr=>by
  obtain⟨i,hi,rfl⟩:=mem_getD (d:=[]) hr;obtain⟨j,hj,rfl⟩:=mem_getD (d:=(false,0)) hxr;exact big_of_dg ((hx.d i j).mono hD)
theorem c_sums {k:Nat} {T:List (List FQ)} {t:FQ} (h:In3 k T t) {R:AV} (hbad:8000<blen (uN T t)*24->R=.tup [.sl [],.sl [],boo false])
  (hgood:blen (uN T t)*24<=8000->∃ two,SumS k T t two/\R=.tup [lT (one13 T t),lT two,boo true]):ACalls prog 23 [lT T,rat t.q,i64 24] R:=by
 have hl:(((T.map lQ).length:Nat):Int)=(k:Int):=by rw[List.length_map,h.sq.1]
 have hU:=uN_lt h;have k3:=h.k3;have k1:=h.k1;have big:∀ n:Nat,n<2^400->n<Big:=fun n hn=>lt_big hn (by decide)
 have hUB:uN T t<Big:=big _ (Nat.lt_trans hU (by decide +kernel));have C1:=c_wNat t.q.den t.hd;refine conP func23 rfl (by kernel_rfl) ?_;repeat ((first | refine .goF rfl (by kernel_rfl) ?_ | refine .endF rfl (by kernel_rfl) ?_ | refine callE C1 rfl rfl ?_ | refine⟨by kernel_rfl,?_⟩ | rw[decide_eq_true (by omega)] | rw[decide_eq_false (by omega)] | fail); conv=>whnf)
 refine .cut (fun _:Unit=>True) (fun _=>{ fr:=[(0,lT T),(2,i64 24),(4,.ptr (0,0) 0 0),(9,.ptr (1,3) 0 0)],st:=[((0,0),⟨28,3,[rat t.q]⟩),((1,3),⟨26,2,[int (uN T t:Int)]⟩)],g:=9 }) ?_ ?_
 ·repeat ((first | refine .goF rfl (by kernel_rfl) ?_ | refine .endF rfl (by kernel_rfl) ?_ | refine⟨by kernel_rfl,?_⟩ | rw[decide_eq_true (by omega)] | rw[decide_eq_false (by omega)] | fail); conv=>whnf)
  rw[hl];refine .block (.loop (fun i:Nat=>i<=k) (fun i=>{ fr:=[(0,lT T),(2,i64 24),(4,.ptr (0,0) 0 0),(9,.ptr (1,3) 0 0),(37,lT T),(38,i64 (k:Nat)),(39,i64 (i:Nat))],st:=[((0,0),⟨28,3,[rat t.q]⟩),((1,3),⟨26,2,[int (uT t.q.den (T.take i):Int)]⟩)],g:=9 }) (fun i=>k-i) 0 (Nat.zero_le _) ?_ ?_)
  ·dsimp only;rw[show uT t.q.den (T.take 0)=t.q.den by rw[List.take_zero]; with_unfolding_all rfl];repeat' (first | exact trivial | exact .inl ⟨.refl _,rfl⟩ | exact⟨.same rfl rfl,x_N ,Nat.le_of_ble_eq_true rfl⟩ | exact⟨_,rfl⟩ | exact .inl ⟨.of_eq (congrArg i64 (Eq.trans (wI (by omega) (by omega)) (by omega))),rfl⟩ | exact rfl | exact x_N | exact Nat.le_of_ble_eq_true rfl | refine⟨?_,?_⟩ | fail)
  intro i hi;dsimp only at hi ⊢;repeat ((first | refine .goF rfl (by kernel_rfl) ?_ | refine .endF rfl (by kernel_rfl) ?_ | refine⟨by kernel_rfl,?_⟩ | rw[decide_eq_true (by omega)] | rw[decide_eq_false (by omega)] | fail); conv=>whnf)
  refine Br.mk (fun q=>?_) (fun q=>?_)
  ·have hlt:i<k:=by
    have:=of_decide_eq_true q;omega
   clear q;have hiT:i<T.length:=by rw[h.sq.1]; exact hlt
   obtain⟨r,hr⟩:∃ r,T[i]=r:=⟨_,rfl⟩
   have hrT:r∈T:=by rw[<- hr]; exact List.getElem_mem hiT
   have hrl:(((r.map ratv).length:Nat):Int)=(k:Int):=by rw[List.length_map,h.sq.2 r hrT]
   have hI:(T.map lQ)[((i:Nat):Int).toNat]?=some (lQ r):=by rw[Int.toNat_natCast,List.getElem?_map,List.getElem?_eq_getElem hiT,hr]; rfl
   have hn:=uT_take (T:=T) (u:=t.q.den) hiT;have hp:=fun j=>uN_part (T:=T) (t:=t) (i:=i) (j:=j) hiT
   rw[hr] at hn hp;obtain⟨u,hu⟩:∃ u,uT t.q.den (T.take i)=u:=⟨_,rfl⟩
   rw[hu] at hn hp ⊢;conv=>whnf
   refine .cut (fun _:Unit=>True) (fun _=>{ fr:=[(0,lT T),(2,i64 24),(4,.ptr (0,0) 0 0),(9,.ptr (1,3) 0 0),(37,lT T),(38,i64 (k:Nat)),(39,i64 (i:Nat))],st:=[((0,0),⟨28,3,[rat t.q]⟩),((1,3),⟨26,2,[int (uR u r:Int)]⟩)],g:=60 }) ?_ ?_
   ·refine .block ?_;repeat ((first | refine .goF rfl (by kernel_rfl) ?_ | refine .endF rfl (by kernel_rfl) ?_ | refine⟨_,⟨by omega,hI,rfl,rfl⟩,?_⟩ | refine⟨by kernel_rfl,?_⟩ | rw[decide_eq_true (by omega)] | rw[decide_eq_false (by omega)] | fail); conv=>whnf)
    rw[hrl];refine .block (.loop (fun j:Nat=>j<=k) (fun j=>{ fr:=[(0,lT T),(2,i64 24),(4,.ptr (0,0) 0 0),(9,.ptr (1,3) 0 0),(37,lT T),(38,i64 (k:Nat)),(39,i64 (i:Nat)),(43,lQ r),(44,i64 (k:Nat)),(45,i64 (j:Nat))],st:=[((0,0),⟨28,3,[rat t.q]⟩),((1,3),⟨26,2,[int (uR u (r.take j):Int)]⟩)],g:=20 }) (fun j=>k-j) 0 (Nat.zero_le _) ?_ ?_)
    ·dsimp only;rw[show uR u (r.take 0)=u by rw[List.take_zero]; with_unfolding_all rfl];repeat' (first | exact trivial | exact .inl ⟨.refl _,rfl⟩ | exact⟨.same rfl rfl,x_N ,Nat.le_of_ble_eq_true rfl⟩ | exact⟨_,rfl⟩ | exact .inl ⟨.of_eq (congrArg i64 (Eq.trans (wI (by omega) (by omega)) (by omega))),rfl⟩ | exact rfl | exact x_N | exact Nat.le_of_ble_eq_true rfl | refine⟨?_,?_⟩ | fail)
    intro j hj;dsimp only at hj ⊢;repeat ((first | refine .goF rfl (by kernel_rfl) ?_ | refine .endF rfl (by kernel_rfl) ?_ | refine⟨by kernel_rfl,?_⟩ | rw[decide_eq_true (by omega)] | rw[decide_eq_false (by omega)] | fail); conv=>whnf)
    refine Br.mk (fun q=>?_) (fun q=>?_)
    ·have hjl:j<k:=by
      have:=of_decide_eq_true q;omega
     clear q;have hjr:j<r.length:=by rw[h.sq.2 r hrT]; exact hjl
     obtain⟨x,hx⟩:∃ x,r[j]=x:=⟨_,rfl⟩
     have hxr:x∈r:=by rw[<- hx]; exact List.getElem_mem hjr
     have hJ:(r.map ratv)[((j:Nat):Int).toNat]?=some (rat x.q):=by rw[Int.toNat_natCast,List.getElem?_map,List.getElem?_eq_getElem hjr,hx]; rfl
     have h1:=hp j;have h2:=hp (j+1);have h3:=uR_take (u:=u) hjr;rw[hx] at h3;rw[h3] at h2;obtain⟨v,hv⟩:∃ v,uR u (r.take j)=v:=⟨_,rfl⟩
     rw[hv] at h1 h2 ⊢;have CN:=c_wNat x.q.den x.hd;have CM:=c_wMulZ (v:Int) (x.q.den:Int) (Nat.lt_of_le_of_lt h1 hUB) x.hd (by rw[Int.natAbs_mul]; exact Nat.lt_of_le_of_lt h2 hUB);conv=>whnf
     refine .cut (fun _:Unit=>True) (fun _=>{ fr:=[(0,lT T),(2,i64 24),(4,.ptr (0,0) 0 0),(9,.ptr (1,3) 0 0),(37,lT T),(38,i64 (k:Nat)),(39,i64 (i:Nat)),(43,lQ r),(44,i64 (k:Nat)),(45,i64 (j:Nat))],st:=[((0,0),⟨28,3,[rat t.q]⟩),((1,3),⟨26,2,[int ((v:Int)*(x.q.den:Int))]⟩)],g:=60 }) ?_ ?_
     ·refine .block ?_;repeat ((first | refine .goF rfl (by kernel_rfl) ?_ | refine .endF rfl (by kernel_rfl) ?_ | refine callE CN rfl rfl ?_ | refine callE CM rfl rfl ?_ | refine⟨_,⟨by omega,hJ,rfl,rfl⟩,?_⟩ | refine⟨by kernel_rfl,?_⟩ | rw[decide_eq_true (by omega)] | rw[decide_eq_false (by omega)] | fail); conv=>whnf)
      refine⟨(),trivial,?_⟩;repeat' (first | exact trivial | exact .inl ⟨.refl _,rfl⟩ | exact⟨.same rfl rfl,x_N ,Nat.le_of_ble_eq_true rfl⟩ | exact⟨_,rfl⟩ | exact .inl ⟨.of_eq (congrArg i64 (Eq.trans (wI (by omega) (by omega)) (by omega))),rfl⟩ | exact rfl | exact x_N | exact Nat.le_of_ble_eq_true rfl | refine⟨?_,?_⟩ | fail)
     ·rintro⟨⟩ _;repeat ((first | refine .goF rfl (by kernel_rfl) ?_ | refine .endF rfl (by kernel_rfl) ?_ | refine⟨by kernel_rfl,?_⟩ | rw[decide_eq_true (by omega)] | rw[decide_eq_false (by omega)] | fail); conv=>whnf)
      refine⟨j+1,by omega,?_,by show k-(j+1)<k-j; omega⟩;dsimp only;rw[h3,hv];repeat' (first | exact trivial | exact .inl ⟨.refl _,rfl⟩ | exact⟨.same rfl rfl,x_N ,Nat.le_of_ble_eq_true rfl⟩ | exact⟨_,rfl⟩ | exact .inl ⟨.of_eq (congrArg i64 (Eq.trans (wI (by omega) (by omega)) (by omega))),rfl⟩ | exact rfl | exact x_N | exact Nat.le_of_ble_eq_true rfl | refine⟨?_,?_⟩ | fail)
    ·have:j=k:=by
      have:=of_decide_eq_false q;omega
     conv=>whnf
     refine⟨(),trivial,?_⟩;rw[show r.take j=r by rw[this,<- h.sq.2 r hrT,List.take_length]];repeat' (first | exact trivial | exact .inl ⟨.refl _,rfl⟩ | exact⟨.same rfl rfl,x_N ,Nat.le_of_ble_eq_true rfl⟩ | exact⟨_,rfl⟩ | exact .inl ⟨.of_eq (congrArg i64 (Eq.trans (wI (by omega) (by omega)) (by omega))),rfl⟩ | exact rfl | exact x_N | exact Nat.le_of_ble_eq_true rfl | refine⟨?_,?_⟩ | fail)
   ·rintro⟨⟩ _;repeat ((first | refine .goF rfl (by kernel_rfl) ?_ | refine .endF rfl (by kernel_rfl) ?_ | refine⟨by kernel_rfl,?_⟩ | rw[decide_eq_true (by omega)] | rw[decide_eq_false (by omega)] | fail); conv=>whnf)
    refine⟨i+1,by omega,?_,by show k-(i+1)<k-i; omega⟩;dsimp only;rw[hn];repeat' (first | exact trivial | exact .inl ⟨.refl _,rfl⟩ | exact⟨.same rfl rfl,x_N ,Nat.le_of_ble_eq_true rfl⟩ | exact⟨_,rfl⟩ | exact .inl ⟨.of_eq (congrArg i64 (Eq.trans (wI (by omega) (by omega)) (by omega))),rfl⟩ | exact rfl | exact x_N | exact Nat.le_of_ble_eq_true rfl | refine⟨?_,?_⟩ | fail)
  ·have:i=k:=by
    have:=of_decide_eq_false q;omega
   conv=>whnf
   refine⟨(),trivial,?_⟩;rw[show T.take i=T by rw[this,<- h.sq.1,List.take_length]];repeat' (first | exact trivial | exact .inl ⟨.refl _,rfl⟩ | exact⟨.same rfl rfl,x_N ,Nat.le_of_ble_eq_true rfl⟩ | exact⟨_,rfl⟩ | exact .inl ⟨.of_eq (congrArg i64 (Eq.trans (wI (by omega) (by omega)) (by omega))),rfl⟩ | exact rfl | exact x_N | exact Nat.le_of_ble_eq_true rfl | refine⟨?_,?_⟩ | fail)
 rintro⟨⟩ _;obtain⟨U,hUe⟩:∃ U,uN T t=U:=⟨_,rfl⟩
 have u0:0<U:=by rw[<- hUe]; exact uT_pos T t.q.den_pos
 have dU:∀ r∈T,∀ x∈r,x.q.den*t.q.den∣U:=by rw[<- hUe]; exact in3_den h
 have hO:one13 T t=bkT (xSt k (tX U t T) U 23 23).2 (xSt k (tX U t T) U 23 23).1:=by unfold one13; rw[h.sq.1,hUe]
 have hW:two13 T t=bkT (xSt k (tX U t T) U 24 23).2 (xSt k (tX U t T) U 24 23).1:=by unfold two13; rw[h.sq.1,hUe]
 rw[hUe] at hU hUB hbad hgood ⊢;have lT':(((T.map lQ).length:Nat):Int)=(T.length:Int):=by simp
 dsimp only;repeat ((first | refine .goF rfl (by kernel_rfl) ?_ | refine .endF rfl (by kernel_rfl) ?_ | refine⟨by kernel_rfl,?_⟩ | rw[decide_eq_true (by omega)] | rw[decide_eq_false (by omega)] | fail); conv=>whnf)
 refine .cut (fun _:Unit=>True) (fun _=>{ fr:=[(2,i64 24),(4,.ptr (0,0) 0 0),(9,.ptr (1,3) 0 0),(15,.own (5,0) T.length)],st:=[((5,0),⟨178,1,tRs U t T T.length⟩),((0,0),⟨28,3,[rat t.q]⟩),((1,3),⟨26,2,[int (U:Int)]⟩)],g:=90 }) ?_ ?_
 ·repeat ((first | refine .goF rfl (by kernel_rfl) ?_ | refine .endF rfl (by kernel_rfl) ?_ | refine⟨by kernel_rfl,?_⟩ | rw[decide_eq_true (by omega)] | rw[decide_eq_false (by omega)] | fail); conv=>whnf)
  rw[lT'];refine .block (.loop (fun i:Nat=>i<=T.length) (fun i=>match i with
   |0=>{ fr:=[(0,lT T),(2,i64 24),(4,.ptr (0,0) 0 0),(9,.ptr (1,3) 0 0),(15,nilA),(61,lT T),(62,i64 (T.length:Nat)),(63,i64 (0:Nat))],st:=[((0,0),⟨28,3,[rat t.q]⟩),((1,3),⟨26,2,[int (U:Int)]⟩)],g:=9 }
   |m+1=>{ fr:=[(0,lT T),(2,i64 24),(4,.ptr (0,0) 0 0),(9,.ptr (1,3) 0 0),(15,.own (5,0) (m+1)),(61,lT T),(62,i64 (T.length:Nat)),(63,i64 (m+1:Nat))],st:=[((5,0),⟨178,1,tRs U t T (m+1)⟩),((0,0),⟨28,3,[rat t.q]⟩),((1,3),⟨26,2,[int (U:Int)]⟩)],g:=9 }) (fun i=>T.length-i) 0 (Nat.zero_le _) ?_ ?_)
  ·repeat' (first | exact trivial | exact .inl ⟨.refl _,rfl⟩ | exact⟨.same rfl rfl,x_N ,Nat.le_of_ble_eq_true rfl⟩ | exact⟨_,rfl⟩ | exact .inl ⟨.of_eq (congrArg i64 (Eq.trans (wI (by omega) (by omega)) (by omega))),rfl⟩ | exact rfl | exact x_N | exact Nat.le_of_ble_eq_true rfl | refine⟨?_,?_⟩ | fail)
  intro i hi;have hTl:=h.sq.1;cases i with
  |zero =>
   have hi':0<T.length:=by rw[hTl]; exact k1
   obtain⟨r,hre⟩:∃ r,T[0]=r:=⟨_,rfl⟩
   repeat ((first | refine .goF rfl (by kernel_rfl) ?_ | refine .endF rfl (by kernel_rfl) ?_ | refine⟨by kernel_rfl,?_⟩ | rw[decide_eq_true (by omega)] | rw[decide_eq_false (by omega)] | fail); conv=>whnf)
   refine .cut (fun _:Unit=>True) (fun _=>{ ren:=[((20,3),(5,0))],fr:=[(0,lT T),(2,i64 24),(4,.ptr (0,0) 0 0),(9,.ptr (1,3) 0 0),(15,.own (5,0) 1),(61,lT T),(62,i64 (T.length:Nat)),(63,i64 (0:Nat))],st:=[((5,0),⟨178,1,tRs U t T 1⟩),((0,0),⟨28,3,[rat t.q]⟩),((1,3),⟨26,2,[int (U:Int)]⟩)],g:=60 }) ?_ ?_
   ·refine .block ?_;have hrp:r∈T:=by rw[<- hre]; exact List.getElem_mem hi'
    have hr0:0<r.length:=by rw[h.sq.2 r hrp]; exact k1
    have hr1:r.length<=3:=by rw[h.sq.2 r hrp]; exact k3
    have hI':(T.map lQ)[((0:Nat):Int).toNat]?=some (lQ r):=by rw[Int.toNat_natCast,List.getElem?_map,List.getElem?_eq_getElem hi',hre]; rfl
    have lr:(((r.map ratv).length:Nat):Int)=(r.length:Int):=by simp
    have hS':=tRs_succ (U:=U) (t:=t) hi';rw[hre] at hS';repeat ((first | refine .goF rfl (by kernel_rfl) ?_ | refine .endF rfl (by kernel_rfl) ?_ | refine⟨_,⟨by omega,hI',rfl,rfl⟩,?_⟩ | refine⟨by kernel_rfl,?_⟩ | rw[decide_eq_true (by omega)] | rw[decide_eq_false (by omega)] | fail); conv=>whnf)
    refine .cut (fun _:Unit=>True) (fun _=>{ fr:=[(0,lT T),(2,i64 24),(4,.ptr (0,0) 0 0),(9,.ptr (1,3) 0 0),(15,nilA),(18,.own (5,1) r.length),(61,lT T),(62,i64 (T.length:Nat)),(63,i64 (0:Nat))],st:=[((5,1),⟨185,2,tRr U t r r.length⟩),((0,0),⟨28,3,[rat t.q]⟩),((1,3),⟨26,2,[int (U:Int)]⟩)],g:=60 }) ?_ ?_
    ·repeat ((first | refine .goF rfl (by kernel_rfl) ?_ | refine .endF rfl (by kernel_rfl) ?_ | refine⟨by kernel_rfl,?_⟩ | rw[decide_eq_true (by omega)] | rw[decide_eq_false (by omega)] | fail); conv=>whnf)
     rw[lr];refine .block (.loop (fun j:Nat=>j<=r.length) (fun j=>match j with
      |0=>{ fr:=[(0,lT T),(2,i64 24),(4,.ptr (0,0) 0 0),(9,.ptr (1,3) 0 0),(15,nilA),(18,nilA),(61,lT T),(62,i64 (T.length:Nat)),(63,i64 (0:Nat)),(67,lQ r),(68,i64 (r.length:Nat)),(69,i64 (0:Nat))],st:=[((0,0),⟨28,3,[rat t.q]⟩),((1,3),⟨26,2,[int (U:Int)]⟩)],g:=9 }
      |m+1=>{ fr:=[(0,lT T),(2,i64 24),(4,.ptr (0,0) 0 0),(9,.ptr (1,3) 0 0),(15,nilA),(18,.own (5,1) (m+1)),(61,lT T),(62,i64 (T.length:Nat)),(63,i64 (0:Nat)),(67,lQ r),(68,i64 (r.length:Nat)),(69,i64 (m+1:Nat))],st:=[((5,1),⟨185,2,tRr U t r (m+1)⟩),((0,0),⟨28,3,[rat t.q]⟩),((1,3),⟨26,2,[int (U:Int)]⟩)],g:=9 }) (fun j=>r.length-j) 0 (Nat.zero_le _) ?_ ?_)
     ·repeat' (first | exact trivial | exact .inl ⟨.refl _,rfl⟩ | exact⟨.same rfl rfl,x_N ,Nat.le_of_ble_eq_true rfl⟩ | exact⟨_,rfl⟩ | exact .inl ⟨.of_eq (congrArg i64 (Eq.trans (wI (by omega) (by omega)) (by omega))),rfl⟩ | exact rfl | exact⟨.same rfl (lt_map (fun _=>rfl) _),x_N,x_L⟩ | exact x_N | exact Nat.le_of_ble_eq_true rfl | refine⟨?_,?_⟩ | fail)
     intro j hjl;cases j with
     |zero =>
      have hj:0<r.length:=hr0;repeat ((first | refine .goF rfl (by kernel_rfl) ?_ | refine .endF rfl (by kernel_rfl) ?_ | refine⟨by kernel_rfl,?_⟩ | rw[decide_eq_true (by omega)] | rw[decide_eq_false (by omega)] | fail); conv=>whnf)
      refine .cut (fun _:Unit=>True) (fun _=>{ ren:=[((16,8),(5,1))],fr:=[(0,lT T),(2,i64 24),(4,.ptr (0,0) 0 0),(9,.ptr (1,3) 0 0),(15,nilA),(18,.own (5,1) (0+1)),(61,lT T),(62,i64 (T.length:Nat)),(63,i64 (0:Nat)),(67,lQ r),(68,i64 (r.length:Nat)),(69,i64 (0:Nat))],st:=[((5,1),⟨185,2,tRr U t r (0+1)⟩),((0,0),⟨28,3,[rat t.q]⟩),((1,3),⟨26,2,[int (U:Int)]⟩)],g:=60 }) ?_ ?_
      ·refine .block ?_;obtain⟨x,hxe⟩:∃ x,r[0]=x:=⟨_,rfl⟩
       have hxj:x∈r:=by rw[<- hxe]; exact List.getElem_mem hj
       have hI:(r.map ratv)[((0:Nat):Int).toNat]?=some (rat x.q):=by rw[Int.toNat_natCast,List.getElem?_map,List.getElem?_eq_getElem hj,hxe]; rfl
       have hS:=tRr_succ (U:=U) (t:=t) hj;rw[hxe] at hS;have zx:=h.sz r hrp x hxj;have zt:=h.st;have p1:(x.q.num*t.q.num).natAbs<2^(32+32):=by rw[Int.natAbs_mul]; exact mul_lt_pow zx.1 zt.1
       have p2:x.q.den*t.q.den<2^(32+32):=mul_lt_pow zx.2 zt.2;have p3:U/(x.q.den*t.q.den)<2^320:=Nat.lt_of_le_of_lt (Nat.div_le_self _ _) hU;have p4:(zE U t x).natAbs<2^(32+32+320):=by
        unfold zE;rw[Int.natAbs_mul];exact mul_lt_pow p1 p3
       have M1:=c_wMulZ x.q.num t.q.num x.hn t.hn (lt_big p1 (by decide));have M2:=c_lMulN x.q.den t.q.den x.hd t.hd (lt_big p2 (by decide));have M3:=c_wNat (x.q.den*t.q.den) (lt_big p2 (by decide));have M4:=c_wDivN U (x.q.den*t.q.den) hUB (lt_big p2 (by decide)) (Nat.mul_pos x.q.den_pos t.q.den_pos);have M5:ACalls prog 91 [int (x.q.num*t.q.num),int ((U/(x.q.den*t.q.den):Nat):Int)] (.tup [int (zE U t x),i64 0]):=by
        have C:=c_wMulZ (x.q.num*t.q.num) ((U/(x.q.den*t.q.den):Nat):Int) (lt_big p1 (by decide)) (lt_big p3 (by decide)) (lt_big (k:=32+32+320) (by unfold zE at p4; exact p4) (by decide));unfold zE;exact C
       have M6:=c_rOfN (zE U t x).natAbs (lt_big p4 (by decide));clear zx zt p1 p2 p3 p4;repeat ((first | refine .goF rfl (by kernel_rfl) ?_ | refine .endF rfl (by kernel_rfl) ?_ | refine callE M1 rfl rfl ?_ | refine callE M2 rfl rfl ?_ | refine callE M3 rfl rfl ?_ | refine callE M4 rfl rfl ?_ | refine callE M5 rfl rfl ?_ | refine callE M6 rfl rfl ?_ | refine⟨_,⟨by omega,hI,rfl,rfl⟩,?_⟩ | refine⟨⟨by show 0<1; decide,by show 1<=1099511627776; decide,one_elB rfl⟩,?_⟩ | refine⟨by kernel_rfl,?_⟩ | rw[decide_eq_true (by omega)] | rw[decide_eq_false (by omega)] | fail); conv=>whnf)
       refine⟨(),trivial,?_⟩;repeat' (first | exact trivial | exact .inl ⟨.refl _,rfl⟩ | exact⟨.same rfl rfl,x_N ,Nat.le_of_ble_eq_true rfl⟩ | exact⟨_,rfl⟩ | exact .inl ⟨.of_eq (congrArg i64 (Eq.trans (wI (by omega) (by omega)) (by omega))),rfl⟩ | exact rfl | exact .inr (.inr (.own (5,1) (0+1) rfl)) | exact .inr (.inr (.own (5,0) (0) rfl)) | exact⟨.same (congrArg (fun z=>some (Row.mk 185 2 z)) hS) (ok_map (fun _=>rfl) (fun _=>rfl) _),x_N,x_L⟩ | exact⟨.same rfl (ok_map (fun _=>rfl) (fun _=>rfl) _),x_N,x_L⟩ | exact x_N | exact Nat.le_of_ble_eq_true rfl | refine⟨?_,?_⟩ | fail)
      ·rintro⟨⟩ _;repeat ((first | refine .goF rfl (by kernel_rfl) ?_ | refine .endF rfl (by kernel_rfl) ?_ | refine⟨by kernel_rfl,?_⟩ | rw[decide_eq_true (by omega)] | rw[decide_eq_false (by omega)] | fail); conv=>whnf)
       refine⟨0+1,hj,?_,by show r.length-(0+1)<r.length-(0); omega⟩;repeat' (first | exact trivial | exact .inl ⟨.refl _,rfl⟩ | exact⟨.same rfl rfl,x_N ,Nat.le_of_ble_eq_true rfl⟩ | exact⟨_,rfl⟩ | exact .inl ⟨.of_eq (congrArg i64 (Eq.trans (wI (by omega) (by omega)) (by omega))),rfl⟩ | exact rfl | exact⟨.same rfl (lt_map (fun _=>rfl) _),x_N,x_L⟩ | exact x_N | exact Nat.le_of_ble_eq_true rfl | refine⟨?_,?_⟩ | fail)
     |succ m =>
      repeat ((first | refine .goF rfl (by kernel_rfl) ?_ | refine .endF rfl (by kernel_rfl) ?_ | refine⟨by kernel_rfl,?_⟩ | rw[decide_eq_true (by omega)] | rw[decide_eq_false (by omega)] | fail); conv=>whnf)
      refine Br.mk (fun q'=>?_) (fun q'=>?_)
      ·have hj:m+1<r.length:=by
        have:=of_decide_eq_true q';omega
       clear q';conv=>whnf
       refine .cut (fun _:Unit=>True) (fun _=>{ ren:=[((16,8),(5,1))],fr:=[(0,lT T),(2,i64 24),(4,.ptr (0,0) 0 0),(9,.ptr (1,3) 0 0),(15,nilA),(18,.own (5,1) (m+1+1)),(61,lT T),(62,i64 (T.length:Nat)),(63,i64 (0:Nat)),(67,lQ r),(68,i64 (r.length:Nat)),(69,i64 (m+1:Nat))],st:=[((5,1),⟨185,2,tRr U t r (m+1+1)⟩),((0,0),⟨28,3,[rat t.q]⟩),((1,3),⟨26,2,[int (U:Int)]⟩)],g:=60 }) ?_ ?_
       ·refine .block ?_;obtain⟨x,hxe⟩:∃ x,r[m+1]=x:=⟨_,rfl⟩
        have hxj:x∈r:=by rw[<- hxe]; exact List.getElem_mem hj
        have hI:(r.map ratv)[((m+1:Nat):Int).toNat]?=some (rat x.q):=by rw[Int.toNat_natCast,List.getElem?_map,List.getElem?_eq_getElem hj,hxe]; rfl
        have hS:=tRr_succ (U:=U) (t:=t) hj;rw[hxe] at hS;have zx:=h.sz r hrp x hxj;have zt:=h.st;have p1:(x.q.num*t.q.num).natAbs<2^(32+32):=by rw[Int.natAbs_mul]; exact mul_lt_pow zx.1 zt.1
        have p2:x.q.den*t.q.den<2^(32+32):=mul_lt_pow zx.2 zt.2;have p3:U/(x.q.den*t.q.den)<2^320:=Nat.lt_of_le_of_lt (Nat.div_le_self _ _) hU;have p4:(zE U t x).natAbs<2^(32+32+320):=by
         unfold zE;rw[Int.natAbs_mul];exact mul_lt_pow p1 p3
        have M1:=c_wMulZ x.q.num t.q.num x.hn t.hn (lt_big p1 (by decide));have M2:=c_lMulN x.q.den t.q.den x.hd t.hd (lt_big p2 (by decide));have M3:=c_wNat (x.q.den*t.q.den) (lt_big p2 (by decide));have M4:=c_wDivN U (x.q.den*t.q.den) hUB (lt_big p2 (by decide)) (Nat.mul_pos x.q.den_pos t.q.den_pos);have M5:ACalls prog 91 [int (x.q.num*t.q.num),int ((U/(x.q.den*t.q.den):Nat):Int)] (.tup [int (zE U t x),i64 0]):=by
         have C:=c_wMulZ (x.q.num*t.q.num) ((U/(x.q.den*t.q.den):Nat):Int) (lt_big p1 (by decide)) (lt_big p3 (by decide)) (lt_big (k:=32+32+320) (by unfold zE at p4; exact p4) (by decide));unfold zE;exact C
        have M6:=c_rOfN (zE U t x).natAbs (lt_big p4 (by decide));clear zx zt p1 p2 p3 p4;repeat ((first | refine .goF rfl (by kernel_rfl) ?_ | refine .endF rfl (by kernel_rfl) ?_ | refine callE M1 rfl rfl ?_ | refine callE M2 rfl rfl ?_ | refine callE M3 rfl rfl ?_ | refine callE M4 rfl rfl ?_ | refine callE M5 rfl rfl ?_ | refine callE M6 rfl rfl ?_ | refine⟨_,⟨by omega,hI,rfl,rfl⟩,?_⟩ | refine⟨⟨tRr_len (by omega),rfl,rfl,by show m+1+1<=1099511627776; omega,one_elB rfl⟩,?_⟩ | refine⟨by kernel_rfl,?_⟩ | rw[decide_eq_true (by omega)] | rw[decide_eq_false (by omega)] | fail); conv=>whnf)
        refine⟨(),trivial,?_⟩;repeat' (first | exact trivial | exact .inl ⟨.refl _,rfl⟩ | exact⟨.same rfl rfl,x_N ,Nat.le_of_ble_eq_true rfl⟩ | exact⟨_,rfl⟩ | exact .inl ⟨.of_eq (congrArg i64 (Eq.trans (wI (by omega) (by omega)) (by omega))),rfl⟩ | exact rfl | exact .inr (.inr (.own (5,1) (m+1+1) rfl)) | exact .inr (.inr (.own (5,0) (0) rfl)) | exact⟨.same (congrArg (fun z=>some (Row.mk 185 2 z)) hS) (ok_map (fun _=>rfl) (fun _=>rfl) _),x_N,x_L⟩ | exact⟨.same rfl (ok_map (fun _=>rfl) (fun _=>rfl) _),x_N,x_L⟩ | exact x_N | exact Nat.le_of_ble_eq_true rfl | refine⟨?_,?_⟩ | fail)
       ·rintro⟨⟩ _;repeat ((first | refine .goF rfl (by kernel_rfl) ?_ | refine .endF rfl (by kernel_rfl) ?_ | refine⟨by kernel_rfl,?_⟩ | rw[decide_eq_true (by omega)] | rw[decide_eq_false (by omega)] | fail); conv=>whnf)
        refine⟨m+1+1,hj,?_,by show r.length-(m+1+1)<r.length-(m+1); omega⟩;repeat' (first | exact trivial | exact .inl ⟨.refl _,rfl⟩ | exact⟨.same rfl rfl,x_N ,Nat.le_of_ble_eq_true rfl⟩ | exact⟨_,rfl⟩ | exact .inl ⟨.of_eq (congrArg i64 (Eq.trans (wI (by omega) (by omega)) (by omega))),rfl⟩ | exact rfl | exact⟨.same rfl (lt_map (fun _=>rfl) _),x_N,x_L⟩ | exact x_N | exact Nat.le_of_ble_eq_true rfl | refine⟨?_,?_⟩ | fail)
      ·have hj:m+1=r.length:=by
        have:=of_decide_eq_false q';omega
       conv=>whnf
       refine⟨(),trivial,?_⟩;rw[<- hj];repeat' (first | exact trivial | exact .inl ⟨.refl _,rfl⟩ | exact⟨.same rfl rfl,x_N ,Nat.le_of_ble_eq_true rfl⟩ | exact⟨_,rfl⟩ | exact .inl ⟨.of_eq (congrArg i64 (Eq.trans (wI (by omega) (by omega)) (by omega))),rfl⟩ | exact rfl | exact⟨.same rfl (lt_map (fun _=>rfl) _),x_N,x_L⟩ | exact x_N | exact Nat.le_of_ble_eq_true rfl | refine⟨?_,?_⟩ | fail)
    ·rintro⟨⟩ _;refine .weaken (i:={ F:=[(5,1)],fr:=[(0,lT T),(2,i64 24),(4,.ptr (0,0) 0 0),(9,.ptr (1,3) 0 0),(15,nilA),(18,rX (r.map (xE U t))),(61,lT T),(62,i64 (T.length:Nat)),(63,i64 (0:Nat))],st:=[((0,0),⟨28,3,[rat t.q]⟩),((1,3),⟨26,2,[int (U:Int)]⟩)],g:=20 }) ?_ ?_
     ·repeat' (first | exact trivial | exact .inl ⟨.refl _,rfl⟩ | exact⟨.same rfl rfl,x_N ,Nat.le_of_ble_eq_true rfl⟩ | exact⟨_,rfl⟩ | exact .inl ⟨.of_eq (congrArg i64 (Eq.trans (wI (by omega) (by omega)) (by omega))),rfl⟩ | exact rfl | exact .inr (.inl (.own2 (.head _) rfl (tRr_len (Nat.le_refl _)) (tRr_cl _ _ _ _) (AV.sl.inj tRr_all))) | exact⟨.same rfl rfl,by show ((0,0):Rid)∉[((5,1):Rid)]; decide,x_L⟩ | exact⟨.same rfl rfl,by show ((1,3):Rid)∉[((5,1):Rid)]; decide,x_L⟩ | exact⟨.same rfl (lt_map (fun _=>rfl) _),by show ((5,0):Rid)∉[((5,1):Rid)]; decide,x_L⟩ | exact x_N | exact Nat.le_of_ble_eq_true rfl | refine⟨?_,?_⟩ | fail)
     repeat ((first | refine .goF rfl (by kernel_rfl) ?_ | refine .endF rfl (by kernel_rfl) ?_ | refine⟨⟨by show 0<1; decide,by show 1<=1099511627776; decide,trivial⟩,?_⟩ | refine⟨by kernel_rfl,?_⟩ | rw[decide_eq_true (by omega)] | rw[decide_eq_false (by omega)] | fail); conv=>whnf)
     refine⟨(),trivial,?_⟩;repeat' (first | exact trivial | exact .inl ⟨.refl _,rfl⟩ | exact⟨.same rfl rfl,x_N ,Nat.le_of_ble_eq_true rfl⟩ | exact⟨_,rfl⟩ | exact .inl ⟨.of_eq (congrArg i64 (Eq.trans (wI (by omega) (by omega)) (by omega))),rfl⟩ | exact rfl | exact .inr (.inr (.own (5,0) (0+1) rfl)) | exact⟨.same (congrArg (fun z=>some (Row.mk 178 1 z)) hS') (ok_map (fun _=>rfl) (fun _=>rfl) _),x_N,x_L⟩ | exact x_N | exact Nat.le_of_ble_eq_true rfl | refine⟨?_,?_⟩ | fail)
   ·rintro⟨⟩ _;repeat ((first | refine .goF rfl (by kernel_rfl) ?_ | refine .endF rfl (by kernel_rfl) ?_ | refine⟨by kernel_rfl,?_⟩ | rw[decide_eq_true (by omega)] | rw[decide_eq_false (by omega)] | fail); conv=>whnf)
    refine⟨0+1,hi',?_,by show T.length-(0+1)<T.length-0; omega⟩;repeat' (first | exact trivial | exact .inl ⟨.refl _,rfl⟩ | exact⟨.same rfl rfl,x_N ,Nat.le_of_ble_eq_true rfl⟩ | exact⟨_,rfl⟩ | exact .inl ⟨.of_eq (congrArg i64 (Eq.trans (wI (by omega) (by omega)) (by omega))),rfl⟩ | exact rfl | exact⟨.same rfl (lt_map (fun _=>rfl) _),x_N,x_L⟩ | exact x_N | exact Nat.le_of_ble_eq_true rfl | refine⟨?_,?_⟩ | fail)
  |succ n =>
   repeat ((first | refine .goF rfl (by kernel_rfl) ?_ | refine .endF rfl (by kernel_rfl) ?_ | refine⟨by kernel_rfl,?_⟩ | rw[decide_eq_true (by omega)] | rw[decide_eq_false (by omega)] | fail); conv=>whnf)
   refine Br.mk (fun q'=>?_) (fun q'=>?_)
   ·have hi':n+1<T.length:=by
     have:=of_decide_eq_true q';omega
    clear q';obtain⟨r,hre⟩:∃ r,T[n+1]=r:=⟨_,rfl⟩
    conv=>whnf
    refine .cut (fun _:Unit=>True) (fun _=>{ ren:=[((20,3),(5,0))],fr:=[(0,lT T),(2,i64 24),(4,.ptr (0,0) 0 0),(9,.ptr (1,3) 0 0),(15,.own (5,0) (n+1+1)),(61,lT T),(62,i64 (T.length:Nat)),(63,i64 (n+1:Nat))],st:=[((5,0),⟨178,1,tRs U t T (n+1+1)⟩),((0,0),⟨28,3,[rat t.q]⟩),((1,3),⟨26,2,[int (U:Int)]⟩)],g:=60 }) ?_ ?_
    ·refine .block ?_;have hrp:r∈T:=by rw[<- hre]; exact List.getElem_mem hi'
     have hr0:0<r.length:=by rw[h.sq.2 r hrp]; exact k1
     have hr1:r.length<=3:=by rw[h.sq.2 r hrp]; exact k3
     have hI':(T.map lQ)[((n+1:Nat):Int).toNat]?=some (lQ r):=by rw[Int.toNat_natCast,List.getElem?_map,List.getElem?_eq_getElem hi',hre]; rfl
     have lr:(((r.map ratv).length:Nat):Int)=(r.length:Int):=by simp
     have hS':=tRs_succ (U:=U) (t:=t) hi';rw[hre] at hS';repeat ((first | refine .goF rfl (by kernel_rfl) ?_ | refine .endF rfl (by kernel_rfl) ?_ | refine⟨_,⟨by omega,hI',rfl,rfl⟩,?_⟩ | refine⟨by kernel_rfl,?_⟩ | rw[decide_eq_true (by omega)] | rw[decide_eq_false (by omega)] | fail); conv=>whnf)
     refine .cut (fun _:Unit=>True) (fun _=>{ fr:=[(0,lT T),(2,i64 24),(4,.ptr (0,0) 0 0),(9,.ptr (1,3) 0 0),(15,.own (5,0) (n+1)),(18,.own (5,1) r.length),(61,lT T),(62,i64 (T.length:Nat)),(63,i64 (n+1:Nat))],st:=[((5,1),⟨185,2,tRr U t r r.length⟩),((0,0),⟨28,3,[rat t.q]⟩),((1,3),⟨26,2,[int (U:Int)]⟩),((5,0),⟨178,1,tRs U t T (n+1)⟩)],g:=60 }) ?_ ?_
     ·repeat ((first | refine .goF rfl (by kernel_rfl) ?_ | refine .endF rfl (by kernel_rfl) ?_ | refine⟨by kernel_rfl,?_⟩ | rw[decide_eq_true (by omega)] | rw[decide_eq_false (by omega)] | fail); conv=>whnf)
      rw[lr];refine .block (.loop (fun j:Nat=>j<=r.length) (fun j=>match j with
       |0=>{ fr:=[(0,lT T),(2,i64 24),(4,.ptr (0,0) 0 0),(9,.ptr (1,3) 0 0),(15,.own (5,0) (n+1)),(18,nilA),(61,lT T),(62,i64 (T.length:Nat)),(63,i64 (n+1:Nat)),(67,lQ r),(68,i64 (r.length:Nat)),(69,i64 (0:Nat))],st:=[((0,0),⟨28,3,[rat t.q]⟩),((1,3),⟨26,2,[int (U:Int)]⟩),((5,0),⟨178,1,tRs U t T (n+1)⟩)],g:=9 }
       |m+1=>{ fr:=[(0,lT T),(2,i64 24),(4,.ptr (0,0) 0 0),(9,.ptr (1,3) 0 0),(15,.own (5,0) (n+1)),(18,.own (5,1) (m+1)),(61,lT T),(62,i64 (T.length:Nat)),(63,i64 (n+1:Nat)),(67,lQ r),(68,i64 (r.length:Nat)),(69,i64 (m+1:Nat))],st:=[((5,1),⟨185,2,tRr U t r (m+1)⟩),((0,0),⟨28,3,[rat t.q]⟩),((1,3),⟨26,2,[int (U:Int)]⟩),((5,0),⟨178,1,tRs U t T (n+1)⟩)],g:=9 }) (fun j=>r.length-j) 0 (Nat.zero_le _) ?_ ?_)
      ·repeat' (first | exact trivial | exact .inl ⟨.refl _,rfl⟩ | exact⟨.same rfl rfl,x_N ,Nat.le_of_ble_eq_true rfl⟩ | exact⟨_,rfl⟩ | exact .inl ⟨.of_eq (congrArg i64 (Eq.trans (wI (by omega) (by omega)) (by omega))),rfl⟩ | exact rfl | exact⟨.same rfl (lt_map (fun _=>rfl) _),x_N,x_L⟩ | exact x_N | exact Nat.le_of_ble_eq_true rfl | refine⟨?_,?_⟩ | fail)
      intro j hjl;cases j with
      |zero =>
       have hj:0<r.length:=hr0;repeat ((first | refine .goF rfl (by kernel_rfl) ?_ | refine .endF rfl (by kernel_rfl) ?_ | refine⟨by kernel_rfl,?_⟩ | rw[decide_eq_true (by omega)] | rw[decide_eq_false (by omega)] | fail); conv=>whnf)
       refine .cut (fun _:Unit=>True) (fun _=>{ ren:=[((16,8),(5,1))],fr:=[(0,lT T),(2,i64 24),(4,.ptr (0,0) 0 0),(9,.ptr (1,3) 0 0),(15,.own (5,0) (n+1)),(18,.own (5,1) (0+1)),(61,lT T),(62,i64 (T.length:Nat)),(63,i64 (n+1:Nat)),(67,lQ r),(68,i64 (r.length:Nat)),(69,i64 (0:Nat))],st:=[((5,1),⟨185,2,tRr U t r (0+1)⟩),((0,0),⟨28,3,[rat t.q]⟩),((1,3),⟨26,2,[int (U:Int)]⟩),((5,0),⟨178,1,tRs U t T (n+1)⟩)],g:=60 }) ?_ ?_
       ·refine .block ?_;obtain⟨x,hxe⟩:∃ x,r[0]=x:=⟨_,rfl⟩
        have hxj:x∈r:=by rw[<- hxe]; exact List.getElem_mem hj
        have hI:(r.map ratv)[((0:Nat):Int).toNat]?=some (rat x.q):=by rw[Int.toNat_natCast,List.getElem?_map,List.getElem?_eq_getElem hj,hxe]; rfl
        have hS:=tRr_succ (U:=U) (t:=t) hj;rw[hxe] at hS;have zx:=h.sz r hrp x hxj;have zt:=h.st;have p1:(x.q.num*t.q.num).natAbs<2^(32+32):=by rw[Int.natAbs_mul]; exact mul_lt_pow zx.1 zt.1
        have p2:x.q.den*t.q.den<2^(32+32):=mul_lt_pow zx.2 zt.2;have p3:U/(x.q.den*t.q.den)<2^320:=Nat.lt_of_le_of_lt (Nat.div_le_self _ _) hU;have p4:(zE U t x).natAbs<2^(32+32+320):=by
         unfold zE;rw[Int.natAbs_mul];exact mul_lt_pow p1 p3
        have M1:=c_wMulZ x.q.num t.q.num x.hn t.hn (lt_big p1 (by decide));have M2:=c_lMulN x.q.den t.q.den x.hd t.hd (lt_big p2 (by decide));have M3:=c_wNat (x.q.den*t.q.den) (lt_big p2 (by decide));have M4:=c_wDivN U (x.q.den*t.q.den) hUB (lt_big p2 (by decide)) (Nat.mul_pos x.q.den_pos t.q.den_pos);have M5:ACalls prog 91 [int (x.q.num*t.q.num),int ((U/(x.q.den*t.q.den):Nat):Int)] (.tup [int (zE U t x),i64 0]):=by
         have C:=c_wMulZ (x.q.num*t.q.num) ((U/(x.q.den*t.q.den):Nat):Int) (lt_big p1 (by decide)) (lt_big p3 (by decide)) (lt_big (k:=32+32+320) (by unfold zE at p4; exact p4) (by decide));unfold zE;exact C
        have M6:=c_rOfN (zE U t x).natAbs (lt_big p4 (by decide));clear zx zt p1 p2 p3 p4;repeat ((first | refine .goF rfl (by kernel_rfl) ?_ | refine .endF rfl (by kernel_rfl) ?_ | refine callE M1 rfl rfl ?_ | refine callE M2 rfl rfl ?_ | refine callE M3 rfl rfl ?_ | refine callE M4 rfl rfl ?_ | refine callE M5 rfl rfl ?_ | refine callE M6 rfl rfl ?_ | refine⟨_,⟨by omega,hI,rfl,rfl⟩,?_⟩ | refine⟨⟨by show 0<1; decide,by show 1<=1099511627776; decide,one_elB rfl⟩,?_⟩ | refine⟨by kernel_rfl,?_⟩ | rw[decide_eq_true (by omega)] | rw[decide_eq_false (by omega)] | fail); conv=>whnf)
        refine⟨(),trivial,?_⟩;repeat' (first | exact trivial | exact .inl ⟨.refl _,rfl⟩ | exact⟨.same rfl rfl,x_N ,Nat.le_of_ble_eq_true rfl⟩ | exact⟨_,rfl⟩ | exact .inl ⟨.of_eq (congrArg i64 (Eq.trans (wI (by omega) (by omega)) (by omega))),rfl⟩ | exact rfl | exact .inr (.inr (.own (5,1) (0+1) rfl)) | exact .inr (.inr (.own (5,0) (n+1) rfl)) | exact⟨.same (congrArg (fun z=>some (Row.mk 185 2 z)) hS) (ok_map (fun _=>rfl) (fun _=>rfl) _),x_N,x_L⟩ | exact⟨.same rfl (ok_map (fun _=>rfl) (fun _=>rfl) _),x_N,x_L⟩ | exact x_N | exact Nat.le_of_ble_eq_true rfl | refine⟨?_,?_⟩ | fail)
       ·rintro⟨⟩ _;repeat ((first | refine .goF rfl (by kernel_rfl) ?_ | refine .endF rfl (by kernel_rfl) ?_ | refine⟨by kernel_rfl,?_⟩ | rw[decide_eq_true (by omega)] | rw[decide_eq_false (by omega)] | fail); conv=>whnf)
        refine⟨0+1,hj,?_,by show r.length-(0+1)<r.length-(0); omega⟩;repeat' (first | exact trivial | exact .inl ⟨.refl _,rfl⟩ | exact⟨.same rfl rfl,x_N ,Nat.le_of_ble_eq_true rfl⟩ | exact⟨_,rfl⟩ | exact .inl ⟨.of_eq (congrArg i64 (Eq.trans (wI (by omega) (by omega)) (by omega))),rfl⟩ | exact rfl | exact⟨.same rfl (lt_map (fun _=>rfl) _),x_N,x_L⟩ | exact x_N | exact Nat.le_of_ble_eq_true rfl | refine⟨?_,?_⟩ | fail)
      |succ m =>
       repeat ((first | refine .goF rfl (by kernel_rfl) ?_ | refine .endF rfl (by kernel_rfl) ?_ | refine⟨by kernel_rfl,?_⟩ | rw[decide_eq_true (by omega)] | rw[decide_eq_false (by omega)] | fail); conv=>whnf)
       refine Br.mk (fun q'=>?_) (fun q'=>?_)
       ·have hj:m+1<r.length:=by
         have:=of_decide_eq_true q';omega
        clear q';conv=>whnf
        refine .cut (fun _:Unit=>True) (fun _=>{ ren:=[((16,8),(5,1))],fr:=[(0,lT T),(2,i64 24),(4,.ptr (0,0) 0 0),(9,.ptr (1,3) 0 0),(15,.own (5,0) (n+1)),(18,.own (5,1) (m+1+1)),(61,lT T),(62,i64 (T.length:Nat)),(63,i64 (n+1:Nat)),(67,lQ r),(68,i64 (r.length:Nat)),(69,i64 (m+1:Nat))],st:=[((5,1),⟨185,2,tRr U t r (m+1+1)⟩),((0,0),⟨28,3,[rat t.q]⟩),((1,3),⟨26,2,[int (U:Int)]⟩),((5,0),⟨178,1,tRs U t T (n+1)⟩)],g:=60 }) ?_ ?_
        ·refine .block ?_;obtain⟨x,hxe⟩:∃ x,r[m+1]=x:=⟨_,rfl⟩
         have hxj:x∈r:=by rw[<- hxe]; exact List.getElem_mem hj
         have hI:(r.map ratv)[((m+1:Nat):Int).toNat]?=some (rat x.q):=by rw[Int.toNat_natCast,List.getElem?_map,List.getElem?_eq_getElem hj,hxe]; rfl
         have hS:=tRr_succ (U:=U) (t:=t) hj;rw[hxe] at hS;have zx:=h.sz r hrp x hxj;have zt:=h.st;have p1:(x.q.num*t.q.num).natAbs<2^(32+32):=by rw[Int.natAbs_mul]; exact mul_lt_pow zx.1 zt.1
         have p2:x.q.den*t.q.den<2^(32+32):=mul_lt_pow zx.2 zt.2;have p3:U/(x.q.den*t.q.den)<2^320:=Nat.lt_of_le_of_lt (Nat.div_le_self _ _) hU;have p4:(zE U t x).natAbs<2^(32+32+320):=by
          unfold zE;rw[Int.natAbs_mul];exact mul_lt_pow p1 p3
         have M1:=c_wMulZ x.q.num t.q.num x.hn t.hn (lt_big p1 (by decide));have M2:=c_lMulN x.q.den t.q.den x.hd t.hd (lt_big p2 (by decide));have M3:=c_wNat (x.q.den*t.q.den) (lt_big p2 (by decide));have M4:=c_wDivN U (x.q.den*t.q.den) hUB (lt_big p2 (by decide)) (Nat.mul_pos x.q.den_pos t.q.den_pos);have M5:ACalls prog 91 [int (x.q.num*t.q.num),int ((U/(x.q.den*t.q.den):Nat):Int)] (.tup [int (zE U t x),i64 0]):=by
          have C:=c_wMulZ (x.q.num*t.q.num) ((U/(x.q.den*t.q.den):Nat):Int) (lt_big p1 (by decide)) (lt_big p3 (by decide)) (lt_big (k:=32+32+320) (by unfold zE at p4; exact p4) (by decide));unfold zE;exact C
         have M6:=c_rOfN (zE U t x).natAbs (lt_big p4 (by decide));clear zx zt p1 p2 p3 p4;repeat ((first | refine .goF rfl (by kernel_rfl) ?_ | refine .endF rfl (by kernel_rfl) ?_ | refine callE M1 rfl rfl ?_ | refine callE M2 rfl rfl ?_ | refine callE M3 rfl rfl ?_ | refine callE M4 rfl rfl ?_ | refine callE M5 rfl rfl ?_ | refine callE M6 rfl rfl ?_ | refine⟨_,⟨by omega,hI,rfl,rfl⟩,?_⟩ | refine⟨⟨tRr_len (by omega),rfl,rfl,by show m+1+1<=1099511627776; omega,one_elB rfl⟩,?_⟩ | refine⟨by kernel_rfl,?_⟩ | rw[decide_eq_true (by omega)] | rw[decide_eq_false (by omega)] | fail); conv=>whnf)
         refine⟨(),trivial,?_⟩;repeat' (first | exact trivial | exact .inl ⟨.refl _,rfl⟩ | exact⟨.same rfl rfl,x_N ,Nat.le_of_ble_eq_true rfl⟩ | exact⟨_,rfl⟩ | exact .inl ⟨.of_eq (congrArg i64 (Eq.trans (wI (by omega) (by omega)) (by omega))),rfl⟩ | exact rfl | exact .inr (.inr (.own (5,1) (m+1+1) rfl)) | exact .inr (.inr (.own (5,0) (n+1) rfl)) | exact⟨.same (congrArg (fun z=>some (Row.mk 185 2 z)) hS) (ok_map (fun _=>rfl) (fun _=>rfl) _),x_N,x_L⟩ | exact⟨.same rfl (ok_map (fun _=>rfl) (fun _=>rfl) _),x_N,x_L⟩ | exact x_N | exact Nat.le_of_ble_eq_true rfl | refine⟨?_,?_⟩ | fail)
        ·rintro⟨⟩ _;repeat ((first | refine .goF rfl (by kernel_rfl) ?_ | refine .endF rfl (by kernel_rfl) ?_ | refine⟨by kernel_rfl,?_⟩ | rw[decide_eq_true (by omega)] | rw[decide_eq_false (by omega)] | fail); conv=>whnf)
         refine⟨m+1+1,hj,?_,by show r.length-(m+1+1)<r.length-(m+1); omega⟩;repeat' (first | exact trivial | exact .inl ⟨.refl _,rfl⟩ | exact⟨.same rfl rfl,x_N ,Nat.le_of_ble_eq_true rfl⟩ | exact⟨_,rfl⟩ | exact .inl ⟨.of_eq (congrArg i64 (Eq.trans (wI (by omega) (by omega)) (by omega))),rfl⟩ | exact rfl | exact⟨.same rfl (lt_map (fun _=>rfl) _),x_N,x_L⟩ | exact x_N | exact Nat.le_of_ble_eq_true rfl | refine⟨?_,?_⟩ | fail)
       ·have hj:m+1=r.length:=by
         have:=of_decide_eq_false q';omega
        conv=>whnf
        refine⟨(),trivial,?_⟩;rw[<- hj];repeat' (first | exact trivial | exact .inl ⟨.refl _,rfl⟩ | exact⟨.same rfl rfl,x_N ,Nat.le_of_ble_eq_true rfl⟩ | exact⟨_,rfl⟩ | exact .inl ⟨.of_eq (congrArg i64 (Eq.trans (wI (by omega) (by omega)) (by omega))),rfl⟩ | exact rfl | exact⟨.same rfl (lt_map (fun _=>rfl) _),x_N,x_L⟩ | exact x_N | exact Nat.le_of_ble_eq_true rfl | refine⟨?_,?_⟩ | fail)
     ·rintro⟨⟩ _;refine .weaken (i:={ F:=[(5,1)],fr:=[(0,lT T),(2,i64 24),(4,.ptr (0,0) 0 0),(9,.ptr (1,3) 0 0),(15,.own (5,0) (n+1)),(18,rX (r.map (xE U t))),(61,lT T),(62,i64 (T.length:Nat)),(63,i64 (n+1:Nat))],st:=[((0,0),⟨28,3,[rat t.q]⟩),((1,3),⟨26,2,[int (U:Int)]⟩),((5,0),⟨178,1,tRs U t T (n+1)⟩)],g:=20 }) ?_ ?_
      ·repeat' (first | exact trivial | exact .inl ⟨.refl _,rfl⟩ | exact⟨.same rfl rfl,x_N ,Nat.le_of_ble_eq_true rfl⟩ | exact⟨_,rfl⟩ | exact .inl ⟨.of_eq (congrArg i64 (Eq.trans (wI (by omega) (by omega)) (by omega))),rfl⟩ | exact rfl | exact .inr (.inl (.own2 (.head _) rfl (tRr_len (Nat.le_refl _)) (tRr_cl _ _ _ _) (AV.sl.inj tRr_all))) | exact⟨.same rfl rfl,by show ((0,0):Rid)∉[((5,1):Rid)]; decide,x_L⟩ | exact⟨.same rfl rfl,by show ((1,3):Rid)∉[((5,1):Rid)]; decide,x_L⟩ | exact⟨.same rfl (lt_map (fun _=>rfl) _),by show ((5,0):Rid)∉[((5,1):Rid)]; decide,x_L⟩ | exact x_N | exact Nat.le_of_ble_eq_true rfl | refine⟨?_,?_⟩ | fail)
      repeat ((first | refine .goF rfl (by kernel_rfl) ?_ | refine .endF rfl (by kernel_rfl) ?_ | refine⟨⟨tRs_len (by omega),rfl,rfl,by show n+1+1<=1099511627776; omega,trivial⟩,?_⟩ | refine⟨by kernel_rfl,?_⟩ | rw[decide_eq_true (by omega)] | rw[decide_eq_false (by omega)] | fail); conv=>whnf)
      refine⟨(),trivial,?_⟩;repeat' (first | exact trivial | exact .inl ⟨.refl _,rfl⟩ | exact⟨.same rfl rfl,x_N ,Nat.le_of_ble_eq_true rfl⟩ | exact⟨_,rfl⟩ | exact .inl ⟨.of_eq (congrArg i64 (Eq.trans (wI (by omega) (by omega)) (by omega))),rfl⟩ | exact rfl | exact .inr (.inr (.own (5,0) (n+1+1) rfl)) | exact⟨.same (congrArg (fun z=>some (Row.mk 178 1 z)) hS') (ok_map (fun _=>rfl) (fun _=>rfl) _),x_N,x_L⟩ | exact x_N | exact Nat.le_of_ble_eq_true rfl | refine⟨?_,?_⟩ | fail)
    ·rintro⟨⟩ _;repeat ((first | refine .goF rfl (by kernel_rfl) ?_ | refine .endF rfl (by kernel_rfl) ?_ | refine⟨by kernel_rfl,?_⟩ | rw[decide_eq_true (by omega)] | rw[decide_eq_false (by omega)] | fail); conv=>whnf)
     refine⟨n+1+1,hi',?_,by show T.length-(n+1+1)<T.length-(n+1); omega⟩;repeat' (first | exact trivial | exact .inl ⟨.refl _,rfl⟩ | exact⟨.same rfl rfl,x_N ,Nat.le_of_ble_eq_true rfl⟩ | exact⟨_,rfl⟩ | exact .inl ⟨.of_eq (congrArg i64 (Eq.trans (wI (by omega) (by omega)) (by omega))),rfl⟩ | exact rfl | exact⟨.same rfl (lt_map (fun _=>rfl) _),x_N,x_L⟩ | exact x_N | exact Nat.le_of_ble_eq_true rfl | refine⟨?_,?_⟩ | fail)
   ·have hk:n+1=T.length:=by
     have:=of_decide_eq_false q';omega
    conv=>whnf
    refine⟨(),trivial,?_⟩;rw[<- hk];repeat' (first | exact trivial | exact .inl ⟨.refl _,rfl⟩ | exact⟨.same rfl rfl,x_N ,Nat.le_of_ble_eq_true rfl⟩ | exact⟨_,rfl⟩ | exact .inl ⟨.of_eq (congrArg i64 (Eq.trans (wI (by omega) (by omega)) (by omega))),rfl⟩ | exact rfl | exact⟨.same rfl (lt_map (fun _=>rfl) _),x_N,x_L⟩ | exact x_N | exact Nat.le_of_ble_eq_true rfl | refine⟨?_,?_⟩ | fail)
 ·rintro⟨⟩ _;refine .weaken (i:={ F:=[(5,0)],fr:=[(2,i64 24),(4,.ptr (0,0) 0 0),(9,.ptr (1,3) 0 0),(15,lX (tX U t T))],st:=[((0,0),⟨28,3,[rat t.q]⟩),((1,3),⟨26,2,[int (U:Int)]⟩)],g:=9 }) ?_ ?_
  ·repeat' (first | exact trivial | exact .inl ⟨.refl _,rfl⟩ | exact⟨.same rfl rfl,x_N ,Nat.le_of_ble_eq_true rfl⟩ | exact⟨_,rfl⟩ | exact .inl ⟨.of_eq (congrArg i64 (Eq.trans (wI (by omega) (by omega)) (by omega))),rfl⟩ | exact rfl | exact .inr (.inl (.own2 (.head _) rfl (tRs_len (Nat.le_refl _)) (tRs_cl _ _ _ _) (AV.sl.inj tRs_all))) | exact⟨.same rfl rfl,by show ((0,0):Rid)∉[((5,0):Rid)]; decide,x_L⟩ | exact⟨.same rfl rfl,by show ((1,3):Rid)∉[((5,0):Rid)]; decide,x_L⟩ | exact x_N | exact Nat.le_of_ble_eq_true rfl | refine⟨?_,?_⟩ | fail)
  have CBi:=c_Bits U hUB;have hbl:blen U<=320:=blen_le.2 hU;dsimp only;refine .gk ?_;conv=>whnf
  refine callS CBi rfl rfl ?_;conv=>whnf
  rw[show IntKind.wrap .i64 ((blen U:Int)*24)=((blen U*24:Nat):Int) from (wI (by omega) (by omega)).trans (by omega)];by_cases hb:8000<blen U*24
  ·rw[hbad hb,decide_eq_true (by omega)];conv=>whnf
   exact⟨.sh _ _ rfl .nil,.sh _ _ rfl .nil,fin rfl rfl,trivial⟩
  ·obtain⟨two,hs,hR⟩:=hgood (by omega);have hU3:U<2^333:=blen_le.1 (by omega);have hx:XT k 42 (tX U t T):=tX_xt h.sq u0 hU3 dU h.row;have hu8:Dg8 42 U:=by
    show _<256^42;have:(256:Nat)^42=8*2^333:=by decide +kernel
    omega
   have hm:(42+k+1)*23+1<=1059:=by omega
   obtain⟨a1,a2⟩:=xSt_dg2 (hi:=23) k1 (Nat.le_refl _) hx hu8 (by decide) 23;obtain⟨b1,b2⟩:=xSt_dg2 (hi:=24) k1 (Nat.le_refl _) hx hu8 (by decide) 23;have S1:=c_xSumk (U:=0) k1 k3 hx hu8 (first:=1) (.inl rfl);have S2:=c_xSumk (U:=0) k1 k3 hx hu8 (first:=2) (.inr rfl);have B1:=c_back13 (hi:=23) k1 k3 u0 (by decide) (a1.mono hm) (a2.mono (by decide)) (by decide);have B2:=c_back13 (hi:=24) k1 k3 u0 (by decide) (b1.mono hm) (b2.mono (by decide)) (by decide);have CO:=c_rOfN U hUB;have T2:Six (two13 T t):=⟨by rw[hs.tl0.1]; omega,hs.tl0.rows6 (by omega)⟩
   have CS:=c_mScale (two13 T t) t T2.1 T2.2;rw[hs.ts] at CS;rw[<- hO] at B1;rw[<- hW] at B2;rw[hR,decide_eq_false (by omega)];clear hbad hgood hR hO hW hs a1 a2 b1 b2 hx hu8;change ACalls prog _ _ (.tup [lX (xSt k (tX U t T) U 23 23).1,n8 (xSt k (tX U t T) U 23 23).2]) at S1;change ACalls prog _ _ (.tup [lX (xSt k (tX U t T) U 24 23).1,n8 (xSt k (tX U t T) U 24 23).2]) at S2;obtain⟨p1,hp1⟩:∃ p,(xSt k (tX U t T) U 23 23)=p:=⟨_,rfl⟩
   obtain⟨p2,hp2⟩:∃ p,(xSt k (tX U t T) U 24 23)=p:=⟨_,rfl⟩
   rw[hp1] at S1 B1;rw[hp2] at S2 B2;conv=>whnf
   repeat ((first | refine .goF rfl (by kernel_rfl) ?_ | refine .endF rfl (by kernel_rfl) ?_ | refine callE CO rfl rfl ?_ | refine callE S1 rfl rfl ?_ | refine callE S2 rfl rfl ?_ | refine callE B1 rfl rfl ?_ | refine callE B2 rfl rfl ?_ | refine callE CS rfl rfl ?_ | refine⟨by kernel_rfl,?_⟩ | rw[decide_eq_true (by omega)] | rw[decide_eq_false (by omega)] | fail); conv=>whnf)
   exact⟨fin rfl rfl,fin rfl rfl,fin rfl rfl,trivial⟩
end
end Go.Proofs.YtjdkdcmpifapeaaGreatDoor.Abs
