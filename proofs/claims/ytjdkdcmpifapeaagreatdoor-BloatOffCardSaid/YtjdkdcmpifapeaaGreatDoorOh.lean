/- girdlelaw19: its head; the greatest size. -/
import Derived.Test.YtjdkdcmpifapeaaGreatDoorOf
import Derived.Test.YtjdkdcmpifapeaaGreatDoorOg
set_option linter.unusedVariables false
set_option linter.unusedSectionVars false
set_option linter.unusedSimpArgs false
set_option maxHeartbeats 4000000
set_option maxRecDepth 20000
namespace Go.Proofs.YtjdkdcmpifapeaaGreatDoor.Abs
section
open Go Go.RowKit Go.Proofs.Tryz
theorem FrzV.agL {s:AS} {F:Rid->Prop} {cs ds:List AV} (h:frzL s F cs ds):FrzV s F (.agg cs) (.agg ds):=by
 have key:∀ {cs ds:List AV},frzL s F cs ds->cs.length=ds.length/\∀ (j:Nat) (x y:AV),cs[j]?=some x->ds[j]?=some y->FrzV s F x y:=by
  intro cs
  induction cs with
  |nil =>
   intro ds h;cases ds with
   |nil=>exact⟨rfl,fun j x y h=>by simp at h⟩
   |cons _ _=>exact h.elim
  |cons a cs ih =>
   intro ds h;cases ds with
   |nil=>exact h.elim
   |cons b ds =>
    obtain⟨h1,h2⟩:=ih h.2;refine⟨by simp[h1],fun j x y hx hy=>?_⟩;cases j with
    |zero=>simp at hx hy; subst hx hy; exact h.1
    |succ j=>exact h2 j x y (by simpa using hx) (by simpa using hy)
 exact .agg cs ds (key h).1 (key h).2
theorem own_one {s:AS} {F:Rid->Prop} {i:Rid} {r:Row} {a x:AV} (hF:F i) (h:s.st i=some r) (he:r.els=[a]) (h0:FrzV s F a x):FrzV s F (.own i 1) (.sl [x]) :=
 .own i 1 r [x] hF h (by rw[he]; rfl) rfl fun j u v hu hv=>by
  rw[he] at hu
  match j with
  |0=>cases hu; cases hv; exact h0
  |j+1=>cases hu
theorem c_bMake0 (m:MD) (d:FQ) (bits:Int) (CC:ACalls prog 34 [mdv m] (i64 0)) (hd:qSgn d<=0):ACalls prog 36 [mdv m,rat d.q,i64 bits] (.tup [stp bs0,i64 1]):=by
 have CS:=c_qSign d;obtain⟨sg,hsg⟩:∃ x,qSgn d=x:=⟨_,rfl⟩
 rw[hsg] at CS hd;have D1:decide (sg<=0)=true:=decide_eq_true hd;refine conP func36 rfl (by kernel_rfl) ?_;repeat ((first | refine .gF ?_ | refine .eF ?_ | refine cE CC ?_ | refine cE CS ?_ | rw[D1] | refine xK ?_ | rw[decide_eq_true (by omega)] | rw[decide_eq_false (by omega)]); conv=>whnf)
 exact⟨.sh _ _ rfl le_bs0,fin rfl rfl,trivial⟩
def one1:FQ:=qOf 1 1
def plM:MD:=⟨1,0,mOne 1,[[]],[one1],⟨[one1],[]⟩,⟨[],[]⟩,one1,one1,[]⟩
theorem plM_len:MLen plM:=by
 refine⟨by decide,by decide,by decide,⟨by kernel_rfl,?_⟩,⟨rfl,?_⟩,rfl,⟨rfl,by decide,fun r hr=>by cases hr⟩,⟨rfl,by decide,fun r hr=>by cases hr⟩⟩
 ·intro r hr;have h:(mOne 1).all (fun r=>r.length==1)=true:=by kernel_rfl
  have:=List.all_eq_true.1 h r hr;exact eq_of_beq this
 ·intro r hr;rw[List.mem_singleton.1 hr];rfl
theorem c_plain19:ACalls prog 115 [] (mdv plM):=by
 have CO:ACalls prog 20 [i64 1,i64 1] (rat one1.q):=c_qOf 1 1 (by decide) (by decide) (by decide) (by decide);have CM:=c_mOne 1;refine conP func115 rfl (by kernel_rfl) ?_;repeat ((first | refine .gF ?_ | refine .eF ?_ | refine cE CO ?_ | refine cE CM ?_ | refine⟨⟨by decide,rfl,by decide⟩,?_⟩ | refine xK ?_ | rw[decide_eq_true (by omega)] | rw[decide_eq_false (by omega)]); conv=>whnf)
 exact FrzV.agL ⟨.sh _ _ rfl (.refl _),.sh _ _ rfl (.refl _),.sh _ _ rfl (.refl _),own_one trivial rfl rfl (.sh _ _ rfl .nil),.sh _ _ rfl (.refl _),.sh _ _ rfl (.refl _),.sh _ _ rfl .nil,.sh _ _ rfl .nil,.sh _ _ rfl .nil,.sh _ _ rfl (.refl _),.sh _ _ rfl (.refl _),.sh _ _ rfl (.refl _),.sh _ _ rfl (.refl _),.sh _ _ rfl (.refl _),.sh _ _ rfl (.refl _),.sh _ _ rfl .nil,trivial⟩
theorem one1_pos:¬ qSgn one1<=0:=by
 have:qSgn one1=1:=by kernel_rfl
 omega
theorem plM_chk:ACalls prog 34 [mdv plM] (i64 0):=c_mdOk plM plM_len one1_pos one1_pos ⟨1,by kernel_rfl⟩ ⟨by decide,fun c hc=>by cases hc⟩ (fun c hc=>by cases hc)
def plS:BS:=okOr bs0 (bMake 40 plM one1)
theorem plS_ok:errN (bMake 40 plM one1)=0:=by kernel_rfl
theorem plS_len:plS.mv.length=1/\plS.dr.c.length=1:=by
 have h1:Nat.beq plS.mv.length 1=true:=by kernel_rfl
 have h2:Nat.beq plS.dr.c.length 1=true:=by kernel_rfl
 exact⟨Nat.eq_of_beq_eq_true h1,Nat.eq_of_beq_eq_true h2⟩
def cmpP (d:FD) (n:Int):Int:=okOr 0 (dCmpQ d (qOf n 100000))
theorem pl_1:decide (cmpP plS.la 71828 > 0)=true:=by kernel_rfl
theorem pl_2:decide (cmpP plS.la 71829<0)=true:=by kernel_rfl
theorem pl_3:decide (cmpP plS.fi 143656 > 0)=true:=by kernel_rfl
theorem pl_4:decide (cmpP plS.fi 143658<0)=true:=by kernel_rfl
theorem c_biggest (l:List FQ) (hl:l.length<1000000):ACalls prog 40 [lQ l] (rat (bigg l).q):=by
 have hlen:(((l.map ratv).length:Nat):Int)=(l.length:Int):=by simp
 refine conP func40 rfl (by kernel_rfl) ?_;repeat ((first | refine .gF ?_ | refine .eF ?_ | refine cE c_qZero ?_ | refine xK ?_ | rw[decide_eq_true (by omega)] | rw[decide_eq_false (by omega)]); conv=>whnf)
 refine .cut (fun m:FQ=>m=bigg l) (fun m=>{ fr:=[(2,.ptr (0,0) 0 0),(3,.ptr (1,1) 0 0)],st:=[((0,0),⟨28,3,[AV.ofVal (ty 28).zero]⟩),((1,1),⟨28,3,[rat m.q]⟩)],g:=60 }) ?_ ?_
 ·repeat ((first | refine .gF ?_ | refine .eF ?_ | refine xK ?_ | rw[decide_eq_true (by omega)] | rw[decide_eq_false (by omega)]); conv=>whnf)
  rw[hlen];refine .block (.loop (fun x:Nat×FQ=>x.1<=l.length/\x.2=(l.take x.1).foldl bigStep q0) (fun x=>{ fr:=[(2,.ptr (0,0) 0 0),(3,.ptr (1,1) 0 0),(9,lQ l),(10,i64 (l.length:Nat)),(11,i64 (x.1:Nat))],st:=[((0,0),⟨28,3,[AV.ofVal (ty 28).zero]⟩),((1,1),⟨28,3,[rat x.2.q]⟩)],g:=9 }) (fun x=>l.length-x.1) (0,q0) ⟨Nat.zero_le _,rfl⟩ ?_ ?_)
  ·repeat' (first | exact trivial | exact .inl ⟨.refl _,rfl⟩ | exact⟨.same rfl rfl,nMb rfl,x_L⟩ | exact⟨_,rfl⟩ | exact x_W | exact rfl | exact nMb rfl | exact Nat.le_of_ble_eq_true rfl | refine⟨?_,?_⟩)
   trace_state
  rintro⟨i,m⟩ ⟨hi,hm⟩;dsimp only at hi hm ⊢;repeat ((first | refine .gF ?_ | refine .eF ?_ | refine xK ?_ | rw[decide_eq_true (by omega)] | rw[decide_eq_false (by omega)]); conv=>whnf)
  refine Br.mk (fun q=>?_) (fun q=>?_)
  ·have hi':i<l.length:=by
    have:=of_decide_eq_true q;omega
   clear q;obtain⟨y,hy⟩:∃ y,l[i]=y:=⟨_,rfl⟩
   have hI:(l.map ratv)[((i:Nat):Int).toNat]?=some (ratv y):=by rw[Int.toNat_natCast,List.getElem?_map,List.getElem?_eq_getElem hi',hy]; rfl
   have hn:bigStep m y=(l.take (i+1)).foldl bigStep q0:=by rw[foldl_take hi',<- hm,hy]
   have C1:=c_qAbs y;have C2:=c_qCompare (qAbs y) m;conv=>whnf
   refine .cut (fun w:FQ=>w=bigStep m y) (fun w=>{ fr:=[(2,.ptr (0,0) 0 0),(3,.ptr (1,1) 0 0),(9,lQ l),(10,i64 (l.length:Nat)),(11,i64 (i:Nat))],st:=[((0,0),⟨28,3,[AV.ofVal (ty 28).zero]⟩),((1,1),⟨28,3,[rat w.q]⟩)],g:=9 }) ?_ ?_
   ·refine .block ?_;cases hc:qCmp (qAbs y) m with
    |error e =>
     rw[hc] at C2;repeat ((first | refine .gF ?_ | refine .eF ?_ | refine cE C1 ?_ | refine cE C2 ?_ | refine⟨_,⟨by omega,hI,rfl,rfl⟩,?_⟩ | refine xK ?_ | rw[decide_eq_true (by omega)] | rw[decide_eq_false (by omega)]); conv=>whnf)
     refine⟨m,by unfold bigStep; rw[hc],?_⟩;repeat' (first | exact trivial | exact .inl ⟨.refl _,rfl⟩ | exact⟨.same rfl rfl,nMb rfl,x_L⟩ | exact⟨_,rfl⟩ | exact x_W | exact rfl | exact nMb rfl | exact Nat.le_of_ble_eq_true rfl | refine⟨?_,?_⟩)
     trace_state
    |ok c =>
     rw[hc] at C2;change ACalls prog _ _ (.tup [i64 c,i64 0]) at C2;by_cases h0:c > 0
     ·repeat ((first | refine .gF ?_ | refine .eF ?_ | refine cE C1 ?_ | refine cE C2 ?_ | refine⟨_,⟨by omega,hI,rfl,rfl⟩,?_⟩ | rw[decide_eq_true h0] | refine xK ?_ | rw[decide_eq_true (by omega)] | rw[decide_eq_false (by omega)]); conv=>whnf)
      refine⟨qAbs y,by unfold bigStep; rw[hc]; exact (if_pos h0).symm,?_⟩;repeat' (first | exact trivial | exact .inl ⟨.refl _,rfl⟩ | exact⟨.same rfl rfl,nMb rfl,x_L⟩ | exact⟨_,rfl⟩ | exact x_W | exact rfl | exact nMb rfl | exact Nat.le_of_ble_eq_true rfl | refine⟨?_,?_⟩)
      trace_state
     ·repeat ((first | refine .gF ?_ | refine .eF ?_ | refine cE C1 ?_ | refine cE C2 ?_ | refine⟨_,⟨by omega,hI,rfl,rfl⟩,?_⟩ | rw[decide_eq_false h0] | refine xK ?_ | rw[decide_eq_true (by omega)] | rw[decide_eq_false (by omega)]); conv=>whnf)
      refine⟨m,by unfold bigStep; rw[hc]; exact (if_neg h0).symm,?_⟩;repeat' (first | exact trivial | exact .inl ⟨.refl _,rfl⟩ | exact⟨.same rfl rfl,nMb rfl,x_L⟩ | exact⟨_,rfl⟩ | exact x_W | exact rfl | exact nMb rfl | exact Nat.le_of_ble_eq_true rfl | refine⟨?_,?_⟩)
      trace_state
   ·rintro w hw;dsimp only;repeat ((first | refine .gF ?_ | refine .eF ?_ | refine xK ?_ | rw[decide_eq_true (by omega)] | rw[decide_eq_false (by omega)]); conv=>whnf)
    refine⟨(i+1,w),⟨hi',hw.trans hn⟩,?_,by show l.length-(i+1)<l.length-i; omega⟩;repeat' (first | exact trivial | exact .inl ⟨.refl _,rfl⟩ | exact⟨.same rfl rfl,nMb rfl,x_L⟩ | exact⟨_,rfl⟩ | exact x_W | exact rfl | exact x_E ((wI (n:=(i:Int)+1) (by omega) (by omega)).trans (by simp)) | exact nMb rfl | exact Nat.le_of_ble_eq_true rfl | refine⟨?_,?_⟩)
    trace_state
  ·have hn:i=l.length:=by
    have:=of_decide_eq_false q;omega
   conv=>whnf
   refine⟨m,?_,?_⟩
   ·rw[hm,hn,List.take_length];rfl
   ·repeat' (first | exact trivial | exact .inl ⟨.refl _,rfl⟩ | exact⟨.same rfl rfl,nMb rfl,x_L⟩ | exact⟨_,rfl⟩ | exact x_W | exact rfl | exact nMb rfl | exact Nat.le_of_ble_eq_true rfl | refine⟨?_,?_⟩)
    trace_state
 ·rintro m hm;rw[hm];dsimp only;repeat ((first | refine .gF ?_ | refine .eF ?_ | refine xK ?_ | rw[decide_eq_true (by omega)] | rw[decide_eq_false (by omega)]); conv=>whnf)
  exact fin rfl rfl
end
end Go.Proofs.YtjdkdcmpifapeaaGreatDoor.Abs
