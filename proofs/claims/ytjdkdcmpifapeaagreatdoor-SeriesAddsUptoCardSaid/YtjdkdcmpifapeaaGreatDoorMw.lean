/- The laws of series: table. -/
import Derived.Test.YtjdkdcmpifapeaaGreatDoorMv
import Derived.Test.YtjdkdcmpifapeaaGreatDoorMn
set_option linter.unusedVariables false
set_option linter.unusedSectionVars false
set_option linter.unusedSimpArgs false
set_option maxHeartbeats 4000000
set_option maxRecDepth 10000
namespace Go.Proofs.YtjdkdcmpifapeaaGreatDoor.Abs
section
open Go Go.RowKit Go.Proofs.Tryz
attribute [local irreducible] zMul zAdd zLeft zRight fitZ qMake zDiv dMake dLevel dRound dNear dAdd dMul dRatio dCmp dMin dMax dAbs dLess qCmp sOut qAdd qMul sAdd sMul sNear qSum sHasQ sSize vEach vDot vNear vHolds vSame vScale vPlus vInner vTimes mScale mNorm qSgn
def slv (a:List RawQ):AV:=.sl (a.map rawv)
theorem tall_of_take {α:Type} {p:α->Bool} {l:List α} {i:Nat} (h:∀ x∈l.take i,p x=true) (hi:l.length<=i):l.all p=true:=by
 rw[List.take_of_length_le hi] at h;exact List.all_eq_true.2 h
def fit1 (x:RawQ):Bool:=decide (x.2.1.length<=1)&&(decide (x.2.2.length<=1)&&decide (rawCheck x=0))
def tRow (k:Nat) (l:List RawQ) (i:Nat):List RawQ:=(l.take (i*k+k)).drop (i*k)
def tRows (k:Nat) (l:List RawQ) (j:Nat):List (List RawQ):=(List.range j).map (tRow k l)
theorem tRow_len {k:Nat} {l:List RawQ} {i:Nat} (h:k*k<=l.length) (hi:i<k):(tRow k l i).length=k:=by
 have:i*k+k<=k*k:=by
  have:=Nat.mul_le_mul_right k (show i+1<=k from hi);rw[Nat.add_mul] at this;omega
 simp[tRow];omega
theorem tRows_succ {k:Nat} {l:List RawQ} {j:Nat}:tRows k l (j+1)=tRows k l j++[tRow k l j]:=by
 unfold tRows;rw[List.range_succ,List.map_append];rfl
def Tab (k:Nat) (l:List RawQ) (T:List (List FQ)):Prop:=(tRows k l k).map slv=T.map lQ/\Sqr k T/\∀ r∈T,∀ x∈r,sm 1 x
theorem fit1_q {x:RawQ} (hb:RawB x) (h:fit1 x=true):∃ a:FQ,rawQ a=x/\sm 1 a:=by
 unfold fit1 at h;simp only[Bool.and_eq_true,decide_eq_true_eq] at h;obtain⟨a,rfl⟩:=raw_q hb.2.2.1 hb.2.2.2 h.2.2;exact⟨a,rfl,h.1,h.2.1⟩
theorem fit1_all:∀ {l:List RawQ},(∀ x∈l,RawB x)->l.all fit1=true->∃ a:List FQ,l.map rawv=a.map ratv/\l.length=a.length/\∀ x∈a,sm 1 x
 |[],_,_=>⟨[],rfl,rfl,by simp⟩
 |x::l,hb,h=>by
  simp only[List.all_cons,Bool.and_eq_true] at h;obtain⟨a,ha,hs⟩:=fit1_q (hb x (by simp)) h.1;obtain⟨cv,h1,h2,h3⟩:=fit1_all (fun y hy=>hb y (by simp[hy])) h.2;refine⟨a::cv,by simp[h1,<- ha,rawv_rawQ],by simp[h2],fun y hy=>?_⟩;rcases List.mem_cons.1 hy with rfl | hy
  ·exact hs
  ·exact h3 y hy
theorem tab_ex {k:Nat} {l:List RawQ} (hb:∀ x∈l,RawB x) (hk:k*k<=l.length) (h:∀ i,i<k->(tRow k l i).all fit1=true):∃ T,Tab k l T:=by
 have key:∀ j,j<=k->∃ T:List (List FQ),(tRows k l j).map slv=T.map lQ/\T.length=j/\(∀ r∈T,r.length=k)/\∀ r∈T,∀ x∈r,sm 1 x:=by
  intro j
  induction j with
  |zero=>exact fun _=>⟨[],rfl,rfl,by simp,by simp⟩
  |succ j ih =>
   intro hj;obtain⟨T,t1,t2,t3,t4⟩:=ih (by omega);obtain⟨a,a1,a2,a3⟩:=fit1_all (fun x hx=>hb x (List.mem_of_mem_take (List.mem_of_mem_drop hx))) (h j (by omega));refine⟨T++[a],?_,by simp[t2],fun r hr=>?_,fun r hr=>?_⟩
   ·rw[tRows_succ,List.map_append,List.map_append,t1];show _++[slv (tRow k l j)]=_++[lQ a]
    have a1:(tRow k l j).map rawv=a.map ratv:=a1;unfold slv lQ;rw[a1]
   ·rcases List.mem_append.1 hr with hr | hr
    ·exact t3 r hr
    ·simp only[List.mem_singleton] at hr;rw[hr,<- a2];exact tRow_len hk (by omega)
   ·rcases List.mem_append.1 hr with hr | hr
    ·exact t4 r hr
    ·simp only[List.mem_singleton] at hr;rw[hr];exact a3
 obtain⟨T,t1,t2,t3,t4⟩:=key k (Nat.le_refl _);exact⟨T,t1,⟨t2,t3⟩,t4⟩
open Classical in
noncomputable def TabQ (k:Nat) (l:List RawQ):List (List FQ):=if h:∃ T,Tab k l T then Classical.choose h else []
theorem tabQ {k:Nat} {l:List RawQ} (h:∃ T,Tab k l T):Tab k l (TabQ k l):=by
 unfold TabQ;rw[dif_pos h];exact Classical.choose_spec h
def six:FQ:=qOf 6 1
def normB (m:List (List FQ)):Bool:=match mNorm m with
 |.error _=>false
 |.ok N=>match qCmp N six with
  |.error _=>false
  |.ok c=>decide (c<0)
def tabRes (T:List (List FQ)) (t:FQ):AV:=match mScale T t with
 |.error _=>.tup [.sl [],boo false]
 |.ok m=>.tup [lT T,boo (normB m)]
theorem c_table_bad (n:Int) (l:List RawQ) (t:RawQ) (hb:l.length<=9223372036854775807/\∀ x∈l,RawB x) (ht:RawB t)
  (h:n<1\/n > 3\/(l.length:Int)<n*n\/rawCheck t≠0\/t.2.1.length > 1\/t.2.2.length > 1\/(∃ a:FQ,rawQ a=t/\qSgn a<0)):ACalls prog 25 [i64 n,slv l,rawv t] (.tup [.sl [],boo false]):=by
 obtain⟨m,a,d⟩:=t;have hlen:(((l.map rawv).length:Nat):Int)=(l.length:Int):=by simp
 by_cases h1:n<1
 ·refine conN func25 rfl (by kernel_rfl) ?_;conv=>whnf
  rw[decide_eq_true h1];conv=>whnf
  exact⟨.sh _ _ rfl .nil,fin rfl rfl,trivial⟩
 by_cases h2:n > 3
 ·refine conN func25 rfl (by kernel_rfl) ?_;conv=>whnf
  rw[decide_eq_false h1];conv=>whnf
  rw[decide_eq_true h2];conv=>whnf
  exact⟨.sh _ _ rfl .nil,fin rfl rfl,trivial⟩
 obtain⟨k,rfl⟩:∃ k:Nat,n=(k:Int):=⟨n.toNat,by omega⟩
 have hkk:k*k<=9:=Nat.mul_le_mul (show k<=3 by omega) (show k<=3 by omega);have ekk:IntKind.i64.wrap ((k:Int)*(k:Int))=((k*k:Nat):Int):=(wI (by rw[<- Int.natCast_mul]; omega) (by rw[<- Int.natCast_mul]; omega)).trans (Int.natCast_mul k k).symm;rw[<- Int.natCast_mul] at h;by_cases h3:l.length<k*k
 ·refine conN func25 rfl (by kernel_rfl) ?_;conv=>whnf
  rw[decide_eq_false h1];conv=>whnf
  rw[decide_eq_false h2];conv=>whnf
  rw[ekk,hlen];rw[decide_eq_true (by omega)];conv=>whnf
  exact⟨.sh _ _ rfl .nil,fin rfl rfl,trivial⟩
 obtain⟨b1,b2,b3,b4⟩:=ht;have q1:(((a.map dg).length:Nat):Int)=(a.length:Int):=by simp
 have q2:(((d.map dg).length:Nat):Int)=(d.length:Int):=by simp
 obtain⟨c,C,hc⟩:∃ c,ACalls prog 16 [rawv (m,a,d)] (i64 c)/\rawCheck (m,a,d)=c:=⟨_,c_qCheck m a d b1 b2 b3 b4,rfl⟩
 rw[hc] at h;by_cases h4:c=0
 case neg =>
  refine conN func25 rfl (by kernel_rfl) ?_;conv=>whnf
  rw[decide_eq_false h1];conv=>whnf
  rw[decide_eq_false h2];conv=>whnf
  rw[ekk,hlen];rw[decide_eq_false (by omega)];conv=>whnf
  refine callS C rfl rfl ?_;conv=>whnf
  rw[show (c !=0)=true by simpa using h4];conv=>whnf
  exact⟨.sh _ _ rfl .nil,fin rfl rfl,trivial⟩
 subst h4;by_cases h5:a.length > 1
 ·refine conN func25 rfl (by kernel_rfl) ?_;conv=>whnf
  rw[decide_eq_false h1];conv=>whnf
  rw[decide_eq_false h2];conv=>whnf
  rw[ekk,hlen];rw[decide_eq_false (by omega)];conv=>whnf
  refine callS C rfl rfl ?_;conv=>whnf
  rw[q1,decide_eq_true (by omega)];conv=>whnf
  exact⟨.sh _ _ rfl .nil,fin rfl rfl,trivial⟩
 by_cases h6:d.length > 1
 ·refine conN func25 rfl (by kernel_rfl) ?_;conv=>whnf
  rw[decide_eq_false h1];conv=>whnf
  rw[decide_eq_false h2];conv=>whnf
  rw[ekk,hlen];rw[decide_eq_false (by omega)];conv=>whnf
  refine callS C rfl rfl ?_;conv=>whnf
  rw[q1,decide_eq_false (by omega)];conv=>whnf
  rw[q2,decide_eq_true (by omega)];conv=>whnf
  exact⟨.sh _ _ rfl .nil,fin rfl rfl,trivial⟩
 obtain⟨x,hx,h7⟩:∃ a':FQ,rawQ a'=(m,a,d)/\qSgn a'<0:=by
  rcases h with h | h | h | h | h | h | h
  ·exact absurd h h1
  ·exact absurd h h2
  ·exact absurd h (by omega)
  ·exact absurd rfl h
  ·exact absurd h h5
  ·exact absurd h h6
  ·exact h
 have CS:=c_qSign x;have hv:rat x.q=rawv (m,a,d):=by rw[<- hx,rawv_rawQ]; rfl
 rw[hv] at CS;obtain⟨s,hs⟩:∃ s,qSgn x=s:=⟨_,rfl⟩
 rw[hs] at CS h7;refine conN func25 rfl (by kernel_rfl) ?_;conv=>whnf
 rw[decide_eq_false h1];conv=>whnf
 rw[decide_eq_false h2];conv=>whnf
 rw[ekk,hlen];rw[decide_eq_false (by omega)];conv=>whnf
 refine callS C rfl rfl ?_;conv=>whnf
 rw[q1,decide_eq_false (by omega)];conv=>whnf
 rw[q2,decide_eq_false (by omega)];conv=>whnf
 refine callS CS rfl rfl ?_;conv=>whnf
 rw[decide_eq_true h7];conv=>whnf
 exact⟨.sh _ _ rfl .nil,fin rfl rfl,trivial⟩
theorem c_table_go (k:Nat) (l:List RawQ) (tq:FQ) (hb:l.length<=9223372036854775807/\∀ x∈l,RawB x) (h1:1<=k) (h2:k<=3) (h3:k*k<=l.length) (ht:sm 1 tq) (hs:¬ qSgn tq<0) {R:AV}
  (hbad:∀ {j:Nat} (hj:j<k),(tRow k l j).all fit1=false->R=.tup [.sl [],boo false]) (hgood:(∀ j,j<k->(tRow k l j).all fit1=true)->R=tabRes (TabQ k l) tq):ACalls prog 25 [i64 (k:Nat),slv l,rat tq.q] R:=by
 have hlen:(((l.map rawv).length:Nat):Int)=(l.length:Int):=by simp
 have hkk:k*k<=9:=Nat.mul_le_mul h2 h2;have ekk:IntKind.i64.wrap ((k:Int)*(k:Int))=((k*k:Nat):Int):=(wI (by rw[<- Int.natCast_mul]; omega) (by rw[<- Int.natCast_mul]; omega)).trans (Int.natCast_mul k k).symm;have CC:ACalls prog 16 [rat tq.q] (i64 0):=by
  have e1:∀ n:Nat,((digs n).length<=1)->(digs n).length<=9223372036854775807:=fun n h=>by omega
  have h:=c_qCheck (rawQ tq).1 (rawQ tq).2.1 (rawQ tq).2.2 (e1 _ ht.1) (e1 _ ht.2) (fun x hx=>digs_lt hx) (fun x hx=>digs_lt hx);have e2:ratL (rawQ tq).1 (rawQ tq).2.1 (rawQ tq).2.2=rat tq.q:=rfl;rw[e2] at h;have e3:qCheck (rawQ tq).1 (rawQ tq).2.1 (rawQ tq).2.2=0:=rawCheck_rawQ tq;rw[e3] at h;exact h
 have CS:=c_qSign tq;obtain⟨s,hs'⟩:∃ s,qSgn tq=s:=⟨_,rfl⟩
 rw[hs'] at CS hs;have q1:((((digs tq.q.num.natAbs).map dg).length:Nat):Int)=((digs tq.q.num.natAbs).length:Int):=by simp
 have q2:((((digs tq.q.den).map dg).length:Nat):Int)=((digs tq.q.den).length:Int):=by simp
 refine conP func25 rfl (by kernel_rfl) ?_;refine .gk ?_;conv=>whnf
 refine .gk ?_;conv=>whnf
 rw[decide_eq_false (by omega:¬ ((k:Nat):Int)<1)];conv=>whnf
 rw[decide_eq_false (by omega:¬ ((k:Nat):Int) > 3)];conv=>whnf
 rw[ekk,hlen];rw[decide_eq_false (by omega)];conv=>whnf
 refine callS CC rfl rfl ?_;conv=>whnf
 rw[q1,decide_eq_false (by have:=ht.1; omega)];conv=>whnf
 rw[q2,decide_eq_false (by have:=ht.2; omega)];conv=>whnf
 refine callS CS rfl rfl ?_;conv=>whnf
 rw[decide_eq_false hs];clear CC CS ekk;conv=>whnf
 refine .gk ?_;conv=>whnf
 refine .cut (fun _:Unit=>∀ i,i<k->(tRow k l i).all fit1=true) (fun _=>{ F:=[(5,0)],fr:=[(8,lT (TabQ k l)),(5,.ptr (0,0) 0 0)],st:=[((0,0),⟨28,3,[ratv tq]⟩)],g:=60 }) ?_ ?_
 ·refine .gk ?_;conv=>whnf
  refine .block (.loop (fun j=>j<=k/\∀ i,i<j->(tRow k l i).all fit1=true) (fun j=>match j with
   |0=>{ fr:=[(0,i64 (k:Nat)),(1,slv l),(8,nilA),(54,i64 (k:Nat)),(55,i64 (0:Nat)),(5,.ptr (0,0) 0 0)],st:=[((0,0),⟨28,3,[ratv tq]⟩)],g:=9 }
   |j+1=>{ ren:=[((11,12),(5,0))],fr:=[(0,i64 (k:Nat)),(1,slv l),(8,.own (5,0) (j+1)),(54,i64 (k:Nat)),(55,i64 (j+1:Nat)),(5,.ptr (0,0) 0 0)],st:=[((5,0),⟨22,1,(tRows k l (j+1)).map slv⟩),((0,0),⟨28,3,[ratv tq]⟩)],g:=9 }) (fun j=>k-j) 0 ⟨Nat.zero_le _,fun i h=>absurd h (Nat.not_lt_zero i)⟩ ?_ ?_)
  ·exact⟨trivial,⟨x_R,x_R,x_R,x_R,x_R,x_R,trivial⟩,x_S,trivial⟩
  rintro j ⟨j1,j2⟩;cases j with
  |zero =>
   dsimp only at j1 j2 ⊢;refine .gk ?_;conv=>whnf
   refine .gk ?_;conv=>whnf
   refine Br.mk (fun h=>?_) (fun h=>?_)
   ·have hj:0<k:=by
     have:=of_decide_eq_true h;omega
    clear h;have hjk:(0)*k+k<=k*k:=by
     have:=Nat.mul_le_mul_right k (show (0)+1<=k from hj);rw[Nat.add_mul] at this;omega
    have e1:IntKind.i64.wrap (((0:Nat):Int)*(k:Int))=(((0)*k:Nat):Int):=(wI (by rw[<- Int.natCast_mul]; omega) (by rw[<- Int.natCast_mul]; omega)).trans (Int.natCast_mul _ _).symm;have e2:IntKind.i64.wrap ((((0)*k:Nat):Int)+(k:Int))=(((0)*k+k:Nat):Int):=(wI (by omega) (by omega)).trans (Int.natCast_add _ _).symm;have e3:((l.map rawv).take ((0)*k+k)).drop ((0)*k)=(tRow k l (0)).map rawv:=by unfold tRow; rw[List.map_drop,List.map_take]
    have hrl:=tRow_len (k:=k) (l:=l) (by omega) hj;have hrb:∀ x∈tRow k l (0),RawB x:=fun x hx=>hb.2 x (List.mem_of_mem_take (List.mem_of_mem_drop hx))
    have hbadj:=hbad hj;have hsucc:=tRows_succ (k:=k) (l:=l) (j:=0);have hdl:((tRows k l (0)).map slv).length=(0):=by simp[tRows]
    obtain⟨r,hr⟩:∃ r,tRow k l (0)=r:=⟨_,rfl⟩
    have hfit:r.all fit1=true->∀ i,i<(0)+1->(tRow k l i).all fit1=true:=fun h i hi=>by
     by_cases e:i<(0)
     ·exact j2 i e
     ·have:i=(0):=by omega
      rw[this,hr];exact h
    rw[hr] at hrl hrb hbadj hsucc e3;clear hr;have hla:(((r.map rawv).length:Nat):Int)=(r.length:Int):=by simp
    have hlk:(k:Int)<9223372036854775807:=by omega
    conv=>whnf
    refine .cut (fun _:Unit=>r.all fit1=true) (fun _=>{ fr:=[(0,i64 (k:Nat)),(1,slv l),(8,.own (11,12) ((0)+1)),(54,i64 (k:Nat)),(55,i64 (0:Nat)),(5,.ptr (0,0) 0 0)],st:=[((11,12),⟨22,1,(tRows k l ((0)+1)).map slv⟩),((0,0),⟨28,3,[ratv tq]⟩)],g:=30 }) ?_ ?_
    ·refine .block ?_;refine .gk ?_;conv=>whnf
     refine .gk ?_;conv=>whnf
     rw[e1];rw[e2];conv=>whnf
     refine⟨⟨Int.natCast_nonneg _,by omega,by show ((((0)*k+k:Nat):Int))<=((l.map rawv).length:Int); omega,Int.le_refl _,fun v hv=>?_⟩,?_⟩
     ·obtain⟨x,_,rfl⟩:=List.mem_map.1 (List.mem_of_mem_head? hv);rfl
     rw[Int.toNat_natCast,Int.toNat_natCast,e3];conv=>whnf
     refine⟨⟨by show 0<1; decide,by show 1<=1099511627776; decide,trivial⟩,?_⟩;conv=>whnf
     refine .gk ?_;conv=>whnf
     refine⟨⟨rfl,rfl⟩,⟨Int.natCast_nonneg _,by show (((0:Nat)):Int)<(((0)+1:Nat):Int); omega⟩,?_⟩;conv=>whnf
     skip
     refine .block (.loop (fun i=>i<=r.length/\∀ x∈r.take i,fit1 x=true) (fun i=>{ fr:=[(0,i64 (k:Nat)),(1,slv l),(8,.own (11,12) ((0)+1)),(54,i64 (k:Nat)),(55,i64 (0:Nat)),(5,.ptr (0,0) 0 0),(74,slv r),(75,i64 r.length),(76,i64 (i:Nat))],st:=[((11,12),⟨22,1,(tRows k l ((0)+1)).map slv⟩),((0,0),⟨28,3,[ratv tq]⟩)],g:=15 }) (fun i=>r.length-i) 0 ⟨Nat.zero_le _,by simp⟩ ?_ ?_)
     ·refine⟨trivial,⟨x_R,x_R,x_R,x_R,x_R,x_R,x_R,x_E hla,x_R,trivial⟩,⟨.same ?_ (ltL_map (fun _=>rfl) _),x_N,x_L⟩,x_S,trivial⟩;rw[hsucc,List.map_append];rfl
     rintro i ⟨i1,i2⟩;dsimp only at i1 i2 ⊢;refine pcK ?_;conv=>whnf
     refine Br.mk (fun h=>?_) (fun h=>?_)
     ·have hi:i<r.length:=by
       have:=of_decide_eq_true h;omega
      clear h;obtain⟨x,hx⟩:∃ x,r[i]=x:=⟨_,rfl⟩
      obtain⟨b1,b2,b3,b4⟩:=hrb x (by rw[<- hx]; exact List.getElem_mem hi);have no2:fit1 x=false->R=.tup [.sl [],boo false]:=fun h=>hbadj (all_no' hi (by rw[hx]; exact h))
      have q1:(((x.2.1.map dg).length:Nat):Int)=(x.2.1.length:Int):=by simp
      have q2:(((x.2.2.map dg).length:Nat):Int)=(x.2.2.length:Int):=by simp
      conv=>whnf
      refine⟨rawv x,⟨by omega,by simp[hi,hx],rfl,rfl⟩,?_⟩;conv=>whnf
      rw[q1];by_cases c1:x.2.1.length<=1
      ·rw[decide_eq_false (by omega:¬ (x.2.1.length:Int) > 1)];conv=>whnf
       rw[q2];by_cases c2:x.2.2.length<=1
       ·rw[decide_eq_false (by omega:¬ (x.2.2.length:Int) > 1)];conv=>whnf
        obtain⟨c,C,hc⟩:∃ c,ACalls prog 16 [rawv x] (i64 c)/\rawCheck x=c:=⟨_,c_qCheck x.1 x.2.1 x.2.2 (by omega) (by omega) b3 b4,rfl⟩
        refine callS C rfl rfl ?_;conv=>whnf
        refine Br.mk (fun h=>?_) (fun h=>?_)
        ·have c3:¬ c=0:=by simpa using h
         rw[no2 (by unfold fit1; rw[hc,decide_eq_false c3]; simp)];conv=>whnf
         exact⟨.sh _ _ rfl .nil,fin rfl rfl,trivial⟩
        ·have c3:c=0:=by simpa using h
         conv=>whnf
         refine⟨i+1,⟨by omega,fun y hy=>?_⟩,⟨trivial,⟨x_R,x_R,x_R,x_R,x_R,x_R,x_R,x_R,x_E ?_,trivial⟩,⟨.same rfl (ltL_map (fun _=>rfl) _),x_N,x_L⟩,x_S,trivial⟩,by show r.length-(i+1)<r.length-i; omega⟩
         ·rw[List.take_succ_eq_append_getElem hi,List.mem_append] at hy;rcases hy with hy | hy
          ·exact i2 y hy
          ·simp only[List.mem_singleton] at hy;rw[hy,hx];unfold fit1;rw[hc,decide_eq_true c1,decide_eq_true c2,decide_eq_true c3];rfl
         ·exact (wI (n:=(i:Int)+1) (by omega) (by omega)).trans (by simp)
       ·rw[decide_eq_true (by omega:(x.2.2.length:Int) > 1),no2 (by unfold fit1; rw[decide_eq_false c2]; simp)];conv=>whnf
        exact⟨.sh _ _ rfl .nil,fin rfl rfl,trivial⟩
      ·rw[decide_eq_true (by omega:(x.2.1.length:Int) > 1),no2 (by unfold fit1; rw[decide_eq_false c1]; simp)];conv=>whnf
       exact⟨.sh _ _ rfl .nil,fin rfl rfl,trivial⟩
     ·have he:r.length<=i:=by
       have:=of_decide_eq_false h;omega
      clear h;conv=>whnf
      exact⟨(),tall_of_take i2 he,⟨trivial,⟨x_R,x_R,x_R,x_R,x_R,x_R,trivial⟩,⟨.same rfl (ltL_map (fun _=>rfl) _),x_N,x_L⟩,x_S,trivial⟩⟩
    ·rintro⟨⟩ hall;refine pcK ?_;conv=>whnf
     exact⟨(0)+1,⟨hj,hfit hall⟩,⟨⟨trivial,rfl⟩,⟨x_R,x_R,.inr (.inr (.own (5,0) ((0)+1) rfl)),x_R,x_E ((wI (n:=((0:Nat):Int)+1) (by omega) (by omega)).trans rfl),x_R,trivial⟩,⟨.same rfl (okL_enc (fun _=>rfl) (fun _=>rfl) _),x_N,x_L⟩,x_S,trivial⟩,by show k-((0)+1)<k-(0); omega⟩
   ·have:=of_decide_eq_false h;omega
  |succ j =>
   dsimp only at j1 j2 ⊢;refine .gk ?_;conv=>whnf
   refine .gk ?_;conv=>whnf
   refine Br.mk (fun h=>?_) (fun h=>?_)
   ·have hj:j+1<k:=by
     have:=of_decide_eq_true h;omega
    clear h;have hjk:(j+1)*k+k<=k*k:=by
     have:=Nat.mul_le_mul_right k (show (j+1)+1<=k from hj);rw[Nat.add_mul] at this;omega
    have e1:IntKind.i64.wrap (((j+1:Nat):Int)*(k:Int))=(((j+1)*k:Nat):Int):=(wI (by rw[<- Int.natCast_mul]; omega) (by rw[<- Int.natCast_mul]; omega)).trans (Int.natCast_mul _ _).symm;have e2:IntKind.i64.wrap ((((j+1)*k:Nat):Int)+(k:Int))=(((j+1)*k+k:Nat):Int):=(wI (by omega) (by omega)).trans (Int.natCast_add _ _).symm;have e3:((l.map rawv).take ((j+1)*k+k)).drop ((j+1)*k)=(tRow k l (j+1)).map rawv:=by unfold tRow; rw[List.map_drop,List.map_take]
    have hrl:=tRow_len (k:=k) (l:=l) (by omega) hj;have hrb:∀ x∈tRow k l (j+1),RawB x:=fun x hx=>hb.2 x (List.mem_of_mem_take (List.mem_of_mem_drop hx))
    have hbadj:=hbad hj;have hsucc:=tRows_succ (k:=k) (l:=l) (j:=j+1);have hdl:((tRows k l (j+1)).map slv).length=(j+1):=by simp[tRows]
    obtain⟨r,hr⟩:∃ r,tRow k l (j+1)=r:=⟨_,rfl⟩
    have hfit:r.all fit1=true->∀ i,i<(j+1)+1->(tRow k l i).all fit1=true:=fun h i hi=>by
     by_cases e:i<(j+1)
     ·exact j2 i e
     ·have:i=(j+1):=by omega
      rw[this,hr];exact h
    rw[hr] at hrl hrb hbadj hsucc e3;clear hr;have hla:(((r.map rawv).length:Nat):Int)=(r.length:Int):=by simp
    have hlk:(k:Int)<9223372036854775807:=by omega
    conv=>whnf
    refine .cut (fun _:Unit=>r.all fit1=true) (fun _=>{ fr:=[(0,i64 (k:Nat)),(1,slv l),(8,.own (11,12) ((j+1)+1)),(54,i64 (k:Nat)),(55,i64 (j+1:Nat)),(5,.ptr (0,0) 0 0)],st:=[((11,12),⟨22,1,(tRows k l ((j+1)+1)).map slv⟩),((0,0),⟨28,3,[ratv tq]⟩)],g:=30 }) ?_ ?_
    ·refine .block ?_;refine .gk ?_;conv=>whnf
     refine .gk ?_;conv=>whnf
     rw[e1];rw[e2];conv=>whnf
     refine⟨⟨Int.natCast_nonneg _,by omega,by show ((((j+1)*k+k:Nat):Int))<=((l.map rawv).length:Int); omega,Int.le_refl _,fun v hv=>?_⟩,?_⟩
     ·obtain⟨x,_,rfl⟩:=List.mem_map.1 (List.mem_of_mem_head? hv);rfl
     rw[Int.toNat_natCast,Int.toNat_natCast,e3];conv=>whnf
     refine⟨⟨by simp[tRows],rfl,rfl,by show j+1+1<=1099511627776; omega,trivial⟩,?_⟩;conv=>whnf
     refine .gk ?_;conv=>whnf
     refine⟨⟨rfl,rfl⟩,⟨Int.natCast_nonneg _,by show (((j+1:Nat)):Int)<(((j+1)+1:Nat):Int); omega⟩,?_⟩;conv=>whnf
     refine⟨slv r,(by show (((tRows k l (j+1)).map slv)++[slv r])[((j+1:Nat):Int).toNat]?=some (slv r); rw[Int.toNat_natCast,List.getElem?_append_right (by omega),hdl,Nat.sub_self]; rfl),?_⟩; conv=>whnf
     refine .block (.loop (fun i=>i<=r.length/\∀ x∈r.take i,fit1 x=true) (fun i=>{ fr:=[(0,i64 (k:Nat)),(1,slv l),(8,.own (11,12) ((j+1)+1)),(54,i64 (k:Nat)),(55,i64 (j+1:Nat)),(5,.ptr (0,0) 0 0),(74,slv r),(75,i64 r.length),(76,i64 (i:Nat))],st:=[((11,12),⟨22,1,(tRows k l ((j+1)+1)).map slv⟩),((0,0),⟨28,3,[ratv tq]⟩)],g:=15 }) (fun i=>r.length-i) 0 ⟨Nat.zero_le _,by simp⟩ ?_ ?_)
     ·refine⟨trivial,⟨x_R,x_R,x_R,x_R,x_R,x_R,x_R,x_E hla,x_R,trivial⟩,⟨.same ?_ (ltL_map (fun _=>rfl) _),x_N,x_L⟩,x_S,trivial⟩;rw[hsucc,List.map_append];rfl
     rintro i ⟨i1,i2⟩;dsimp only at i1 i2 ⊢;refine pcK ?_;conv=>whnf
     refine Br.mk (fun h=>?_) (fun h=>?_)
     ·have hi:i<r.length:=by
       have:=of_decide_eq_true h;omega
      clear h;obtain⟨x,hx⟩:∃ x,r[i]=x:=⟨_,rfl⟩
      obtain⟨b1,b2,b3,b4⟩:=hrb x (by rw[<- hx]; exact List.getElem_mem hi);have no2:fit1 x=false->R=.tup [.sl [],boo false]:=fun h=>hbadj (all_no' hi (by rw[hx]; exact h))
      have q1:(((x.2.1.map dg).length:Nat):Int)=(x.2.1.length:Int):=by simp
      have q2:(((x.2.2.map dg).length:Nat):Int)=(x.2.2.length:Int):=by simp
      conv=>whnf
      refine⟨rawv x,⟨by omega,by simp[hi,hx],rfl,rfl⟩,?_⟩;conv=>whnf
      rw[q1];by_cases c1:x.2.1.length<=1
      ·rw[decide_eq_false (by omega:¬ (x.2.1.length:Int) > 1)];conv=>whnf
       rw[q2];by_cases c2:x.2.2.length<=1
       ·rw[decide_eq_false (by omega:¬ (x.2.2.length:Int) > 1)];conv=>whnf
        obtain⟨c,C,hc⟩:∃ c,ACalls prog 16 [rawv x] (i64 c)/\rawCheck x=c:=⟨_,c_qCheck x.1 x.2.1 x.2.2 (by omega) (by omega) b3 b4,rfl⟩
        refine callS C rfl rfl ?_;conv=>whnf
        refine Br.mk (fun h=>?_) (fun h=>?_)
        ·have c3:¬ c=0:=by simpa using h
         rw[no2 (by unfold fit1; rw[hc,decide_eq_false c3]; simp)];conv=>whnf
         exact⟨.sh _ _ rfl .nil,fin rfl rfl,trivial⟩
        ·have c3:c=0:=by simpa using h
         conv=>whnf
         refine⟨i+1,⟨by omega,fun y hy=>?_⟩,⟨trivial,⟨x_R,x_R,x_R,x_R,x_R,x_R,x_R,x_R,x_E ?_,trivial⟩,⟨.same rfl (ltL_map (fun _=>rfl) _),x_N,x_L⟩,x_S,trivial⟩,by show r.length-(i+1)<r.length-i; omega⟩
         ·rw[List.take_succ_eq_append_getElem hi,List.mem_append] at hy;rcases hy with hy | hy
          ·exact i2 y hy
          ·simp only[List.mem_singleton] at hy;rw[hy,hx];unfold fit1;rw[hc,decide_eq_true c1,decide_eq_true c2,decide_eq_true c3];rfl
         ·exact (wI (n:=(i:Int)+1) (by omega) (by omega)).trans (by simp)
       ·rw[decide_eq_true (by omega:(x.2.2.length:Int) > 1),no2 (by unfold fit1; rw[decide_eq_false c2]; simp)];conv=>whnf
        exact⟨.sh _ _ rfl .nil,fin rfl rfl,trivial⟩
      ·rw[decide_eq_true (by omega:(x.2.1.length:Int) > 1),no2 (by unfold fit1; rw[decide_eq_false c1]; simp)];conv=>whnf
       exact⟨.sh _ _ rfl .nil,fin rfl rfl,trivial⟩
     ·have he:r.length<=i:=by
       have:=of_decide_eq_false h;omega
      clear h;conv=>whnf
      exact⟨(),tall_of_take i2 he,⟨trivial,⟨x_R,x_R,x_R,x_R,x_R,x_R,trivial⟩,⟨.same rfl (ltL_map (fun _=>rfl) _),x_N,x_L⟩,x_S,trivial⟩⟩
    ·rintro⟨⟩ hall;refine pcK ?_;conv=>whnf
     exact⟨(j+1)+1,⟨hj,hfit hall⟩,⟨⟨trivial,rfl⟩,⟨x_R,x_R,.inr (.inr (.own (5,0) ((j+1)+1) rfl)),x_R,x_E ((wI (n:=((j+1:Nat):Int)+1) (by omega) (by omega)).trans rfl),x_R,trivial⟩,⟨.same rfl (okL_enc (fun _=>rfl) (fun _=>rfl) _),x_N,x_L⟩,x_S,trivial⟩,by show k-((j+1)+1)<k-(j+1); omega⟩
   ·have:k=j+1:=by
     have:=of_decide_eq_false h;omega
    subst this;have hT:=tabQ (tab_ex hb.2 h3 j2);conv=>whnf
    exact⟨(),j2,⟨⟨⟨_,rfl⟩,trivial⟩,⟨.inr (.inl (.own2 (.head _) rfl (by simp[tRows]) (closedL_map (fun _=>rfl) _) hT.1)),x_R,trivial⟩,⟨.same rfl rfl,by show ((0,0):Rid)∉[((5,0):Rid)]; decide,x_L⟩,trivial⟩⟩
 ·rintro⟨⟩ hall;rw[hgood hall];clear hbad hgood;have hT:=tabQ (tab_ex hb.2 h3 hall);obtain⟨T,hTe⟩:∃ T,TabQ k l=T:=⟨_,rfl⟩
  rw[hTe] at hT ⊢;dsimp only;have T6:Six T:=⟨by rw[hT.2.1.1]; omega,hT.2.1.rows6 (by omega)⟩
  unfold tabRes;have CA:=c_mScale T tq T6.1 T6.2;have C6:=c_qOf 6 1 (by decide) (by decide) (by decide) (by decide);cases hA:mScale T tq with
  |error e =>
   rw[hA] at CA;refine .gk ?_;conv=>whnf
   refine callS CA rfl rfl ?_;conv=>whnf
   refine .gk ?_;conv=>whnf
   exact⟨.sh _ _ rfl .nil,fin rfl rfl,trivial⟩
  |ok m =>
   have m6:=scale_six T6 hA;rw[hA] at CA;have CB:=c_mNorm m m6.1 m6.2;simp only;unfold normB;cases hB:mNorm m with
   |error e =>
    rw[hB] at CB;obtain⟨c,e1,CX,_,_⟩:=varT (c_qCompare q0 six);refine .gk ?_;conv=>whnf
    refine callS CA rfl rfl ?_;conv=>whnf
    refine .gk ?_;conv=>whnf
    refine .gk ?_;conv=>whnf
    refine callS CB rfl rfl ?_;conv=>whnf
    refine .gk ?_;conv=>whnf
    refine⟨by kernel_rfl,?_⟩;conv=>whnf
    refine callD C6 rfl rfl ?_;conv=>whnf
    refine callD CX rfl rfl ?_;conv=>whnf
    refine pcK ?_;conv=>whnf
    exact⟨fin rfl rfl,fin rfl rfl,trivial⟩
   |ok N =>
    rw[hB] at CB;have CX:=c_qCompare N six;simp only;cases hC:qCmp N six with
    |error e =>
     rw[hC] at CX;refine .gk ?_;conv=>whnf
     refine callS CA rfl rfl ?_;conv=>whnf
     refine .gk ?_;conv=>whnf
     refine .gk ?_;conv=>whnf
     refine callS CB rfl rfl ?_;conv=>whnf
     refine .gk ?_;conv=>whnf
     refine⟨by kernel_rfl,?_⟩;conv=>whnf
     refine callD C6 rfl rfl ?_;conv=>whnf
     refine callD CX rfl rfl ?_;conv=>whnf
     refine pcK ?_;conv=>whnf
     exact⟨fin rfl rfl,fin rfl rfl,trivial⟩
    |ok c =>
     rw[hC] at CX;refine .gk ?_;conv=>whnf
     refine callS CA rfl rfl ?_;conv=>whnf
     refine .gk ?_;conv=>whnf
     refine .gk ?_;conv=>whnf
     refine callS CB rfl rfl ?_;conv=>whnf
     refine .gk ?_;conv=>whnf
     refine⟨by kernel_rfl,?_⟩;conv=>whnf
     refine callD C6 rfl rfl ?_;conv=>whnf
     refine callD CX rfl rfl ?_;conv=>whnf
     refine pcK ?_;conv=>whnf
     exact⟨fin rfl rfl,fin rfl rfl,trivial⟩
structure TabIn (n:Int) (l:List RawQ) (t:RawQ) (k:Nat) (tq:FQ):Prop where
 nk:n=(k:Nat)
 k1:1<=k
 k3:k<=3
 len:k*k<=l.length
 tab:Tab k l (TabQ k l)
 q:rawQ tq=t
 s:sm 1 tq
 nn:¬ qSgn tq<0
 norm:∃ m N c,mScale (TabQ k l) tq=.ok m/\mNorm m=.ok N/\qCmp N six=.ok c/\c<0
theorem c_table (n:Int) (l:List RawQ) (t:RawQ) (hb:l.length<=9223372036854775807/\∀ x∈l,RawB x) (ht:RawB t) :
  (∃ es,ACalls prog 25 [i64 n,slv l,rawv t] (.tup [.sl es,boo false]))\/∃ k tq,TabIn n l t k tq/\ACalls prog 25 [i64 n,slv l,rawv t] (.tup [lT (TabQ k l),boo true]):=by
 by_cases h:n<1\/n > 3\/(l.length:Int)<n*n\/rawCheck t≠0\/t.2.1.length > 1\/t.2.2.length > 1\/(∃ a:FQ,rawQ a=t/\qSgn a<0)
 ·exact .inl ⟨[],c_table_bad n l t hb ht h⟩
 ·have h1:¬ n<1:=fun q=>h (.inl q)
  have h2:¬ n > 3:=fun q=>h (.inr (.inl q))
  have h3:¬ (l.length:Int)<n*n:=fun q=>h (.inr (.inr (.inl q)))
  have h4:rawCheck t=0:=Classical.byContradiction fun q=>h (.inr (.inr (.inr (.inl q))))
  have h5:¬ t.2.1.length > 1:=fun q=>h (.inr (.inr (.inr (.inr (.inl q)))))
  have h6:¬ t.2.2.length > 1:=fun q=>h (.inr (.inr (.inr (.inr (.inr (.inl q))))))
  have h7:¬ ∃ a:FQ,rawQ a=t/\qSgn a<0:=fun q=>h (.inr (.inr (.inr (.inr (.inr (.inr q))))))
  clear h;obtain⟨k,rfl⟩:∃ k:Nat,n=(k:Int):=⟨n.toNat,by omega⟩
  rw[<- Int.natCast_mul] at h3;obtain⟨tq,hq⟩:=raw_q ht.2.2.1 ht.2.2.2 h4;have hv:rawv t=rat tq.q:=by rw[<- hq,rawv_rawQ]; rfl
  have hsm:sm 1 tq:=by
   rw[<- hq] at h5 h6;have h5:¬ (digs tq.q.num.natAbs).length > 1:=h5;have h6:¬ (digs tq.q.den).length > 1:=h6;exact⟨by omega,by omega⟩
  have hsg:¬ qSgn tq<0:=fun q=>h7 ⟨tq,hq,q⟩
  rw[hv];by_cases hall:∀ j,j<k->(tRow k l j).all fit1=true
  ·have hg:=c_table_go k l tq hb (by omega) (by omega) (by omega) hsm hsg (R:=tabRes (TabQ k l) tq) (fun {j} hj h=>by rw[hall j hj] at h; cases h) fun _=>rfl
   have hT:=tabQ (tab_ex hb.2 (by omega) hall);unfold tabRes at hg;cases hA:mScale (TabQ k l) tq with
   |error e =>
    rw[hA] at hg;exact .inl ⟨[],hg⟩
   |ok m =>
    rw[hA] at hg;simp only at hg;cases hn:normB m with
    |false =>
     rw[hn] at hg;exact .inl ⟨(TabQ k l).map lQ,hg⟩
    |true =>
     rw[hn] at hg;refine .inr ⟨k,tq,⟨rfl,by omega,by omega,by omega,hT,hq,hsm,hsg,?_⟩,hg⟩;unfold normB at hn;cases hB:mNorm m with
     |error e=>rw[hB] at hn; cases hn
     |ok N =>
      rw[hB] at hn;simp only at hn;cases hC:qCmp N six with
      |error e=>rw[hC] at hn; cases hn
      |ok c =>
       rw[hC] at hn;exact⟨m,N,c,hA,hB,hC,of_decide_eq_true hn⟩
  ·refine .inl ⟨[],c_table_go k l tq hb (by omega) (by omega) (by omega) hsm hsg (fun _ _=>rfl) fun h=>absurd h hall⟩
end
section
open Go Go.RowKit Go.Proofs.Tryz
theorem norm_le {n m P:Nat} {M:List (List FQ)} {N:FQ} {c:Rat} (hP:(m+1)*n+1=P) (h2:P+P<=16384) (hn:0<n) (hM:Sqr n M) (sM:SzT M m) (h:mNorm M=.ok N) (hr:RowB n (en M) c):N.q<=c:=by
 obtain⟨N',n1,_,_,n4,_⟩:=norm_ok hP h2 hM sM;rw[h] at n1;cases n1;rcases n4 with rfl | ⟨r,hr',e⟩
 ·omega
 ·obtain⟨i,hi,rfl⟩:=mem_getD (d:=[]) hr';have hi':i<n:=by rw[<- hM.1]; exact hi
  rw[<- e,aSum_SS,(hM.row hi').2];exact hr i hi'
theorem Tw.mono {n:Nat} {bits:Int} {A:Nat->Nat->Rat} {t:Rat} {KE LE KS LS KE' LE' KS' LS':Nat} {p:Gw} (h:Tw n bits A t KE LE KS LS p) (h1:KE<=KE') (h2:LE<=LE') (h3:KS<=KS') (h4:LS<=LS'):Tw n bits A t KE' LE' KS' LS' p:=by
 obtain⟨e,s,⟨M,m1,m2,m3⟩,⟨M',k1,k2,k3⟩⟩:=h;exact⟨e.mono h1 h2,s.mono h3 h4,⟨M,m1,m2,Std.lt_of_lt_of_le m3 (zpow_le2 (by omega))⟩,⟨M',k1,k2,Std.lt_of_lt_of_le k3 (zpow_le2 (by omega))⟩⟩
theorem made {k b:Nat} {a:List (List FQ)} {t:FQ} (hb1:8<=b) (hb2:b<=60) (hk1:1<=k) (hk3:k<=3) (ha:Sqr k a) (sa:∀ r∈a,SzL r 33 33) (st:Sz t.q 34 34) (ht:0<=t.q) (hN:RowB k (fun i j=>en a i j*t.q) 8) :
  ∃ p,mMake a t b=.ok p/\Tw k b (en a) t.q 48 2080 150 2300 p:=by
 obtain⟨lam,hT⟩:=terms_T hb1 (by omega);have hk:=hT.hk;have hk60:=hT.k60 hb2;have hl:=hT.hl;obtain⟨M,M1,M2,M3,M4⟩:=scale_full ha sa st (by omega) (by omega);have M5:SzT M 68:=fun r hr=>(M4 r hr).mono (by omega) (by omega)
 have hP2:(68+1)*k+1+((68+1)*k+1)<=16384:=by omega
 have hw1:mTermsK b*(2*k+11)<=18*17:=Nat.mul_le_mul hk60 (by omega);have hw2:mTermsK b*(b+(68+(4+1))+b+20)<=18*213:=Nat.mul_le_mul hk60 (by omega);obtain⟨p,p1,⟨h,h1,h2⟩⟩:=make_T (f:=4) (m:=68) (lam:=lam) (jt:=34) (kt:=34) hb1 (by omega) (by omega) (by omega) (by omega) ha sa st ht (by omega) (by omega) rfl hP2 (by omega) (fun M' N' e1 e2=>by
  rw[M1] at e1;cases e1;have:=norm_le rfl hP2 (by omega) M2 M5 e2 (hN.congr fun i j hi hj=>M3 i j hi hj);have e:(2:Rat)^4*(1/2)=8:=by decide +kernel
  rw[e];exact this) hT (by omega) (by omega)
 refine⟨p,p1,h2.mono ?_ ?_ ?_ ?_⟩
 ·have:2^h<=2^4:=Nat.pow_le_pow_right (by decide) h1;omega
 ·have:2^h<=2^4:=Nat.pow_le_pow_right (by decide) h1;have:=Nat.mul_le_mul this (show lam+b+2<=130 by omega);omega
 ·have:2^h<=2^4:=Nat.pow_le_pow_right (by decide) h1;omega
 ·have:2^h<=2^4:=Nat.pow_le_pow_right (by decide) h1;have:=Nat.mul_le_mul (show 2^h-1<=15 by omega) (show lam+b+2<=130 by omega);omega
structure In3 (k:Nat) (T:List (List FQ)) (t:FQ):Prop where
 k1:1<=k
 k3:k<=3
 sq:Sqr k T
 sz:∀ r∈T,SzL r 32 32
 st:Sz t.q 32 32
 nn:0<=t.q
 row:RowB k (fun i j=>en T i j*t.q) 6
theorem six_q:six.q=6:=by kernel_rfl
theorem TabIn.in3 {n:Int} {l:List RawQ} {t:RawQ} {k:Nat} {tq:FQ} (h:TabIn n l t k tq):In3 k (TabQ k l) tq:=by
 have hsq:=h.tab.2.1;have hsz:∀ r∈TabQ k l,SzL r 32 32:=fun r hr=>sm_szL fun x hx=>h.tab.2.2 r hr x hx
 have hst:Sz tq.q 32 32:=sm_sz h.s;have hk1:=h.k1;have hk3:=h.k3;have hnn:0<=tq.q:=by
  apply Classical.byContradiction;intro c;apply h.nn;have:tq.q.num<0:=by
   have:¬ 0<=tq.q.num:=fun q=>c (Rat.num_nonneg.1 q)
   omega
  unfold qSgn sgnZ;rw[if_neg (by omega),if_pos this];decide
 refine⟨hk1,hk3,hsq,hsz,hst,hnn,?_⟩;obtain⟨m,N,c,m1,m2,m3,m4⟩:=h.norm;obtain⟨M,M1,M2,M3,M4⟩:=scale_full hsq hsz hst (by omega) (by omega);rw[m1] at M1;cases M1;have M5:SzT m 64:=fun r hr=>(M4 r hr).mono (by omega) (by omega)
 obtain⟨N',n1,_,n3,_,_⟩:=norm_ok (m:=64) (n:=k) rfl (by omega) M2 M5;rw[m2] at n1;cases n1;have hc:=qCmp_eq m3;rw[six_q] at hc;have hN:N.q<=6:=cmpQ_le.1 (by omega);exact (rowB_of M2 fun r hr=>Rat.le_trans (n3 r hr) hN).congr fun i j hi hj=>(M3 i j hi hj).symm
theorem row_all {k:Nat} {a:List (List FQ)} (hk:0<k) (ha:Sqr k a):∃ c,RowB k (en a) c/\0<=c:=by
 have key:∀ (l:List (List FQ)),0<=sumQ (l.map aSum)/\∀ r∈l,aSum r<=sumQ (l.map aSum):=fun l=>by
  induction l with
  |nil=>exact⟨Rat.le_refl,fun r hr=>by cases hr⟩
  |cons x l ih =>
   have h0:=aSum_nonneg x;have e:sumQ ((x::l).map aSum)=aSum x+sumQ (l.map aSum):=rfl;rw[e];refine⟨by have:=ih.1; grind,fun r hr=>?_⟩;rcases List.mem_cons.1 hr with rfl | hr
   ·have:=ih.1;grind
   ·have:=ih.2 r hr;grind
 exact⟨_,rowB_of ha (key a).2,(key a).1⟩
theorem HTL.le {n K L:Nat} {p:List (List FS)} {f:Nat->Nat->Nat->Rat} (h:HTL n K L p f) {i j:Nat} (hi:i<n) (hj:j<n):(sp p i j).lo.v<=(sp p i j).hi.v:=by
 obtain⟨g,g1,_⟩:=(h.2 i j hi hj).2;exact Rat.le_trans (g1 0).1 (g1 0).2
theorem HTL.touch {n K L K' L':Nat} {p q:List (List FS)} {f:Nat->Nat->Nat->Rat} (hp:HTL n K L p f) (hq:HTL n K' L' q f) (i j:Nat) (hi:i<n) (hj:j<n):∃ m,sMeet (sp p i j) (sp q i j)=.ok m :=
 sMeet_ok (hp.le hi hj) (hq.le hi hj) (hp.meet hq hi hj).1 (hp.meet hq hi hj).2
theorem HTL.six {n K L:Nat} {p:List (List FS)} {f:Nat->Nat->Nat->Rat} (h:HTL n K L p f) (hn:n<1000000):Six p:=⟨by rw[h.1.1]; exact hn,h.1.rows6 hn⟩
structure Back (k:Nat) (T:List (List FQ)) (t:FQ) (b:List (List FQ)) (p q:Gw) (m:List (List FS)):Prop where
 h1:mScale T (qOf (-1) 1)=.ok b
 h2:mMake T t 50=.ok p
 h3:mMake b t 50=.ok q
 h4:mTimes 50 p.1 q.1=.ok m
 h5:mHolds m (mOne k)=.ok true
 s1:Six b
 s2:Six p.1
 s3:Six q.1
 s4:Six m
end
end Go.Proofs.YtjdkdcmpifapeaaGreatDoor.Abs
