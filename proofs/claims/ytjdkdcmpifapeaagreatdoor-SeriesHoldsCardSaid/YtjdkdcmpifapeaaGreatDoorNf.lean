/- The document's sums: what is reckoned, and how many digits it has. -/
import Derived.Test.YtjdkdcmpifapeaaGreatDoorNe
import Derived.Test.YtjdkdcmpifapeaaGreatDoorMu
import Derived.Test.YtjdkdcmpifapeaaGreatDoorMw
import Derived.Test.YtjdkdcmpifapeaaGreatDoorNa
import Derived.Test.YtjdkdcmpifapeaaGreatDoorMe
set_option linter.unusedVariables false
set_option linter.unusedSectionVars false
set_option linter.unusedSimpArgs false
set_option maxHeartbeats 4000000
namespace Go.Proofs.YtjdkdcmpifapeaaGreatDoor.Abs
section
open Go Go.RowKit Go.Proofs.Tryz
def mkX (n:Nat) (f:Nat->Nat->XI):List (List XI):=(List.range n).map fun i=>(List.range n).map (f i)
theorem mkX_at {n:Nat} {f:Nat->Nat->XI} {i j:Nat} (hi:i<n) (hj:j<n):xg (mkX n f) i j=f i j:=by
 unfold xg mkX;simp[hi,hj]
theorem mkX_out {n:Nat} {f:Nat->Nat->XI} {i j:Nat} (h:¬ (i<n/\j<n)):xg (mkX n f) i j=(false,0):=by
 unfold xg mkX;by_cases hi:i<n
 ·have hj:n<=j:=by omega
  simp[hi,hj]
 ·simp[show n<=i by omega]
theorem mkX_xt {n D:Nat} {f:Nat->Nat->XI} (h:∀ i j,i<n->j<n->Dg8 D (f i j).2):XT n D (mkX n f):=by
 refine⟨by simp[mkX],fun r hr=>?_,fun i j=>?_⟩
 ·obtain⟨i,_,rfl⟩:=List.mem_map.1 hr;simp
 ·by_cases hij:i<n/\j<n
  ·rw[mkX_at hij.1 hij.2];exact h i j hij.1 hij.2
  ·rw[mkX_out hij];exact Nat.pow_pos (by decide)
def xTimes (n:Nat) (a p:List (List XI)):List (List XI):=mkX n fun i k=>xc a p i k n
def xDiag (n:Nat) (p:List (List XI)) (q:Nat):List (List XI):=mkX n fun i k=>if i=k then xAdd (xg p i k) (false,q) else xg p i k
def xSt (n:Nat) (a:List (List XI)) (u hi:Nat):Nat->List (List XI)×Nat
 |0=>(mkX n fun i k=>if k=i then (false,1) else (false,0),1)
 |s+1=>(xDiag n (xTimes n a (xSt n a u hi s).1) (u*(hi-s)*(xSt n a u hi s).2),u*(hi-s)*(xSt n a u hi s).2)
theorem xTimes_xt {n A D:Nat} {a p:List (List XI)} (ha:XT n A a) (hp:XT n D p):XT n (A+D+n) (xTimes n a p):=mkX_xt fun i k _ _=>xc_dg ha hp i k n
theorem xDiag_xt {n D:Nat} {p:List (List XI)} {q:Nat} (hp:XT n D p) (hq:Dg8 D q):XT n (D+1) (xDiag n p q):=mkX_xt fun i k _ _=>by
 split
 ·exact xAdd_dg (hp.d i k) hq
 ·exact (hp.d i k).mono (Nat.le_succ _)
theorem XT.mono {n D D':Nat} {m:List (List XI)} (h:XT n D m) (hd:D<=D'):XT n D' m:=⟨h.l,h.r,fun i j=>(h.d i j).mono hd⟩
theorem xSt_dg {n A U u hi:Nat} {a:List (List XI)} (ha:XT n A a) (hu:Dg8 U u) (hh:hi<256):∀ s,XT n ((A+U+n+3)*(s+1)) (xSt n a u hi s).1/\Dg8 ((U+1)*s+1) (xSt n a u hi s).2
 |0=>by
  refine⟨mkX_xt fun i k _ _=>?_,by show 1<256^_; rw[Nat.mul_zero]; decide⟩;have h1:256^1<=256^((A+U+n+3)*(0+1)):=Nat.pow_le_pow_right (by decide) (by omega);split
  ·exact Nat.lt_of_lt_of_le (by decide:1<256^1) h1
  ·exact Nat.lt_of_lt_of_le (by decide:0<256^1) h1
 |s+1=>by
  obtain⟨h1,h2⟩:=xSt_dg ha hu hh s;have hj:Dg8 1 (hi-s):=by show hi-s<256^1; omega
  have hq:=(hu.mul hj).mul h2;have e:U+1+((U+1)*s+1)=(U+1)*(s+1)+1:=by rw[Nat.mul_succ]; omega
  rw[e] at hq;have hle:(U+1)*(s+1)<=(A+U+n+3)*(s+1):=Nat.mul_le_mul_right _ (by omega);have e2:(A+U+n+3)*(s+1+1)=(A+U+n+3)*(s+1)+(A+U+n+3):=Nat.mul_succ _ _;refine⟨(xDiag_xt (D:=(A+U+n+3)*(s+1)+A+n+1) ((xTimes_xt ha h1).mono (by omega)) (hq.mono (by omega))).mono (by omega),hq⟩
end
section
open Go Go.RowKit
def er (r:Nat):Nat->Rat
 |0=>1
 |m+1=>er (r+1) m/((r:Rat)+1)
theorem er_mul (r m:Nat):er r m*ex r 1=ex (r+m) 1:=by
 induction m generalizing r with
 |zero=>show 1*ex r 1=ex r 1; rw[Rat.one_mul]
 |succ m ih =>
  have h1:=ih (r+1);have h2:=ex_succ r 1;have hp:=nat1_pos r;rw[Rat.one_mul] at h2;show er (r+1) m/((r:Rat)+1)*ex r 1=_;rw[<- h2,Rat.div_def,Rat.mul_assoc,<- Rat.mul_assoc _ ((r:Rat)+1),Rat.inv_mul_cancel _ (by grind),Rat.one_mul,h1];rw[show r+1+m=r+(m+1) by omega]
theorem er_0 (m:Nat):er 0 m=ex m 1:=by
 have h:=er_mul 0 m;rw[Nat.zero_add] at h;have e:ex 0 1=1:=rfl;rw[e,Rat.mul_one] at h;exact h
theorem er_1 (m:Nat):er 1 m=ex (m+1) 1:=by
 have h:=er_mul 1 m;have e:ex 1 1=1:=by decide +kernel
 rw[e,Rat.mul_one,Nat.add_comm] at h;exact h
theorem er_step {n:Nat} (X:Nat->Nat->Rat) (r N:Nat) {i k:Nat} (hi:i<n) (hk:k<n) :
  PS n X (er r) (N+1) i k=idm i k+mm n X (fun l k=>PS n X (er (r+1)) N l k) i k/((r:Rat)+1):=by
 have e0:PS n X (er r) (N+1) i k=er r 0*pw n X 0 i k+SS N fun m=>er r (m+1)*pw n X (m+1) i k:=rfl
 have e1:er r 0*pw n X 0 i k=idm i k:=Rat.one_mul _;rw[e0,e1];congr 1;have hX:∀ i l,i<n->l<n->pw n X 1 i l=X i l:=fun i l hi hl=>by
  show (SS n fun j=>idm i j*X j l)=X i l;have:(SS n fun j=>idm i j*X j l)=SS n fun j=>(if i=j then 1 else 0)*X j l:=rfl
  rw[this,SS_del hi]
 have left:∀ m,pw n X (m+1) i k=SS n fun l=>X i l*pw n X m l k:=fun m=>by
  have h:=pw_add X 1 m hi hk;rw[Nat.add_comm] at h;rw[<- h];exact SS_congr fun l hl=>by rw[hX i l hi hl]
 have e2:(SS N fun m=>er r (m+1)*pw n X (m+1) i k)=SS N fun m=>SS n fun l=>X i l*(er (r+1) m*pw n X m l k)*(((r:Rat)+1)⁻¹):=SS_congr fun m _=>by
  rw[left m,SS_mul_l];refine SS_congr fun l _=>?_
  show er (r+1) m/((r:Rat)+1)*(X i l*pw n X m l k)=_;rw[Rat.div_def];grind
 rw[e2,SS_swap,Rat.div_def];unfold mm;rw[SS_mul_r];refine SS_congr fun l _=>?_
 unfold PS;rw[<- SS_mul_r,SS_mul_l]
end
section
open Go Go.RowKit Go.Proofs.Tryz
def xv (x:XI):Rat:=(x.v:Rat)
theorem xv_add (a b:XI):xv (xAdd a b)=xv a+xv b:=by
 unfold xv;rw[xAdd_v,Rat.intCast_add]
theorem xv_mul (a b:XI):xv (xMul a b)=xv a*xv b:=by
 unfold xv;rw[xMul_v,Rat.intCast_mul]
theorem xv_pos (q:Nat):xv (false,q)=(q:Rat):=rfl
theorem xc_v (a b:List (List XI)) (i k:Nat):∀ m,xv (xc a b i k m)=SS m fun j=>xv (xg a i j)*xv (xg b j k)
 |0=>rfl
 |m+1=>by
  rw[SS_last,<- xc_v a b i k m,<- xv_mul,<- xv_add];rfl
theorem xSt_q {n u hi:Nat} {a:List (List XI)} (hu:0<u):∀ s,s<=hi->0<(xSt n a u hi s).2
 |0,_=>Nat.zero_lt_one
 |s+1,h=>Nat.mul_pos (Nat.mul_pos hu (by omega)) (xSt_q hu s (by omega))
theorem xSt_v {n u hi:Nat} {a:List (List XI)} (hu:0<u):∀ s,s<=hi->∀ i k,i<n->k<n ->
  xv (xg (xSt n a u hi s).1 i k)=((xSt n a u hi s).2:Rat)*PS n (fun i l=>xv (xg a i l)/(u:Rat)) (er (hi-s)) (s+1) i k
 |0,_,i,k,hi',hk=>by
  show xv (xg (mkX n fun i k=>if k=i then (false,1) else (false,0)) i k)=((1:Nat):Rat)*(1*idm i k+0)
  rw[mkX_at hi' hk];unfold idm;by_cases e:i=k
  ·rw[if_pos e.symm,if_pos e];decide +kernel
  ·rw[if_neg (Ne.symm e),if_neg e];decide +kernel
 |s+1,h,i,k,hi',hk=>by
  have ih:=fun l hl=>xSt_v (n:=n) (a:=a) (hi:=hi) hu s (by omega) l k hl hk
  obtain⟨r,hr⟩:∃ r,hi-(s+1)=r:=⟨_,rfl⟩
  have hr1:hi-s=r+1:=by omega
  rw[hr,er_step _ r (s+1) hi' hk];rw[hr1] at ih;obtain⟨Q,hQ⟩:∃ Q,(xSt n a u hi s).2=Q:=⟨_,rfl⟩
  obtain⟨P,hP⟩:∃ P,(xSt n a u hi s).1=P:=⟨_,rfl⟩
  have e2:(xSt n a u hi (s+1)).2=u*(r+1)*Q:=by
   show u*(hi-s)*(xSt n a u hi s).2=_;rw[hr1,hQ]
  have e1:(xSt n a u hi (s+1)).1=xDiag n (xTimes n a P) (u*(r+1)*Q):=by
   show xDiag n (xTimes n a (xSt n a u hi s).1) (u*(hi-s)*(xSt n a u hi s).2)=_;rw[hr1,hQ,hP]
  rw[e1,e2];rw[hQ,hP] at ih;have hu':(u:Rat)≠0:=by
   have:(0:Rat)<(u:Rat):=Rat.natCast_pos.2 hu;grind
  have hp:=nat1_pos r;have hmm:(SS n fun j=>xv (xg a i j)*xv (xg P j k))=(u:Rat)*(Q:Rat)*mm n (fun i l=>xv (xg a i l)/(u:Rat)) (fun l k=>PS n (fun i l=>xv (xg a i l)/(u:Rat)) (er (r+1)) (s+1) l k) i k:=by
   unfold mm;rw[SS_mul_l];refine SS_congr fun j hj=>?_
   rw[ih j hj];have e:xv (xg a i j)=(u:Rat)*(xv (xg a i j)/(u:Rat)):=by rw[Rat.mul_comm,Rat.div_mul_cancel hu']
   conv=>lhs; rw[e]
   grind
  have eq:((u*(r+1)*Q:Nat):Rat)=(u:Rat)*((r:Rat)+1)*(Q:Rat):=by
   rw[Rat.natCast_mul,Rat.natCast_mul,Rat.natCast_add];rfl
  have ex:xg (xTimes n a P) i k=xc a P i k n:=mkX_at hi' hk;unfold xDiag;rw[mkX_at hi' hk,ex];generalize mm n (fun i l=>xv (xg a i l)/(u:Rat)) (fun l k=>PS n (fun i l=>xv (xg a i l)/(u:Rat)) (er (r+1)) (s+1) l k) i k=M at *
  have hM:(u:Rat)*((r:Rat)+1)*(Q:Rat)*(M/((r:Rat)+1))=(u:Rat)*(Q:Rat)*M:=by
   rw[Rat.div_def];have:((r:Rat)+1)*(((r:Rat)+1)⁻¹)=1:=Rat.mul_inv_cancel _ (by grind);generalize ((r:Rat)+1)⁻¹=I at *
   grind
  rw[Rat.mul_add,eq,hM];unfold idm;by_cases e:i=k
  ·rw[if_pos e,if_pos e,xv_add,xc_v,hmm,xv_pos,eq];grind
  ·rw[if_neg e,if_neg e,xc_v,hmm];grind
end
set_option exponentiation.threshold 20000
section
open Go Go.RowKit Go.Proofs.Tryz
attribute [local irreducible] qMk
def uR (u:Nat) (r:List FQ):Nat:=r.foldl (fun u x=>u*x.q.den) u
def uT (u:Nat) (T:List (List FQ)):Nat:=T.foldl uR u
def uN (T:List (List FQ)) (t:FQ):Nat:=uT t.q.den T
theorem uR_dvd:∀ (r:List FQ) (u:Nat),u∣uR u r
 |[],u=>Nat.dvd_refl u
 |x::r,u=>Nat.dvd_trans (Nat.dvd_mul_right u x.q.den) (uR_dvd r (u*x.q.den))
theorem uT_dvd:∀ (T:List (List FQ)) (u:Nat),u∣uT u T
 |[],u=>Nat.dvd_refl u
 |r::T,u=>Nat.dvd_trans (uR_dvd r u) (uT_dvd T (uR u r))
theorem uR_mem {x:FQ}:∀ {r:List FQ} {u:Nat},x∈r->u*x.q.den∣uR u r
 |y::r,u,h=>by
  rcases List.mem_cons.1 h with rfl | h
  ·exact uR_dvd r _
  ·exact Nat.dvd_trans (Nat.mul_dvd_mul (Nat.dvd_mul_right u y.q.den) (Nat.dvd_refl _)) (uR_mem (u:=u*y.q.den) h)
theorem uT_mem {x:FQ} {r:List FQ} (hx:x∈r):∀ {T:List (List FQ)} {u:Nat},r∈T->u*x.q.den∣uT u T
 |y::T,u,h=>by
  rcases List.mem_cons.1 h with rfl | h
  ·exact Nat.dvd_trans (uR_mem hx) (uT_dvd T _)
  ·exact Nat.dvd_trans (Nat.mul_dvd_mul (uR_dvd y u) (Nat.dvd_refl _)) (uT_mem hx (u:=uR u y) h)
theorem uR_pos:∀ (r:List FQ) {u:Nat},0<u->0<uR u r
 |[],_,h=>h
 |x::r,u,h=>uR_pos r (Nat.mul_pos h x.q.den_pos)
theorem uT_pos:∀ (T:List (List FQ)) {u:Nat},0<u->0<uT u T
 |[],_,h=>h
 |r::T,u,h=>uT_pos T (uR_pos r h)
theorem uR_lt {n:Nat}:∀ (r:List FQ) {u:Nat},(∀ x∈r,x.q.den<2^32)->u<2^n->uR u r<2^(n+32*r.length)
 |[],_,_,h=>h
 |x::r,u,h,hu=>by
  have h1:=uR_lt (n:=n+32) r (fun y hy=>h y (List.mem_cons_of_mem _ hy)) (mul_lt_pow hu (h x (List.mem_cons_self ..)));rw[List.length_cons,show n+32*(r.length+1)=n+32+32*r.length by omega];exact h1
theorem uT_lt {k:Nat}:∀ (T:List (List FQ)) {n u:Nat},(∀ r∈T,r.length=k/\∀ x∈r,x.q.den<2^32)->u<2^n->uT u T<2^(n+32*k*T.length)
 |[],_,_,_,h=>h
 |r::T,n,u,h,hu=>by
  obtain⟨h1,h2⟩:=h r (List.mem_cons_self ..);have h3:=uR_lt r h2 hu;rw[h1] at h3;have h4:=uT_lt (k:=k) T (fun y hy=>h y (List.mem_cons_of_mem _ hy)) h3;rw[List.length_cons,Nat.mul_succ,show n+(32*k*T.length+32*k)=n+32*k+32*k*T.length by omega];exact h4
theorem uR_take {r:List FQ} {u j:Nat} (h:j<r.length):uR u (r.take (j+1))=uR u (r.take j)*r[j].q.den:=by
 unfold uR;rw[List.take_succ_eq_append_getElem h,List.foldl_append];rfl
theorem uT_take {T:List (List FQ)} {u i:Nat} (h:i<T.length):uT u (T.take (i+1))=uR (uT u (T.take i)) T[i]:=by
 unfold uT;rw[List.take_succ_eq_append_getElem h,List.foldl_append];rfl
theorem uR_split (r:List FQ) (u j:Nat):uR (uR u (r.take j)) (r.drop j)=uR u r:=by
 unfold uR;rw[<- List.foldl_append,List.take_append_drop]
theorem uT_split (T:List (List FQ)) (u j:Nat):uT (uT u (T.take j)) (T.drop j)=uT u T:=by
 unfold uT;rw[<- List.foldl_append,List.take_append_drop]
theorem uN_part {T:List (List FQ)} {t:FQ} {i j:Nat} (hi:i<T.length):uR (uT t.q.den (T.take i)) (T[i].take j)<=uN T t:=by
 have h1:uR (uT t.q.den (T.take i)) (T[i].take j)∣uT t.q.den (T.take (i+1)):=by
  rw[uT_take hi,<- uR_split T[i] _ j];exact uR_dvd _ _
 have h2:uT t.q.den (T.take (i+1))∣uN T t:=by
  show _∣uT t.q.den T;rw[<- uT_split T t.q.den (i+1)];exact uT_dvd _ _
 exact Nat.le_of_dvd (uT_pos _ t.q.den_pos) (Nat.dvd_trans h1 h2)
def zE (U:Nat) (t x:FQ):Int:=x.q.num*t.q.num*((U/(x.q.den*t.q.den):Nat):Int)
def xE (U:Nat) (t x:FQ):XI:=(decide (zE U t x<0),(zE U t x).natAbs)
def tX (U:Nat) (t:FQ) (T:List (List FQ)):List (List XI):=T.map fun r=>r.map (xE U t)
theorem xE_v (U:Nat) (t x:FQ):(xE U t x).v=zE U t x:=by
 unfold xE XI.v;by_cases h:zE U t x<0
 ·rw[decide_eq_true h];show -((zE U t x).natAbs:Int)=_;omega
 ·rw[decide_eq_false h];show ((zE U t x).natAbs:Int)=_;omega
theorem q_den (q:Rat):q*(q.den:Rat)=(q.num:Rat):=by
 have h:(q.den:Rat)≠0:=by
  have:(0:Rat)<(q.den:Rat):=Rat.natCast_pos.2 q.den_pos;grind
 have e:q=Rat.divInt q.num q.den:=rat_eq q;conv=>lhs; lhs; rw[e]
 rw[Rat.divInt_eq_div];show (q.num:Rat)/(q.den:Rat)*(q.den:Rat)=_;rw[Rat.div_mul_cancel h]
theorem zE_q {U:Nat} {t x:FQ} (h:x.q.den*t.q.den∣U):x.q*t.q*(U:Rat)=(zE U t x:Rat):=by
 obtain⟨c,rfl⟩:=h;unfold zE;rw[Nat.mul_div_cancel_left _ (Nat.mul_pos x.q.den_pos t.q.den_pos),Rat.intCast_mul,Rat.intCast_mul,Rat.natCast_mul,Rat.natCast_mul];have h1:=q_den x.q;have h2:=q_den t.q;show _=_*(c:Rat)
 rw[<- h1,<- h2];grind
theorem getD_map {α β:Type} {f:α->β} {l:List α} {i:Nat} {d:α} {e:β} (h:i<l.length):(l.map f).getD i e=f (l.getD i d):=by simp[List.getD,h]
theorem tX_at {k U:Nat} {t:FQ} {T:List (List FQ)} (hT:Sqr k T) {i j:Nat} (hi:i<k) (hj:j<k):xg (tX U t T) i j=xE U t ((T.getD i []).getD j q0):=by
 unfold xg tX;rw[getD_map (d:=[]) (by rw[hT.1]; exact hi),getD_map (d:=q0) (by rw[(hT.row hi).2]; exact hj)]
theorem tX_out {k U:Nat} {t:FQ} {T:List (List FQ)} (hT:Sqr k T) {i j:Nat} (h:¬ (i<k/\j<k)):xg (tX U t T) i j=(false,0):=by
 unfold xg tX;by_cases hi:i<k
 ·have hj:k<=j:=by omega
  rw[getD_map (d:=[]) (by rw[hT.1]; exact hi)];have:=(hT.row hi).2;rw[List.getD,List.getElem?_eq_none (by rw[List.length_map,this]; exact hj)];rfl
 ·have hl:k<=i:=by omega
  have:=hT.1;simp[List.getD,this,hl]
theorem tX_q {k U:Nat} {t:FQ} {T:List (List FQ)} (hT:Sqr k T) (hU:0<U) (hd:∀ r∈T,∀ x∈r,x.q.den*t.q.den∣U) {i j:Nat} (hi:i<k) (hj:j<k):xv (xg (tX U t T) i j)/(U:Rat)=en T i j*t.q:=by
 have hr:=hT.row hi;have hx:(T.getD i []).getD j q0∈T.getD i []:=getD_mem (by rw[hr.2]; exact hj);have h:=zE_q (hd _ hr.1 _ hx);have h0:(0:Rat)<(U:Rat):=Rat.natCast_pos.2 hU;rw[tX_at hT hi hj];unfold xv;rw[xE_v,<- h,Rat.div_def,Rat.mul_assoc,Rat.mul_inv_cancel _ (by grind),Rat.mul_one];rfl
theorem tX_xt {k U:Nat} {t:FQ} {T:List (List FQ)} (hT:Sqr k T) (hU:0<U) (hU2:U<2^333) (hd:∀ r∈T,∀ x∈r,x.q.den*t.q.den∣U) (hN:RowB k (fun i j=>en T i j*t.q) 6):XT k 42 (tX U t T):=by
 refine⟨by simp[tX,hT.1],fun r hr=>?_,fun i j=>?_⟩
 ·obtain⟨s,hs,rfl⟩:=List.mem_map.1 hr;simp[hT.2 s hs]
 ·by_cases hij:i<k/\j<k
  ·have h1:=hN.at hij.1 hij.2;have h2:=tX_q hT hU hd hij.1 hij.2;have hr:=hT.row hij.1;have hx:(T.getD i []).getD j q0∈T.getD i []:=getD_mem (by rw[hr.2]; exact hij.2);have h:=zE_q (hd _ hr.1 _ hx);rw[tX_at hT hij.1 hij.2];show (zE U t ((T.getD i []).getD j q0)).natAbs<256^42;have h3:absQ ((zE U t ((T.getD i []).getD j q0):Int):Rat)<=6*(U:Rat):=by
    rw[<- h,absQ_mul,absQ_pos (show (0:Rat)<=(U:Rat) from Rat.natCast_nonneg)];exact Rat.mul_le_mul_of_nonneg_right h1 Rat.natCast_nonneg
   rw[absQ_int] at h3;have h4:(zE U t ((T.getD i []).getD j q0)).natAbs<=6*U:=by
    have e:(6:Rat)*(U:Rat)=((6*U:Nat):Rat):=by rw[Rat.natCast_mul]; rfl
    rw[e] at h3;exact Rat.natCast_le_natCast.1 h3
   have h5:(256:Nat)^42=8*2^333:=by decide +kernel
   omega
  ·rw[tX_out hT hij];exact Nat.pow_pos (by decide)
theorem xSt_dg2 {n A U u hi:Nat} {a:List (List XI)} (hn:1<=n) (hUA:U<=A) (ha:XT n A a) (hu:Dg8 U u) (hh:hi<256):∀ s,XT n ((A+n+1)*s+1) (xSt n a u hi s).1/\Dg8 ((U+1)*s+1) (xSt n a u hi s).2
 |0=>by
  refine⟨mkX_xt fun i k _ _=>?_,by show 1<256^_; rw[Nat.mul_zero]; decide⟩;split
  ·show 1<256^_;rw[Nat.mul_zero];decide
  ·show 0<256^_;exact Nat.pow_pos (by decide)
 |s+1=>by
  obtain⟨h1,h2⟩:=xSt_dg2 hn hUA ha hu hh s;have hj:Dg8 1 (hi-s):=by show hi-s<256^1; omega
  have hq:=(hu.mul hj).mul h2;have e:U+1+((U+1)*s+1)=(U+1)*(s+1)+1:=by rw[Nat.mul_succ]; omega
  rw[e] at hq;have hle:(U+1)*s<=(A+n+1)*s:=Nat.mul_le_mul_right _ (by omega);have e2:(U+1)*(s+1)=(U+1)*s+(U+1):=Nat.mul_succ _ _;have e3:(A+n+1)*(s+1)=(A+n+1)*s+(A+n+1):=Nat.mul_succ _ _;exact⟨(xDiag_xt (D:=A+((A+n+1)*s+1)+n) (xTimes_xt ha h1) (hq.mono (by omega))).mono (by omega),hq⟩
theorem big_of_dg {n:Nat} (h:Dg8 2048 n):n<Big:=by
 have e:(256:Nat)^2048=Big:=by unfold Big B; decide +kernel
 rw[<- e];exact h
def bkQ (q:Nat) (x:XI):FQ:=if h:x.2<Big/\q<Big then qMk ⟨x.v,by unfold XI.v; split <;> simp <;> omega⟩ ⟨(q:Int),h.2⟩ else q0
def bkR (q:Nat) (r:List XI):List FQ:=r.map (bkQ q)
def bkT (q:Nat) (p:List (List XI)):List (List FQ):=p.map (bkR q)
theorem bkQ_q {q:Nat} {x:XI} (hq:0<q) (h1:x.2<Big) (h2:q<Big):(bkQ q x).q*(q:Rat)=xv x:=by
 unfold bkQ;rw[dif_pos ⟨h1,h2⟩,qMk_q,Rat.divInt_eq_div];have h0:(0:Rat)<(q:Rat):=Rat.natCast_pos.2 hq;show (x.v:Rat)/(q:Rat)*(q:Rat)=_;rw[Rat.div_mul_cancel (by grind)];rfl
theorem xv_abs (x:XI):x.v.natAbs=x.2:=by unfold XI.v; split <;> omega
theorem bkQ_sz {q:Nat} {x:XI} {j k:Nat} (hq:0<q) (hk:k<=16384) (hj:j<=16384) (h1:x.2<2^j) (h2:q<2^k):Sz (bkQ q x).q j k:=by
 unfold bkQ;rw[dif_pos ⟨lt_big h1 hj,lt_big h2 hk⟩,qMk_q];exact divInt_sz (by show (q:Int)≠0; omega) (by rw[xv_abs]; exact h1) (by simpa using h2)
theorem bkT_sqr {n D q:Nat} {p:List (List XI)} (h:XT n D p):Sqr n (bkT q p):=⟨by simp[bkT,h.l],fun r hr=>by
 obtain⟨s,hs,rfl⟩:=List.mem_map.1 hr;simp[bkR,h.r s hs]⟩
theorem XT.len {n D:Nat} {p:List (List XI)} (h:XT n D p) {i:Nat} (hi:i<n):(p.getD i []).length=n:=by
 have hl:i<p.length:=by rw[h.l]; exact hi
 exact h.r _ (getD_mem hl)
theorem bkT_at {n D q:Nat} {p:List (List XI)} (h:XT n D p) {i j:Nat} (hi:i<n) (hj:j<n):en (bkT q p) i j=(bkQ q (xg p i j)).q:=by
 unfold en bkT bkR xg;rw[getD_map (d:=[]) (by rw[h.l]; exact hi),getD_map (d:=(false,0)) (by rw[h.len hi]; exact hj)]
theorem pow8 (m:Nat):(256:Nat)^m=2^(8*m):=by rw[Nat.pow_mul]
theorem bkT_sz {n D D' q:Nat} {p:List (List XI)} (h:XT n D p) (hq:0<q) (hq2:Dg8 D' q) (h1:D<=2048) (h2:D'<=2048):∀ r∈bkT q p,SzL r (8*D) (8*D'):=fun r hr x hx=>by
 obtain⟨s,hs,rfl⟩:=List.mem_map.1 hr;obtain⟨y,hy,rfl⟩:=List.mem_map.1 hx;obtain⟨i,hi,rfl⟩:=mem_getD (d:=[]) hs;obtain⟨j,hj,rfl⟩:=mem_getD (d:=(false,0)) hy;exact bkQ_sz hq (by omega) (by omega) (by rw[<- pow8]; exact h.d i j) (by rw[<- pow8]; exact hq2)
theorem bkT_v {n u hi s D D':Nat} {a:List (List XI)} (hu:0<u) (hs:s<=hi) (h:XT n D (xSt n a u hi s).1) (hq2:Dg8 D' (xSt n a u hi s).2) (h1:D<=2048) (h2:D'<=2048) {i j:Nat} (hi':i<n) (hj:j<n) :
  en (bkT (xSt n a u hi s).2 (xSt n a u hi s).1) i j=PS n (fun i l=>xv (xg a i l)/(u:Rat)) (er (hi-s)) (s+1) i j:=by
 have hq:=xSt_q (n:=n) (a:=a) (hi:=hi) hu s hs;have e:=xSt_v (n:=n) (a:=a) (hi:=hi) hu s hs i j hi' hj;rw[bkT_at h hi' hj];have h3:=bkQ_q hq (big_of_dg ((h.d i j).mono h1)) (big_of_dg (hq2.mono h2));rw[e] at h3;have h0:(0:Rat)<((xSt n a u hi s).2:Rat):=Rat.natCast_pos.2 hq;generalize ((xSt n a u hi s).2:Rat)=Q at *
 have h4:∀ x y:Rat,x*Q=Q*y->x=y:=fun x y h=>by
  have e1:x*Q*Q⁻¹=Q*y*Q⁻¹:=by rw[h]
  rw[Rat.mul_assoc,Rat.mul_inv_cancel _ (by grind),Rat.mul_one,Rat.mul_comm Q,Rat.mul_assoc,Rat.mul_inv_cancel _ (by grind),Rat.mul_one] at e1;exact e1
 exact h4 _ _ h3
theorem PS_congr2 {n:Nat} {A B:Nat->Nat->Rat} {a b:Nat->Rat} (h:∀ i j,i<n->j<n->A i j=B i j) (e:∀ m,a m=b m) (N:Nat) {i j:Nat} (hi:i<n) (hj:j<n):PS n A a N i j=PS n B b N i j:=SS_congr fun m _=>by rw[pw_congr h m hi hj,e m]
theorem lD_lt {d:Nat} (hd:d<2^196):∀ m,m<=24->gD 0 d m<=2^(201*m+1)
 |0,_=>by unfold gD; decide
 |m+1,h=>by
  have h1:=lD_lt hd m (by omega);have h2:d*(m+1+0)<=2^196*2^5:=Nat.mul_le_mul (Nat.le_of_lt hd) (Nat.le_trans (by omega:m+1+0<=32) (by decide));have h3:=Nat.mul_le_mul h1 h2;rw[<- Nat.pow_add,<- Nat.pow_add] at h3;exact Nat.le_trans h3 (Nat.pow_le_pow_right (by decide) (by omega))
theorem ex_gT (r:Rat) (m:Nat):ex m r=gT 0 r m:=by
 have h:=ex_mul 1 r m;rw[Rat.one_mul] at h;exact h.symm
theorem left_sz {N:Rat} {m:Nat} (h0:0<=N) (hN:Sz N 196 196) (hm:m<=24):Sz (2*ex m N) (196*m+2) (201*m+2):=by
 refine den_sz (gD_pos (s:=0) N.den_pos m) (n:=2*N.num.natAbs^m) ?_ ?_ ?_
 ·rw[ex_gT,Rat.natCast_mul,<- gT_den (s:=0) (by omega) h0 m,Rat.mul_assoc];rfl
 ·have:N.num.natAbs^m<=2^(196*m):=by
   rw[Nat.pow_mul];exact Nat.pow_le_pow_left (Nat.le_of_lt hN.1) _
  rw[Nat.pow_succ,Nat.pow_succ];have:=Nat.pow_pos (n:=196*m) (show 0<2 by decide);omega
 ·exact Nat.lt_of_le_of_lt (lD_lt hN.2 m hm) (Nat.pow_lt_pow_right (by decide) (by omega))
theorem left_T {N out:FQ} {m:Nat} (h0:0<=N.q) (hN:Sz N.q 196 196) (hm:m<24) (ho:out.q=2*ex m N.q) :
  ∃ x o,qMul out N=.ok x/\qMul x (qOf 1 (m+1:Nat))=.ok o/\o.q=2*ex (m+1) N.q:=by
 have z:=left_sz (m:=m) h0 hN (by omega);rw[<- ho] at z;obtain⟨x,x1,x2,x3⟩:=qMul_ok z hN (by omega) (by omega);obtain⟨u1,u2⟩:=unit_q (d:=m+1) (by omega) (by omega);obtain⟨o,o1,o2,_⟩:=qMul_ok x3 u2 (by omega) (by omega);refine⟨x,o,x1,o1,?_⟩;rw[o2,x2,u1,ho];show _=2*(ex m N.q*N.q/((m:Rat)+1))
 have e:((m+1:Nat):Rat)=(m:Rat)+1:=by rw[Rat.natCast_add]; rfl
 rw[e,Rat.div_def,Rat.div_def];grind
theorem ex_mono {x y:Rat} (h0:0<=x) (h:x<=y):∀ m,ex m x<=ex m y
 |0=>Rat.le_refl
 |m+1=>by
  have h1:=ex_mono h0 h m;have h2:=ex_nonneg h0 m;have h3:=nat1_pos m;show ex m x*x/((m:Rat)+1)<=ex m y*y/((m:Rat)+1);rw[Rat.div_def,Rat.div_def];refine Rat.mul_le_mul_of_nonneg_right ?_ (Rat.le_of_lt (Rat.inv_pos.2 h3));exact Rat.le_trans (Rat.mul_le_mul_of_nonneg_left h h2) (Rat.mul_le_mul_of_nonneg_right h1 (Rat.le_trans h0 h))
theorem row_time {k:Nat} {T:List (List FQ)} {t N:Rat} (hk:0<k) (hT:Sqr k T) (ht:0<=t) (hN0:0<=N) (h:RowB k (fun i j=>en T i j*t) N):∃ c,RowB k (en T) c/\0<=c/\absQ t*c<=N:=by
 by_cases h0:t=0
 ·obtain⟨c,c1,c2⟩:=row_all hk hT;refine⟨c,c1,c2,?_⟩;rw[absQ_pos ht,h0,Rat.zero_mul];exact hN0
 ·have tp:0<t:=by grind
  have ip:=Rat.inv_pos.2 tp;have hc:=(h.scale (s:=t⁻¹)).congr (B:=en T) fun i j _ _=>by
   rw[Rat.mul_assoc,Rat.mul_inv_cancel _ h0,Rat.mul_one]
  rw[absQ_pos (Rat.le_of_lt ip)] at hc;refine⟨N*t⁻¹,hc,Rat.mul_nonneg hN0 (Rat.le_of_lt ip),?_⟩;rw[absQ_pos ht,Rat.mul_comm N,<- Rat.mul_assoc,Rat.mul_inv_cancel _ h0,Rat.one_mul];exact Rat.le_refl
end
set_option exponentiation.threshold 20000
section
open Go Go.RowKit Go.Proofs.Tryz
attribute [local irreducible] qMk mMake mTwice mTimes mHolds mScale mPlus mNear mOne mNorm qMul qAdd qSub dCmpQ gT xSt tX bkT er PS
structure MtS (s:FS) (x b:FQ) (low high:FQ) (l h:Int):Prop where
 m1:qSub x b=.ok low
 m2:qAdd x b=.ok high
 m3:dCmpQ s.lo high=.ok l
 m4:¬ l > 0
 m5:dCmpQ s.hi low=.ok h
 m6:¬ h<0
theorem mt_T {s:FS} {x b:FQ} {K L j k j' k':Nat} (hs:SGr K L s) (hx:Sz x.q j k) (hb:Sz b.q j' k') (h1:K+L+(k+k')<=16384) (h2:j+k'+(L+1)+1<=16384) (h3:j'+k+(L+1)+1<=16384)
  (v1:s.lo.v<=x.q+b.q) (v2:x.q-b.q<=s.hi.v):∃ low high l h,MtS s x b low high l h:=by
 obtain⟨t,t1,t2,t3⟩:∃ t,j+k'<=t/\j'+k<=t/\t+1+(L+1)<=16384:=⟨max (j+k') (j'+k),by omega,by omega,by omega⟩
 obtain⟨low,a1,a2,a3⟩:=qSub_ok hx hb t1 t2 (by omega) (by omega);obtain⟨high,b1,b2,b3⟩:=qAdd_ok hx hb t1 t2 (by omega) (by omega);refine⟨low,high,_,_,a1,b1,dCmpQ_ok hs.1 b3 h1 (by omega),?_,dCmpQ_ok hs.2 a3 h1 (by omega),?_⟩
 ·have:s.lo.v<=high.q:=by rw[b2]; exact v1
  have:=cmpQ_le.2 this;omega
 ·have:low.q<=s.hi.v:=by rw[a2]; exact v2
  have:=cmpQ_ge.2 this;omega
def one13 (T:List (List FQ)) (t:FQ):List (List FQ):=bkT (xSt T.length (tX (uN T t) t T) (uN T t) 23 23).2 (xSt T.length (tX (uN T t) t T) (uN T t) 23 23).1
def two13 (T:List (List FQ)) (t:FQ):List (List FQ):=bkT (xSt T.length (tX (uN T t) t T) (uN T t) 24 23).2 (xSt T.length (tX (uN T t) t T) (uN T t) 24 23).1
structure SumS (k:Nat) (T:List (List FQ)) (t:FQ) (two:List (List FQ)):Prop where
 ol:Sqr k (one13 T t)
 ov:∀ i j,i<k->j<k->en (one13 T t) i j=EN k (en T) t.q 24 i j
 oz:∀ r∈one13 T t,SzL r 8472 7920
 ts:mScale (two13 T t) t=.ok two
 tl:Sqr k two
 tv:∀ i j,i<k->j<k->en two i j=UN k (en T) t.q 24 i j
 tz:∀ r∈two,SzL r 8504 7952
 xt:XT k 42 (tX (uN T t) t T)
 u0:0<uN T t
 tl0:Sqr k (two13 T t)
theorem in3_den {k:Nat} {T:List (List FQ)} {t:FQ} (h:In3 k T t):∀ r∈T,∀ x∈r,x.q.den*t.q.den∣uN T t:=fun r hr x hx=>by
 rw[Nat.mul_comm];exact uT_mem hx hr
theorem sum_T {k:Nat} {T:List (List FQ)} {t:FQ} (h:In3 k T t) (hU:uN T t<2^333):∃ two,SumS k T t two:=by
 have u0:0<uN T t:=uT_pos T t.q.den_pos;have hx:=tX_xt h.sq u0 hU (in3_den h) h.row;have hu:Dg8 42 (uN T t):=by
  show _<256^42;have:(256:Nat)^42=8*2^333:=by decide +kernel
  omega
 have hq:=fun i j hi hj=>tX_q (t:=t) h.sq u0 (in3_den h) (i:=i) (j:=j) hi hj
 have k3:=h.k3;have k1:=h.k1;have hl:T.length=k:=h.sq.1;have hm:(42+k+1)*23+1<=1059:=by omega
 obtain⟨a1,a2⟩:=xSt_dg2 (hi:=23) k1 (Nat.le_refl _) hx hu (by decide) 23;obtain⟨b1,b2⟩:=xSt_dg2 (hi:=24) k1 (Nat.le_refl _) hx hu (by decide) 23;have a1:=a1.mono hm;have b1:=b1.mono hm;have t1:Sqr k (two13 T t):=by unfold two13; rw[hl]; exact bkT_sqr b1
 have t2:∀ r∈two13 T t,SzL r 8472 7920:=by
  have q0:0<(xSt k (tX (uN T t) t T) (uN T t) 24 23).2:=xSt_q u0 _ (by decide);have z:=bkT_sz b1 q0 b2 (by decide) (by decide);unfold two13;rw[hl];intro r hr;have z1:=z r hr;clear z hr;exact SzL.mono z1 (by decide) (by decide)
 obtain⟨two,c1,c2,c3,c4⟩:=scale_full t1 t2 h.st (by decide) (by decide);refine⟨two,?_,fun i j hi hj=>?_,?_,c1,c2,fun i j hi hj=>?_,c4,hx,u0,t1⟩
 ·unfold one13; rw[hl]; exact bkT_sqr a1
 ·unfold one13;rw[hl,bkT_v u0 (by decide) a1 a2 (by decide) (by decide) hi hj,<- EN_scale];exact PS_congr2 hq er_0 24 hi hj
 ·have q0:0<(xSt k (tX (uN T t) t T) (uN T t) 23 23).2:=xSt_q u0 _ (by decide);have z:=bkT_sz a1 q0 a2 (by decide) (by decide);unfold one13;rw[hl];intro r hr;have z1:=z r hr;clear z hr;exact SzL.mono z1 (by decide) (by decide)
 ·rw[c3 i j hi hj];unfold two13;rw[hl,bkT_v u0 (by decide) b1 b2 (by decide) (by decide) hi hj,<- UN_scale];congr 1;exact PS_congr2 hq er_1 24 hi hj
structure LefS (k:Nat) (T:List (List FQ)) (t:FQ) (m:List (List FQ)) (N rest less:FQ):Prop where
 sc:mScale T t=.ok m
 m6:Six m
 nm:mNorm m=.ok N
 n0:0<=N.q
 nz:Sz N.q 196 196
 n6:N.q<=6
 rq:rest.q=2*ex 24 N.q
 lq:qMul rest t=.ok less
theorem left_all {k:Nat} {T:List (List FQ)} {t:FQ} (h:In3 k T t):∃ m N rest less,LefS k T t m N rest less/\less.q=rest.q*t.q/\Sz rest.q 4706 4826/\Sz less.q 4738 4858/\∃ c,RowB k (en T) c/\0<=c/\absQ t.q*c<=N.q:=by
 have k3:=h.k3;have k1:=h.k1;obtain⟨m,M1,M2,M3,M4⟩:=scale_full h.sq h.sz h.st (by omega) (by omega);have M5:SzT m 64:=fun r hr=>(M4 r hr).mono (by omega) (by omega)
 obtain⟨N,n1,n2,n3,n4,n5⟩:=norm_ok (m:=64) (n:=k) rfl (by omega) M2 M5;have nz:Sz N.q 196 196:=n5.mono (by omega) (by omega);have z:=left_sz (m:=24) n2 nz (by omega);obtain⟨rest,hr⟩:∃ r:FQ,r.q=2*ex 24 N.q:=⟨⟨_,lt_big z.1 (by omega),lt_big z.2 (by omega)⟩,rfl⟩
 rw[<- hr] at z;have z:=z.mono (j':=4706) (k':=4826) (by omega) (by omega);obtain⟨less,l1,l2,l3⟩:=qMul_ok z h.st (by omega) (by omega);have n6:N.q<=6:=norm_le rfl (by omega) (by omega) M2 M5 n1 (h.row.congr fun i j hi hj=>M3 i j hi hj);obtain⟨c,c1,c2,c3⟩:=row_time (by omega) h.sq h.nn n2 ((rowB_of M2 n3).congr fun i j hi hj=>(M3 i j hi hj).symm);exact⟨m,N,rest,less,⟨M1,⟨by rw[M2.1]; omega,M2.rows6 (by omega)⟩,n1,n2,nz,n6,hr,l1⟩,l2,z,l3,c,c1,c2,c3⟩
theorem hold13_T {k b:Nat} {T:List (List FQ)} {t:FQ} (hb:b=16\/b=60) (h:In3 k T t) {two m:List (List FQ)} {N rest less:FQ} (hs:SumS k T t two) (hl:LefS k T t m N rest less) (el:less.q=rest.q*t.q) (z1:Sz rest.q 4706 4826) (z2:Sz less.q 4738 4858)
  (hc:∃ c,RowB k (en T) c/\0<=c/\absQ t.q*c<=N.q):∃ p,mMake T t b=.ok p/\SqG k p.1/\SqG k p.2 /\
  (∀ i j,i<k->j<k->∃ low high l h,MtS (sp p.1 i j) (((one13 T t).getD i []).getD j q0) rest low high l h) /\
  (∀ i j,i<k->j<k->∃ low high l h,MtS (sp p.2 i j) ((two.getD i []).getD j q0) less low high l h):=by
 have k3:=h.k3;have k1:=h.k1;obtain⟨c,c1,c2,c3⟩:=hc;obtain⟨p,p1,p2⟩:=made (b:=b) (by omega) (by omega) k1 k3 h.sq (fun r hr=>(h.sz r hr).mono (by omega) (by omega)) (h.st.mono (by omega) (by omega)) h.nn (fun i hi=>Rat.le_trans (h.row i hi) (by decide +kernel));have ht0:0<=absQ t.q*c:=Rat.mul_nonneg (absQ_nonneg _) c2;have n6:=hl.n6;have hM:2*(absQ t.q*c)<=((24:Nat):Rat)+1:=by
  have:absQ t.q*c<=6:=Rat.le_trans c3 n6;have e:((24:Nat):Rat)+1=25:=by decide +kernel
  rw[e];grind
 have hr:2*ex 24 (absQ t.q*c)<=rest.q:=by
  rw[hl.rq];exact Rat.mul_le_mul_of_nonneg_left (ex_mono ht0 c3 24) (by decide)
 have pe:=p2.e.mono (show 48<=150 by omega) (show 2080<=2300 by omega);have ps:=p2.s;refine⟨p,p1,p2.e.1,p2.s.1,fun i j hi hj=>?_,fun i j hi hj=>?_⟩
 ·obtain⟨⟨w1,w2⟩,w3,w4⟩:=within_law c1 c2 pe ps hM hr hi hj;have hx:Sz (((one13 T t).getD i []).getD j q0).q 8472 7920:=hs.oz _ (hs.ol.row hi).1 _ (getD_mem (by rw[(hs.ol.row hi).2]; exact hj));have e:=hs.ov i j hi hj;refine mt_T ((pe.2 i j hi hj).1) hx z1 (by omega) (by omega) (by omega) ?_ ?_
  ·show _<=en (one13 T t) i j+_;rw[e];exact w1
  ·show en (one13 T t) i j-_<=_;rw[e];exact w2
 ·obtain⟨⟨w1,w2⟩,w3,w4⟩:=within_law c1 c2 pe ps hM hr hi hj;have hx:Sz ((two.getD i []).getD j q0).q 8504 7952:=hs.tz _ (hs.tl.row hi).1 _ (getD_mem (by rw[(hs.tl.row hi).2]; exact hj));have e:=hs.tv i j hi hj;rw[absQ_pos h.nn,Rat.mul_comm t.q,<- el] at w3 w4;refine mt_T ((ps.2 i j hi hj).1) hx z2 (by omega) (by omega) (by omega) ?_ ?_
  ·show _<=en two i j+_;rw[e];exact w3
  ·show en two i j-_<=_;rw[e];exact w4
end
section
open Go Go.RowKit Go.Proofs.Tryz
def flatC:Code->Bool
 |.loop _=>false
 |.seq a b=>flatC a&&flatC b
 |.cond _ a b=>flatC a&&flatC b
 |.block _ _=>false
 |_=>true
theorem Pc.goF {N:Nat} {a b:Code} {fr:List (Nat×AV)} {st:Sts} {g:Nat} {Q:NPost} (hf:flatC a=true) (hN:codeN N a=true) (h:nwp prog ty N a fr st g (thenP (fun fr st g=>Pc prog N b fr st g Q) Q)):Pc prog N (.seq a b) fr st g Q:=Pc.go hN h
theorem Pc.endF {N:Nat} {c:Code} {fr:List (Nat×AV)} {st:Sts} {g:Nat} {Q:NPost} (hf:flatC c=true) (hN:codeN N c=true) (h:nwp prog ty N c fr st g Q):Pc prog N c fr st g Q:=pcN hN h
theorem callE {P:Program} {dr:Bool} {i:Nat} {s:AS} {n:FuncId} {args:List AV} {K:Eff->Prop} {res:AV} (h:ACalls P n args res) (hc:AV.closedL args=true) (hr:res.closed=true) (k:K { v:=res }):CallF P dr i s n args K:=by
 cases dr
 ·exact callS h hc hr k
 ·exact callD h hc hr k
end
end Go.Proofs.YtjdkdcmpifapeaaGreatDoor.Abs
