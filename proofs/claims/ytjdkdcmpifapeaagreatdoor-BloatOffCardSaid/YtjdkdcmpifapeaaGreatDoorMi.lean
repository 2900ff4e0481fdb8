/- Numbers that have room: whole ones and ratios; what is reckoned of them. -/
import Derived.Test.YtjdkdcmpifapeaaGreatDoorMe
set_option linter.unusedVariables false
set_option linter.unusedSectionVars false
set_option linter.unusedSimpArgs false
namespace Go.Proofs.YtjdkdcmpifapeaaGreatDoor.Abs
section
open Go Go.RowKit
def maxBits:Nat:=16384
theorem B_pow (k:Nat):B^k=2^(32*k):=by rw[Nat.pow_mul]; rfl
theorem Big_of (k t:Nat) (hk:32*k=t) (h:Big=B^k):Big=2^t:=by rw[h,B_pow,hk]
theorem Big_eq:Big=2^maxBits:=Big_of 512 maxBits rfl (by unfold Big; rfl)
theorem Big_pos:0<Big:=by rw[Big_eq]; exact Nat.two_pow_pos _
theorem one_lt_Big:1<Big:=by rw[Big_eq]; exact Nat.one_lt_two_pow (by decide)
structure FZ where
 z:Int
 h:z.natAbs<Big
structure FQ where
 q:Rat
 hn:q.num.natAbs<Big
 hd:q.den<Big
theorem FZ.ext {a b:FZ} (h:a.z=b.z):a=b:=by cases a; cases b; cases h; rfl
theorem FQ.ext {a b:FQ} (h:a.q=b.q):a=b:=by cases a; cases b; cases h; rfl
def fitZ (z:Int):Except Nat FZ:=if h:z.natAbs<Big then .ok ⟨z,h⟩ else .error eLimbs
theorem fitZ_ok {z:Int} (h:z.natAbs<Big):fitZ z=.ok ⟨z,h⟩:=by simp[fitZ,h]
theorem fitZ_no {z:Int} (h:¬ z.natAbs<Big):fitZ z=.error eLimbs:=by simp[fitZ,h]
def cmpZ (a b:Int):Int:=if a<b then -1 else if a=b then 0 else 1
def sgnZ (a:Int):Int:=if a=0 then 0 else if a<0 then -1 else 1
def z0:FZ:=⟨0,Big_pos⟩
def zAdd (a b:FZ):Except Nat FZ:=fitZ (a.z+b.z)
def zMul (a b:FZ):Except Nat FZ:=fitZ (a.z*b.z)
def zNeg (a:FZ):FZ:=⟨-a.z,by rw[Int.natAbs_neg]; exact a.h⟩
def zLeft (a:FZ) (n:Nat):Except Nat FZ:=if a.z=0 then .ok z0 else if n > 16384 then .error eLimbs else fitZ (a.z*2^n)
theorem ediv_natAbs_le (a:Int) {b:Int} (hb:0<b):(a/b).natAbs<=a.natAbs:=by
 rcases Int.le_total 0 a with h | h
 ·obtain⟨n,rfl⟩:=Int.eq_ofNat_of_zero_le h;obtain⟨m,rfl⟩:=Int.eq_ofNat_of_zero_le (Int.le_of_lt hb);exact Nat.div_le_self n m
 ·have h1:a<=a/b:=by
   apply Int.le_ediv_of_mul_le hb;have:a*b<=a*1:=Int.mul_le_mul_of_nonpos_left h (by omega);omega
  have h2:a/b<=0:=by
   have:a/b<1:=Int.ediv_lt_of_lt_mul hb (by omega);omega
  omega
def zRight (a:FZ) (n:Nat):FZ:=⟨a.z/2^n,Nat.lt_of_le_of_lt (ediv_natAbs_le _ (by exact Int.pow_pos (by decide))) a.h⟩
theorem divInt_natAbs (a b:Int) (hb:b≠0):(Rat.divInt a b).num.natAbs=a.natAbs/Nat.gcd a.natAbs b.natAbs:=by
 rw[Rat.num_divInt];have h1:(b.sign*a/(b.gcd a:Int)).natAbs=(b.sign*a).natAbs/b.gcd a:=by
  rw[Int.natAbs_ediv_of_dvd]
  ·simp
  ·exact Int.dvd_trans (Int.gcd_dvd_right (a:=b) (b:=a)) (Int.dvd_mul_left _ _)
 rw[h1,Int.natAbs_mul,Int.natAbs_sign_of_ne_zero hb,Nat.one_mul,Int.gcd,Nat.gcd_comm]
theorem divInt_den (a b:Int) (hb:b≠0):(Rat.divInt a b).den=b.natAbs/Nat.gcd a.natAbs b.natAbs:=by
 rw[Rat.den_divInt,if_neg hb,Int.gcd,Nat.gcd_comm]
theorem divInt_neg (a b:Int) (hb:b≠0):(Rat.divInt a b).num<0↔(decide (a<0) !=decide (b<0))=true/\a≠0:=by
 rw[Rat.num_divInt];have hg:0<(b.gcd a:Int):=by
  have:0<b.gcd a:=Int.gcd_pos_of_ne_zero_left _ hb;omega
 have hd:(b.gcd a:Int)∣b.sign*a:=Int.dvd_trans (Int.gcd_dvd_right (a:=b) (b:=a)) (Int.dvd_mul_left _ _);obtain⟨k,hk⟩:=hd;rw[hk,Int.mul_ediv_cancel_left _ (by omega)];have e:k<0↔b.sign*a<0:=by
  rw[hk];constructor
  ·intro h; exact Int.mul_neg_of_pos_of_neg hg h
  ·intro h;apply Int.lt_of_not_ge;intro h2;have:=Int.mul_nonneg (Int.le_of_lt hg) h2;omega
 rw[e];rcases Int.lt_trichotomy b 0 with h | h | h
 ·rw[Int.sign_eq_neg_one_of_neg h];simp[h];omega
 ·exact absurd h hb
 ·rw[Int.sign_eq_one_of_pos h];have:¬ b<0:=by omega
  simp[this];omega
def qMk (n d:FZ):FQ:=⟨Rat.divInt n.z d.z,by
  by_cases h:d.z=0
  ·rw[h,Rat.divInt_zero]; exact Big_pos
  ·rw[divInt_natAbs _ _ h]; exact Nat.lt_of_le_of_lt (Nat.div_le_self _ _) n.h,by
  by_cases h:d.z=0
  ·rw[h,Rat.divInt_zero]; exact one_lt_Big
  ·rw[divInt_den _ _ h]; exact Nat.lt_of_le_of_lt (Nat.div_le_self _ _) d.h⟩
def q0:FQ:=⟨0,Big_pos,one_lt_Big⟩
def qNum (a:FQ):FZ:=⟨a.q.num,a.hn⟩
def qDen (a:FQ):FZ:=⟨(a.q.den:Int),a.hd⟩
def qMake (n d:FZ):Except Nat FQ:=if d.z=0 then .error eZero else .ok (qMk n d)
def bnd {α β:Type} (r:Except Nat α) (f:α->Except Nat β):Except Nat β :=
 match r with
 |.error e=>.error e
 |.ok x=>f x
def qAdd (a b:FQ):Except Nat FQ:=bnd (zMul (qNum a) (qDen b)) fun x=>bnd (zMul (qNum b) (qDen a)) fun y=>bnd (zMul (qDen a) (qDen b)) fun d=>bnd (zAdd x y) fun n=>qMake n d
def qMul (a b:FQ):Except Nat FQ:=bnd (zMul (qNum a) (qNum b)) fun n=>bnd (zMul (qDen a) (qDen b)) fun d=>qMake n d
def qDiv (a b:FQ):Except Nat FQ:=bnd (zMul (qNum a) (qDen b)) fun n=>bnd (zMul (qDen a) (qNum b)) fun d=>qMake n d
def qNeg (a:FQ):FQ:=⟨-a.q,by rw[Rat.neg_num,Int.natAbs_neg]; exact a.hn,by rw[Rat.neg_den]; exact a.hd⟩
def qAbs (a:FQ):FQ:=if a.q.num<0 then qNeg a else a
def foldE {σ α:Type} (f:σ->α->Except Nat σ):σ->List α->Except Nat σ
 |acc,[]=>.ok acc
 |acc,a::l=>match f acc a with
  |.error e=>.error e
  |.ok r=>foldE f r l
def runE {α β:Type} (f:α->Except Nat β):List α->Except Nat (List β)
 |[]=>.ok []
 |a::l=>match f a with
  |.error e=>.error e
  |.ok b=>match runE f l with
   |.error e=>.error e
   |.ok r=>.ok (b::r)
def qSum (l:List FQ):Except Nat FQ:=foldE qAdd q0 l
def qCmp (a b:FQ):Except Nat Int:=bnd (zMul (qNum a) (qDen b)) fun x=>bnd (zMul (qNum b) (qDen a)) fun y=>.ok (cmpZ x.z y.z)
def qSgn (a:FQ):Int:=sgnZ a.q.num
theorem qMk_q (n d:FZ):(qMk n d).q=Rat.divInt n.z d.z:=rfl
theorem qMake_ok {n d:FZ} (h:d.z≠0):qMake n d=.ok (qMk n d):=by simp[qMake,h]
def Sz (q:Rat) (j k:Nat):Prop:=q.num.natAbs<2^j/\q.den<2^k
theorem Sz.mono {q:Rat} {j k j' k':Nat} (h:Sz q j k) (hj:j<=j') (hk:k<=k'):Sz q j' k' :=
 ⟨Nat.lt_of_lt_of_le h.1 (Nat.pow_le_pow_right (by decide) hj),Nat.lt_of_lt_of_le h.2 (Nat.pow_le_pow_right (by decide) hk)⟩
theorem lt_big {n k:Nat} (h:n<2^k) (hk:k<=16384):n<Big:=by
 rw[Big_eq]; exact Nat.lt_of_lt_of_le h (Nat.pow_le_pow_right (by decide) hk)
theorem mul_lt_pow {a b j k:Nat} (ha:a<2^j) (hb:b<2^k):a*b<2^(j+k):=by
 rw[Nat.pow_add];exact Nat.mul_lt_mul'' ha hb
theorem zMul_ok {a b:FZ} {j k:Nat} (ha:a.z.natAbs<2^j) (hb:b.z.natAbs<2^k) (h:j+k<=16384):∃ r,zMul a b=.ok r/\r.z=a.z*b.z/\r.z.natAbs<2^(j+k):=by
 have h1:(a.z*b.z).natAbs<2^(j+k):=by rw[Int.natAbs_mul]; exact mul_lt_pow ha hb
 exact⟨_,fitZ_ok (lt_big h1 h),rfl,h1⟩
theorem zAdd_ok {a b:FZ} {k:Nat} (ha:a.z.natAbs<2^k) (hb:b.z.natAbs<2^k) (h:k+1<=16384):∃ r,zAdd a b=.ok r/\r.z=a.z+b.z/\r.z.natAbs<2^(k+1):=by
 have h1:(a.z+b.z).natAbs<2^(k+1):=by
  have:=Int.natAbs_add_le a.z b.z;rw[Nat.pow_succ];omega
 exact⟨_,fitZ_ok (lt_big h1 h),rfl,h1⟩
theorem den_ne (a:FQ):(a.q.den:Int)≠0:=by have:=a.q.den_nz; omega
theorem divInt_sz {n d:Int} {j k:Nat} (hd0:d≠0) (hn:n.natAbs<2^j) (hd:d.natAbs<2^k):Sz (Rat.divInt n d) j k:=by
 refine⟨?_,?_⟩
 ·rw[divInt_natAbs _ _ hd0]; exact Nat.lt_of_le_of_lt (Nat.div_le_self _ _) hn
 ·rw[divInt_den _ _ hd0]; exact Nat.lt_of_le_of_lt (Nat.div_le_self _ _) hd
theorem rat_eq (a:Rat):a=Rat.divInt a.num a.den:=(Rat.num_divInt_den a).symm
theorem qAdd_ok {a b:FQ} {j k j' k':Nat} (ha:Sz a.q j k) (hb:Sz b.q j' k') {t:Nat} (h1:j+k'<=t) (h2:j'+k<=t) (ht:t+1<=16384) (h3:k+k'<=16384) :
  ∃ r,qAdd a b=.ok r/\r.q=a.q+b.q/\Sz r.q (t+1) (k+k'):=by
 obtain⟨x,e1,x1,x2⟩:=zMul_ok (a:=qNum a) (b:=qDen b) (j:=j) (k:=k') ha.1 hb.2 (by omega);obtain⟨y,e2,y1,y2⟩:=zMul_ok (a:=qNum b) (b:=qDen a) (j:=j') (k:=k) hb.1 ha.2 (by omega);obtain⟨d,e3,d1,d2⟩:=zMul_ok (a:=qDen a) (b:=qDen b) (j:=k) (k:=k') ha.2 hb.2 (by omega);obtain⟨n,e4,n1,n2⟩:=zAdd_ok (a:=x) (b:=y) (k:=t) (Nat.lt_of_lt_of_le x2 (Nat.pow_le_pow_right (by decide) h1)) (Nat.lt_of_lt_of_le y2 (Nat.pow_le_pow_right (by decide) h2)) ht;have hd:d.z≠0:=by rw[d1]; exact Int.mul_ne_zero (den_ne a) (den_ne b)
 refine⟨qMk n d,?_,?_,?_⟩
 ·simp only[qAdd,bnd,e1,e2,e3,e4,qMake_ok hd]
 ·rw[qMk_q,n1,x1,y1,d1];conv=>rhs; rw[rat_eq a.q,rat_eq b.q]
  rw[Rat.divInt_add_divInt _ _ (den_ne a) (den_ne b)];rfl
 ·exact divInt_sz hd n2 d2
theorem qMul_ok {a b:FQ} {j k j' k':Nat} (ha:Sz a.q j k) (hb:Sz b.q j' k') (h1:j+j'<=16384) (h3:k+k'<=16384) :
  ∃ r,qMul a b=.ok r/\r.q=a.q*b.q/\Sz r.q (j+j') (k+k'):=by
 obtain⟨x,e1,x1,x2⟩:=zMul_ok (a:=qNum a) (b:=qNum b) (j:=j) (k:=j') ha.1 hb.1 h1;obtain⟨d,e3,d1,d2⟩:=zMul_ok (a:=qDen a) (b:=qDen b) (j:=k) (k:=k') ha.2 hb.2 h3;have hd:d.z≠0:=by rw[d1]; exact Int.mul_ne_zero (den_ne a) (den_ne b)
 refine⟨qMk x d,?_,?_,?_⟩
 ·simp only[qMul,bnd,e1,e3,qMake_ok hd]
 ·rw[qMk_q,x1,d1];conv=>rhs; rw[rat_eq a.q,rat_eq b.q]
  rw[Rat.divInt_mul_divInt];rfl
 ·exact divInt_sz hd x2 d2
theorem qNeg_q (a:FQ):(qNeg a).q=-a.q:=rfl
theorem Sz.neg {q:Rat} {j k:Nat} (h:Sz q j k):Sz (-q) j k:=by
 refine⟨?_,?_⟩
 ·rw[Rat.neg_num,Int.natAbs_neg]; exact h.1
 ·rw[Rat.neg_den]; exact h.2
def cmpQ (a b:Rat):Int:=if a<b then -1 else if a=b then 0 else 1
theorem cmpQ_eq (a b:Rat):cmpZ (a.num*b.den) (b.num*a.den)=cmpQ a b:=by
 unfold cmpZ cmpQ;simp only[Rat.lt_iff,Rat.eq_iff_mul_eq_mul]
theorem qCmp_ok {a b:FQ} {j k j' k':Nat} (ha:Sz a.q j k) (hb:Sz b.q j' k') (h1:j+k'<=16384) (h2:j'+k<=16384):qCmp a b=.ok (cmpQ a.q b.q):=by
 obtain⟨x,e1,x1,x2⟩:=zMul_ok (a:=qNum a) (b:=qDen b) (j:=j) (k:=k') ha.1 hb.2 h1;obtain⟨y,e2,y1,y2⟩:=zMul_ok (a:=qNum b) (b:=qDen a) (j:=j') (k:=k) hb.1 ha.2 h2;simp only[qCmp,bnd,e1,e2,x1,y1,<- cmpQ_eq];rfl
theorem qCmp_eq {a b:FQ} {c:Int} (h:qCmp a b=.ok c):c=cmpQ a.q b.q:=by
 unfold qCmp bnd at h;split at h
 ·cases h
 ·rename_i x hx;split at h
  ·cases h
  ·rename_i y hy;cases h;rw[<- cmpQ_eq];have e:∀ (u v w:FZ),zMul u v=.ok w->w.z=u.z*v.z:=by
    intro u v w h;unfold zMul fitZ at h;split at h
    ·cases h; rfl
    ·cases h
   rw[e _ _ _ hx,e _ _ _ hy];rfl
end
section
open Go Go.RowKit
structure FD where
 man:Int
 exp:Int
 hm:man.natAbs<Big
 he:-65536<=exp/\exp<=65536
 hc:man%2=1\/(man=0/\exp=0)
theorem FD.ext {a b:FD} (h:a.man=b.man) (g:a.exp=b.exp):a=b:=by cases a; cases b; cases h; cases g; rfl
def d0:FD:=⟨0,0,Big_pos,by decide,.inr ⟨rfl,rfl⟩⟩
def dMan (a:FD):FZ:=⟨a.man,a.hm⟩
theorem tz_dvd {n:Int} (h:n≠0):∃ m:Int,n=2^tz n.natAbs*m/\m%2=1:=by
 obtain⟨k,hk⟩:=tz_spec (n:=n.natAbs) (by omega);rcases Int.natAbs_eq n with e | e
 ·refine⟨2*k+1,?_,by omega⟩;rw[e];conv=>lhs; rw[hk]
  simp
 ·refine⟨-(2*k+1),?_,by omega⟩;rw[e];conv=>lhs; rw[hk]
  simp[Int.mul_neg]
theorem two_pow_pos' (n:Nat):(0:Int)<2^n:=Int.pow_pos (by decide)
theorem tz_div {n:Int} (h:n≠0):n/2^tz n.natAbs%2=1/\n=2^tz n.natAbs*(n/2^tz n.natAbs):=by
 obtain⟨m,h1,h2⟩:=tz_dvd h;have h3:n/2^tz n.natAbs=m:=by
  have:n/2^tz n.natAbs=(2^tz n.natAbs*m)/2^tz n.natAbs:=congrArg (·/2^tz n.natAbs) h1;rw[this,Int.mul_ediv_cancel_left _ (by have:=two_pow_pos' (tz n.natAbs); omega)]
 rw[h3];exact⟨h2,h1⟩
def dMake (m:FZ) (e:Int):Except Nat FD :=
 if hz:m.z=0 then .ok d0
 else if h:-65536<=e/\e<=65536/\e+tz m.z.natAbs<=65536 then
  .ok ⟨m.z/2^tz m.z.natAbs,e+tz m.z.natAbs,Nat.lt_of_le_of_lt (ediv_natAbs_le _ (two_pow_pos' _)) m.h,⟨by omega,h.2.2⟩,.inl (tz_div hz).1⟩
 else .error eRange
def dNeg (a:FD):FD:=⟨-a.man,a.exp,by rw[Int.natAbs_neg]; exact a.hm,a.he,by rcases a.hc with h | h <;> omega⟩
def dAbs (a:FD):FD:=if a.man<0 then dNeg a else a
def dSgn (a:FD):Int:=sgnZ a.man
def okOr {α:Type} (d:α):Except Nat α->α
 |.ok x=>x
 |.error _=>d
def errN {α:Type}:Except Nat α->Nat
 |.ok _=>0
 |.error e=>e+1
def dLevel (a b:FD):FZ×FZ×Int×Nat :=
 if a.man=0 then (z0,dMan b,b.exp,0)
 else if b.man=0 then (dMan a,z0,a.exp,0)
 else
  let low:=if b.exp<a.exp then b.exp else a.exp
  let x:=zLeft (dMan a) (a.exp-low).toNat
  let y:=zLeft (dMan b) (b.exp-low).toNat
  (okOr z0 x,okOr z0 y,low,if errN x=0 then errN y else errN x)
def dAdd (a b:FD):Except Nat FD :=
 if (dLevel a b).2.2.2=0 then bnd (zAdd (dLevel a b).1 (dLevel a b).2.1) fun s=>dMake s (dLevel a b).2.2.1
 else .error ((dLevel a b).2.2.2-1)
def dMul (a b:FD):Except Nat FD:=bnd (zMul (dMan a) (dMan b)) fun p=>dMake p (a.exp+b.exp)
def dCmp (a b:FD):Int :=
 let low:=if b.exp<a.exp then b.exp else a.exp
 cmpZ (a.man*2^(a.exp-low).toNat) (b.man*2^(b.exp-low).toNat)
def dLess (a b:FD):Bool:=decide (dCmp a b<0)
def dMax (a b:FD):FD:=if dLess a b then b else a
def dMin (a b:FD):FD:=if dLess b a then b else a
def bitsOk (bits:Int):Bool:=decide (2<=bits)&&decide (bits<=4096)
def dRound (a:FD) (bits:Int) (up:Bool):Except Nat FD :=
 if bitsOk bits then
  if (blen a.man.natAbs:Int)-bits<=0 then .ok a
  else
   let over:=((blen a.man.natAbs:Int)-bits).toNat
   dMake (if up then zNeg (zRight (zNeg (dMan a)) over) else zRight (dMan a) over) (a.exp+over)
 else .error eRange
def z1:FZ:=⟨1,one_lt_Big⟩
def qWhole (z:FZ):FQ:=qMk z z1
def dRatio (a:FD):Except Nat FQ :=
 if 0<=a.exp then bnd (zLeft (dMan a) a.exp.toNat) fun n=>.ok (qWhole n)
 else bnd (zLeft z1 (-a.exp).toNat) fun d=>qMake (dMan a) d
def dCmpQ (a:FD) (b:FQ):Except Nat Int:=bnd (dRatio a) fun r=>qCmp r b
theorem emod_lt_Big (a:FZ) (b:FZ) (h:b.z≠0):(a.z%b.z).natAbs<Big:=by
 have h1:=Int.emod_nonneg a.z h;have h2:=Int.emod_lt a.z h;have:=b.h;omega
def zDiv (a b:FZ):Except Nat (FZ×FZ) :=
 if h:b.z=0 then .error eZero
 else .ok (⟨a.z/b.z,Nat.lt_of_le_of_lt (by
   rcases Int.lt_trichotomy b.z 0 with g | g | g
   ·have:a.z/b.z=-(a.z / -b.z):=by rw[Int.ediv_neg,Int.neg_neg]
    rw[this,Int.natAbs_neg];exact ediv_natAbs_le _ (by omega)
   ·exact absurd g h
   ·exact ediv_natAbs_le _ g) a.h⟩,⟨a.z%b.z,emod_lt_Big a b h⟩)
def dNear (a:FQ) (bits:Int) (up:Bool):Except Nat FD :=
 if bitsOk bits then
  if a.q.num=0 then .ok d0
  else
   let shift:Int:=bits-blen a.q.num.natAbs+blen a.q.den+1
   bnd (if 0<=shift then zLeft (qNum a) shift.toNat else .ok (qNum a)) fun n =>
    bnd (if 0<=shift then .ok (qDen a) else zLeft (qDen a) (-shift).toNat) fun d =>
     bnd (zDiv n d) fun qr=>bnd (if up&&qr.2.z !=0 then zAdd qr.1 z1 else .ok qr.1) fun q=>bnd (dMake q (-shift)) fun x=>dRound x bits up
 else .error eRange
def FD.v (a:FD):Rat:=(a.man:Rat)*(2:Rat)^a.exp
theorem two_ne:(2:Rat)≠0:=by decide
theorem zpow_pos2 (e:Int):(0:Rat)<2^e:=Rat.zpow_pos (by decide)
theorem zpow_add2 (a b:Int):(2:Rat)^(a+b)=2^a*2^b:=Rat.zpow_add two_ne a b
theorem cast_pow2 (n:Nat):(((2:Int)^n:Int):Rat)=(2:Rat)^(n:Int):=by rw[Rat.intCast_pow,Rat.zpow_natCast]; rfl
theorem zpow_le2 {a b:Int} (h:a<=b):(2:Rat)^a<=2^b:=by
 obtain⟨n,rfl⟩:=Int.le.dest h;rw[zpow_add2,<- cast_pow2];have h1:(1:Rat)<=(((2:Int)^n:Int):Rat):=by
  have:=two_pow_pos' n
  exact_mod_cast (show (1:Int)<=2^n by omega)
 have h2:=Rat.mul_le_mul_of_nonneg_left h1 (Rat.le_of_lt (zpow_pos2 a));rwa [Rat.mul_one] at h2
theorem dMake_v {m:FZ} {e:Int} {r:FD} (h:dMake m e=.ok r):r.v=(m.z:Rat)*2^e:=by
 unfold dMake at h;split at h
 ·rename_i hz;cases h;rw[hz];show ((0:Int):Rat)*_=_;simp[Rat.zero_mul]
 ·rename_i hz;split at h
  ·cases h;show ((m.z/2^tz m.z.natAbs:Int):Rat)*(2:Rat)^(e+(tz m.z.natAbs:Int))=_;have:=(tz_div hz).2;rw[zpow_add2,<- cast_pow2];conv=>rhs; rw[this]
   rw[Rat.intCast_mul];grind
  ·cases h
theorem v_zero {a:FD} (h:a.man=0):a.v=0:=by unfold FD.v; rw[h]; show ((0:Int):Rat)*_=0; simp[Rat.zero_mul]
theorem v_ne {a:FD} (h:a.man≠0):a.v≠0:=by
 intro g;unfold FD.v at g;rcases Rat.mul_eq_zero.1 g with g | g
 ·exact h (by exact_mod_cast g)
 ·have:=zpow_pos2 a.exp;grind
def absQ (x:Rat):Rat:=if x<0 then -x else x
theorem absQ_pos {a:Rat} (h:0<=a):absQ a=a:=by unfold absQ; split <;> grind
theorem absQ_npos {a:Rat} (h:a<=0):absQ a=-a:=by unfold absQ; split <;> grind
theorem absQ_mul (a b:Rat):absQ (a*b)=absQ a*absQ b:=by
 rcases Rat.le_total (a:=0) (b:=a) with ha | ha <;> rcases Rat.le_total (a:=0) (b:=b) with hb | hb
 ·rw[absQ_pos ha,absQ_pos hb,absQ_pos (Rat.mul_nonneg ha hb)]
 ·have:=Rat.mul_nonneg ha (show 0<=-b by grind);rw[absQ_pos ha,absQ_npos hb,absQ_npos (by rw[Rat.mul_neg] at this; grind)];grind
 ·have:=Rat.mul_nonneg (show 0<=-a by grind) hb;rw[absQ_npos ha,absQ_pos hb,absQ_npos (by rw[Rat.neg_mul] at this; grind)];grind
 ·have:=Rat.mul_nonneg (show 0<=-a by grind) (show 0<=-b by grind);rw[absQ_npos ha,absQ_npos hb,absQ_pos (by rw[Rat.neg_mul,Rat.mul_neg,Rat.neg_neg] at this; exact this)];grind
theorem absQ_nonneg (a:Rat):0<=absQ a:=by unfold absQ; split <;> grind
theorem absQ_int (n:Int):absQ (n:Rat)=((n.natAbs:Nat):Rat):=by
 unfold absQ;rcases Int.le_total 0 n with h | h
 ·obtain⟨m,rfl⟩:=Int.eq_ofNat_of_zero_le h;have h1:¬ (((m:Nat):Int):Rat)<0:=by
   rw[Rat.not_lt]
   exact_mod_cast Int.natCast_nonneg m
  rw[if_neg h1];rfl
 ·obtain⟨m,rfl⟩:∃ m:Nat,n=-(m:Int):=⟨n.natAbs,by omega⟩
  split
  ·rw[Int.natAbs_neg,Int.natAbs_natCast,Rat.intCast_neg,Rat.neg_neg];rfl
  ·rename_i h1;have h2:((-(m:Int):Int):Rat)=0:=by
    have h3:((-(m:Int):Int):Rat)<=0:=by
     have:(-(m:Int))<=0:=by omega
     exact_mod_cast this
    grind
   have h3:m=0:=by
    have:(-(m:Int))=0:=by exact_mod_cast h2
    omega
   subst h3;rfl
theorem absQ_le {a b:Rat}:absQ a<=b↔-b<=a/\a<=b:=by unfold absQ; split <;> grind
theorem absQ_lt {a b:Rat}:absQ a<b↔-b<a/\a<b:=by unfold absQ; split <;> grind
theorem absQ_add (a b:Rat):absQ (a+b)<=absQ a+absQ b:=by unfold absQ; split <;> split <;> split <;> grind
theorem absQ_neg (a:Rat):absQ (-a)=absQ a:=by unfold absQ; split <;> split <;> grind
theorem absQ_v (a:FD):absQ a.v=((a.man.natAbs:Nat):Rat)*2^a.exp:=by
 unfold FD.v;rw[absQ_mul,absQ_int,absQ_pos (Rat.le_of_lt (zpow_pos2 _))]
end
section
open Go Go.RowKit
def Gr (K L:Nat) (d:FD):Prop:=d.man=0\/(-(L:Int)<=d.exp/\d.man.natAbs*2^(d.exp+L).toNat<2^(K+L))
theorem Gr.zero {K L:Nat} {d:FD} (h:d.man=0):Gr K L d:=.inl h
theorem Gr.d0 (K L:Nat):Gr K L d0:=.inl rfl
theorem Gr.mono {K L K' L':Nat} {d:FD} (h:Gr K L d) (hK:K<=K') (hL:L<=L'):Gr K' L' d:=by
 rcases h with h | ⟨h1,h2⟩
 ·exact .inl h
 ·refine .inr ⟨by omega,?_⟩;obtain⟨k,rfl⟩:=Nat.le.dest hL;have e:(d.exp+((L+k:Nat):Int)).toNat=(d.exp+L).toNat+k:=by omega
  rw[e,Nat.pow_add,<- Nat.mul_assoc];refine Nat.lt_of_lt_of_le (Nat.mul_lt_mul_of_pos_right h2 (Nat.two_pow_pos k)) ?_;rw[<- Nat.pow_add];exact Nat.pow_le_pow_right (by decide) (by omega)
theorem Gr.man {K L:Nat} {d:FD} (h:Gr K L d):d.man.natAbs<2^(K+L):=by
 rcases h with h | ⟨h1,h2⟩
 ·rw[h]; exact Nat.two_pow_pos _
 ·exact Nat.lt_of_le_of_lt (Nat.le_mul_of_pos_right _ (Nat.two_pow_pos _)) h2
theorem pow_lt_pow2 {a b:Nat} (h:2^a<2^b):a<b:=(Nat.pow_lt_pow_iff_right (by decide)).1 h
theorem Gr.top {K L:Nat} {d:FD} (h:Gr K L d) (h0:d.man≠0):-(L:Int)<=d.exp/\d.exp<K/\(d.exp+L).toNat<K+L:=by
 rcases h with h | ⟨h1,h2⟩
 ·exact absurd h h0
 ·have h3:2^(d.exp+L).toNat<2^(K+L):=Nat.lt_of_le_of_lt (Nat.le_mul_of_pos_left _ (by omega)) h2;have:=pow_lt_pow2 h3;exact⟨h1,by omega,this⟩
theorem dMake_ok {m:FZ} {e:Int} {K L:Nat} (h:m.z=0\/(-(L:Int)<=e/\m.z.natAbs*2^(e+L).toNat<2^(K+L))) (hL:L<=65536) (hK:K<=65536) :
  ∃ r,dMake m e=.ok r/\r.v=(m.z:Rat)*2^e/\Gr K L r/\r.man.natAbs<=m.z.natAbs:=by
 by_cases hz:m.z=0
 ·have e1:dMake m e=.ok d0:=by simp[dMake,hz]
  exact⟨_,e1,dMake_v e1,.d0 _ _,Nat.zero_le _⟩
 ·rcases h with h | ⟨h1,h2⟩
  ·exact absurd h hz
  ·have hd:=(tz_div hz).2;have hn:m.z.natAbs=2^tz m.z.natAbs*(m.z/2^tz m.z.natAbs).natAbs:=by
    conv=>lhs; rw[hd]
    rw[Int.natAbs_mul,Int.natAbs_pow];rfl
   have h0:0<(m.z/2^tz m.z.natAbs).natAbs:=by
    apply Nat.pos_of_ne_zero;intro g;rw[g,Nat.mul_zero] at hn;omega
   have h3:2^(tz m.z.natAbs+(e+L).toNat)<2^(K+L):=by
    rw[Nat.pow_add];refine Nat.lt_of_le_of_lt (Nat.mul_le_mul_right _ ?_) h2;conv=>rhs; rw[hn]
    exact Nat.le_mul_of_pos_right _ h0
   have h4:=pow_lt_pow2 h3;have e1:dMake m e=.ok ⟨m.z/2^tz m.z.natAbs,e+tz m.z.natAbs,Nat.lt_of_le_of_lt (ediv_natAbs_le _ (two_pow_pos' _)) m.h,⟨by omega,by omega⟩,.inl (tz_div hz).1⟩:=by
    unfold dMake;rw[dif_neg hz,dif_pos ⟨by omega,by omega,by omega⟩]
   refine⟨_,e1,dMake_v e1,.inr ⟨?_,?_⟩,?_⟩
   ·show -(L:Int)<=e+tz m.z.natAbs;omega
   ·show (m.z/2^tz m.z.natAbs).natAbs*2^(e+tz m.z.natAbs+L).toNat<_;have e2:(e+tz m.z.natAbs+L).toNat=tz m.z.natAbs+(e+L).toNat:=by omega
    rw[e2,Nat.pow_add,<- Nat.mul_assoc,Nat.mul_comm _ (2^tz m.z.natAbs),<- hn];exact h2
   ·exact ediv_natAbs_le _ (two_pow_pos' _)
theorem dMan_z (a:FD):(dMan a).z=a.man:=rfl
theorem zLeft_ok {a:FZ} {n k:Nat} (h:a.z.natAbs*2^n<2^k) (hk:k<=16384):∃ r,zLeft a n=.ok r/\r.z=a.z*2^n:=by
 unfold zLeft;by_cases h0:a.z=0
 ·rw[if_pos h0];exact⟨z0,rfl,by rw[h0]; simp[z0]⟩
 ·rw[if_neg h0];have h1:2^n<2^k:=Nat.lt_of_le_of_lt (Nat.le_mul_of_pos_left _ (by omega)) h;have h2:=pow_lt_pow2 h1;rw[if_neg (by omega)];have h3:(a.z*2^n).natAbs<2^k:=by rw[Int.natAbs_mul,Int.natAbs_pow]; exact h
  exact⟨_,fitZ_ok (lt_big h3 hk),rfl⟩
theorem v_shift (a:FD) {low:Int} (h:low<=a.exp):((a.man*2^(a.exp-low).toNat:Int):Rat)*2^low=a.v:=by
 unfold FD.v;rw[Rat.intCast_mul,cast_pow2];have e:a.exp=((a.exp-low).toNat:Int)+low:=by omega
 conv=>rhs; rw[e,zpow_add2]
 grind
theorem zpow_zero2:(2:Rat)^(0:Int)=1:=Rat.zpow_zero 2
theorem dAdd_ok {a b:FD} {K L:Nat} (ha:Gr K L a) (hb:Gr K L b) (h:K+L+1<=16384):∃ r,dAdd a b=.ok r/\r.v=a.v+b.v/\Gr (K+1) L r:=by
 by_cases a0:a.man=0
 ·have e0:a.v=0:=v_zero a0;have e:dLevel a b=(z0,dMan b,b.exp,0):=by simp[dLevel,a0]
  have e1:zAdd z0 (dMan b)=.ok (dMan b):=by
   unfold zAdd;rw[fitZ_ok (by simpa [z0] using (dMan b).h)];exact congrArg Except.ok (FZ.ext (by simp[z0]))
  obtain⟨r,h1,h2,h3,_⟩:=dMake_ok (m:=dMan b) (e:=b.exp) (K:=K) (L:=L) (by rcases hb with g | g; exact .inl g; exact .inr g) (by omega) (by omega);refine⟨r,?_,?_,h3.mono (by omega) (by omega)⟩
  ·simp only[dAdd,e,e1,h1,bnd,if_true]
  ·rw[h2,e0,Rat.zero_add]; rfl
 ·by_cases b0:b.man=0
  ·have e0:b.v=0:=v_zero b0;have e:dLevel a b=(dMan a,z0,a.exp,0):=by simp[dLevel,a0,b0]
   have e1:zAdd (dMan a) z0=.ok (dMan a):=by
    unfold zAdd;rw[fitZ_ok (by simpa [z0] using (dMan a).h)];exact congrArg Except.ok (FZ.ext (by simp[z0]))
   obtain⟨r,h1,h2,h3,_⟩:=dMake_ok (m:=dMan a) (e:=a.exp) (K:=K) (L:=L) (by rcases ha with g | g; exact .inl g; exact .inr g) (by omega) (by omega);refine⟨r,?_,?_,h3.mono (by omega) (by omega)⟩
   ·simp only[dAdd,e,e1,h1,bnd,if_true]
   ·rw[h2,e0,Rat.add_zero]; rfl
  ·obtain⟨low,hlow⟩:∃ low,(if b.exp<a.exp then b.exp else a.exp)=low:=⟨_,rfl⟩
   have hl:low<=a.exp/\low<=b.exp/\(low=a.exp\/low=b.exp):=by
    rw[<- hlow]; split <;> omega
   have ta:=ha.top a0;have tb:=hb.top b0;have hL:-(L:Int)<=low:=by omega
   have key:∀ (d:FD),Gr K L d->d.man≠0->low<=d.exp->∃ r,zLeft (dMan d) (d.exp-low).toNat=.ok r/\r.z=d.man*2^(d.exp-low).toNat/\r.z.natAbs*2^(low+L).toNat<2^(K+L):=by
    intro d hd d0 hle;rcases hd with g | ⟨g1,g2⟩
    ·exact absurd g d0
    ·have e2:(d.exp+L).toNat=(d.exp-low).toNat+(low+L).toNat:=by omega
     rw[e2,Nat.pow_add,<- Nat.mul_assoc] at g2;obtain⟨r,h1,h2⟩:=zLeft_ok (a:=dMan d) (n:=(d.exp-low).toNat) (k:=K+L) (Nat.lt_of_le_of_lt (Nat.le_mul_of_pos_right _ (Nat.two_pow_pos _)) g2) (by omega);refine⟨r,h1,h2,?_⟩;rw[h2,Int.natAbs_mul,Int.natAbs_pow];exact g2
   obtain⟨x,x1,x2,x3⟩:=key a ha a0 hl.1;obtain⟨y,y1,y2,y3⟩:=key b hb b0 hl.2.1;have e:dLevel a b=(x,y,low,0):=by
    simp only[dLevel,a0,b0,if_false,hlow,x1,y1,okOr,errN];simp
   have hs:(x.z+y.z).natAbs*2^(low+L).toNat<2^(K+1+L):=by
    have h1:=Nat.mul_le_mul_right (2^(low+L).toNat) (Int.natAbs_add_le x.z y.z);rw[Nat.add_mul] at h1;have e3:K+1+L=(K+L)+1:=by omega
    rw[e3,Nat.pow_succ];omega
   have hs2:(x.z+y.z).natAbs<2^(K+1+L):=Nat.lt_of_le_of_lt (Nat.le_mul_of_pos_right _ (Nat.two_pow_pos _)) hs;have e1:zAdd x y=.ok ⟨x.z+y.z,lt_big hs2 (by omega)⟩:=fitZ_ok _;obtain⟨r,h1,h2,h3,_⟩:=dMake_ok (m:=⟨x.z+y.z,lt_big hs2 (by omega)⟩) (e:=low) (K:=K+1) (L:=L) (.inr ⟨hL,hs⟩) (by omega) (by omega);refine⟨r,?_,?_,h3⟩
   ·simp only[dAdd,e,e1,h1,bnd,if_true]
   ·rw[h2];show ((x.z+y.z:Int):Rat)*2^low=_;rw[Rat.intCast_add,Rat.add_mul,x2,y2,v_shift a hl.1,v_shift b hl.2.1]
theorem dNeg_v (a:FD):(dNeg a).v=-a.v:=by
 unfold FD.v dNeg;show ((-a.man:Int):Rat)*_=_;rw[Rat.intCast_neg,Rat.neg_mul]
theorem Gr.neg {K L:Nat} {a:FD} (h:Gr K L a):Gr K L (dNeg a):=by
 rcases h with h | ⟨h1,h2⟩
 ·exact .inl (by show -a.man=0; omega)
 ·exact .inr ⟨h1,by show (-a.man).natAbs*_<_; rw[Int.natAbs_neg]; exact h2⟩
theorem dMul_ok {a b:FD} {K L K' L':Nat} (ha:Gr K L a) (hb:Gr K' L' b) (h:K+L+(K'+L')<=16384):∃ r,dMul a b=.ok r/\r.v=a.v*b.v/\Gr (K+K') (L+L') r:=by
 obtain⟨p,p1,p2,p3⟩:=zMul_ok (a:=dMan a) (b:=dMan b) ha.man hb.man h;have hp:p.z=0\/(-((L+L':Nat):Int)<=a.exp+b.exp/\p.z.natAbs*2^(a.exp+b.exp+((L+L':Nat):Int)).toNat<2^(K+K'+(L+L'))):=by
  by_cases h0:p.z=0
  ·exact .inl h0
  ·right;have a0:a.man≠0:=by rintro g; apply h0; rw[p2]; show a.man*b.man=0; rw[g,Int.zero_mul]
   have b0:b.man≠0:=by rintro g; apply h0; rw[p2]; show a.man*b.man=0; rw[g,Int.mul_zero]
   rcases ha with g | ⟨g1,g2⟩
   ·exact absurd g a0
   rcases hb with k | ⟨k1,k2⟩
   ·exact absurd k b0
   refine⟨by omega,?_⟩;have e:(a.exp+b.exp+((L+L':Nat):Int)).toNat=(a.exp+L).toNat+(b.exp+L').toNat:=by omega
   have e2:K+K'+(L+L')=(K+L)+(K'+L'):=by omega
   rw[e,e2,p2,Int.natAbs_mul,Nat.pow_add,Nat.pow_add];have e3:(dMan a).z.natAbs*(dMan b).z.natAbs*(2^(a.exp+L).toNat*2^(b.exp+L').toNat)=(a.man.natAbs*2^(a.exp+L).toNat)*(b.man.natAbs*2^(b.exp+L').toNat):=by
    show a.man.natAbs*b.man.natAbs*_=_
    ac_rfl
   rw[e3];exact Nat.mul_lt_mul'' g2 k2
 obtain⟨r,h1,h2,h3,_⟩:=dMake_ok (m:=p) (e:=a.exp+b.exp) hp (by omega) (by omega);refine⟨r,?_,?_,h3⟩
 ·simp only[dMul,bnd,p1,h1]
 ·rw[h2,p2,zpow_add2];unfold FD.v;rw[Rat.intCast_mul];show ((a.man:Int):Rat)*((b.man:Int):Rat)*_=_;grind
theorem dCmp_eq (a b:FD):dCmp a b=cmpQ a.v b.v:=by
 unfold dCmp;obtain⟨low,hlow⟩:∃ low,(if b.exp<a.exp then b.exp else a.exp)=low:=⟨_,rfl⟩
 have hl:low<=a.exp/\low<=b.exp:=by rw[<- hlow]; split <;> omega
 simp only[hlow];rw[<- v_shift a hl.1,<- v_shift b hl.2];generalize a.man*2^(a.exp-low).toNat=x;generalize b.man*2^(b.exp-low).toNat=y;have hp:=zpow_pos2 low;have e1:x<y↔(x:Rat)*2^low<(y:Rat)*2^low:=by
  rw[Rat.mul_lt_mul_right hp,Rat.intCast_lt_intCast]
 have e2:x=y↔(x:Rat)*2^low=(y:Rat)*2^low:=by
  constructor
  ·rintro rfl; rfl
  ·intro h;have h1:¬ x<y:=by rw[e1,h]; exact Rat.lt_irrefl
   have h2:¬ y<x:=by rw[<- Rat.intCast_lt_intCast,<- Rat.mul_lt_mul_right hp,h]; exact Rat.lt_irrefl
   omega
 unfold cmpZ cmpQ;simp only[e1,e2]
theorem dLess_eq (a b:FD):dLess a b=decide (a.v<b.v):=by
 unfold dLess;rw[dCmp_eq];unfold cmpQ;by_cases h:a.v<b.v
 ·simp[h]
 ·simp only[h,if_false,decide_false];split <;> rfl
theorem dMax_v (a b:FD):(dMax a b).v=(if a.v<b.v then b.v else a.v):=by
 unfold dMax;rw[dLess_eq];by_cases h:a.v<b.v <;> simp[h]
theorem dMin_v (a b:FD):(dMin a b).v=(if b.v<a.v then b.v else a.v):=by
 unfold dMin;rw[dLess_eq];by_cases h:b.v<a.v <;> simp[h]
theorem dMax_gr {a b:FD} {K L:Nat} (ha:Gr K L a) (hb:Gr K L b):Gr K L (dMax a b):=by unfold dMax; split <;> assumption
theorem dMin_gr {a b:FD} {K L:Nat} (ha:Gr K L a) (hb:Gr K L b):Gr K L (dMin a b):=by unfold dMin; split <;> assumption
theorem dAbs_v (a:FD):(dAbs a).v=absQ a.v:=by
 unfold dAbs;have h:a.man<0↔a.v<0:=by
  unfold FD.v;have hp:=zpow_pos2 a.exp;have:(a.man:Rat)*2^a.exp<0↔(a.man:Rat)*2^a.exp<0*2^a.exp:=by rw[Rat.zero_mul]
  rw[this,Rat.mul_lt_mul_right hp]
  exact_mod_cast Iff.rfl
 unfold absQ;by_cases g:a.man<0
 ·rw[if_pos g,if_pos (h.1 g),dNeg_v]
 ·rw[if_neg g,if_neg (fun q=>g (h.2 q))]
theorem dAbs_gr {a:FD} {K L:Nat} (ha:Gr K L a):Gr K L (dAbs a):=by unfold dAbs; split; exact ha.neg; exact ha
end
section
open Go Go.RowKit
theorem bitsOk_iff {b:Int}:bitsOk b=true↔2<=b/\b<=4096:=by simp[bitsOk]
theorem floor_bounds (m:Int) (n:Nat):(m/2^n)*2^n<=m/\m<(m/2^n)*2^n+2^n:=by
 have hp:=two_pow_pos' n;have h1:=Int.emod_add_mul_ediv m (2^n);have h2:=Int.emod_nonneg m (show (2:Int)^n≠0 by omega);have h3:=Int.emod_lt_of_pos m hp;rw[Int.mul_comm] at h1;omega
theorem floor_natAbs (m:Int) {n k:Nat} (h:m.natAbs<2^(n+k)):(m/2^n).natAbs<=2^k:=by
 have hp:=two_pow_pos' n;obtain⟨h1,h2⟩:=floor_bounds m n;have hk:((2^k:Nat):Int)=(2:Int)^k:=by simp
 have hnk:((2^(n+k):Nat):Int)=(2:Int)^k*2^n:=by rw[Nat.pow_add,Nat.mul_comm]; simp
 have ub:m/2^n<2^k:=by
  apply Int.ediv_lt_of_lt_mul hp;have:m<((2^(n+k):Nat):Int):=by omega
  rwa [hnk] at this
 have lb:-(2:Int)^k<=m/2^n:=by
  apply Int.le_ediv_of_mul_le hp;have h3:-((2^(n+k):Nat):Int)<=m:=by omega
  rw[hnk] at h3;rw[Int.neg_mul];exact h3
 omega
theorem v_floor (a:FD) (n:Nat):((a.man/2^n:Int):Rat)*2^(a.exp+n)<=a.v/\a.v<((a.man/2^n+1:Int):Rat)*2^(a.exp+n):=by
 obtain⟨h1,h2⟩:=floor_bounds a.man n;have hp:=zpow_pos2 a.exp;have e:∀ z:Int,(z:Rat)*2^(a.exp+n)=((z*2^n:Int):Rat)*2^a.exp:=by
  intro z;rw[Int.add_comm,zpow_add2,Rat.intCast_mul,cast_pow2,Rat.mul_assoc]
 rw[e,e];refine⟨?_,?_⟩
 ·exact Rat.mul_le_mul_of_nonneg_right (Rat.intCast_le_intCast.2 h1) (Rat.le_of_lt hp)
 ·unfold FD.v;rw[Rat.mul_lt_mul_right hp,Rat.intCast_lt_intCast,Int.add_mul,Int.one_mul];exact h2
theorem blen_top {x:Nat} (h:x≠0):2^(blen x-1)<=x/\x<2^blen x/\0<blen x:=by
 have h1:x<2^blen x:=blen_le.1 (Nat.le_refl _);have h2:0<blen x:=by
  apply Nat.pos_of_ne_zero;intro g;rw[g] at h1;simp at h1;exact h h1
 refine⟨?_,h1,h2⟩;apply Nat.le_of_not_lt;intro g;have:=blen_le.2 g;omega
theorem dRound_ok {a:FD} {K L:Nat} {bits:Int} (up:Bool) (hb:bitsOk bits=true) (ha:Gr K L a) (hL:L<=65536) (hK:K+1<=65536) :
  ∃ r,dRound a bits up=.ok r/\Gr (K+1) L r/\(up=false->r.v<=a.v)/\(up=true->a.v<=r.v)/\absQ (r.v-a.v)<=absQ a.v*2^(1-bits)/\r.man.natAbs<=2^bits.toNat:=by
 have hbits:=bitsOk_iff.1 hb;unfold dRound;rw[if_pos hb];by_cases h0:(blen a.man.natAbs:Int)-bits<=0
 ·rw[if_pos h0];refine⟨a,rfl,ha.mono (by omega) (by omega),fun _=>Rat.le_refl,fun _=>Rat.le_refl,?_,?_⟩
  ·have:a.v-a.v=0:=Rat.sub_self;rw[this];have h1:absQ 0=0:=absQ_pos Rat.le_refl;rw[h1];exact Rat.mul_nonneg (absQ_nonneg _) (Rat.le_of_lt (zpow_pos2 _))
  ·have:a.man.natAbs<2^blen a.man.natAbs:=blen_le.1 (Nat.le_refl _);exact Nat.le_of_lt (Nat.lt_of_lt_of_le this (Nat.pow_le_pow_right (by decide) (by omega)))
 ·rw[if_neg h0];have hm0:a.man≠0:=by
   intro g;rw[g] at h0;have:blen (0:Int).natAbs=0:=rfl;omega
  obtain⟨hb1,hb2,hb3⟩:=blen_top (x:=a.man.natAbs) (by omega);obtain⟨n,hn⟩:∃ n,((blen a.man.natAbs:Int)-bits).toNat=n:=⟨_,rfl⟩
  rw[hn];have hnb:blen a.man.natAbs=n+bits.toNat:=by omega
  obtain⟨f,hf⟩:∃ f:Int->Nat->Int,f=fun m n=>if up then -(-m/2^n) else m/2^n:=⟨_,rfl⟩
  have hz:(if up then zNeg (zRight (zNeg (dMan a)) n) else zRight (dMan a) n).z=f a.man n:=by
   rw[hf];cases up <;> rfl
  have hf2:(f a.man n).natAbs<=2^bits.toNat:=by
   rw[hf];cases up
   ·exact floor_natAbs _ (by rw[<- hnb]; exact hb2)
   ·show (-(-a.man/2^n)).natAbs<=_;rw[Int.natAbs_neg];exact floor_natAbs _ (by rw[Int.natAbs_neg,<- hnb]; exact hb2)
  have ta:=ha.top hm0;obtain⟨g1,g2⟩:=ha.resolve_left hm0;have hexp:(f a.man n).natAbs*2^(a.exp+n+L).toNat<2^(K+1+L):=by
   have e1:(a.exp+n+L).toNat=n+(a.exp+L).toNat:=by omega
   have h3:2^(blen a.man.natAbs-1+(a.exp+L).toNat)<2^(K+L):=by
    rw[Nat.pow_add];exact Nat.lt_of_le_of_lt (Nat.mul_le_mul_right _ hb1) g2
   have h4:=pow_lt_pow2 h3;rw[e1];refine Nat.lt_of_le_of_lt (Nat.mul_le_mul_right _ hf2) ?_;rw[<- Nat.pow_add];exact Nat.pow_lt_pow_right (by decide) (by omega)
  obtain⟨r,r1,r2,r3,r4⟩:=dMake_ok (m:=if up then zNeg (zRight (zNeg (dMan a)) n) else zRight (dMan a) n) (e:=a.exp+n) (K:=K+1) (L:=L) (.inr ⟨by omega,by rw[hz]; exact hexp⟩) hL hK;rw[hz] at r2 r4;have hneg:(dNeg a).v=-a.v:=dNeg_v a;have err:(2:Rat)^(a.exp+n)<=absQ a.v*2^(1-bits):=by
   rw[absQ_v];have h3:(2:Rat)^((blen a.man.natAbs-1:Nat):Int)<=((a.man.natAbs:Nat):Rat):=by
    have h5:(2:Rat)^((blen a.man.natAbs-1:Nat):Int)=(((2^(blen a.man.natAbs-1):Nat)):Rat):=by
     rw[Rat.zpow_natCast,Rat.natCast_pow]; rfl
    rw[h5];exact Rat.natCast_le_natCast.2 hb1
   have h4:(2:Rat)^(a.exp+n)=2^((blen a.man.natAbs-1:Nat):Int)*2^a.exp*2^(1-bits):=by
    rw[<- zpow_add2,<- zpow_add2];congr 1;omega
   rw[h4];exact Rat.mul_le_mul_of_nonneg_right (Rat.mul_le_mul_of_nonneg_right h3 (Rat.le_of_lt (zpow_pos2 _))) (Rat.le_of_lt (zpow_pos2 _))
  refine⟨r,r1,r3,?_,?_,?_,Nat.le_trans r4 hf2⟩
  ·rintro rfl;rw[r2,hf];exact (v_floor a n).1
  ·rintro rfl;rw[r2,hf];have:=(v_floor (dNeg a) n).1;rw[hneg] at this;have e1:(((dNeg a).man/2^n:Int):Rat)*2^((dNeg a).exp+n)=((-a.man/2^n:Int):Rat)*2^(a.exp+n):=rfl;rw[e1] at this;show a.v<=((-(-a.man/2^n):Int):Rat)*2^(a.exp+n);rw[Rat.intCast_neg,Rat.neg_mul];grind
  ·refine Rat.le_trans ?_ err;rw[absQ_le];cases up
   ·obtain⟨u1,u2⟩:=v_floor a n;rw[r2,hf];show _<=((a.man/2^n:Int):Rat)*2^(a.exp+n)-a.v/\_;rw[Rat.intCast_add,Rat.add_mul] at u2;have e1:((1:Int):Rat)*2^(a.exp+n)=2^(a.exp+n):=by
     rw[Rat.intCast_one,Rat.one_mul]
    have:=zpow_pos2 (a.exp+n);rw[e1] at u2;refine⟨by grind,?_⟩;show ((a.man/2^n:Int):Rat)*2^(a.exp+n)-a.v<=_;grind
   ·obtain⟨u1,u2⟩:=v_floor (dNeg a) n;rw[hneg] at u1 u2;have e1:∀ z:Int,((z:Int):Rat)*2^((dNeg a).exp+n)=(z:Rat)*2^(a.exp+n):=fun _=>rfl
    rw[e1] at u1 u2;have e3:(dNeg a).man=-a.man:=rfl;rw[e3] at u1 u2;rw[r2,hf];show _<=((-(-a.man/2^n):Int):Rat)*2^(a.exp+n)-a.v/\((-(-a.man/2^n):Int):Rat)*2^(a.exp+n)-a.v<=_;rw[Rat.intCast_neg,Rat.neg_mul];rw[Rat.intCast_add,Rat.add_mul] at u2;have e2:((1:Int):Rat)*2^(a.exp+n)=2^(a.exp+n):=by
     rw[Rat.intCast_one,Rat.one_mul]
    have:=zpow_pos2 (a.exp+n);rw[e2] at u2;exact⟨by grind,by grind⟩
theorem qWhole_q (z:FZ):(qWhole z).q=(z.z:Rat):=by
 show Rat.divInt z.z 1=_;rw[Rat.divInt_eq_div];have:((1:Int):Rat)=1:=rfl;rw[this];grind
theorem dRatio_ok {a:FD} {K L:Nat} (ha:Gr K L a) (h:K+L<=16384) (hL:L<=16383):∃ r,dRatio a=.ok r/\r.q=a.v/\Sz r.q (K+L) (L+1):=by
 unfold dRatio;by_cases h0:0<=a.exp
 ·rw[if_pos h0];have hb:a.man.natAbs*2^a.exp.toNat<2^(K+L):=by
   rcases ha with g | ⟨g1,g2⟩
   ·rw[g]; simp; exact Nat.two_pow_pos _
   ·refine Nat.lt_of_le_of_lt (Nat.mul_le_mul_left _ (Nat.pow_le_pow_right (by decide) ?_)) g2;omega
  obtain⟨n,n1,n2⟩:=zLeft_ok (a:=dMan a) (n:=a.exp.toNat) hb h;rw[n1];refine⟨_,rfl,?_,?_⟩
  ·rw[qWhole_q,n2,Rat.intCast_mul,cast_pow2];unfold FD.v;rw[dMan_z,Int.toNat_of_nonneg h0]
  ·rw[qWhole_q];refine⟨?_,?_⟩
   ·rw[Rat.num_intCast,n2,Int.natAbs_mul,Int.natAbs_pow]; exact hb
   ·rw[Rat.den_intCast]; exact Nat.one_lt_two_pow (by omega)
 ·rw[if_neg h0];have h00:a.man≠0:=by
   intro g;rcases a.hc with q | q
   ·omega
   ·omega
  have ta:=ha.top h00;obtain⟨d,e1,e2⟩:=zLeft_ok (a:=z1) (n:=(-a.exp).toNat) (k:=L+1) (by
   show 1*2^_<_;rw[Nat.one_mul];exact Nat.pow_lt_pow_right (by decide) (by omega)) (by omega)
  have e3:d.z=2^(-a.exp).toNat:=by rw[e2]; show 1*_=_; rw[Int.one_mul]
  have e4:d.z≠0:=by rw[e3]; have:=two_pow_pos' (-a.exp).toNat; omega
  rw[e1];refine⟨_,qMake_ok e4,?_,divInt_sz e4 ha.man ?_⟩
  ·rw[qMk_q,e3,Rat.divInt_eq_div,cast_pow2];unfold FD.v;have e5:(((-a.exp).toNat:Nat):Int)=-a.exp:=by omega
   rw[e5,dMan_z,Rat.zpow_neg,Rat.div_def,Rat.inv_inv]
  ·rw[e3,Int.natAbs_pow];exact Nat.pow_lt_pow_right (by decide) (by omega)
theorem dCmpQ_ok {a:FD} {b:FQ} {K L j k:Nat} (ha:Gr K L a) (hb:Sz b.q j k) (h1:K+L+k<=16384) (h2:j+(L+1)<=16384):dCmpQ a b=.ok (cmpQ a.v b.q):=by
 obtain⟨r,r1,r2,r3⟩:=dRatio_ok ha (by omega) (by omega);unfold dCmpQ;rw[r1];show qCmp r b=_;rw[qCmp_ok r3 hb h1 h2,r2]
theorem floor_q (n d:Int) (hd:0<d):((n/d:Int):Rat)<=(n:Rat)/d/\(n:Rat)/d<((n/d+1:Int):Rat)/\(n%d=0->((n/d:Int):Rat)=(n:Rat)/d):=by
 have h1:=Int.emod_add_mul_ediv n d;have h2:=Int.emod_nonneg n (show d≠0 by omega);have h3:=Int.emod_lt_of_pos n hd;have hdq:(0:Rat)<(d:Rat):=Rat.intCast_pos.2 hd;have hne:(d:Rat)≠0:=by grind
 have e:(n:Rat)/d*d=n:=Rat.div_mul_cancel hne;have h1':((n/d:Int):Rat)*d+((n%d:Int):Rat)=n:=by
  rw[<- Rat.intCast_mul,<- Rat.intCast_add,Rat.intCast_inj];rw[Int.mul_comm,Int.add_comm];exact h1
 refine⟨?_,?_,?_⟩
 ·apply Rat.le_of_mul_le_mul_right _ hdq;rw[e,<- h1'];have:(0:Rat)<=((n%d:Int):Rat):=Rat.intCast_nonneg.2 h2;grind
 ·rw[Rat.div_lt_iff hdq,Rat.intCast_add,Rat.add_mul];have e1:((1:Int):Rat)*(d:Rat)=d:=by rw[Rat.intCast_one,Rat.one_mul]
  rw[e1,<- h1'];have:((n%d:Int):Rat)<(d:Rat):=Rat.intCast_lt_intCast.2 h3;grind
 ·intro h0;rw[h0] at h1';have:((n/d:Int):Rat)*d=n:=by
   rw[<- h1'];have:((0:Int):Rat)=0:=rfl;rw[this,Rat.add_zero]
  rw[<- this,Rat.mul_div_cancel hne]
theorem dNear_ok {a:FQ} {j k:Nat} {bits:Int} (up:Bool) (hb:bitsOk bits=true) (ha:Sz a.q j k) (h:bits.toNat+k+2<=16384) (hj:j<=16384) :
  ∃ r,dNear a bits up=.ok r/\Gr (j+2) (bits.toNat+k) r/\(up=false->r.v<=a.q)/\(up=true->a.q<=r.v)/\absQ (r.v-a.q)<=absQ a.q*2^(2-bits)/\r.man.natAbs<=2^bits.toNat:=by
 have hbits:=bitsOk_iff.1 hb;unfold dNear;rw[if_pos hb];by_cases h0:a.q.num=0
 ·rw[if_pos h0];have h1:a.q=0:=Rat.num_eq_zero.1 h0;have h2:d0.v=0:=v_zero rfl;refine⟨d0,rfl,.d0 _ _,fun _=>by rw[h1,h2]; exact Rat.le_refl,fun _=>by rw[h1,h2]; exact Rat.le_refl,?_,Nat.zero_le _⟩;rw[h1,h2];have h3:absQ (0-0)=0:=by rw[Rat.sub_self]; exact absQ_pos Rat.le_refl
  rw[h3];exact Rat.mul_nonneg (absQ_nonneg _) (Rat.le_of_lt (zpow_pos2 _))
 ·rw[if_neg h0];have bn1:blen a.q.num.natAbs<=j:=blen_le.2 ha.1;have bd1:blen a.q.den<=k:=blen_le.2 ha.2;obtain⟨n1,n2,n3⟩:=blen_top (x:=a.q.num.natAbs) (by omega);obtain⟨m1,m2,m3⟩:=blen_top (x:=a.q.den) a.q.den_nz;obtain⟨sh,hsh⟩:∃ sh:Int,bits-blen a.q.num.natAbs+blen a.q.den+1=sh:=⟨_,rfl⟩
  simp only[hsh]
  -- the two whole numbers
  have hn:∃ n,(if 0<=sh then zLeft (qNum a) sh.toNat else .ok (qNum a))=.ok n/\n.z=a.q.num*2^sh.toNat:=by
   by_cases g:0<=sh
   ·rw[if_pos g];refine zLeft_ok (k:=bits.toNat+k+1) ?_ (by omega);have:a.q.num.natAbs*2^sh.toNat<2^(blen a.q.num.natAbs+sh.toNat):=by
     rw[Nat.pow_add];exact Nat.mul_lt_mul_of_pos_right n2 (Nat.two_pow_pos _)
    exact Nat.lt_of_lt_of_le this (Nat.pow_le_pow_right (by decide) (by omega))
   ·rw[if_neg g];have:sh.toNat=0:=by omega
    exact⟨_,rfl,by rw[this,Int.pow_zero,Int.mul_one]; rfl⟩
  have hd:∃ d,(if 0<=sh then .ok (qDen a) else zLeft (qDen a) (-sh).toNat)=.ok d/\d.z=(a.q.den:Int)*2^(-sh).toNat:=by
   by_cases g:0<=sh
   ·rw[if_pos g];have:(-sh).toNat=0:=by omega
    exact⟨_,rfl,by rw[this,Int.pow_zero,Int.mul_one]; rfl⟩
   ·rw[if_neg g];refine zLeft_ok (k:=j) ?_ hj;have:a.q.den*2^(-sh).toNat<2^(blen a.q.den+(-sh).toNat):=by
     rw[Nat.pow_add];exact Nat.mul_lt_mul_of_pos_right m2 (Nat.two_pow_pos _)
    exact Nat.lt_of_lt_of_le this (Nat.pow_le_pow_right (by decide) (by omega))
  obtain⟨n,en,hnz⟩:=hn;obtain⟨d,ed,hdz⟩:=hd;have hdpos:0<d.z:=by
   rw[hdz];exact Int.mul_pos (by have:=a.q.den_nz; omega) (two_pow_pos' _)
  have hd0:d.z≠0:=by omega
  simp only[bnd,en,ed,zDiv,dif_neg hd0]
  -- what their ratio is
  have hval:(n.z:Rat)/d.z=a.q*2^sh:=by
   have hdq:((d.z:Int):Rat)≠0:=by
    have:(0:Rat)<((d.z:Int):Rat):=Rat.intCast_pos.2 hdpos;grind
   have e1:a.q*((a.q.den:Int):Rat)=((a.q.num:Int):Rat):=by
    have:a.q=Rat.divInt a.q.num a.q.den:=rat_eq a.q;conv=>lhs; arg 1; rw[this]
    rw[Rat.divInt_eq_div];exact Rat.div_mul_cancel (by
     have:=a.q.den_nz;intro g;have:(a.q.den:Int)=0:=by exact_mod_cast g
     omega)
   have e2:((n.z:Int):Rat)=a.q*2^sh*((d.z:Int):Rat):=by
    rw[hnz,hdz,Rat.intCast_mul,Rat.intCast_mul,cast_pow2,cast_pow2,<- e1];have e3:(2:Rat)^((sh.toNat:Nat):Int)=2^sh*2^(((-sh).toNat:Nat):Int):=by
     rw[<- zpow_add2];congr 1;omega
    rw[e3];grind
   rw[e2,Rat.mul_div_cancel hdq]
  obtain⟨f1,f2,f3⟩:=floor_q n.z d.z hdpos;rw[hval] at f1 f2 f3
  -- its size
  have hsz:absQ (a.q*2^sh)<2^(bits+2):=by
   have e1:absQ a.q=((a.q.num.natAbs:Nat):Rat)/((a.q.den:Nat):Rat):=by
    have:a.q=Rat.divInt a.q.num a.q.den:=rat_eq a.q;conv=>lhs; rw[this,Rat.divInt_eq_div,Rat.div_def,absQ_mul,absQ_int]
    rw[Rat.div_def,absQ_pos]
    ·rfl
    ·apply Rat.le_of_lt;rw[Rat.inv_pos]
     exact_mod_cast (show (0:Int)<(a.q.den:Int) by have:=a.q.den_nz; omega)
   have hdq:(0:Rat)<((a.q.den:Nat):Rat):=Rat.natCast_pos.2 (Nat.pos_of_ne_zero a.q.den_nz);have p1:((a.q.num.natAbs:Nat):Rat)<2^(blen a.q.num.natAbs:Int):=by
    rw[Rat.zpow_natCast];have:=Rat.natCast_lt_natCast.2 n2;rwa [Rat.natCast_pow] at this
   have p2:(2:Rat)^((blen a.q.den-1:Nat):Int)<=((a.q.den:Nat):Rat):=by
    rw[Rat.zpow_natCast];have:=Rat.natCast_le_natCast.2 m1;rwa [Rat.natCast_pow] at this
   have p3:absQ a.q<2^((blen a.q.num.natAbs:Int)-((blen a.q.den-1:Nat):Int)):=by
    rw[e1,Rat.div_lt_iff hdq];have h5:=Rat.mul_le_mul_of_nonneg_left p2 (Rat.le_of_lt (zpow_pos2 ((blen a.q.num.natAbs:Int)-((blen a.q.den-1:Nat):Int))));rw[<- zpow_add2] at h5;have h6:(blen a.q.num.natAbs:Int)-((blen a.q.den-1:Nat):Int)+((blen a.q.den-1:Nat):Int)=blen a.q.num.natAbs:=by omega
    rw[h6] at h5;grind
   rw[absQ_mul,absQ_pos (Rat.le_of_lt (zpow_pos2 sh))];have h7:=(Rat.mul_lt_mul_right (zpow_pos2 sh)).2 p3;rw[<- zpow_add2] at h7;have h8:(blen a.q.num.natAbs:Int)-((blen a.q.den-1:Nat):Int)+sh=bits+2:=by omega
   rwa [h8] at h7
  have hlow:(2:Rat)^bits<=absQ a.q*2^sh:=by
   have e1:absQ a.q=((a.q.num.natAbs:Nat):Rat)/((a.q.den:Nat):Rat):=by
    have:a.q=Rat.divInt a.q.num a.q.den:=rat_eq a.q;conv=>lhs; rw[this,Rat.divInt_eq_div,Rat.div_def,absQ_mul,absQ_int]
    rw[Rat.div_def,absQ_pos]
    ·rfl
    ·apply Rat.le_of_lt;rw[Rat.inv_pos]
     exact_mod_cast (show (0:Int)<(a.q.den:Int) by have:=a.q.den_nz; omega)
   have hdq:(0:Rat)<((a.q.den:Nat):Rat):=Rat.natCast_pos.2 (Nat.pos_of_ne_zero a.q.den_nz);have p1:(2:Rat)^((blen a.q.num.natAbs-1:Nat):Int)<=((a.q.num.natAbs:Nat):Rat):=by
    rw[Rat.zpow_natCast];have:=Rat.natCast_le_natCast.2 n1;rwa [Rat.natCast_pow] at this
   have p2:((a.q.den:Nat):Rat)<=(2:Rat)^(blen a.q.den:Int):=by
    rw[Rat.zpow_natCast];have:=Rat.natCast_le_natCast.2 (Nat.le_of_lt m2);rwa [Rat.natCast_pow] at this
   apply Rat.le_of_mul_le_mul_right _ hdq;have e2:absQ a.q*2^sh*((a.q.den:Nat):Rat)=((a.q.num.natAbs:Nat):Rat)*2^sh:=by
    rw[e1];have:((a.q.num.natAbs:Nat):Rat)/((a.q.den:Nat):Rat)*((a.q.den:Nat):Rat)=((a.q.num.natAbs:Nat):Rat):=Rat.div_mul_cancel (by grind);grind
   rw[e2];refine Rat.le_trans (Rat.mul_le_mul_of_nonneg_left p2 (Rat.le_of_lt (zpow_pos2 _))) ?_;refine Rat.le_trans ?_ (Rat.mul_le_mul_of_nonneg_right p1 (Rat.le_of_lt (zpow_pos2 _)));rw[<- zpow_add2,<- zpow_add2];exact zpow_le2 (by omega)
  -- the whole part
  obtain⟨Y,hY⟩:∃ Y,a.q*2^sh=Y:=⟨_,rfl⟩
  rw[hY] at f1 f2 f3 hsz;obtain⟨y1,y2⟩:=absQ_lt.1 hsz;have hpw:((2^(bits.toNat+2):Nat):Rat)=2^(bits+2):=by
   rw[Rat.natCast_pow,<- Rat.zpow_natCast];congr 1;omega
  have q1:((n.z/d.z:Int))<((2^(bits.toNat+2):Nat):Int):=by
   have:((n.z/d.z:Int):Rat)<(((2^(bits.toNat+2):Nat):Int):Rat):=by
    rw[Rat.intCast_natCast,hpw];grind
   exact Rat.intCast_lt_intCast.1 this
  have q2:-((2^(bits.toNat+2):Nat):Int)<=(n.z/d.z:Int):=by
   have:((-((2^(bits.toNat+2):Nat):Int):Int):Rat)<((n.z/d.z+1:Int):Rat):=by
    rw[Rat.intCast_neg,Rat.intCast_natCast,hpw];grind
   have:=Rat.intCast_lt_intCast.1 this;omega
  have hq:∃ z:FZ,(if (up&&n.z%d.z !=0)=true then zAdd ⟨n.z/d.z,Nat.lt_of_le_of_lt (by
     rcases Int.lt_trichotomy d.z 0 with g | g | g
     ·omega
     ·omega
     ·exact ediv_natAbs_le _ g) n.h⟩ z1 else .ok ⟨n.z/d.z,Nat.lt_of_le_of_lt (by
     rcases Int.lt_trichotomy d.z 0 with g | g | g
     ·omega
     ·omega
     ·exact ediv_natAbs_le _ g) n.h⟩)=.ok z/\z.z.natAbs<=2^(bits.toNat+2)/\(up=false->(z.z:Rat)<=Y)/\(up=true->Y<=(z.z:Rat))/\absQ ((z.z:Rat)-Y)<=1:=by
   by_cases g:(up&&n.z%d.z !=0)=true
   ·rw[if_pos g];have hu:up=true:=by revert g; cases up <;> simp
    have hlt:(n.z/d.z+1).natAbs<=2^(bits.toNat+2):=by omega
    refine⟨⟨n.z/d.z+1,lt_big (k:=bits.toNat+3) (Nat.lt_of_le_of_lt hlt (Nat.pow_lt_pow_right (by decide) (by omega))) (by omega)⟩,fitZ_ok _,hlt,(fun q=>by rw[hu] at q; cases q),fun _=>Rat.le_of_lt f2,?_⟩;show absQ (((n.z/d.z+1:Int):Rat)-Y)<=1;rw[Rat.intCast_add,Rat.intCast_one] at f2 ⊢;rw[absQ_le];exact⟨by grind,by grind⟩
   ·rw[if_neg g];refine⟨_,rfl,?_,fun _=>f1,fun hu=>?_,?_⟩
    ·show (n.z/d.z).natAbs<=_;omega
    ·have:n.z%d.z=0:=by
      rw[hu] at g;simpa using g
     rw[show ((n.z/d.z:Int):Rat)=Y from f3 this];exact Rat.le_refl
    ·show absQ (((n.z/d.z:Int):Rat)-Y)<=1;rw[Rat.intCast_add,Rat.intCast_one] at f2;rw[absQ_le];exact⟨by grind,by grind⟩
  obtain⟨z,hz1,hz2,hz3,hz4,hz5⟩:=hq;simp only[hz1];have hgr:z.z=0\/(-((bits.toNat+k:Nat):Int)<=-sh/\z.z.natAbs*2^(-sh+((bits.toNat+k:Nat):Int)).toNat<2^(j+1+(bits.toNat+k))):=by
   right;refine⟨by omega,?_⟩;refine Nat.lt_of_le_of_lt (Nat.mul_le_mul_right _ hz2) ?_;rw[<- Nat.pow_add];exact Nat.pow_lt_pow_right (by decide) (by omega)
  obtain⟨x,x1,x2,x3,_⟩:=dMake_ok hgr (by omega) (by omega);simp only[x1];obtain⟨r,r1,r2,r3,r4,r5,r6⟩:=dRound_ok (a:=x) up hb x3 (by omega) (by omega);have hps:=zpow_pos2 (-sh);have hYe:Y*2^(-sh)=a.q:=by
   rw[<- hY,Rat.mul_assoc,<- zpow_add2];have:sh+-sh=0:=by omega
   rw[this,zpow_zero2,Rat.mul_one]
  have hxa:absQ (x.v-a.q)<=2^(-sh):=by
   rw[x2,<- hYe];have:(z.z:Rat)*2^(-sh)-Y*2^(-sh)=((z.z:Rat)-Y)*2^(-sh):=by grind
   rw[this,absQ_mul,absQ_pos (Rat.le_of_lt hps)];have:=Rat.mul_le_mul_of_nonneg_right hz5 (Rat.le_of_lt hps);rwa [Rat.one_mul] at this
  refine⟨r,r1,r2,fun hu=>?_,fun hu=>?_,?_,r6⟩
  ·refine Rat.le_trans (r3 hu) ?_;rw[x2,<- hYe];exact Rat.mul_le_mul_of_nonneg_right (hz3 hu) (Rat.le_of_lt hps)
  ·refine Rat.le_trans ?_ (r4 hu);rw[x2,<- hYe];exact Rat.mul_le_mul_of_nonneg_right (hz4 hu) (Rat.le_of_lt hps)
  ·-- how near
   obtain⟨e,he⟩:∃ e:Rat,(2:Rat)^(-bits)=e:=⟨_,rfl⟩
   have e1:(2:Rat)^(1-bits)=2*e:=by rw[Int.sub_eq_add_neg,zpow_add2,he,Rat.zpow_one]
   have e2:(2:Rat)^(2-bits)=4*e:=by
    rw[Int.sub_eq_add_neg,zpow_add2,he];rfl
   have epos:0<e:=by rw[<- he]; exact zpow_pos2 _
   have ele:e<=1/4:=by
    rw[<- he];have h1:(2:Rat)^(-bits)<=2^(-2:Int):=zpow_le2 (by omega);have h2:(2:Rat)^(-2:Int)=1/4:=by decide +kernel
    rwa [h2] at h1
   rw[e1] at r5;rw[e2];have h9:(2:Rat)^(-sh)<=absQ a.q*e:=by
    have:=Rat.mul_le_mul_of_nonneg_right hlow (Rat.le_of_lt (Rat.mul_pos hps epos));have u1:(2:Rat)^bits*(2^(-sh)*e)=2^(-sh):=by
     have:(2:Rat)^bits*e=1:=by
      rw[<- he,<- zpow_add2];have:bits+-bits=0:=by omega
      rw[this,zpow_zero2]
     grind
    have u2:absQ a.q*2^sh*(2^(-sh)*e)=absQ a.q*e:=by
     have:(2:Rat)^sh*2^(-sh)=1:=by
      rw[<- zpow_add2];have:sh+-sh=0:=by omega
      rw[this,zpow_zero2]
     grind
    rwa [u1,u2] at this
   have hx:absQ x.v<=absQ a.q+absQ a.q*e:=by
    have:x.v=a.q+(x.v-a.q):=by grind
    rw[this];refine Rat.le_trans (absQ_add _ _) ?_;grind
   have h10:absQ (r.v-a.q)<=absQ (r.v-x.v)+absQ (x.v-a.q):=by
    have:r.v-a.q=(r.v-x.v)+(x.v-a.q):=by grind
    rw[this];exact absQ_add _ _
   obtain⟨A,hA⟩:∃ A,absQ a.q=A:=⟨_,rfl⟩
   have hA0:0<=A:=by rw[<- hA]; exact absQ_nonneg _
   rw[hA] at h9 hx ⊢;have h11:absQ x.v*(2*e)<=(A+A*e)*(2*e):=Rat.mul_le_mul_of_nonneg_right hx (by grind);have h12:A*e*e<=A*e*(1/4):=Rat.mul_le_mul_of_nonneg_left ele (Rat.mul_nonneg hA0 (Rat.le_of_lt epos));have h13:0<=A*e:=Rat.mul_nonneg hA0 (Rat.le_of_lt epos);grind
end
section
open Go Go.RowKit
structure FS where
 lo:FD
 hi:FD
def s0:FS:=⟨d0,d0⟩
def sPoint (d:FD):FS:=⟨d,d⟩
def sEven (d:FD):FS:=⟨dNeg (dAbs d),dAbs d⟩
def sNear (a:FQ) (bits:Int):Except Nat FS:=bnd (dNear a bits false) fun l=>bnd (dNear a bits true) fun h=>.ok ⟨l,h⟩
def sOut (lo hi:FD) (bits:Int):Except Nat FS:=bnd (dRound lo bits false) fun l=>bnd (dRound hi bits true) fun h=>.ok ⟨l,h⟩
def sAdd (a b:FS) (bits:Int):Except Nat FS:=bnd (dAdd a.lo b.lo) fun l=>bnd (dAdd a.hi b.hi) fun h=>sOut l h bits
def sNeg (a:FS):FS:=⟨dNeg a.hi,dNeg a.lo⟩
def sSub (a b:FS) (bits:Int):Except Nat FS:=sAdd a (sNeg b) bits
def sMul (a b:FS) (bits:Int):Except Nat FS :=
 bnd (dMul a.lo b.lo) fun x1=>bnd (dMul a.lo b.hi) fun x2=>bnd (dMul a.hi b.lo) fun x3=>bnd (dMul a.hi b.hi) fun x4 =>
  sOut (dMin (dMin (dMin x1 x2) x3) x4) (dMax (dMax (dMax x1 x2) x3) x4) bits
def sSize (a:FS):FD:=dMax (dAbs a.lo) (dAbs a.hi)
def In (x:Rat) (s:FS):Prop:=s.lo.v<=x/\x<=s.hi.v
def SGr (K L:Nat) (s:FS):Prop:=Gr K L s.lo/\Gr K L s.hi
theorem SGr.mono {K L K' L':Nat} {s:FS} (h:SGr K L s) (hK:K<=K') (hL:L<=L'):SGr K' L' s:=⟨h.1.mono hK hL,h.2.mono hK hL⟩
theorem SGr.s0 (K L:Nat):SGr K L s0:=⟨.d0 _ _,.d0 _ _⟩
theorem In.s0:In 0 s0:=by
 have:d0.v=0:=v_zero rfl;exact⟨by show d0.v<=0; rw[this]; exact Rat.le_refl,by show 0<=d0.v; rw[this]; exact Rat.le_refl⟩
theorem sNear_ok {a:FQ} {j k:Nat} {bits:Int} (hb:bitsOk bits=true) (ha:Sz a.q j k) (h:bits.toNat+k+2<=16384) (hj:j<=16384) :
  ∃ r,sNear a bits=.ok r/\SGr (j+2) (bits.toNat+k) r/\In a.q r:=by
 obtain⟨l,l1,l2,l3,_⟩:=dNear_ok false hb ha h hj;obtain⟨u,u1,u2,_,u3,_⟩:=dNear_ok true hb ha h hj;exact⟨⟨l,u⟩,by simp only[sNear,bnd,l1,u1],⟨l2,u2⟩,l3 rfl,u3 rfl⟩
theorem sOut_ok {lo hi:FD} {K L:Nat} {bits:Int} (hb:bitsOk bits=true) (hl:Gr K L lo) (hh:Gr K L hi) (hL:L<=65536) (hK:K+1<=65536) :
  ∃ r,sOut lo hi bits=.ok r/\SGr (K+1) L r/\r.lo.v<=lo.v/\hi.v<=r.hi.v:=by
 obtain⟨l,l1,l2,l3,_⟩:=dRound_ok false hb hl hL hK;obtain⟨u,u1,u2,_,u3,_⟩:=dRound_ok true hb hh hL hK;exact⟨⟨l,u⟩,by simp only[sOut,bnd,l1,u1],⟨l2,u2⟩,l3 rfl,u3 rfl⟩
theorem sAdd_ok {a b:FS} {K L:Nat} {bits:Int} (hb:bitsOk bits=true) (ha:SGr K L a) (hb2:SGr K L b) (h:K+L+1<=16384) :
  ∃ r,sAdd a b bits=.ok r/\SGr (K+2) L r/\r.lo.v<=a.lo.v+b.lo.v/\a.hi.v+b.hi.v<=r.hi.v:=by
 obtain⟨l,l1,l2,l3⟩:=dAdd_ok ha.1 hb2.1 h;obtain⟨u,u1,u2,u3⟩:=dAdd_ok ha.2 hb2.2 h;obtain⟨r,r1,r2,r3,r4⟩:=sOut_ok hb l3 u3 (by omega) (by omega);refine⟨r,by simp only[sAdd,bnd,l1,u1,r1],r2,?_,?_⟩
 ·rw[<- l2]; exact r3
 ·rw[<- u2]; exact r4
theorem In.add {a b r:FS} {x y:Rat} (hx:In x a) (hy:In y b) (h1:r.lo.v<=a.lo.v+b.lo.v) (h2:a.hi.v+b.hi.v<=r.hi.v):In (x+y) r:=by
 obtain⟨x1,x2⟩:=hx;obtain⟨y1,y2⟩:=hy;exact⟨by grind,by grind⟩
theorem low_mul {m a b x y:Rat} (h1:a<=x) (h2:x<=b) (ha:m<=a*y) (hb:m<=b*y):m<=x*y:=by
 rcases Rat.le_total (a:=0) (b:=y) with h | h
 ·exact Rat.le_trans ha (Rat.mul_le_mul_of_nonneg_right h1 h)
 ·have:=Rat.mul_le_mul_of_nonneg_right h2 (show 0<=-y by grind);rw[Rat.mul_neg,Rat.mul_neg] at this;grind
theorem high_mul {m a b x y:Rat} (h1:a<=x) (h2:x<=b) (ha:a*y<=m) (hb:b*y<=m):x*y<=m:=by
 rcases Rat.le_total (a:=0) (b:=y) with h | h
 ·exact Rat.le_trans (Rat.mul_le_mul_of_nonneg_right h2 h) hb
 ·have:=Rat.mul_le_mul_of_nonneg_right h1 (show 0<=-y by grind);rw[Rat.mul_neg,Rat.mul_neg] at this;grind
theorem min_le (x y:FD):(dMin x y).v<=x.v/\(dMin x y).v<=y.v:=by
 rw[dMin_v]; split <;> constructor <;> grind
theorem le_max (x y:FD):x.v<=(dMax x y).v/\y.v<=(dMax x y).v:=by
 rw[dMax_v]; split <;> constructor <;> grind
theorem sMul_ok {a b:FS} {K L K' L':Nat} {bits:Int} (hb:bitsOk bits=true) (ha:SGr K L a) (hb2:SGr K' L' b) (h:K+L+(K'+L')+1<=16384) :
  ∃ r,sMul a b bits=.ok r/\SGr (K+K'+1) (L+L') r/\∀ x y,In x a->In y b->In (x*y) r:=by
 obtain⟨x1,e1,v1,g1⟩:=dMul_ok ha.1 hb2.1 (by omega);obtain⟨x2,e2,v2,g2⟩:=dMul_ok ha.1 hb2.2 (by omega);obtain⟨x3,e3,v3,g3⟩:=dMul_ok ha.2 hb2.1 (by omega);obtain⟨x4,e4,v4,g4⟩:=dMul_ok ha.2 hb2.2 (by omega);obtain⟨r,r1,r2,r3,r4⟩:=sOut_ok hb (dMin_gr (dMin_gr (dMin_gr g1 g2) g3) g4) (dMax_gr (dMax_gr (dMax_gr g1 g2) g3) g4) (by omega) (by omega);refine⟨r,by simp only[sMul,bnd,e1,e2,e3,e4,r1],r2,?_⟩;rintro x y ⟨hx1,hx2⟩ ⟨hy1,hy2⟩;have a1:=min_le x1 x2;have a2:=min_le (dMin x1 x2) x3;have a3:=min_le (dMin (dMin x1 x2) x3) x4;have b1:=le_max x1 x2;have b2:=le_max (dMax x1 x2) x3;have b3:=le_max (dMax (dMax x1 x2) x3) x4;have sw:∀ u v:Rat,u*v=v*u:=Rat.mul_comm;refine⟨low_mul hx1 hx2 ?_ ?_,high_mul hx1 hx2 ?_ ?_⟩
 ·rw[sw];exact low_mul hy1 hy2 (by rw[sw,<- v1]; grind) (by rw[sw,<- v2]; grind)
 ·rw[sw];exact low_mul hy1 hy2 (by rw[sw,<- v3]; grind) (by rw[sw,<- v4]; grind)
 ·rw[sw];exact high_mul hy1 hy2 (by rw[sw,<- v1]; grind) (by rw[sw,<- v2]; grind)
 ·rw[sw];exact high_mul hy1 hy2 (by rw[sw,<- v3]; grind) (by rw[sw,<- v4]; grind)
theorem cmpQ_le {a b:Rat}:cmpQ a b<=0↔a<=b:=by
 unfold cmpQ;split
 ·constructor
  ·intro _; grind
  ·intro _; decide
 ·split
  ·constructor
   ·intro _; grind
   ·intro _; decide
  ·constructor
   ·intro h; omega
   ·intro h; grind
theorem cmpQ_ge {a b:Rat}:cmpQ a b ≥ 0↔b<=a:=by
 unfold cmpQ;split
 ·constructor
  ·intro h; omega
  ·intro h; grind
 ·split
  ·constructor
   ·intro _; grind
   ·intro _; decide
  ·constructor
   ·intro _; grind
   ·intro _; decide
theorem sSize_v (a:FS) {x:Rat} (h:In x a):absQ x<=(sSize a).v:=by
 have:=le_max (dAbs a.lo) (dAbs a.hi);rw[dAbs_v,dAbs_v] at this;obtain⟨h1,h2⟩:=h;obtain⟨t1,t2⟩:=this;unfold sSize;have u1:=(absQ_le (a:=a.lo.v)).1 Rat.le_refl;have u2:=(absQ_le (a:=a.hi.v)).1 Rat.le_refl;rw[absQ_le];exact⟨by grind,by grind⟩
end
end Go.Proofs.YtjdkdcmpifapeaaGreatDoor.Abs
