/- Whole numbers: what the program reckons of them. -/
import Derived.Test.YtjdkdcmpifapeaaGreatDoorMf
import Derived.Test.YtjdkdcmpifapeaaGreatDoorMi
import Derived.Test.YtjdkdcmpifapeaaGreatDoorMh
set_option linter.unusedVariables false
set_option linter.unusedSectionVars false
set_option linter.unusedSimpArgs false
set_option maxHeartbeats 4000000
namespace Go.Proofs.YtjdkdcmpifapeaaGreatDoor.Abs
section
open Go Go.RowKit Go.Proofs.Tryz
def int (z:Int):AV:=.agg [boo (decide (z<0)),nat z.natAbs]
def rat (q:Rat):AV:=.agg [boo (decide (q.num<0)),nat q.num.natAbs,nat q.den]
def sgn (m:Bool) (n:Nat):Int:=if m then -(n:Int) else n
theorem int_sgn (m:Bool) (n:Nat):int (sgn m n)=.agg [boo (m&&decide (0<n)),nat n]:=by
 cases m
 ·have h:¬ ((n:Int)<0):=by omega
  simp[int,sgn,h]
 ·by_cases h0:n=0
  ·subst h0; simp[int,sgn]
  ·have h:-(n:Int)<0:=by omega
   have h2:0<n:=by omega
   simp[int,sgn,h,h2]
theorem len_pos (n:Nat):decide (((((digs n).map dg).length:Nat):Int) > 0)=decide (0<n):=by
 by_cases h:n=0
 ·subst h; rw[digs_zero]; rfl
 ·have h1:(digs n).length≠0:=by
   intro g;exact h (digs_eq_nil.1 (List.length_eq_zero_iff.1 g))
  have h2:0<n:=by omega
  simp[h2];omega
theorem c_of (m:Bool) (n:Nat):ACalls prog 184 [boo m,nat n] (int (sgn m n)):=by
 refine con func184 rfl (by kernel_rfl) ?_;rw[int_sgn];cases m
 ·conv=>whnf
  exact fin rfl rfl
 ·conv=>whnf
  exact fin rfl (congrArg (fun b=>AV.agg [boo b,nat n]) (len_pos n))
theorem sgn_of (z:Int):sgn (decide (z<0)) z.natAbs=z:=by
 unfold sgn;split
 ·rename_i h; simp at h; omega
 ·rename_i h; simp at h; omega
theorem wrapU_neg {n:Int} (h1:-9223372036854775808<=n) (hn:n<0):IntKind.wrap .u64 (0-IntKind.wrap .u64 n)=((n.natAbs:Nat):Int):=by
 simp only[IntKind.wrap,IntKind.bits,IntKind.signed];simp;omega
theorem wrapU_pos {n:Int} (h2:n<9223372036854775808) (hn:0<=n):IntKind.wrap .u64 n=((n.natAbs:Nat):Int):=by
 simp only[IntKind.wrap,IntKind.bits,IntKind.signed];simp;omega
theorem c_wOf (n:Int) (h1:-9223372036854775808<=n) (h2:n<9223372036854775808):ACalls prog 96 [i64 n] (int n):=by
 refine con func96 rfl (by kernel_rfl) ?_;conv=>whnf
 refine Br.mk (fun h=>?_) (fun h=>?_)
 ·have hn:n<0:=by simpa using h
  conv=>whnf
  refine callS (args:=[.lit (.int .u64 (IntKind.wrap .u64 (0-IntKind.wrap .u64 n)))]) (by rw[wrapU_neg h1 hn]; exact c_Of n.natAbs (by omega)) rfl rfl ?_;conv=>whnf
  refine cE (c_of true n.natAbs) ?_;conv=>whnf
  exact fin rfl (congrArg int (by unfold sgn; simp; omega))
 ·have hn:0<=n:=by simpa using h
  conv=>whnf
  refine callS (args:=[.lit (.int .u64 (IntKind.wrap .u64 n))]) (by rw[wrapU_pos h2 hn]; exact c_Of n.natAbs (by omega)) rfl rfl ?_;conv=>whnf
  refine cE (c_of false n.natAbs) ?_;conv=>whnf
  exact fin rfl (congrArg int (by unfold sgn; simp; omega))
theorem c_wNat (n:Nat) (h:n<Big):ACalls prog 101 [nat n] (int n):=by
 refine con func101 rfl (by kernel_rfl) ?_;conv=>whnf
 refine cE (c_Clone n h) ?_;conv=>whnf
 refine cE (c_of false n) ?_;conv=>whnf
 exact fin rfl rfl
theorem len_zero (n:Nat):((((((digs n).map dg).length:Nat):Int)==0):Bool)=decide (n=0):=by
 by_cases h:n=0
 ·subst h; rw[digs_zero]; rfl
 ·have h1:(digs n).length≠0:=by
   intro g;exact h (digs_eq_nil.1 (List.length_eq_zero_iff.1 g))
  rw[List.length_map,decide_eq_false h,beq_eq_false_iff_ne];omega
theorem c_wSign (z:Int):ACalls prog 97 [int z] (i64 (sgnZ z)):=by
 refine con func97 rfl (by kernel_rfl) ?_;conv=>whnf
 refine Br.mk (fun h=>?_) (fun h=>?_)
 ·have h0:z=0:=by
   have:=(len_zero z.natAbs).symm.trans h;simpa using this
  subst h0;conv=>whnf
  exact fin rfl rfl
 ·have h0:z≠0:=by
   have:=(len_zero z.natAbs).symm.trans h;simpa using this
  conv=>whnf
  refine Br.mk (fun h=>?_) (fun h=>?_)
  ·have hn:z<0:=by simpa using h
   conv=>whnf
   exact fin rfl (congrArg i64 (by simp[sgnZ,h0,hn]))
  ·have hn:¬ z<0:=by simpa using h
   conv=>whnf
   exact fin rfl (congrArg i64 (by simp[sgnZ,h0,hn]))
theorem c_wNeg (a:FZ):ACalls prog 134 [int a.z] (int (-a.z)):=by
 refine con func134 rfl (by kernel_rfl) ?_;conv=>whnf
 refine xK ?_;conv=>whnf
 refine cE (c_Clone a.z.natAbs a.h) ?_;conv=>whnf
 refine callD (c_of (!decide (a.z<0)) a.z.natAbs) rfl rfl ?_;conv=>whnf
 refine fin rfl (congrArg int ?_);unfold sgn;by_cases h:a.z<0
 ·simp[h]; omega
 ·simp[h]; omega
theorem c_wAbs (a:FZ):ACalls prog 120 [int a.z] (int (a.z.natAbs:Int)):=by
 refine con func120 rfl (by kernel_rfl) ?_;conv=>whnf
 refine cE (c_Clone a.z.natAbs a.h) ?_;conv=>whnf
 refine cE (c_of false a.z.natAbs) ?_;conv=>whnf
 exact fin rfl rfl
theorem c_wCheck (m:Bool) (l:List Nat) (hl:l.length<=9223372036854775807):ACalls prog 86 [.agg [boo m,lst l]] (i64 (if checkN l≠0 then checkN l else if m=true/\l=[] then 2 else 0)):=by
 refine con func86 rfl (by kernel_rfl) ?_;conv=>whnf
 refine cE (c_CheckN l hl) ?_;conv=>whnf
 refine Br.mk (fun h=>?_) (fun h=>?_)
 ·conv=>whnf
  exact fin rfl (congrArg i64 (by simp at h; simp[h]))
 ·have h0:checkN l=0:=by simpa using h
  cases m
  ·conv=>whnf
   exact fin rfl (congrArg i64 (by simp[h0]))
  ·conv=>whnf
   refine Br.mk (fun h=>?_) (fun h=>?_)
   ·have hl0:l=[]:=by
     have:((l.map dg).length:Int)=0:=by simpa using h
     simpa using this
    conv=>whnf
    exact fin rfl (congrArg i64 (by rw[if_neg (by rw[h0]; decide),if_pos ⟨rfl,hl0⟩]))
   ·have hl0:l≠[]:=by
     intro e;subst e;simp at h
    conv=>whnf
    exact fin rfl (congrArg i64 (by simp[h0,hl0]))
theorem sgnZ_lt {a b:Int} (h:sgnZ a<sgnZ b):a<b:=by
 unfold sgnZ at h;split at h <;> split at h <;> (try split at h) <;> (try split at h) <;> omega
theorem cmpN_swap {a b:Int} (ha:a<0) (hb:b<0):cmpN b.natAbs a.natAbs=cmpZ a b:=by
 unfold cmpN cmpZ;have h1:b.natAbs<a.natAbs↔a<b:=by omega
 have h2:b.natAbs=a.natAbs↔a=b:=by omega
 simp only[h1,h2]
theorem cmpN_nat {a b:Int} (ha:0<=a) (hb:0<=b):cmpN a.natAbs b.natAbs=cmpZ a b:=by
 unfold cmpN cmpZ;have h1:a.natAbs<b.natAbs↔a<b:=by omega
 have h2:a.natAbs=b.natAbs↔a=b:=by omega
 simp only[h1,h2]
theorem c_wCompare (a b:FZ):ACalls prog 94 [int a.z,int b.z] (i64 (cmpZ a.z b.z)):=by
 refine con func94 rfl (by kernel_rfl) ?_;conv=>whnf
 refine xK ?_;conv=>whnf
 refine cE (c_wSign a.z) ?_;conv=>whnf
 refine cE (c_wSign b.z) ?_;conv=>whnf
 cases hne:(sgnZ a.z !=sgnZ b.z)
 ·have he:sgnZ a.z=sgnZ b.z:=by simpa using hne
  conv=>whnf
  rw[hne];conv=>whnf
  refine Br.mk (fun h=>?_) (fun h=>?_)
  ·have ha:a.z<0:=by
    have h':sgnZ a.z<0:=by simpa using h
    unfold sgnZ at h';split at h'
    ·omega
    ·split at h' <;> omega
   have hb:b.z<0:=by
    have h':sgnZ b.z<0:=by rw[<- he]; simpa using h
    unfold sgnZ at h';split at h'
    ·omega
    ·split at h' <;> omega
   conv=>whnf
   refine cE (c_Compare b.z.natAbs a.z.natAbs b.h a.h) ?_;conv=>whnf
   exact fin rfl (congrArg i64 (cmpN_swap ha hb))
  ·have ha:0<=a.z:=by
    have h':¬ sgnZ a.z<0:=by simpa using h
    unfold sgnZ at h';split at h'
    ·omega
    ·split at h' <;> omega
   have hb:0<=b.z:=by
    have h':¬ sgnZ b.z<0:=by rw[<- he]; simpa using h
    unfold sgnZ at h';split at h'
    ·omega
    ·split at h' <;> omega
   conv=>whnf
   refine cE (c_Compare a.z.natAbs b.z.natAbs a.h b.h) ?_;conv=>whnf
   exact fin rfl (congrArg i64 (cmpN_nat ha hb))
 ·have he:sgnZ a.z≠sgnZ b.z:=by simpa using hne
  conv=>whnf
  refine Br.mk (fun h=>?_) (fun h=>?_)
  ·have:a.z<b.z:=sgnZ_lt (by simpa using h);conv=>whnf
   exact fin rfl (congrArg i64 (by simp[cmpZ,this]))
  ·have:b.z<a.z:=sgnZ_lt (by (have:¬ sgnZ a.z<sgnZ b.z:=by simpa using h); omega);have h1:¬ a.z<b.z:=by omega
   have h2:¬ a.z=b.z:=by omega
   conv=>whnf
   rw[hne];conv=>whnf
   exact fin rfl (congrArg i64 (by simp[cmpZ,h1,h2]))
def resZ (r:Except Nat FZ):AV:=resE (fun a:FZ=>int a.z) (int 0) r
theorem fit_cases (n:Nat):(∃ h:n<Big,fitN n=.ok n)\/(¬ n<Big/\fitN n=.error eLimbs):=by
 by_cases h:n<Big
 ·exact .inl ⟨h,fitN_ok h⟩
 ·exact .inr ⟨h,fitN_no h⟩
theorem sgn_mul (a b:Int):sgn (decide (a<0) !=decide (b<0)) (a.natAbs*b.natAbs)=a*b:=by
 have h:=Int.natAbs_mul a b;unfold sgn;rcases (by omega:a<0\/0<=a) with ha | ha <;> rcases (by omega:b<0\/0<=b) with hb | hb
 ·have h1:0<=a*b:=Int.le_of_lt (Int.mul_pos_of_neg_of_neg ha hb);simp[ha,hb];omega
 ·have h1:a*b<=0:=Int.mul_nonpos_of_nonpos_of_nonneg (by omega) hb;have hb':¬ b<0:=by omega
  simp[ha,hb'];rw[<- Int.natCast_mul];omega
 ·have h1:a*b<=0:=Int.mul_nonpos_of_nonneg_of_nonpos ha (by omega);have ha':¬ a<0:=by omega
  simp[ha',hb];rw[<- Int.natCast_mul];omega
 ·have h1:0<=a*b:=Int.mul_nonneg ha hb;have ha':¬ a<0:=by omega
  have hb':¬ b<0:=by omega
  simp[ha',hb'];omega
theorem c_wMul (a b:FZ):ACalls prog 91 [int a.z,int b.z] (resZ (zMul a b)):=by
 refine con func91 rfl (by kernel_rfl) ?_;conv=>whnf
 refine callS (c_Mul a.z.natAbs b.z.natAbs a.h b.h) rfl (closed_resN _) ?_;rcases fit_cases (a.z.natAbs*b.z.natAbs) with ⟨h,e⟩ | ⟨h,e⟩
 ·rw[e];have e2:zMul a b=.ok ⟨a.z*b.z,by rw[Int.natAbs_mul]; exact h⟩:=fitZ_ok _;rw[e2];conv=>whnf
  refine⟨trivial,?_⟩;conv=>whnf
  refine callS (c_of (decide (a.z<0) !=decide (b.z<0)) (a.z.natAbs*b.z.natAbs)) rfl rfl ?_;conv=>whnf
  exact⟨fin rfl (congrArg int (sgn_mul _ _)),fin rfl rfl,trivial⟩
 ·rw[e];have e2:zMul a b=.error eLimbs:=fitZ_no (by rw[Int.natAbs_mul]; exact h);rw[e2];conv=>whnf
  refine⟨trivial,?_⟩;conv=>whnf
  refine callS (c_of (decide (a.z<0) !=decide (b.z<0)) 0) rfl rfl ?_;conv=>whnf
  exact⟨fin rfl (congrArg int (by cases (decide (a.z<0) !=decide (b.z<0)) <;> rfl)),fin rfl rfl,trivial⟩
theorem sub_cases {a b:Nat} (h:b<=a):subR a b=.ok (a-b):=by
 have:¬ a<b:=by omega
 simp[subR,this]
theorem c_wAdd (a b:FZ):ACalls prog 109 [int a.z,int b.z] (resZ (zAdd a b)):=by
 refine con func109 rfl (by kernel_rfl) ?_;conv=>whnf
 refine⟨trivial,?_⟩;conv=>whnf
 refine Br.mk (fun h=>?_) (fun h=>?_)
 ·have hs:decide (a.z<0)=decide (b.z<0):=by simpa using h
  conv=>whnf
  refine callS (c_Add a.z.natAbs b.z.natAbs a.h b.h) rfl (closed_resN _) ?_;have hsum:sgn (decide (a.z<0)) (a.z.natAbs+b.z.natAbs)=a.z+b.z:=by
   unfold sgn;have hs':a.z<0↔b.z<0:=by simpa using hs
   by_cases ha:a.z<0
   ·have:=hs'.1 ha;simp[ha];omega
   ·have:¬ b.z<0:=fun q=>ha (hs'.2 q)
    simp[ha];omega
  have hab:(a.z+b.z).natAbs=a.z.natAbs+b.z.natAbs:=by
   rw[<- hsum];unfold sgn;split <;> omega
  rcases fit_cases (a.z.natAbs+b.z.natAbs) with ⟨h,e⟩ | ⟨h,e⟩
  ·rw[e];have e2:zAdd a b=.ok ⟨a.z+b.z,by rw[hab]; exact h⟩:=fitZ_ok _;rw[e2];conv=>whnf
   refine callS (c_of (decide (a.z<0)) (a.z.natAbs+b.z.natAbs)) rfl rfl ?_;conv=>whnf
   exact⟨fin rfl (congrArg int hsum),fin rfl rfl,trivial⟩
  ·rw[e];have e2:zAdd a b=.error eLimbs:=fitZ_no (by rw[hab]; exact h);rw[e2];conv=>whnf
   refine callS (c_of (decide (a.z<0)) 0) rfl rfl ?_;conv=>whnf
   exact⟨fin rfl (congrArg int (by cases (decide (a.z<0)) <;> rfl)),fin rfl rfl,trivial⟩
 ·have hs:decide (a.z<0)≠decide (b.z<0):=by simpa using h
  have hs':¬ (a.z<0↔b.z<0):=by simpa using hs
  conv=>whnf
  refine cE (c_Compare a.z.natAbs b.z.natAbs a.h b.h) ?_;conv=>whnf
  have h0:(a.z+b.z).natAbs<Big:=by
   have:=a.h;have:=b.h;omega
  have e2:zAdd a b=.ok ⟨a.z+b.z,h0⟩:=fitZ_ok _;rw[e2];refine Br.mk (fun h=>?_) (fun h=>?_)
  ·have hlt:a.z.natAbs<b.z.natAbs:=by
    have h':cmpN a.z.natAbs b.z.natAbs<0:=by simpa using h
    unfold cmpN at h';split at h'
    ·assumption
    ·split at h' <;> omega
   conv=>whnf
   refine callS (c_Sub b.z.natAbs a.z.natAbs b.h a.h) rfl (closed_resN _) ?_;rw[sub_cases (by omega)];conv=>whnf
   refine callS (c_of (decide (b.z<0)) (b.z.natAbs-a.z.natAbs)) rfl rfl ?_;conv=>whnf
   refine⟨fin rfl (congrArg int ?_),fin rfl rfl,trivial⟩;show sgn _ _=a.z+b.z;unfold sgn;by_cases hb:b.z<0
   ·simp[hb]; omega
   ·simp[hb]; omega
  ·have hle:b.z.natAbs<=a.z.natAbs:=by
    have h':¬ cmpN a.z.natAbs b.z.natAbs<0:=by simpa using h
    unfold cmpN at h';split at h'
    ·omega
    ·split at h' <;> omega
   conv=>whnf
   refine callS (c_Sub a.z.natAbs b.z.natAbs a.h b.h) rfl (closed_resN _) ?_;rw[sub_cases hle];conv=>whnf
   refine callS (c_of (decide (a.z<0)) (a.z.natAbs-b.z.natAbs)) rfl rfl ?_;conv=>whnf
   refine⟨fin rfl (congrArg int ?_),fin rfl rfl,trivial⟩;show sgn _ _=a.z+b.z;unfold sgn;by_cases ha:a.z<0
   ·simp[ha]; omega
   ·simp[ha]; omega
theorem left_cases (a:FZ) (n:Nat):(∃ r,leftN a.z.natAbs n=.ok r.z.natAbs/\zLeft a n=.ok r/\r.z=a.z*2^n)\/(leftN a.z.natAbs n=.error eLimbs/\zLeft a n=.error eLimbs):=by
 unfold leftN zLeft;by_cases h0:a.z=0
 ·left;refine⟨z0,?_,?_,?_⟩
  ·rw[if_pos (by omega)]; rfl
  ·rw[if_pos h0]
  ·rw[h0,Int.zero_mul]; rfl
 ·rw[if_neg (by omega),if_neg h0];by_cases h1:n > 16384
  ·rw[if_pos h1,if_pos h1]; exact .inr ⟨rfl,rfl⟩
  ·rw[if_neg h1,if_neg h1];have e:(a.z*2^n).natAbs=a.z.natAbs*2^n:=by rw[Int.natAbs_mul,Int.natAbs_pow]; rfl
   by_cases h:a.z.natAbs*2^n<Big
   ·left;refine⟨⟨a.z*2^n,by rw[e]; exact h⟩,?_,fitZ_ok _,rfl⟩;rw[fitN_ok h];exact congrArg Except.ok e.symm
   ·exact .inr ⟨fitN_no h,fitZ_no (by rw[e]; exact h)⟩
theorem sgn_left (a:Int) (n:Nat):sgn (decide (a<0)) (a*2^n).natAbs=a*2^n:=by
 have hp:=two_pow_pos' n;unfold sgn;by_cases h:a<0
 ·have:a*2^n<0:=Int.mul_neg_of_neg_of_pos h hp;rw[if_pos (decide_eq_true h)];omega
 ·have:0<=a*2^n:=Int.mul_nonneg (by omega) (by omega);rw[if_neg (by simp; omega)];omega
theorem c_wLeft (a:FZ) (n:Nat) (hn:n<9223372036854775808):ACalls prog 171 [int a.z,i64 n] (resZ (zLeft a n)):=by
 refine con func171 rfl (by kernel_rfl) ?_;conv=>whnf
 refine callS (c_Left a.z.natAbs n a.h hn) rfl (closed_resN _) ?_;rcases left_cases a n with ⟨r,e1,e2,e3⟩ | ⟨e1,e2⟩
 ·rw[e1,e2];conv=>whnf
  refine callS (c_of (decide (a.z<0)) r.z.natAbs) rfl rfl ?_;conv=>whnf
  exact⟨fin rfl (congrArg int (by rw[e3]; exact sgn_left _ _)),fin rfl rfl,trivial⟩
 ·rw[e1,e2];conv=>whnf
  refine callS (c_of (decide (a.z<0)) 0) rfl rfl ?_;conv=>whnf
  exact⟨fin rfl (congrArg int (by cases (decide (a.z<0)) <;> rfl)),fin rfl rfl,trivial⟩
theorem right_neg_even {k n:Nat} (hk:0<k) (h:n<=tz k):(-(k:Int))/2^n=-((k/2^n:Nat):Int):=by
 obtain⟨m,hm⟩:=tz_spec (n:=k) (by omega);have hd:2^n∣k:=by
  rw[hm];exact Nat.dvd_trans (Nat.pow_dvd_pow 2 h) (Nat.dvd_mul_right _ _)
 obtain⟨c,hc⟩:=hd;have hp:=two_pow_pos' n;have e:((k:Nat):Int)=2^n*(c:Int):=by rw[hc]; simp
 rw[e,<- Int.mul_neg,Int.mul_ediv_cancel_left _ (by omega),hc,Nat.mul_div_cancel_left _ (Nat.two_pow_pos n)]
theorem right_neg_odd {k n:Nat} (hk:0<k) (h:tz k<n):(-(k:Int))/2^n=-((k/2^n+1:Nat):Int):=by
 have hp:=two_pow_pos' n;have hp2:=Nat.two_pow_pos n;have hnd:k%2^n≠0:=by
  intro h0;obtain⟨m,hm⟩:=tz_spec (n:=k) (by omega);obtain⟨c,hc⟩:=Nat.dvd_of_mod_eq_zero h0;obtain⟨j,rfl⟩:∃ j,n=tz k+(j+1):=⟨n-tz k-1,by omega⟩
  rw[Nat.pow_add,Nat.pow_succ] at hc;have h2:2^tz k*(2*m+1)=2^tz k*(2^j*2*c):=by rw[<- hm,<- Nat.mul_assoc]; exact hc
  have h3:=Nat.eq_of_mul_eq_mul_left (Nat.two_pow_pos _) h2;have h4:2^j*2*c=2*(2^j*c):=by ac_rfl
  omega
 have h1:=Nat.mod_add_div k (2^n);have h2:=Nat.mod_lt k hp2;have e2:((2^n:Nat):Int)=(2:Int)^n:=by simp
 have h1':((k%2^n:Nat):Int)+(2:Int)^n*((k/2^n:Nat):Int)=(k:Int):=by
  rw[<- e2,<- Int.natCast_mul,<- Int.natCast_add,h1]
 have h5:(-(k:Int))=(2^n-((k%2^n:Nat):Int))+2^n*(-(((k/2^n:Nat):Int)+1)):=by
  rw[Int.mul_neg,Int.mul_add,Int.mul_one];omega
 have h2':((k%2^n:Nat):Int)<(2:Int)^n:=by rw[<- e2]; omega
 rw[h5,Int.add_mul_ediv_left _ _ (by omega),Int.ediv_eq_zero_of_lt (by omega) (by omega)];omega
theorem c_wRight' (m:Bool) (k n:Nat) (hk:k<Big) (hm:m=true->0<k) (hn:n<9223372036854775808):ACalls prog 224 [.agg [boo m,nat k],i64 n] (.tup [int (sgn m k/2^n),i64 0]):=by
 refine con func224 rfl (by kernel_rfl) ?_;conv=>whnf
 refine cE (c_Right k n hk hn) ?_;cases m
 ·conv=>whnf
  refine callS (c_of false (k/2^n)) rfl rfl ?_;conv=>whnf
  refine⟨fin rfl (congrArg int ?_),fin rfl rfl,trivial⟩;show ((k/2^n:Nat):Int)=(k:Int)/2^n;simp
 ·have hk0:=hm rfl;conv=>whnf
  refine cE (c_Tail k hk) ?_;conv=>whnf
  refine Br.mk (fun h=>?_) (fun h=>?_)
  ·have hle:n<=tz k:=by
    have:(n:Int)<=tz k:=by simpa using h
    omega
   conv=>whnf
   refine callS (c_of true (k/2^n)) rfl rfl ?_;conv=>whnf
   exact⟨fin rfl (congrArg int (right_neg_even hk0 hle).symm),fin rfl rfl,trivial⟩
  ·have hlt:tz k<n:=by
    have:¬ (n:Int)<=tz k:=by simpa using h
    omega
   have hq:k/2^n+1<Big:=by
    have h1:k/2^n<=k/2:=Nat.div_le_div_left (by
     have:2^1<=2^n:=Nat.pow_le_pow_right (by decide) (by omega);omega) (by decide)
    by_cases hk1:k=1
    ·subst hk1;have:1/2^n<=1/2:=h1;have h3:1<Big:=one_lt_Big;omega
    ·omega
   conv=>whnf
   refine callS (c_Of 1 (by decide)) rfl rfl ?_;conv=>whnf
   refine callS (c_Add (k/2^n) 1 (by omega) one_lt_Big) rfl (closed_resN _) ?_;rw[fitN_ok hq];conv=>whnf
   refine callS (c_of true (k/2^n+1)) rfl rfl ?_;conv=>whnf
   exact⟨fin rfl (congrArg int (right_neg_odd hk0 hlt).symm),fin rfl rfl,trivial⟩
theorem c_wRight (a:FZ) (n:Nat) (hn:n<9223372036854775808):ACalls prog 224 [int a.z,i64 n] (resZ (.ok (zRight a n))):=by
 have h:=c_wRight' (decide (a.z<0)) a.z.natAbs n a.h (fun h=>by simp at h; omega) hn;rw[sgn_of] at h;exact h
def resT {α:Type} (enc:α->AV) (d:α) (r:Except Nat α):AV:=.tup [enc (okOr d r),i64 (errN r)]
def tZ (r:Except Nat FZ):AV:=resT (fun a:FZ=>int a.z) z0 r
theorem resZ_T (r:Except Nat FZ):resZ r=tZ r:=by cases r <;> rfl
theorem t_wMul (a b:FZ):ACalls prog 91 [int a.z,int b.z] (tZ (zMul a b)):=resZ_T _▸c_wMul a b
theorem t_wAdd (a b:FZ):ACalls prog 109 [int a.z,int b.z] (tZ (zAdd a b)):=resZ_T _▸c_wAdd a b
theorem t_wLeft (a:FZ) (n:Nat) (hn:n<9223372036854775808):ACalls prog 171 [int a.z,i64 n] (tZ (zLeft a n)):=resZ_T _▸c_wLeft a n hn
theorem varT {α:Type} {f:FuncId} {args:List AV} {enc:α->AV} {d:α} {r:Except Nat α} (h:ACalls prog f args (resT enc d r)):∃ x e,ACalls prog f args (.tup [enc x,i64 ((e:Nat):Int)])/\okOr d r=x/\errN r=e:=⟨_,_,h,rfl,rfl⟩
theorem errN_ok {α:Type} {r:Except Nat α} (h:errN r=0) (d:α):r=.ok (okOr d r):=by
 cases r with
 |ok x=>rfl
 |error e=>cases h
end
section
open Go Go.RowKit Go.Proofs.Tryz
attribute [local irreducible] zMul zAdd zLeft zRight fitZ
theorem c_Gcd (a b:Nat) (ha:a<Big) (hb:b<Big):ACalls prog 89 [nat a,nat b] (nat (Nat.gcd a b)):=by
 refine conN func89 rfl (by kernel_rfl) ?_;conv=>whnf
 refine⟨Nat×Nat,fun q=>q.1<Big/\q.2<Big/\Nat.gcd q.1 q.2=Nat.gcd a b,fun q=>{ fr:=[(0,nat q.1),(1,nat q.2)],g:=9 },fun q=>q.2,(a,b),⟨ha,hb,rfl⟩,
  ⟨trivial,⟨x_R,x_R,trivial⟩,trivial⟩,?_⟩
 rintro⟨x,y⟩ ⟨h1,h2,h3⟩;dsimp only at h1 h2 h3 ⊢;conv=>whnf
 refine Br.mk (fun h=>?_) (fun h=>?_)
 ·have hy:0<y:=by
   have:=(len_pos y).symm.trans h;simpa using this
  conv=>whnf
  refine callS (c_Div x y h1 h2 (by omega)) rfl rfl ?_;conv=>whnf
  have hlt:x%y<y:=Nat.mod_lt _ hy;refine⟨(y,x%y),⟨h2,Nat.lt_trans hlt h2,?_⟩,⟨trivial,⟨x_R,x_R,trivial⟩,trivial⟩,hlt⟩;show Nat.gcd y (x%y)=_;rw[<- h3,Nat.gcd_comm x y,Nat.gcd_comm y (x%y)];exact (Nat.gcd_rec y x).symm
 ·have hy:y=0:=by
   have:=(len_pos y).symm.trans h;simp at this;omega
  subst hy;rw[Nat.gcd_zero_right] at h3;conv=>whnf
  refine cE (c_Clone x h1) ?_;conv=>whnf
  exact fin rfl (congrArg nat h3)
def firstE:List Int->Int
 |[]=>0
 |e::l=>if e=0 then firstE l else e
theorem firstE_drop {l:List Int} {n:Nat} (h:∀ x∈l.take n,x=0):firstE (l.drop n)=firstE l:=by
 induction n generalizing l with
 |zero=>rfl
 |succ n ih =>
  cases l with
  |nil=>rfl
  |cons x l =>
   have hx:x=0:=h x (by simp);simp only[List.drop_succ_cons,firstE,hx,if_pos];exact ih fun y hy=>h y (by simp[hy])
theorem c_first (l:List Int) (hl:l.length<1000):ACalls prog 93 [.sl (l.map i64)] (i64 (firstE l)):=by
 refine conN func93 rfl (by kernel_rfl) ?_;conv=>whnf
 refine⟨Nat,fun n=>n<=l.length/\∀ x∈l.take n,x=0,fun n=>{ fr:=[(5,.sl (l.map i64)),(6,i64 l.length),(7,i64 n)],g:=9 },fun n=>l.length-n,0,⟨Nat.zero_le _,by simp⟩,
  ⟨trivial,⟨x_R,x_E (by simp),x_R,trivial⟩,trivial⟩,?_⟩
 rintro n ⟨h1,h2⟩;conv=>whnf
 refine Br.mk (fun h=>?_) (fun h=>?_)
 ·have hn:n<l.length:=by simpa using h
  conv=>whnf
  refine⟨i64 l[n],⟨by omega,by simp[hn],rfl,rfl⟩,?_⟩;conv=>whnf
  refine Br.mk (fun h=>?_) (fun h=>?_)
  ·have h0:l[n]≠0:=by simpa using h
   conv=>whnf
   refine fin rfl (congrArg i64 ?_);rw[<- firstE_drop h2,List.drop_eq_getElem_cons hn,firstE,if_neg h0]
  ·have h0:l[n]=0:=by simpa using h
   conv=>whnf
   refine⟨n+1,⟨by omega,fun x hx=>?_⟩,⟨trivial,⟨x_R,x_R,x_E ?_,trivial⟩,trivial⟩,by show l.length-(n+1)<l.length-n; omega⟩
   ·rw[List.take_succ_eq_append_getElem hn,List.mem_append] at hx;rcases hx with hx | hx
    ·exact h2 x hx
    ·simp at hx;rw[hx];exact h0
   ·exact (wI (n:=(n:Int)+1) (by omega) (by omega)).trans (by simp)
 ·have hn:n=l.length:=by
   have:¬ n<l.length:=by simpa using h
   omega
  conv=>whnf
  refine fin rfl (congrArg i64 ?_);rw[<- firstE_drop h2,hn,List.drop_eq_nil_of_le (Nat.le_refl _)];rfl
theorem le_rat {q:Rat} (h:q.num.natAbs=0) (n:Nat) (e:n=q.den):Le (.agg [boo false,nilA,nat n]) (rat q):=by
 unfold rat;have h1:decide (q.num<0)=false:=decide_eq_false (by omega);rw[h1,h];exact .ag ⟨.refl _,le_nil,.of_eq (by rw[e]),trivial⟩
theorem c_qZero:ACalls prog 37 [] (rat 0):=by
 refine conN func37 rfl (by kernel_rfl) ?_;conv=>whnf
 refine callS (c_Of 1 (by decide)) rfl rfl ?_;conv=>whnf
 exact .sh _ _ rfl (le_rat rfl 1 rfl)
theorem c_qDen (a:FQ):ACalls prog 92 [rat a.q] (int (qDen a).z):=by
 refine conN func92 rfl (by kernel_rfl) ?_;conv=>whnf
 refine cE (c_wNat a.q.den a.hd) ?_;conv=>whnf
 exact fin rfl rfl
theorem rat_make (n d:FZ) (h:d.z≠0):rat (qMk n d).q=.agg [boo ((decide (n.z<0) !=decide (d.z<0))&&decide (0<n.z.natAbs/Nat.gcd n.z.natAbs d.z.natAbs)),nat (n.z.natAbs/Nat.gcd n.z.natAbs d.z.natAbs),nat (d.z.natAbs/Nat.gcd n.z.natAbs d.z.natAbs)]:=by
 unfold rat;rw[qMk_q,divInt_natAbs _ _ h,divInt_den _ _ h];congr 2;congr 1;have hneg:=divInt_neg n.z d.z h;have hg:0<Nat.gcd n.z.natAbs d.z.natAbs:=Nat.gcd_pos_of_pos_right _ (by omega);have hpos:0<n.z.natAbs/Nat.gcd n.z.natAbs d.z.natAbs↔n.z≠0:=by
  constructor
  ·rintro h1 h2;rw[h2] at h1;simp at h1
  ·intro h1;exact Nat.div_pos (Nat.le_of_dvd (by omega) (Nat.gcd_dvd_left _ _)) hg
 rw[Bool.eq_iff_iff];simp only[Bool.and_eq_true,decide_eq_true_eq];rw[hneg,hpos]
def tQ (r:Except Nat FQ):AV:=resT (fun a:FQ=>rat a.q) q0 r
theorem sgnZ_zero {z:Int}:(sgnZ z==0)=decide (z=0):=by
 unfold sgnZ;by_cases h:z=0
 ·simp[h]
 ·by_cases h2:z<0 <;> simp[h,h2]
theorem c_qMake0 (n d:FZ) (h0:d.z=0):ACalls prog 95 [int n.z,int d.z] (tQ (qMake n d)):=by
 refine conN func95 rfl (by kernel_rfl) ?_;have e:qMake n d=.error eZero:=by simp[qMake,h0]
 rw[e];conv=>whnf
 refine cE (c_wSign d.z) ?_;conv=>whnf
 refine Br.mk (fun h=>?_) (fun h=>?_)
 ·conv=>whnf
  refine cE c_qZero ?_;conv=>whnf
  exact⟨fin rfl rfl,fin rfl rfl,trivial⟩
 ·exact absurd (sgnZ_zero.trans (decide_eq_true h0)) (by rw[h]; decide)
theorem c_qMake2 (m1 m2:Bool) (k1 k2 g q1 r1 q2 r2:Nat) (c:Int) (hc0:c≠0) (hc:ACalls prog 97 [.agg [boo m2,nat k2]] (i64 c)) (hg:ACalls prog 89 [nat k1,nat k2] (nat g))
  (h1:ACalls prog 182 [nat k1,nat g] (.tup [nat q1,nat r1,i64 0])) (h2:ACalls prog 182 [nat k2,nat g] (.tup [nat q2,nat r2,i64 0])) :
  ACalls prog 95 [.agg [boo m1,nat k1],.agg [boo m2,nat k2]] (.tup [.agg [boo ((m1 !=m2)&&decide (0<q1)),nat q1,nat q2],i64 0]):=by
 refine conN func95 rfl (by kernel_rfl) ?_;cases m1 <;> cases m2
 all_goals
  conv=>whnf
  refine cE hc ?_;conv=>whnf
  refine Br.mk (fun h=>?_) (fun h=>?_)
  ·exact absurd (show c=0 by simpa using h) hc0
  conv=>whnf
  refine cE hg ?_;conv=>whnf
  refine cE h1 ?_;conv=>whnf
  refine cE h2 ?_;conv=>whnf
  refine⟨trivial,?_⟩;conv=>whnf
 ·exact⟨fin rfl rfl,fin rfl rfl,trivial⟩
 ·exact⟨fin rfl (congrArg (fun b=>AV.agg [boo b,nat q1,nat q2]) (len_pos q1)),fin rfl rfl,trivial⟩
 ·exact⟨fin rfl (congrArg (fun b=>AV.agg [boo b,nat q1,nat q2]) (len_pos q1)),fin rfl rfl,trivial⟩
 ·exact⟨fin rfl rfl,fin rfl rfl,trivial⟩
theorem c_qMake1 (m1 m2:Bool) (k1 k2:Nat) (h1:k1<Big) (h2:k2<Big) (h0:k2≠0) (hm:∀ z:Int,z.natAbs=k2->decide (z<0)=m2->ACalls prog 97 [.agg [boo m2,nat k2]] (i64 (sgnZ z))) :
  ACalls prog 95 [.agg [boo m1,nat k1],.agg [boo m2,nat k2]] (.tup [.agg [boo ((m1 !=m2)&&decide (0<k1/Nat.gcd k1 k2)),nat (k1/Nat.gcd k1 k2),nat (k2/Nat.gcd k1 k2)],i64 0]):=by
 have hg:Nat.gcd k1 k2≠0:=by
  have:=Nat.gcd_pos_of_pos_right k1 (show 0<k2 by omega);omega
 have hgB:Nat.gcd k1 k2<Big:=Nat.lt_of_le_of_lt (Nat.le_of_dvd (by omega) (Nat.gcd_dvd_right _ _)) h2;have hs:∃ c:Int,c≠0/\ACalls prog 97 [.agg [boo m2,nat k2]] (i64 c):=by
  cases m2
  ·refine⟨sgnZ (k2:Int),?_,hm (k2:Int) (by omega) (decide_eq_false (by omega))⟩;intro h;have:=sgnZ_zero (z:=(k2:Int));rw[h] at this;have:=this.symm;simp at this;omega
  ·refine⟨sgnZ (-(k2:Int)),?_,hm (-(k2:Int)) (by omega) (decide_eq_true (by omega))⟩;intro h;have:=sgnZ_zero (z:=-(k2:Int));rw[h] at this;have:=this.symm;simp at this;omega
 obtain⟨c,hc0,hc⟩:=hs;exact c_qMake2 m1 m2 k1 k2 _ _ _ _ _ c hc0 hc (c_Gcd k1 k2 h1 h2) (c_Div k1 (Nat.gcd k1 k2) h1 hgB hg) (c_Div k2 (Nat.gcd k1 k2) h2 hgB hg)
theorem c_qMake (n d:FZ):ACalls prog 95 [int n.z,int d.z] (tQ (qMake n d)):=by
 by_cases h0:d.z=0
 ·exact c_qMake0 n d h0
 ·rw[qMake_ok h0];have h:=c_qMake1 (decide (n.z<0)) (decide (d.z<0)) n.z.natAbs d.z.natAbs n.h d.h (by omega) (fun z e1 e2=>by
   have:z=d.z:=by
    have:(z<0)↔(d.z<0):=by simpa using e2
    omega
   rw[this];exact c_wSign d.z)
  have hr:=rat_make n d h0;show ACalls prog 95 _ (.tup [rat (qMk n d).q,i64 0]);rw[hr];exact h
def zI (n:Int):FZ:=if h:n.natAbs<Big then ⟨n,h⟩ else z0
theorem zI_z {n:Int} (h:n.natAbs<18446744073709551616):(zI n).z=n:=by
 have h2:n.natAbs<Big:=lt_big (k:=64) h (by decide);simp[zI,h2]
def qOf (n d:Int):FQ:=okOr q0 (qMake (zI n) (zI d))
theorem c_qOf (n d:Int) (h1:-9223372036854775808<=n) (h2:n<9223372036854775808) (h3:-9223372036854775808<=d) (h4:d<9223372036854775808):ACalls prog 20 [i64 n,i64 d] (rat (qOf n d).q):=by
 refine conN func20 rfl (by kernel_rfl) ?_;conv=>whnf
 refine cE (c_wOf n h1 h2) ?_;conv=>whnf
 refine cE (c_wOf d h3 h4) ?_;conv=>whnf
 have h:=c_qMake (zI n) (zI d);rw[zI_z (by omega),zI_z (by omega)] at h;refine cE h ?_;conv=>whnf
 exact fin rfl rfl
theorem c_qWhole (z:FZ):ACalls prog 172 [int z.z] (rat (qWhole z).q):=by
 have hr:rat (qWhole z).q=.agg [boo (decide (z.z<0)),nat z.z.natAbs,nat 1]:=by
  rw[qWhole_q];rfl
 rw[hr];refine conN func172 rfl (by kernel_rfl) ?_;conv=>whnf
 refine xK ?_;conv=>whnf
 refine cE (c_Clone z.z.natAbs z.h) ?_;conv=>whnf
 refine callD (c_Of 1 (by decide)) rfl rfl ?_;conv=>whnf
 exact fin rfl rfl
theorem rat_neg (q:Rat):rat (-q)=.agg [boo (decide (-q.num<0)),nat q.num.natAbs,nat q.den]:=by
 unfold rat;rw[Rat.neg_num,Rat.neg_den,Int.natAbs_neg]
theorem c_qNeg (a:FQ):ACalls prog 138 [rat a.q] (rat (qNeg a).q):=by
 refine conN func138 rfl (by kernel_rfl) ?_;conv=>whnf
 refine xK ?_;conv=>whnf
 refine callD (c_wNeg (qNum a)) rfl rfl ?_;conv=>whnf
 refine cE (c_Clone a.q.den a.hd) ?_;conv=>whnf
 exact fin rfl rfl
theorem qAbs_q (a:FQ):rat (qAbs a).q=.agg [boo (decide ((a.q.num.natAbs:Int)<0)),nat a.q.num.natAbs,nat a.q.den]:=by
 have h0:decide ((a.q.num.natAbs:Int)<0)=false:=decide_eq_false (by omega);rw[h0];unfold qAbs;split
 ·rename_i h;rw[qNeg_q,rat_neg,decide_eq_false (by omega)]
 ·rename_i h;unfold rat;rw[decide_eq_false h]
theorem c_qAbs (a:FQ):ACalls prog 35 [rat a.q] (rat (qAbs a).q):=by
 rw[qAbs_q];refine conN func35 rfl (by kernel_rfl) ?_;conv=>whnf
 refine xK ?_;conv=>whnf
 refine callD (c_wAbs (qNum a)) rfl rfl ?_;conv=>whnf
 refine cE (c_Clone a.q.den a.hd) ?_;conv=>whnf
 exact fin rfl rfl
theorem c_qSign (a:FQ):ACalls prog 21 [rat a.q] (i64 (qSgn a)):=by
 refine conN func21 rfl (by kernel_rfl) ?_;conv=>whnf
 refine cE (c_wSign a.q.num) ?_;conv=>whnf
 exact fin rfl rfl
attribute [local irreducible] qMake
theorem first2 (x y:Nat):firstE [(x:Int),(y:Int)]=((if x=0 then y else x:Nat):Int):=by
 unfold firstE firstE firstE;by_cases h:x=0
 ·subst h;by_cases h2:y=0
  ·subst h2; rfl
  ·simp[h2]
 ·simp[h]
theorem first3 (x y z:Nat):firstE [(x:Int),(y:Int),(z:Int)]=((if x=0 then (if y=0 then z else y) else x:Nat):Int):=by
 show (if (x:Int)=0 then firstE [(y:Int),(z:Int)] else (x:Int))=_;rw[first2];by_cases h:x=0
 ·simp[h]
 ·simp[h]
theorem qMul_err {a b:FQ} (h:(if errN (zMul (qNum a) (qNum b))=0 then errN (zMul (qDen a) (qDen b)) else errN (zMul (qNum a) (qNum b)))≠0) :
  okOr q0 (qMul a b)=q0/\errN (qMul a b)=(if errN (zMul (qNum a) (qNum b))=0 then errN (zMul (qDen a) (qDen b)) else errN (zMul (qNum a) (qNum b))):=by
 unfold qMul bnd;cases e1:zMul (qNum a) (qNum b) <;> cases e2:zMul (qDen a) (qDen b) <;> rw[e1,e2] at h <;> simp_all [errN,okOr]
theorem qMul_step {a b:FQ} (h:(if errN (zMul (qNum a) (qNum b))=0 then errN (zMul (qDen a) (qDen b)) else errN (zMul (qNum a) (qNum b)))=0) :
  qMul a b=qMake (okOr z0 (zMul (qNum a) (qNum b))) (okOr z0 (zMul (qDen a) (qDen b))):=by
 unfold qMul bnd;cases e1:zMul (qNum a) (qNum b) <;> cases e2:zMul (qDen a) (qDen b) <;> rw[e1,e2] at h <;> simp_all [errN,okOr]
theorem c_qMul (a b:FQ):ACalls prog 27 [rat a.q,rat b.q] (tQ (qMul a b)):=by
 obtain⟨x1,e1,C1,hx1,he1⟩:=varT (t_wMul (qNum a) (qNum b));obtain⟨x2,e2,C2,hx2,he2⟩:=varT (t_wMul (qDen a) (qDen b));obtain⟨x3,e3,C3,hx3,he3⟩:=varT (c_qMake x1 x2);obtain⟨x,e,hx,he⟩:∃ x e,okOr q0 (qMul a b)=x/\errN (qMul a b)=e:=⟨_,_,rfl,rfl⟩
 obtain⟨f,hf,C4⟩:∃ f:Nat,(if e1=0 then e2 else e1)=f/\ACalls prog 93 [.sl [i64 (e1:Int),i64 (e2:Int)]] (i64 (f:Int)):=⟨_,rfl,by
  have:=c_first [(e1:Int),(e2:Int)] (Nat.le_of_ble_eq_true rfl);rwa [first2] at this⟩
 have hbad:f≠0->x=q0/\e=f:=fun h=>by
  have:=qMul_err (a:=a) (b:=b) (by rw[he1,he2,hf]; exact h);rwa [hx,he,he1,he2,hf] at this
 have hgood:f=0->x=x3/\e=e3:=fun h=>by
  have:=qMul_step (a:=a) (b:=b) (by rw[he1,he2,hf]; exact h);rw[hx1,hx2] at this;rw[<- hx,<- he,this];exact⟨hx3,he3⟩
 show ACalls prog _ _ (.tup [rat (okOr q0 (qMul a b)).q,i64 (errN (qMul a b))]);rw[hx,he];clear hx1 he1 hx2 he2 hx3 he3 hx he hf;refine conN func27 rfl (by kernel_rfl) ?_;conv=>whnf
 refine cE C1 ?_;conv=>whnf
 refine xK ?_;conv=>whnf
 refine cE (c_qDen a) ?_;conv=>whnf
 refine cE (c_qDen b) ?_;conv=>whnf
 refine cE C2 ?_;conv=>whnf
 refine callL [(3,2)] [.sl [i64 (e1:Int),i64 (e2:Int)]] ⟨⟨_,rfl⟩,trivial⟩ ⟨.own2 (.head _) rfl rfl rfl rfl,trivial⟩ C4 rfl ?_;conv=>whnf
 refine Br.mk (fun h=>?_) (fun h=>?_)
 ·have hq:=hbad (by simpa using h);conv=>whnf
  refine cE c_qZero ?_;conv=>whnf
  exact⟨fin rfl (congrArg (fun x:FQ=>rat x.q) hq.1.symm),fin rfl (congrArg (fun x:Nat=>i64 x) hq.2.symm),trivial⟩
 ·have hq:=hgood (by simpa using h);conv=>whnf
  refine cE C3 ?_;conv=>whnf
  exact⟨fin rfl (congrArg (fun x:FQ=>rat x.q) hq.1.symm),fin rfl (congrArg (fun x:Nat=>i64 x) hq.2.symm),trivial⟩
end
section
open Go Go.RowKit Go.Proofs.Tryz
def fst2 (x y:Nat):Nat:=if x=0 then y else x
def fst3 (x y z:Nat):Nat:=if x=0 then (if y=0 then z else y) else x
theorem c_first2 (x y:Nat):ACalls prog 93 [.sl [i64 (x:Int),i64 (y:Int)]] (i64 (fst2 x y:Nat)):=by
 have:=c_first [(x:Int),(y:Int)] (Nat.le_of_ble_eq_true rfl);rwa [first2] at this
theorem c_first3 (x y z:Nat):ACalls prog 93 [.sl [i64 (x:Int),i64 (y:Int),i64 (z:Int)]] (i64 (fst3 x y z:Nat)):=by
 have:=c_first [(x:Int),(y:Int),(z:Int)] (Nat.le_of_ble_eq_true rfl);rwa [first3] at this
theorem fst2_zero {x y:Nat}:fst2 x y=0↔x=0/\y=0:=by unfold fst2; split <;> omega
theorem fst3_zero {x y z:Nat}:fst3 x y z=0↔x=0/\y=0/\z=0:=by unfold fst3; split <;> (try split) <;> omega
theorem lit0 {n:Nat} (h:((n:Int) !=0)=true):n≠0:=by intro e; subst e; exact absurd h (by decide)
theorem lit1 {n:Nat} (h:((n:Int) !=0)=false):n=0:=by simpa using h
theorem bnd_cases {α β:Type} (r:Except Nat α) (f:α->Except Nat β) (d0:α) (d:β):(errN r≠0/\okOr d (bnd r f)=d/\errN (bnd r f)=errN r)\/(errN r=0/\bnd r f=f (okOr d0 r)):=by
 cases r with
 |ok x=>exact .inr ⟨rfl,rfl⟩
 |error e=>exact .inl ⟨Nat.succ_ne_zero e,rfl,rfl⟩
theorem c_qAdd (a b:FQ):ACalls prog 29 [rat a.q,rat b.q] (tQ (qAdd a b)):=by
 obtain⟨x1,e1,C1,hx1,he1⟩:=varT (t_wMul (qNum a) (qDen b));obtain⟨x2,e2,C2,hx2,he2⟩:=varT (t_wMul (qNum b) (qDen a));obtain⟨x3,e3,C3,hx3,he3⟩:=varT (t_wMul (qDen a) (qDen b));obtain⟨x4,e4,C4,hx4,he4⟩:=varT (t_wAdd x1 x2);obtain⟨x5,e5,C5,hx5,he5⟩:=varT (c_qMake x4 x3);have C6:=c_first3 e1 e2 e3;obtain⟨f,hf⟩:∃ f,fst3 e1 e2 e3=f:=⟨_,rfl⟩
 rw[hf] at C6;obtain⟨x,e,hx,he⟩:∃ x e,okOr q0 (qAdd a b)=x/\errN (qAdd a b)=e:=⟨_,_,rfl,rfl⟩
 have key:(f≠0->x=q0/\e=f)/\(f=0->(e4≠0->x=q0/\e=e4)/\(e4=0->x=x5/\e=e5)):=by
  have s1:qAdd a b=bnd (zMul (qNum a) (qDen b)) fun x=>bnd (zMul (qNum b) (qDen a)) fun y=>bnd (zMul (qDen a) (qDen b)) fun d=>bnd (zAdd x y) fun n=>qMake n d:=rfl
  rw[s1] at hx he;rcases bnd_cases (zMul (qNum a) (qDen b)) (fun x=>bnd (zMul (qNum b) (qDen a)) fun y=>bnd (zMul (qDen a) (qDen b)) fun d=>bnd (zAdd x y) fun n=>qMake n d) z0 q0 with ⟨g1,g2,g3⟩ | ⟨g1,g2⟩
  ·rw[g2] at hx; rw[g3] at he; rw[he1] at g1 he
   have:f=e1:=by rw[<- hf]; unfold fst3; rw[if_neg g1]
   subst this;exact⟨fun _=>⟨hx.symm,he.symm⟩,fun h=>absurd h g1⟩
  rw[g2,hx1] at hx he;rw[he1] at g1;rcases bnd_cases (zMul (qNum b) (qDen a)) (fun y=>bnd (zMul (qDen a) (qDen b)) fun d=>bnd (zAdd x1 y) fun n=>qMake n d) z0 q0 with ⟨k1,k2,k3⟩ | ⟨k1,k2⟩
  ·rw[k2] at hx; rw[k3] at he; rw[he2] at k1 he
   have:f=e2:=by rw[<- hf]; unfold fst3; rw[if_pos g1,if_neg k1]
   subst this;exact⟨fun _=>⟨hx.symm,he.symm⟩,fun h=>absurd h k1⟩
  rw[k2,hx2] at hx he;rw[he2] at k1;rcases bnd_cases (zMul (qDen a) (qDen b)) (fun d=>bnd (zAdd x1 x2) fun n=>qMake n d) z0 q0 with ⟨m1,m2,m3⟩ | ⟨m1,m2⟩
  ·rw[m2] at hx; rw[m3] at he; rw[he3] at m1 he
   have:f=e3:=by rw[<- hf]; unfold fst3; rw[if_pos g1,if_pos k1]
   subst this;exact⟨fun _=>⟨hx.symm,he.symm⟩,fun h=>absurd h m1⟩
  rw[m2,hx3] at hx he;rw[he3] at m1;have f0:f=0:=by rw[<- hf]; exact fst3_zero.2 ⟨g1,k1,m1⟩
  refine⟨fun h=>absurd f0 h,fun _=>?_⟩;rcases bnd_cases (zAdd x1 x2) (fun n=>qMake n x3) z0 q0 with ⟨n1,n2,n3⟩ | ⟨n1,n2⟩
  ·rw[n2] at hx; rw[n3] at he; rw[he4] at n1 he
   exact⟨fun _=>⟨hx.symm,he.symm⟩,fun h=>absurd h n1⟩
  rw[n2,hx4] at hx he;rw[he4] at n1;exact⟨fun h=>absurd n1 h,fun _=>⟨hx▸hx5,he▸he5⟩⟩
 show ACalls prog _ _ (.tup [rat (okOr q0 (qAdd a b)).q,i64 (errN (qAdd a b))]);rw[hx,he];clear hx1 he1 hx2 he2 hx3 he3 hx4 he4 hx5 he5 hx he hf;refine conN func29 rfl (by kernel_rfl) ?_;conv=>whnf
 refine xK ?_;conv=>whnf
 refine cE (c_qDen b) ?_;conv=>whnf
 refine cE C1 ?_;conv=>whnf
 refine xK ?_;conv=>whnf
 refine cE (c_qDen a) ?_;conv=>whnf
 refine cE C2 ?_;conv=>whnf
 refine xK ?_;conv=>whnf
 refine cE (c_qDen a) ?_;conv=>whnf
 refine cE (c_qDen b) ?_;conv=>whnf
 refine cE C3 ?_;conv=>whnf
 refine callL [(4,3)] [.sl [i64 (e1:Int),i64 (e2:Int),i64 (e3:Int)]] ⟨⟨_,rfl⟩,trivial⟩ ⟨.own2 (.head _) rfl rfl rfl rfl,trivial⟩ C6 rfl ?_;conv=>whnf
 refine Br.mk (fun h=>?_) (fun h=>?_)
 ·have hq:=key.1 (lit0 h);conv=>whnf
  refine cE c_qZero ?_;conv=>whnf
  exact⟨fin rfl (congrArg (fun x:FQ=>rat x.q) hq.1.symm),fin rfl (congrArg (fun x:Nat=>i64 x) hq.2.symm),trivial⟩
 ·have hq:=key.2 (lit1 h);conv=>whnf
  refine cE C4 ?_;conv=>whnf
  refine Br.mk (fun h=>?_) (fun h=>?_)
  ·have hq:=hq.1 (lit0 h);conv=>whnf
   refine cE c_qZero ?_;conv=>whnf
   exact⟨fin rfl (congrArg (fun x:FQ=>rat x.q) hq.1.symm),fin rfl (congrArg (fun x:Nat=>i64 x) hq.2.symm),trivial⟩
  ·have hq:=hq.2 (lit1 h);conv=>whnf
   refine cE C5 ?_;conv=>whnf
   exact⟨fin rfl (congrArg (fun x:FQ=>rat x.q) hq.1.symm),fin rfl (congrArg (fun x:Nat=>i64 x) hq.2.symm),trivial⟩
def tI (r:Except Nat Int):AV:=resT i64 0 r
theorem c_qCompare (a b:FQ):ACalls prog 19 [rat a.q,rat b.q] (tI (qCmp a b)):=by
 obtain⟨x1,e1,C1,hx1,he1⟩:=varT (t_wMul (qNum a) (qDen b));obtain⟨x2,e2,C2,hx2,he2⟩:=varT (t_wMul (qNum b) (qDen a));have C6:=c_first2 e1 e2;obtain⟨f,hf⟩:∃ f,fst2 e1 e2=f:=⟨_,rfl⟩
 rw[hf] at C6;obtain⟨x,e,hx,he⟩:∃ x e,okOr 0 (qCmp a b)=x/\errN (qCmp a b)=e:=⟨_,_,rfl,rfl⟩
 have key:(f≠0->x=0/\e=f)/\(f=0->x=cmpZ x1.z x2.z/\e=0):=by
  have s1:qCmp a b=bnd (zMul (qNum a) (qDen b)) fun x=>bnd (zMul (qNum b) (qDen a)) fun y=>.ok (cmpZ x.z y.z):=rfl
  rw[s1] at hx he;rcases bnd_cases (zMul (qNum a) (qDen b)) (fun x=>bnd (zMul (qNum b) (qDen a)) fun y=>(.ok (cmpZ x.z y.z):Except Nat Int)) z0 0 with ⟨g1,g2,g3⟩ | ⟨g1,g2⟩
  ·rw[g2] at hx; rw[g3] at he; rw[he1] at g1 he
   have:f=e1:=by rw[<- hf]; unfold fst2; rw[if_neg g1]
   subst this;exact⟨fun _=>⟨hx.symm,he.symm⟩,fun h=>absurd h g1⟩
  rw[g2,hx1] at hx he;rw[he1] at g1;rcases bnd_cases (zMul (qNum b) (qDen a)) (fun y=>(.ok (cmpZ x1.z y.z):Except Nat Int)) z0 0 with ⟨k1,k2,k3⟩ | ⟨k1,k2⟩
  ·rw[k2] at hx; rw[k3] at he; rw[he2] at k1 he
   have:f=e2:=by rw[<- hf]; unfold fst2; rw[if_pos g1]
   subst this;exact⟨fun _=>⟨hx.symm,he.symm⟩,fun h=>absurd h k1⟩
  rw[k2,hx2] at hx he;rw[he2] at k1;have f0:f=0:=by rw[<- hf]; exact fst2_zero.2 ⟨g1,k1⟩
  exact⟨fun h=>absurd f0 h,fun _=>⟨hx.symm,he.symm⟩⟩
 show ACalls prog _ _ (.tup [i64 (okOr 0 (qCmp a b)),i64 (errN (qCmp a b))]);rw[hx,he];clear hx1 he1 hx2 he2 hx he hf;refine conN func19 rfl (by kernel_rfl) ?_;conv=>whnf
 refine xK ?_;conv=>whnf
 refine cE (c_qDen b) ?_;conv=>whnf
 refine cE C1 ?_;conv=>whnf
 refine xK ?_;conv=>whnf
 refine cE (c_qDen a) ?_;conv=>whnf
 refine cE C2 ?_;conv=>whnf
 refine callL [(3,2)] [.sl [i64 (e1:Int),i64 (e2:Int)]] ⟨⟨_,rfl⟩,trivial⟩ ⟨.own2 (.head _) rfl rfl rfl rfl,trivial⟩ C6 rfl ?_;conv=>whnf
 refine Br.mk (fun h=>?_) (fun h=>?_)
 ·have hq:=key.1 (lit0 h);conv=>whnf
  exact⟨fin rfl (congrArg (fun x:Int=>i64 x) hq.1.symm),fin rfl (congrArg (fun x:Nat=>i64 x) hq.2.symm),trivial⟩
 ·have hq:=key.2 (lit1 h);conv=>whnf
  refine cE (c_wCompare x1 x2) ?_;conv=>whnf
  exact⟨fin rfl (congrArg (fun x:Int=>i64 x) hq.1.symm),fin rfl (congrArg (fun x:Nat=>i64 x) hq.2.symm),trivial⟩
theorem foldE_take {σ α:Type} {f:σ->α->Except Nat σ} {l:List α}:∀ {n:Nat} {s s1:σ} (hn:n<l.length),foldE f s (l.take n)=.ok s1->foldE f s (l.take (n+1))=f s1 l[n]:=by
 induction l with
 |nil=>intro n s s1 hn; simp at hn
 |cons a l ih =>
  intro n s s1 hn h;cases n with
  |zero =>
   simp only[List.take_zero,foldE] at h;cases h;simp only[List.take_succ_cons,List.take_zero,foldE,List.getElem_cons_zero];cases f s a <;> rfl
  |succ n =>
   simp only[List.take_succ_cons,foldE] at h ⊢;cases hf:f s a with
   |error e=>rw[hf] at h; cases h
   |ok s2 =>
    rw[hf] at h;simp only at h ⊢;have:=ih (n:=n) (s:=s2) (s1:=s1) (by simpa using hn) h;simpa using this
theorem foldE_err {σ α:Type} {f:σ->α->Except Nat σ} {e:Nat}:∀ {l:List α} {n:Nat} {s:σ},foldE f s (l.take n)=.error e->foldE f s l=.error e
 |[],n,s,h=>by simp only[List.take_nil] at h; exact h
 |a::l,0,s,h=>by simp only[List.take_zero,foldE] at h; cases h
 |a::l,n+1,s,h=>by
  simp only[List.take_succ_cons,foldE] at h ⊢;cases hf:f s a with
  |error e'=>rw[hf] at h; exact h
  |ok s2=>rw[hf] at h; exact foldE_err h
theorem runE_take {α β:Type} {f:α->Except Nat β} {l:List α}:∀ {n:Nat} {r:List β} (hn:n<l.length),runE f (l.take n)=.ok r->runE f (l.take (n+1))=(match f l[n] with | .error e=>.error e | .ok b=>.ok (r++[b])):=by
 induction l with
 |nil=>intro n r hn; simp at hn
 |cons a l ih =>
  intro n r hn h;cases n with
  |zero =>
   simp only[List.take_zero,runE] at h;cases h;simp only[List.take_succ_cons,List.take_zero,runE,List.getElem_cons_zero];cases f a <;> rfl
  |succ n =>
   simp only[List.take_succ_cons,runE] at h ⊢;cases hf:f a with
   |error e=>rw[hf] at h; cases h
   |ok b =>
    rw[hf] at h;simp only at h ⊢;cases hr:runE f (l.take n) with
    |error e=>rw[hr] at h; cases h
    |ok r1 =>
     rw[hr] at h;cases h;have hn':n<l.length:=by simpa using hn
     have:=ih (n:=n) (r:=r1) hn' hr;rw[this];simp only[List.getElem_cons_succ];cases f (l[n]'hn') <;> rfl
theorem runE_err {α β:Type} {f:α->Except Nat β} {e:Nat}:∀ {l:List α} {n:Nat},runE f (l.take n)=.error e->runE f l=.error e
 |[],n,h=>by simp only[List.take_nil] at h; exact h
 |a::l,0,h=>by simp only[List.take_zero,runE] at h; cases h
 |a::l,n+1,h=>by
  simp only[List.take_succ_cons,runE] at h ⊢;cases hf:f a with
  |error e'=>rw[hf] at h; exact h
  |ok b =>
   rw[hf] at h;simp only at h ⊢;cases hr:runE f (l.take n) with
   |error e'=>rw[hr] at h; cases h; rw[runE_err hr]
   |ok r=>rw[hr] at h; cases h
theorem runE_length {α β:Type} {f:α->Except Nat β}:∀ {l:List α} {r:List β},runE f l=.ok r->r.length=l.length
 |[],r,h=>by cases h; rfl
 |a::l,r,h=>by
  simp only[runE] at h;cases hf:f a with
  |error e=>rw[hf] at h; cases h
  |ok b =>
   rw[hf] at h;simp only at h;cases hr:runE f l with
   |error e=>rw[hr] at h; cases h
   |ok r1=>rw[hr] at h; cases h; simp[runE_length hr]
theorem c_qSum (l:List FQ) (hl:l.length<1000000):ACalls prog 137 [.sl (l.map fun a=>rat a.q)] (tQ (qSum l)):=by
 refine conN func137 rfl (by kernel_rfl) ?_;conv=>whnf
 refine cE c_qZero ?_;conv=>whnf
 refine⟨Nat×FQ,fun q=>q.1<=l.length/\foldE qAdd q0 (l.take q.1)=.ok q.2,
  fun q=>{ fr:=[(9,.sl (l.map fun a=>rat a.q)),(10,i64 l.length),(11,i64 q.1),(4,.ptr (1,1) 0 0),(2,.ptr (0,0) 0 0)],st:=[((1,1),⟨28,3,[rat q.2.q]⟩),((0,0),⟨28,3,[AV.ofVal (ty 28).zero]⟩)],g:=9 },
  fun q=>l.length-q.1,(0,q0),⟨Nat.zero_le _,rfl⟩,
  ⟨trivial,⟨x_R,x_E (by simp),x_R,x_R,x_R,trivial⟩,
   x_S,x_S,trivial⟩,?_⟩
 rintro⟨n,s⟩ ⟨h1,h2⟩;dsimp only at h1 h2 ⊢;conv=>whnf
 refine Br.mk (fun h=>?_) (fun h=>?_)
 ·have hn:n<l.length:=by simpa using h
  have ht:=foldE_take hn h2;obtain⟨x1,e1,C1,hx1,he1⟩:=varT (c_qAdd s l[n]);conv=>whnf
  refine⟨rat l[n].q,⟨by omega,by simp[hn],rfl,rfl⟩,?_⟩;conv=>whnf
  refine cE C1 ?_;conv=>whnf
  refine Br.mk (fun h=>?_) (fun h=>?_)
  ·have he:=lit0 h;have:qSum l=.error (e1-1):=by
    refine foldE_err (n:=n+1) ?_;rw[ht];cases hq:qAdd s l[n] with
    |ok r=>rw[hq] at he1; exact absurd he1.symm he
    |error e=>rw[hq] at he1; rw[<- he1]; rfl
   rw[this];conv=>whnf
   refine cE c_qZero ?_;conv=>whnf
   exact⟨fin rfl rfl,fin rfl (congrArg (fun x:Nat=>i64 x) (by omega:e1=e1-1+1)),trivial⟩
  ·have he:=lit1 h;have hq:=errN_ok (he1.trans he) q0;rw[hx1] at hq;conv=>whnf
   refine⟨(n+1,x1),⟨by show n+1<=_; omega,ht.trans hq⟩,⟨trivial,⟨x_R,x_R,x_E ?_,x_R,x_R,trivial⟩,
    x_S,x_S,trivial⟩,by show l.length-(n+1)<l.length-n; omega⟩
   exact (wI (n:=(n:Int)+1) (by omega) (by omega)).trans (by simp)
 ·have hn:n=l.length:=by
   have:¬ n<l.length:=by simpa using h
   omega
  subst hn;rw[List.take_length] at h2;have:qSum l=.ok s:=h2;rw[this];conv=>whnf
  exact⟨fin rfl rfl,fin rfl rfl,trivial⟩
end
end Go.Proofs.YtjdkdcmpifapeaaGreatDoor.Abs
