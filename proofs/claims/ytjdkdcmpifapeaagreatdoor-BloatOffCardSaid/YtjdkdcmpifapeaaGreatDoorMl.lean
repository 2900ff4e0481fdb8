/- Dyads: made, signs, sizes, sums, products. -/
import Derived.Test.YtjdkdcmpifapeaaGreatDoorMk
set_option linter.unusedVariables false
set_option linter.unusedSectionVars false
set_option linter.unusedSimpArgs false
set_option maxHeartbeats 4000000
namespace Go.Proofs.YtjdkdcmpifapeaaGreatDoor.Abs
section
open Go Go.RowKit Go.Proofs.Tryz
attribute [local irreducible] zMul zAdd zLeft zRight fitZ qMake zDiv
def dy (m e:Int):AV:=.agg [boo (decide (m<0)),nat m.natAbs,i64 e]
def dyad (a:FD):AV:=dy a.man a.exp
def tD (r:Except Nat FD):AV:=resT dyad d0 r
theorem le_dy0:Le (.agg [boo false,nilA,i64 0]) (dyad d0):=.ag ⟨.refl _,le_nil,.refl _,trivial⟩
theorem le_int0:Le (.agg [boo false,nilA]) (int 0):=.ag ⟨.refl _,le_nil,trivial⟩
theorem tz_lt {n:Nat} (h:n<Big):tz n<16384:=by
 by_cases h0:n=0
 ·subst h0; decide
 ·obtain⟨m,hm⟩:=tz_spec h0;rw[Big_eq] at h;have h1:2^tz n<=n:=by
   conv=>rhs; rw[hm]
   exact Nat.le_mul_of_pos_right _ (by omega)
  have:=pow_lt_pow2 (Nat.lt_of_le_of_lt h1 h);exact this
set_option exponentiation.threshold 20000 in
theorem blen_lt_big {n:Nat} (h:n<Big):blen n<=16384:=by
 rw[Big_eq] at h;exact blen_le.2 h
theorem c_dMake (m:FZ) (e:Int) (h1:-4611686018427387904<=e) (h2:e<=4611686018427387904):ACalls prog 153 [int m.z,i64 e] (tD (dMake m e)):=by
 obtain⟨t,ht⟩:∃ t,tz m.z.natAbs=t:=⟨_,rfl⟩
 have htb:t<16384:=ht▸tz_lt m.h;have C1:=c_Tail m.z.natAbs m.h;rw[ht] at C1;obtain⟨r,hr⟩:∃ r,zRight m t=r:=⟨_,rfl⟩
 have C2:ACalls prog 224 [int m.z,i64 t] (.tup [int r.z,i64 0]):=hr▸c_wRight m t (by omega);have hrz:r.z=m.z/2^t:=by rw[<- hr]; unfold zRight; rfl
 have hr0:r.z=0↔m.z=0:=by
  constructor
  ·intro h;apply Classical.byContradiction;intro h0;have:=(tz_div h0).1;rw[ht,<- hrz,h] at this;cases this
  ·intro h;rw[hrz,h]; simp
 have hw:IntKind.wrap .i64 (e+(t:Int))=e+t:=wI (by omega) (by omega);refine conN func153 rfl (by kernel_rfl) ?_;conv=>whnf
 refine cE C1 ?_;conv=>whnf
 refine cE C2 ?_;conv=>whnf
 refine cE (c_wSign r.z) ?_;conv=>whnf
 refine Br.mk (fun h=>?_) (fun h=>?_)
 ·have h0:m.z=0:=hr0.1 (by have:=sgnZ_zero.symm.trans h; simpa using this);have e:dMake m e=.ok d0:=by simp[dMake,h0]
  rw[e];conv=>whnf
  exact⟨.sh _ _ rfl le_dy0,fin rfl rfl,trivial⟩
 ·have h0:m.z≠0:=fun q=>by
   have h3:=sgnZ_zero (z:=r.z);rw[h,decide_eq_true (hr0.2 q)] at h3;cases h3
  have bad:∀ (hb:¬ (-65536<=e/\e<=65536/\e+t<=65536)),dMake m e=.error eRange:=fun hb=>by
   unfold dMake;rw[dif_neg h0,dif_neg (by rw[ht]; exact hb)]
  conv=>whnf
  by_cases g1:e > 65536
  ·rw[bad (by omega)];rw[decide_eq_true g1];conv=>whnf
   exact⟨.sh _ _ rfl le_dy0,fin rfl rfl,trivial⟩
  rw[decide_eq_false g1];conv=>whnf
  by_cases g2:e < -65536
  ·rw[bad (by omega)];rw[decide_eq_true g2];conv=>whnf
   exact⟨.sh _ _ rfl le_dy0,fin rfl rfl,trivial⟩
  rw[decide_eq_false g2];conv=>whnf
  rw[hw];by_cases g3:e+t > 65536
  ·rw[bad (by omega)];rw[decide_eq_true g3];conv=>whnf
   exact⟨.sh _ _ rfl le_dy0,fin rfl rfl,trivial⟩
  rw[decide_eq_false g3];have hok:∃ d:FD,dMake m e=.ok d/\d.man=r.z/\d.exp=e+t:=by
   refine⟨⟨m.z/2^tz m.z.natAbs,e+tz m.z.natAbs,Nat.lt_of_le_of_lt (ediv_natAbs_le _ (two_pow_pos' _)) m.h,by rw[ht]; omega,.inl (tz_div h0).1⟩,?_,?_,?_⟩
   ·unfold dMake;rw[dif_neg h0,dif_pos (by rw[ht]; omega)]
   ·show m.z/2^tz m.z.natAbs=_;rw[ht,hrz]
   ·show e+((tz m.z.natAbs:Nat):Int)=_;rw[ht]
  obtain⟨d,e1,e2,e3⟩:=hok;rw[e1];conv=>whnf
  refine⟨fin rfl ?_,fin rfl rfl,trivial⟩;show AV.agg [boo (decide (r.z<0)),nat r.z.natAbs,i64 (IntKind.wrap .i64 (e+(t:Int)))]=dyad d;rw[hw];unfold dyad dy;rw[e2,e3]
theorem c_dSign (a:FD):ACalls prog 60 [dyad a] (i64 (dSgn a)):=by
 refine conN func60 rfl (by kernel_rfl) ?_;conv=>whnf
 refine cE (c_wSign a.man) ?_;conv=>whnf
 exact fin rfl rfl
theorem c_dNeg (a:FD):ACalls prog 237 [dyad a] (dyad (dNeg a)):=by
 refine conN func237 rfl (by kernel_rfl) ?_;conv=>whnf
 refine xK ?_;conv=>whnf
 refine callD (c_wNeg (dMan a)) rfl rfl ?_;conv=>whnf
 exact fin rfl rfl
theorem dAbs_av (a:FD):dyad (dAbs a)=dy (a.man.natAbs:Int) a.exp:=by
 unfold dAbs dyad;split
 ·show dy (-a.man) a.exp=_;congr 1;omega
 ·congr 1;omega
theorem c_dAbs (a:FD):ACalls prog 218 [dyad a] (dyad (dAbs a)):=by
 rw[dAbs_av];refine conN func218 rfl (by kernel_rfl) ?_;conv=>whnf
 refine xK ?_;conv=>whnf
 refine callD (c_wAbs (dMan a)) rfl rfl ?_;conv=>whnf
 exact fin rfl rfl
def dOf (n e:Int):FD:=okOr d0 (dMake (zI n) (let x:=if (-100:Int) > e then -100 else e; if (100:Int)<x then 100 else x))
theorem c_dOf (n e:Int) (h1:-9223372036854775808<=n) (h2:n<9223372036854775808):ACalls prog 84 [i64 n,i64 e] (dyad (dOf n e)):=by
 obtain⟨c,hc⟩:∃ c:Int,(let x:=if (-100:Int) > e then -100 else e; if (100:Int)<x then 100 else x)=c:=⟨_,rfl⟩
 have hcb:-100<=c/\c<=100:=by
  rw[<- hc];dsimp only;split <;> split <;> omega
 have C1:=c_dMake (zI n) c (by omega) (by omega);rw[zI_z (by omega)] at C1;obtain⟨x,er,C2,hx,he⟩:=varT C1;have hd:dOf n e=x:=by unfold dOf; rw[hc]; exact hx
 rw[hd];clear hd hx he C1;refine conN func84 rfl (by kernel_rfl) ?_;conv=>whnf
 refine cE (c_wOf n h1 h2) ?_;conv=>whnf
 refine callS (args:=[int n,.lit (.int .i64 (if (100:Int)<(if (-100:Int) > e then -100 else e) then 100 else (if (-100:Int) > e then -100 else e)))]) (by
  have:(if (100:Int)<(if (-100:Int) > e then -100 else e) then 100 else (if (-100:Int) > e then -100 else e))=c:=hc;rw[this]; exact C2) rfl rfl ?_
 conv=>whnf
 exact fin rfl rfl
theorem dSgn_zero {a:FD}:(dSgn a==0)=decide (a.man=0):=sgnZ_zero
theorem dSgn_t {a:FD} (h:(dSgn a==0)=true):a.man=0:=by have:=dSgn_zero.symm.trans h; simpa using this
theorem dSgn_f {a:FD} (h:(dSgn a==0)=false):a.man≠0:=by have:=dSgn_zero.symm.trans h; simpa using this
theorem c_dLevel (a b:FD):ACalls prog 152 [dyad a,dyad b] (.tup [int (dLevel a b).1.z,int (dLevel a b).2.1.z,i64 (dLevel a b).2.2.1,i64 ((dLevel a b).2.2.2:Nat)]):=by
 obtain⟨low,hlow⟩:∃ low,(if b.exp<a.exp then b.exp else a.exp)=low:=⟨_,rfl⟩
 have hl:low<=a.exp/\low<=b.exp:=by rw[<- hlow]; split <;> omega
 have ha:=a.he;have hb:=b.he;have hl2:-65536<=low:=by rw[<- hlow]; split <;> omega
 have wa:IntKind.wrap .i64 (a.exp-low)=((a.exp-low).toNat:Int):=by rw[wI (by omega) (by omega)]; omega
 have wb:IntKind.wrap .i64 (b.exp-low)=((b.exp-low).toNat:Int):=by rw[wI (by omega) (by omega)]; omega
 obtain⟨x1,e1,C1,hx1,he1⟩:=varT (t_wLeft (dMan a) (a.exp-low).toNat (by omega));obtain⟨x2,e2,C2,hx2,he2⟩:=varT (t_wLeft (dMan b) (b.exp-low).toNat (by omega));have k1:a.man=0->dLevel a b=(z0,dMan b,b.exp,0):=fun h=>by unfold dLevel; rw[if_pos h]
 have k2:a.man≠0->b.man=0->dLevel a b=(dMan a,z0,a.exp,0):=fun h g=>by unfold dLevel; rw[if_neg h,if_pos g]
 have k3:a.man≠0->b.man≠0->dLevel a b=(x1,x2,low,if e1=0 then e2 else e1):=fun h g=>by
  unfold dLevel;rw[if_neg h,if_neg g];simp only[hlow,hx1,hx2,he1,he2]
 refine conN func152 rfl (by kernel_rfl) ?_;conv=>whnf
 refine cE (c_dSign a) ?_;conv=>whnf
 refine Br.mk (fun h=>?_) (fun h=>?_)
 ·rw[k1 (dSgn_t h)];conv=>whnf
  refine xK ?_;conv=>whnf
  exact⟨.sh _ _ rfl le_int0,fin rfl rfl,fin rfl rfl,fin rfl rfl,trivial⟩
 conv=>whnf
 refine cE (c_dSign b) ?_;conv=>whnf
 have a0:=dSgn_f h;clear h;refine Br.mk (fun h=>?_) (fun h=>?_)
 ·rw[k2 a0 (dSgn_t h)];conv=>whnf
  refine xK ?_;conv=>whnf
  exact⟨fin rfl rfl,.sh _ _ rfl le_int0,fin rfl rfl,fin rfl rfl,trivial⟩
 have b0:=dSgn_f h;clear h;rw[k3 a0 b0];conv=>whnf
 refine callS (args:=[int a.man,.lit (.int .i64 (IntKind.wrap .i64 (a.exp-(if b.exp<a.exp then b.exp else a.exp))))]) (by rw[hlow,wa]; exact C1) rfl rfl ?_;conv=>whnf
 refine callS (args:=[int b.man,.lit (.int .i64 (IntKind.wrap .i64 (b.exp-(if b.exp<a.exp then b.exp else a.exp))))]) (by rw[hlow,wb]; exact C2) rfl rfl ?_;conv=>whnf
 refine Br.mk (fun h=>?_) (fun h=>?_)
 ·conv=>whnf
  refine xK ?_;conv=>whnf
  exact⟨fin rfl rfl,fin rfl rfl,fin rfl (congrArg i64 hlow),fin rfl (congrArg (fun n:Nat=>i64 n) (if_neg (lit0 h)).symm),trivial⟩
 ·conv=>whnf
  refine xK ?_;conv=>whnf
  exact⟨fin rfl rfl,fin rfl rfl,fin rfl (congrArg i64 hlow),fin rfl (congrArg (fun n:Nat=>i64 n) (if_pos (lit1 h)).symm),trivial⟩
end
section
open Go Go.RowKit Go.Proofs.Tryz
attribute [local irreducible] zMul zAdd zLeft zRight fitZ qMake zDiv dMake dLevel
theorem dLevel_exp (a b:FD):-65536<=(dLevel a b).2.2.1/\(dLevel a b).2.2.1<=65536:=by
 have ha:=a.he;have hb:=b.he;unfold dLevel;split
 ·exact hb
 ·split
  ·exact ha
  ·dsimp only;split <;> omega
theorem c_dAdd (a b:FD):ACalls prog 59 [dyad a,dyad b] (tD (dAdd a b)):=by
 have C1:=c_dLevel a b;have hr:=dLevel_exp a b;obtain⟨x,y,ex,e1,hl⟩:∃ x y ex e,dLevel a b=(x,y,ex,e):=⟨_,_,_,_,rfl⟩
 rw[hl] at C1 hr;dsimp only at C1 hr;obtain⟨x2,e2,C2,hx2,he2⟩:=varT (t_wAdd x y);obtain⟨x3,e3,C3,hx3,he3⟩:=varT (c_dMake x2 ex (by omega) (by omega));obtain⟨X,E,hX,hE⟩:∃ x e,okOr d0 (dAdd a b)=x/\errN (dAdd a b)=e:=⟨_,_,rfl,rfl⟩
 have key:(e1≠0->X=d0/\E=e1)/\(e1=0->(e2≠0->X=d0/\E=e2)/\(e2=0->X=x3/\E=e3)):=by
  unfold dAdd at hX hE;rw[hl] at hX hE;dsimp only at hX hE;constructor
  ·intro h;rw[if_neg h] at hX hE;exact⟨hX.symm,by rw[<- hE]; show e1-1+1=_; omega⟩
  ·intro h;rw[if_pos h] at hX hE;rcases bnd_cases (zAdd x y) (fun s=>dMake s ex) z0 d0 with ⟨g1,g2,g3⟩ | ⟨g1,g2⟩
   ·rw[g2] at hX; rw[g3] at hE; rw[he2] at g1 hE
    exact⟨fun _=>⟨hX.symm,hE.symm⟩,fun h=>absurd h g1⟩
   ·rw[g2,hx2] at hX hE;rw[he2] at g1;exact⟨fun h=>absurd g1 h,fun _=>⟨hX▸hx3,hE▸he3⟩⟩
 show ACalls prog _ _ (.tup [dyad (okOr d0 (dAdd a b)),i64 (errN (dAdd a b))]);rw[hX,hE];clear hX hE hx2 he2 hx3 he3 hl hr;refine conN func59 rfl (by kernel_rfl) ?_;conv=>whnf
 refine cE C1 ?_;conv=>whnf
 refine Br.mk (fun h=>?_) (fun h=>?_)
 ·obtain⟨rfl,rfl⟩:=key.1 (lit0 h);conv=>whnf
  exact⟨.sh _ _ rfl le_dy0,fin rfl rfl,trivial⟩
 have key:=key.2 (lit1 h);clear h;conv=>whnf
 refine cE C2 ?_;conv=>whnf
 refine Br.mk (fun h=>?_) (fun h=>?_)
 ·obtain⟨rfl,rfl⟩:=key.1 (lit0 h);conv=>whnf
  exact⟨.sh _ _ rfl le_dy0,fin rfl rfl,trivial⟩
 obtain⟨rfl,rfl⟩:=key.2 (lit1 h);clear h;conv=>whnf
 refine cE C3 ?_;conv=>whnf
 exact⟨fin rfl rfl,fin rfl rfl,trivial⟩
theorem c_dMul (a b:FD):ACalls prog 222 [dyad a,dyad b] (tD (dMul a b)):=by
 have ha:=a.he;have hb:=b.he;have hw:IntKind.wrap .i64 (a.exp+b.exp)=a.exp+b.exp:=wI (by omega) (by omega);obtain⟨x2,e2,C2,hx2,he2⟩:=varT (t_wMul (dMan a) (dMan b));obtain⟨x3,e3,C3,hx3,he3⟩:=varT (c_dMake x2 (a.exp+b.exp) (by omega) (by omega));obtain⟨X,E,hX,hE⟩:∃ x e,okOr d0 (dMul a b)=x/\errN (dMul a b)=e:=⟨_,_,rfl,rfl⟩
 have key:(e2≠0->X=d0/\E=e2)/\(e2=0->X=x3/\E=e3):=by
  unfold dMul at hX hE;rcases bnd_cases (zMul (dMan a) (dMan b)) (fun p=>dMake p (a.exp+b.exp)) z0 d0 with ⟨g1,g2,g3⟩ | ⟨g1,g2⟩
  ·rw[g2] at hX; rw[g3] at hE; rw[he2] at g1 hE
   exact⟨fun _=>⟨hX.symm,hE.symm⟩,fun h=>absurd h g1⟩
  ·rw[g2,hx2] at hX hE;rw[he2] at g1;exact⟨fun h=>absurd g1 h,fun _=>⟨hX▸hx3,hE▸he3⟩⟩
 show ACalls prog _ _ (.tup [dyad (okOr d0 (dMul a b)),i64 (errN (dMul a b))]);rw[hX,hE];clear hX hE hx2 he2 hx3 he3;refine conN func222 rfl (by kernel_rfl) ?_;conv=>whnf
 refine cE C2 ?_;conv=>whnf
 refine Br.mk (fun h=>?_) (fun h=>?_)
 ·obtain⟨rfl,rfl⟩:=key.1 (lit0 h);conv=>whnf
  exact⟨.sh _ _ rfl le_dy0,fin rfl rfl,trivial⟩
 obtain⟨rfl,rfl⟩:=key.2 (lit1 h);clear h;conv=>whnf
 refine callS (args:=[int x2.z,.lit (.int .i64 (IntKind.wrap .i64 (a.exp+b.exp)))]) (by rw[hw]; exact C3) rfl rfl ?_;conv=>whnf
 exact⟨fin rfl rfl,fin rfl rfl,trivial⟩
def dTop (a:FD):Int:=a.exp+blen a.man.natAbs
theorem blen_big (a:FD):blen a.man.natAbs<=16384:=blen_lt_big a.hm
theorem c_dTop (a:FD):ACalls prog 174 [dyad a] (i64 (dTop a)):=by
 have ha:=a.he;have hb:=blen_big a;refine conN func174 rfl (by kernel_rfl) ?_;conv=>whnf
 refine xK ?_;conv=>whnf
 refine cE (c_Bits a.man.natAbs a.hm) ?_;conv=>whnf
 exact fin rfl (congrArg i64 (wI (by omega) (by omega)))
theorem blen_mul {m i:Nat} (h:m≠0):blen (m*2^i)=blen m+i:=by
 have h2:0<2^i:=Nat.pow_pos (by decide);rw[blen_shift (k:=i) (Nat.le_mul_of_pos_left _ (by omega)),Nat.mul_div_cancel _ h2]
theorem lt_of_blen {a b:Nat} (h:blen a<blen b):a<b:=by
 apply Nat.lt_of_not_le;intro g;have:=blen_le.1 (Nat.le_refl (blen a));have:=blen_le.2 (Nat.lt_of_le_of_lt g this);omega
theorem cmpZ_lt {a b:Int} (h:a<b):cmpZ a b=-1:=by unfold cmpZ; rw[if_pos h]
theorem cmpZ_gt {a b:Int} (h:b<a):cmpZ a b=1:=by unfold cmpZ; rw[if_neg (by omega),if_neg (by omega)]
theorem scale_sgn (m:Int) (i:Nat):(m<0↔m*2^i<0)/\(0<m↔0<m*2^i):=by
 have h2:=two_pow_pos' i;refine⟨⟨fun h=>Int.mul_neg_of_neg_of_pos h h2,fun h=>?_⟩,⟨fun h=>Int.mul_pos h h2,fun h=>?_⟩⟩
 ·apply Int.lt_of_not_ge;intro g;have:=Int.mul_nonneg g (Int.le_of_lt h2);omega
 ·apply Int.lt_of_not_ge;intro g;have:=Int.mul_nonneg (show 0<=-m by omega) (Int.le_of_lt h2);rw[Int.neg_mul] at this;omega
theorem scale_abs (m:Int) (i:Nat):(m*2^i).natAbs=m.natAbs*2^i:=by
 rw[Int.natAbs_mul,Int.natAbs_pow]; rfl
theorem sgnZ_pos {z:Int}:0<sgnZ z↔0<z:=by unfold sgnZ; split <;> (try split) <;> omega
theorem dCmp_lt {a b:FD} (h:dSgn a<dSgn b):dCmp a b=-1:=by
 unfold dCmp;dsimp only;refine cmpZ_lt ?_;have hx:=scale_sgn a.man (a.exp-(if b.exp<a.exp then b.exp else a.exp)).toNat;have hy:=scale_sgn b.man (b.exp-(if b.exp<a.exp then b.exp else a.exp)).toNat;have:=sgnZ_lt h;unfold dSgn sgnZ at h;split at h <;> split at h <;> (try split at h) <;> (try split at h) <;> omega
theorem dCmp_gt {a b:FD} (h:dSgn b<dSgn a):dCmp a b=1:=by
 unfold dCmp;dsimp only;refine cmpZ_gt ?_;have hx:=scale_sgn a.man (a.exp-(if b.exp<a.exp then b.exp else a.exp)).toNat;have hy:=scale_sgn b.man (b.exp-(if b.exp<a.exp then b.exp else a.exp)).toNat;have:=sgnZ_lt h;unfold dSgn sgnZ at h;split at h <;> split at h <;> (try split at h) <;> (try split at h) <;> omega
theorem dCmp_zero {a b:FD} (ha:a.man=0) (hb:b.man=0):dCmp a b=0:=by
 unfold dCmp;dsimp only;rw[ha,hb,Int.zero_mul,Int.zero_mul];rfl
theorem dCmp_top {a b:FD} (hs:dSgn a=dSgn b) (ha:a.man≠0) (ht:dTop a≠dTop b):dCmp a b=if (decide (dTop a<dTop b)==decide (dSgn a > 0))=true then -1 else 1:=by
 have hb:b.man≠0:=by
  intro h;have h1:dSgn b=0:=by unfold dSgn sgnZ; rw[if_pos h]
  rw[h1] at hs;unfold dSgn sgnZ at hs;rw[if_neg ha] at hs;split at hs <;> omega
 have hs1:0<a.man↔0<b.man:=by
  rw[<- sgnZ_pos,<- sgnZ_pos (z:=b.man)];unfold dSgn at hs;rw[hs]
 obtain⟨low,hlow⟩:∃ low,(if b.exp<a.exp then b.exp else a.exp)=low:=⟨_,rfl⟩
 have hl:low<=a.exp/\low<=b.exp:=by rw[<- hlow]; split <;> omega
 unfold dCmp;dsimp only;rw[hlow];have hx:=scale_sgn a.man (a.exp-low).toNat;have hy:=scale_sgn b.man (b.exp-low).toNat;have ax:=scale_abs a.man (a.exp-low).toNat;have ay:=scale_abs b.man (b.exp-low).toNat;have bx:=blen_mul (m:=a.man.natAbs) (i:=(a.exp-low).toNat) (by omega);have bb:=blen_mul (m:=b.man.natAbs) (i:=(b.exp-low).toNat) (by omega);rw[<- ax] at bx;rw[<- ay] at bb;generalize a.man*2^(a.exp-low).toNat=x at *
 generalize b.man*2^(b.exp-low).toNat=y at *
 have hp:decide (dSgn a > 0)=decide (0<a.man):=decide_eq_decide.2 sgnZ_pos;rw[hp];unfold dTop at ht ⊢;rcases Int.lt_or_gt_of_ne ht with h | h
 ·have hlt:x.natAbs<y.natAbs:=lt_of_blen (by rw[bx,bb]; omega);rw[decide_eq_true h];by_cases g:0<a.man
  ·rw[decide_eq_true g];exact cmpZ_lt (by omega)
  ·rw[decide_eq_false g];exact cmpZ_gt (by omega)
 ·have hlt:y.natAbs<x.natAbs:=lt_of_blen (by rw[bx,bb]; omega);rw[decide_eq_false (by omega:¬ (a.exp+(blen a.man.natAbs:Int)<b.exp+(blen b.man.natAbs:Int)))];by_cases g:0<a.man
  ·rw[decide_eq_true g];exact cmpZ_gt (by omega)
  ·rw[decide_eq_false g];exact cmpZ_lt (by omega)
theorem dCmp_level {a b:FD} (ha:a.man≠0) (hb:b.man≠0) (ht:dTop a=dTop b):dCmp a b=cmpZ (dLevel a b).1.z (dLevel a b).2.1.z:=by
 obtain⟨low,hlow⟩:∃ low,(if b.exp<a.exp then b.exp else a.exp)=low:=⟨_,rfl⟩
 have hl:(low=a.exp\/low=b.exp)/\low<=a.exp/\low<=b.exp:=by rw[<- hlow]; split <;> omega
 have hba:=blen_big a;have hbb:=blen_big b;have bx:=blen_mul (m:=a.man.natAbs) (i:=(a.exp-low).toNat) (by omega);have bb:=blen_mul (m:=b.man.natAbs) (i:=(b.exp-low).toNat) (by omega);have lx:=blen_le.1 (Nat.le_refl (blen (a.man.natAbs*2^(a.exp-low).toNat)));have ly:=blen_le.1 (Nat.le_refl (blen (b.man.natAbs*2^(b.exp-low).toNat)));unfold dTop at ht;obtain⟨r1,h1,h2⟩:=zLeft_ok (a:=dMan a) lx (by rw[bx]; omega);obtain⟨r2,h3,h4⟩:=zLeft_ok (a:=dMan b) ly (by rw[bb]; omega);unfold dCmp dLevel;rw[if_neg ha,if_neg hb];dsimp only;rw[hlow,h1,h3];show _=cmpZ r1.z r2.z;rw[h2,h4];rfl
theorem c_dCmp (a b:FD):ACalls prog 76 [dyad a,dyad b] (i64 (dCmp a b)):=by
 obtain⟨sa,C1,hsa⟩:∃ s,ACalls prog 60 [dyad a] (i64 s)/\dSgn a=s:=⟨_,c_dSign a,rfl⟩
 obtain⟨sb,C2,hsb⟩:∃ s,ACalls prog 60 [dyad b] (i64 s)/\dSgn b=s:=⟨_,c_dSign b,rfl⟩
 obtain⟨ta,C3,hta⟩:∃ s,ACalls prog 174 [dyad a] (i64 s)/\dTop a=s:=⟨_,c_dTop a,rfl⟩
 obtain⟨tb,C4,htb⟩:∃ s,ACalls prog 174 [dyad b] (i64 s)/\dTop b=s:=⟨_,c_dTop b,rfl⟩
 have C5:=c_dLevel a b;obtain⟨x,y,ex,e1,hl⟩:∃ x y ex e,dLevel a b=(x,y,ex,e):=⟨_,_,_,_,rfl⟩
 rw[hl] at C5;obtain⟨X,hX⟩:∃ X,dCmp a b=X:=⟨_,rfl⟩
 have k1:sa<sb->X=-1:=fun h=>hX▸dCmp_lt (by rw[hsa,hsb]; exact h)
 have k2:sb<sa->X=1:=fun h=>hX▸dCmp_gt (by rw[hsa,hsb]; exact h)
 have z:∀ {c:FD} {s:Int},dSgn c=s->(c.man=0↔s=0):=fun {c s} h=>by rw[<- h]; unfold dSgn sgnZ; split <;> (try split) <;> omega
 have k3:sa=sb->sa=0->X=0:=fun h g=>hX▸dCmp_zero ((z hsa).2 g) ((z hsb).2 (h▸g))
 have k4:sa=sb->sa≠0->ta≠tb->X=if (decide (ta<tb)==decide (sa > 0))=true then -1 else 1:=fun h g t=>by
  subst hX hta htb hsa hsb;exact dCmp_top h (fun q=>g ((z rfl).1 q)) t
 have k5:sa=sb->sa≠0->ta=tb->X=cmpZ x.z y.z:=fun h g t=>by
  have:=dCmp_level (a:=a) (b:=b) (fun q=>g ((z hsa).1 q)) (fun q=>g (h▸(z hsb).1 q)) (by rw[hta,htb,t]);rw[hl] at this;rw[<- hX];exact this
 rw[hX];clear hX hsa hsb hta htb hl z;refine conN func76 rfl (by kernel_rfl) ?_;conv=>whnf
 refine xK ?_;conv=>whnf
 refine cE C1 ?_;conv=>whnf
 refine cE C2 ?_;conv=>whnf
 cases hne:(sa !=sb)
 ·have he:sa=sb:=by simpa using hne
  conv=>whnf
  rw[hne];conv=>whnf
  refine Br.mk (fun h=>?_) (fun h=>?_)
  ·have h0:sa=0:=by simpa using h
   conv=>whnf
   exact fin rfl (congrArg i64 (k3 he h0).symm)
  have h0:sa≠0:=by simpa using h
  clear h;conv=>whnf
  refine xK ?_;conv=>whnf
  refine cE C3 ?_;conv=>whnf
  refine cE C4 ?_;conv=>whnf
  refine Br.mk (fun h=>?_) (fun h=>?_)
  ·have ht:ta≠tb:=by simpa using h
   have k4:=k4 he h0 ht;conv=>whnf
   refine⟨trivial,?_⟩;conv=>whnf
   refine Br.mk (fun h=>?_) (fun h=>?_)
   ·rw[if_pos h] at k4;conv=>whnf
    exact fin rfl (congrArg i64 k4.symm)
   ·rw[if_neg (by rw[h]; decide)] at k4;conv=>whnf
    exact fin rfl (congrArg i64 k4.symm)
  ·have ht:ta=tb:=by simpa using h
   conv=>whnf
   refine cE C5 ?_;conv=>whnf
   refine cE (c_wCompare x y) ?_;conv=>whnf
   exact fin rfl (congrArg i64 (k5 he h0 ht).symm)
 ·have he:sa≠sb:=by simpa using hne
  conv=>whnf
  refine Br.mk (fun h=>?_) (fun h=>?_)
  ·have:sa<sb:=by simpa using h
   conv=>whnf
   exact fin rfl (congrArg i64 (k1 this).symm)
  ·have:¬ sa<sb:=by simpa using h
   conv=>whnf
   rw[hne];conv=>whnf
   exact fin rfl (congrArg i64 (k2 (by omega)).symm)
theorem c_dLess (a b:FD):ACalls prog 175 [dyad a,dyad b] (boo (dLess a b)):=by
 refine conN func175 rfl (by kernel_rfl) ?_;conv=>whnf
 refine cE (c_dCmp a b) ?_;conv=>whnf
 exact fin rfl rfl
theorem c_dOwn (a:FD):ACalls prog 176 [dyad a] (dyad a):=by
 refine conN func176 rfl (by kernel_rfl) ?_;conv=>whnf
 refine cE (c_Clone a.man.natAbs a.hm) ?_;conv=>whnf
 exact fin rfl rfl
theorem c_dMax (a b:FD):ACalls prog 197 [dyad a,dyad b] (dyad (dMax a b)):=by
 refine conN func197 rfl (by kernel_rfl) ?_;conv=>whnf
 refine cE (c_dLess a b) ?_;conv=>whnf
 refine Br.mk (fun h=>?_) (fun h=>?_)
 ·have e:dMax a b=b:=by unfold dMax; rw[if_pos h]
  rw[e];conv=>whnf
  refine cE (c_dOwn b) ?_;conv=>whnf
  exact fin rfl rfl
 ·have e:dMax a b=a:=by unfold dMax; rw[if_neg (by rw[h]; decide)]
  rw[e];conv=>whnf
  refine cE (c_dOwn a) ?_;conv=>whnf
  exact fin rfl rfl
theorem c_dMin (a b:FD):ACalls prog 77 [dyad a,dyad b] (dyad (dMin a b)):=by
 refine conN func77 rfl (by kernel_rfl) ?_;conv=>whnf
 refine cE (c_dLess b a) ?_;conv=>whnf
 refine Br.mk (fun h=>?_) (fun h=>?_)
 ·have e:dMin a b=b:=by unfold dMin; rw[if_pos h]
  rw[e];conv=>whnf
  refine cE (c_dOwn b) ?_;conv=>whnf
  exact fin rfl rfl
 ·have e:dMin a b=a:=by unfold dMin; rw[if_neg (by rw[h]; decide)]
  rw[e];conv=>whnf
  refine cE (c_dOwn a) ?_;conv=>whnf
  exact fin rfl rfl
end
section
open Go Go.RowKit Go.Proofs.Tryz
attribute [local irreducible] zMul zAdd zLeft zRight fitZ qMake zDiv dMake dLevel
theorem c_wDiv1 (m1 m2:Bool) (k1 k2:Nat) (h1:k1<Big) (h2:k2<Big) (h0:k2≠0) :
  ACalls prog 103 [.agg [boo m1,nat k1],.agg [boo m2,nat k2]]
   (match m1&&!decide (k1%k2=0) with
    |false=>.tup [int (sgn (m1 !=m2) (k1/k2)),int (sgn false (k1%k2)),i64 0]
    |true=>.tup [int (sgn (!m2) (k1/k2+1)),int (sgn false (k2-k1%k2)),i64 0]):=by
 have C1:=c_Div k1 k2 h1 h2 h0;have hr:k1%k2<k2:=Nat.mod_lt _ (by omega);have hq:k1%k2≠0->k1/k2+1<Big:=fun h=>by
  have:2<=k2:=by
   apply Nat.le_of_not_lt;intro g;have:k2=1:=by omega
   subst this;exact h (Nat.mod_one _)
  have:k1/k2<=k1/2:=Nat.div_le_div_left this (by decide);have:=one_lt_Big;omega
 have hqb:k1/k2<Big:=Nat.lt_of_le_of_lt (Nat.div_le_self _ _) h1;generalize k1/k2=q at *
 generalize k1%k2=r at *
 clear h1;have lz:=len_zero r;cases m1 with
 |false =>
  show ACalls prog _ _ (.tup [int (sgn (false !=m2) q),int (sgn false r),i64 0]);refine conN func103 rfl (by kernel_rfl) ?_;conv=>whnf
  refine cE C1 ?_;conv=>whnf
  refine⟨trivial,?_⟩;conv=>whnf
  refine callS (c_of (false !=m2) q) rfl rfl ?_;conv=>whnf
  refine cE (c_of false r) ?_;conv=>whnf
  exact⟨fin rfl rfl,fin rfl rfl,fin rfl rfl,trivial⟩
 |true =>
  by_cases hr0:r=0
  ·rw[decide_eq_true hr0] at lz ⊢;show ACalls prog _ _ (.tup [int (sgn (true !=m2) q),int (sgn false r),i64 0]);refine conN func103 rfl (by kernel_rfl) ?_;conv=>whnf
   refine cE C1 ?_;conv=>whnf
   rw[lz];conv=>whnf
   refine⟨trivial,?_⟩;conv=>whnf
   refine callS (c_of (true !=m2) q) rfl rfl ?_;conv=>whnf
   refine cE (c_of false r) ?_;conv=>whnf
   exact⟨fin rfl rfl,fin rfl rfl,fin rfl rfl,trivial⟩
  ·have hqe:=hq hr0;rw[decide_eq_false hr0] at lz ⊢;show ACalls prog _ _ (.tup [int (sgn (!m2) (q+1)),int (sgn false (k2-r)),i64 0]);have C2:=c_Sub k2 r h2 (by omega);rw[sub_cases (by omega)] at C2;have C3:=c_Add q 1 hqb one_lt_Big;rw[show fitN (q+1)=.ok (q+1) from by unfold fitN; rw[if_pos hqe]] at C3;refine conN func103 rfl (by kernel_rfl) ?_;conv=>whnf
   refine cE C1 ?_;conv=>whnf
   rw[lz];conv=>whnf
   refine cE C2 ?_;conv=>whnf
   refine callS (c_Of 1 (by decide)) rfl rfl ?_;conv=>whnf
   refine cE C3 ?_;conv=>whnf
   refine callS (c_of (!m2) (q+1)) rfl rfl ?_;conv=>whnf
   refine callS (c_of false (k2-r)) rfl rfl ?_;conv=>whnf
   exact⟨fin rfl rfl,fin rfl rfl,fin rfl rfl,trivial⟩
theorem edm {a q r m:Int} (hm:0<m) (h:r+m*q=a) (h0:0<=r) (h1:r<m):a/m=q/\a%m=r:=(Int.ediv_emod_unique hm).2 ⟨h,h0,h1⟩
theorem zdiv_facts (a b:Int) (hb:b≠0) :
  ((decide (a<0)&&!decide (a.natAbs%b.natAbs=0))=false->sgn (decide (a<0) !=decide (b<0)) (a.natAbs/b.natAbs)=a/b/\sgn false (a.natAbs%b.natAbs)=a%b) /\
  ((decide (a<0)&&!decide (a.natAbs%b.natAbs=0))=true->sgn (!decide (b<0)) (a.natAbs/b.natAbs+1)=a/b/\sgn false (b.natAbs-a.natAbs%b.natAbs)=a%b):=by
 have hm:0<b.natAbs:=by omega
 have e:=Nat.div_add_mod a.natAbs b.natAbs;have hr:a.natAbs%b.natAbs<b.natAbs:=Nat.mod_lt _ hm;obtain⟨q,hq⟩:∃ q,a.natAbs/b.natAbs=q:=⟨_,rfl⟩
 obtain⟨r,hr2⟩:∃ r,a.natAbs%b.natAbs=r:=⟨_,rfl⟩
 obtain⟨m,hm2⟩:∃ m,b.natAbs=m:=⟨_,rfl⟩
 rw[hq,hr2] at e ⊢;rw[hr2] at hr;rw[hm2] at e hm hr ⊢;clear hq hr2;have e':(m:Int)*(q:Int)+(r:Int)=(a.natAbs:Int):=by exact_mod_cast e
 have key:∀ (x y:Int),0<=y->y<(m:Int)->y+(m:Int)*x=a->(if b<0 then -x else x)=a/b/\y=a%b:=by
  intro x y h0 h1 h2;have:=edm (by omega:(0:Int)<m) h2 h0 h1;by_cases hb0:b<0
  ·have:b=-(m:Int):=by omega
   rw[if_pos hb0,this,Int.ediv_neg,Int.emod_neg];exact⟨by omega,by omega⟩
  ·have:b=(m:Int):=by omega
   rw[if_neg hb0,this];exact⟨by omega,by omega⟩
 unfold sgn;constructor
 ·intro h;by_cases ha:a<0
  ·have hr0:r=0:=by simpa [ha] using h
   subst hr0;have:=key (-(q:Int)) 0 (by omega) (by omega) (by rw[Int.mul_neg]; omega);simp only[ha,decide_true];by_cases hb0:b<0
   ·rw[if_pos hb0] at this;simp[hb0];omega
   ·rw[if_neg hb0] at this;simp[hb0];omega
  ·have:=key (q:Int) r (by omega) (by omega) (by omega);simp only[ha,decide_false];by_cases hb0:b<0
   ·rw[if_pos hb0] at this;simp[hb0];omega
   ·rw[if_neg hb0] at this;simp[hb0];omega
 ·intro h;simp only[Bool.and_eq_true,decide_eq_true_eq,Bool.not_eq_true',decide_eq_false_iff_not] at h;obtain⟨ha,hr0⟩:=h;have:=key (-((q:Int)+1)) ((m:Int)-r) (by omega) (by omega) (by rw[Int.mul_neg,Int.mul_add]; omega);by_cases hb0:b<0
  ·rw[if_pos hb0] at this;simp[hb0];omega
  ·rw[if_neg hb0] at this;simp[hb0];omega
theorem c_wDiv (a b:FZ) (hb:b.z≠0):ACalls prog 103 [int a.z,int b.z] (.tup [int (a.z/b.z),int (a.z%b.z),i64 0]):=by
 have C:=c_wDiv1 (decide (a.z<0)) (decide (b.z<0)) a.z.natAbs b.z.natAbs a.h b.h (by omega);have F:=zdiv_facts a.z b.z hb;cases hc:(decide (a.z<0)&&!decide (a.z.natAbs%b.z.natAbs=0)) with
 |false =>
  rw[hc] at C;have:=F.1 hc;rw[this.1,this.2] at C;exact C
 |true =>
  rw[hc] at C;have:=F.2 hc;rw[this.1,this.2] at C;exact C
theorem bits_no {bits:Int} (h:bits<2\/4096<bits):bitsOk bits=false:=by
 cases hb:bitsOk bits with
 |false=>rfl
 |true=>have:=bitsOk_iff.1 hb; omega
theorem c_dRound (a:FD) (bits:Int) (up:Bool) (hb1:-4611686018427387904<=bits) (hb2:bits<=4611686018427387904):ACalls prog 248 [dyad a,i64 bits,boo up] (tD (dRound a bits up)):=by
 have ha:=a.he;by_cases g1:bits<2
 ·have e:dRound a bits up=.error eRange:=by unfold dRound; rw[bits_no (.inl g1)]; rfl
  rw[e];refine conN func248 rfl (by kernel_rfl) ?_;conv=>whnf
  rw[decide_eq_true g1];conv=>whnf
  exact⟨.sh _ _ rfl le_dy0,fin rfl rfl,trivial⟩
 by_cases g2:bits > 4096
 ·have e:dRound a bits up=.error eRange:=by unfold dRound; rw[bits_no (.inr g2)]; rfl
  rw[e];refine conN func248 rfl (by kernel_rfl) ?_;conv=>whnf
  rw[decide_eq_false g1];conv=>whnf
  rw[decide_eq_true g2];conv=>whnf
  exact⟨.sh _ _ rfl le_dy0,fin rfl rfl,trivial⟩
 have hb:bitsOk bits=true:=bitsOk_iff.2 ⟨by omega,by omega⟩;obtain⟨bl,C1,hbl⟩:∃ n,ACalls prog 105 [nat a.man.natAbs] (i64 ((n:Nat):Int))/\blen a.man.natAbs=n:=⟨_,c_Bits _ a.hm,rfl⟩
 have hbb:bl<=16384:=hbl▸blen_big a;have hw:IntKind.wrap .i64 ((bl:Int)-bits)=(bl:Int)-bits:=wI (by omega) (by omega);by_cases g3:(bl:Int)-bits<=0
 ·have e:dRound a bits up=.ok a:=by unfold dRound; rw[hb,if_pos rfl,hbl,if_pos g3]
  rw[e];refine conN func248 rfl (by kernel_rfl) ?_;conv=>whnf
  rw[decide_eq_false g1];conv=>whnf
  rw[decide_eq_false g2];conv=>whnf
  refine cE C1 ?_;conv=>whnf
  rw[hw,decide_eq_true g3];conv=>whnf
  exact⟨fin rfl rfl,fin rfl rfl,trivial⟩
 obtain⟨o,ho⟩:∃ o,((bl:Int)-bits).toNat=o:=⟨_,rfl⟩
 have hoc:(bl:Int)-bits=(o:Int):=by omega
 rw[hoc] at hw;have hwe:IntKind.wrap .i64 (a.exp+(o:Int))=a.exp+o:=wI (by omega) (by omega);have e:dRound a bits up=dMake (if up then zNeg (zRight (zNeg (dMan a)) o) else zRight (dMan a) o) (a.exp+o):=by
  unfold dRound;rw[hb,if_pos rfl,hbl,if_neg g3];dsimp only;rw[ho]
 obtain⟨r1,C2,hr1⟩:∃ r:FZ,ACalls prog 224 [int a.man,i64 o] (.tup [int r.z,i64 0])/\zRight (dMan a) o=r:=⟨_,c_wRight (dMan a) o (by omega),rfl⟩
 obtain⟨r2,C3,hr2⟩:∃ r:FZ,ACalls prog 224 [int (-a.man),i64 o] (.tup [int r.z,i64 0])/\zRight (zNeg (dMan a)) o=r:=⟨_,c_wRight (zNeg (dMan a)) o (by omega),rfl⟩
 rw[e];rw[hr1,hr2];cases up with
 |false =>
  obtain⟨x,er,C4,hx,he⟩:=varT (c_dMake r1 (a.exp+o) (by omega) (by omega));show ACalls prog _ _ (.tup [dyad (okOr d0 (dMake r1 (a.exp+o))),i64 (errN (dMake r1 (a.exp+o)))]);rw[hx,he];clear hx he e;refine conN func248 rfl (by kernel_rfl) ?_;conv=>whnf
  rw[decide_eq_false g1];conv=>whnf
  rw[decide_eq_false g2];conv=>whnf
  refine cE C1 ?_;conv=>whnf
  rw[hoc,hw,decide_eq_false (by omega:¬ (o:Int)<=0)];conv=>whnf
  refine cE C2 ?_;conv=>whnf
  refine callS (args:=[int r1.z,.lit (.int .i64 (IntKind.wrap .i64 (a.exp+(o:Int))))]) (by rw[hwe]; exact C4) rfl rfl ?_;conv=>whnf
  exact⟨fin rfl rfl,fin rfl rfl,trivial⟩
 |true =>
  obtain⟨x,er,C4,hx,he⟩:=varT (c_dMake (zNeg r2) (a.exp+o) (by omega) (by omega));show ACalls prog _ _ (.tup [dyad (okOr d0 (dMake (zNeg r2) (a.exp+o))),i64 (errN (dMake (zNeg r2) (a.exp+o)))]);rw[hx,he];clear hx he e;refine conN func248 rfl (by kernel_rfl) ?_;conv=>whnf
  rw[decide_eq_false g1];conv=>whnf
  rw[decide_eq_false g2];conv=>whnf
  refine cE C1 ?_;conv=>whnf
  rw[hoc,hw,decide_eq_false (by omega:¬ (o:Int)<=0)];conv=>whnf
  refine cE C2 ?_;conv=>whnf
  refine callS (c_wNeg (dMan a)) rfl rfl ?_;conv=>whnf
  refine cE C3 ?_;conv=>whnf
  refine cE (c_wNeg r2) ?_;conv=>whnf
  refine callS (args:=[int (-r2.z),.lit (.int .i64 (IntKind.wrap .i64 (a.exp+(o:Int))))]) (by rw[hwe]; exact C4) rfl rfl ?_;conv=>whnf
  exact⟨fin rfl rfl,fin rfl rfl,trivial⟩
theorem left_one (n:Nat):(∃ r,leftN 1 n=.ok r.z.natAbs/\zLeft z1 n=.ok r/\r.z=((r.z.natAbs:Nat):Int))\/(leftN 1 n=.error eLimbs/\zLeft z1 n=.error eLimbs):=by
 rcases left_cases z1 n with ⟨r,h1,h2,h3⟩ | h
 ·refine .inl ⟨r,h1,h2,?_⟩;rw[show z1.z=1 from rfl,Int.one_mul] at h3;have:=two_pow_pos' n;omega
 ·exact .inr h
theorem c_dRatio (a:FD):ACalls prog 72 [dyad a] (tQ (dRatio a)):=by
 have ha:=a.he;by_cases g:0<=a.exp
 ·have hc:a.exp=(a.exp.toNat:Int):=by omega
  obtain⟨n,hn⟩:∃ n,a.exp.toNat=n:=⟨_,rfl⟩
  rw[hn] at hc;obtain⟨x1,e1,C1,hx1,he1⟩:=varT (t_wLeft (dMan a) n (by omega));obtain⟨X,E,hX,hE⟩:∃ x e,okOr q0 (dRatio a)=x/\errN (dRatio a)=e:=⟨_,_,rfl,rfl⟩
  have key:(e1≠0->X=q0/\E=e1)/\(e1=0->X=qWhole x1/\E=0):=by
   unfold dRatio at hX hE;rw[if_pos g,hn] at hX hE;rcases bnd_cases (zLeft (dMan a) n) (fun n=>(.ok (qWhole n):Except Nat FQ)) z0 q0 with ⟨g1,g2,g3⟩ | ⟨g1,g2⟩
   ·rw[g2] at hX; rw[g3] at hE; rw[he1] at g1 hE
    exact⟨fun _=>⟨hX.symm,hE.symm⟩,fun h=>absurd h g1⟩
   ·rw[g2,hx1] at hX hE;rw[he1] at g1;exact⟨fun h=>absurd g1 h,fun _=>⟨hX.symm,hE.symm⟩⟩
  show ACalls prog _ _ (.tup [rat (okOr q0 (dRatio a)).q,i64 (errN (dRatio a))]);rw[hX,hE];clear hX hE hx1 he1 hn;refine conN func72 rfl (by kernel_rfl) ?_;conv=>whnf
  rw[decide_eq_true (show a.exp ≥ 0 from g)];conv=>whnf
  refine callS (args:=[int a.man,i64 a.exp]) (by rw[hc]; exact C1) rfl rfl ?_;conv=>whnf
  refine Br.mk (fun h=>?_) (fun h=>?_)
  ·obtain⟨rfl,rfl⟩:=key.1 (lit0 h);conv=>whnf
   refine cE c_qZero ?_;conv=>whnf
   exact⟨fin rfl rfl,fin rfl rfl,trivial⟩
  ·obtain⟨rfl,rfl⟩:=key.2 (lit1 h);conv=>whnf
   refine cE (c_qWhole x1) ?_;conv=>whnf
   exact⟨fin rfl rfl,fin rfl rfl,trivial⟩
 ·obtain⟨n,hn⟩:∃ n,(-a.exp).toNat=n:=⟨_,rfl⟩
  have hw:IntKind.wrap .i64 (0-a.exp)=(n:Int):=by rw[wI (by omega) (by omega)]; omega
  have e0:dRatio a=bnd (zLeft z1 n) fun d=>qMake (dMan a) d:=by unfold dRatio; rw[if_neg g,hn]
  have C1:=c_Left 1 n one_lt_Big (by omega);rcases left_one n with ⟨r,h1,h2,h3⟩ | ⟨h1,h2⟩
  ·rw[h1] at C1;rw[h2] at e0;obtain⟨x,e,C2,hx,he⟩:=varT (c_qMake (dMan a) r);have C3:=c_wNat r.z.natAbs r.h;rw[<- h3] at C3;have e1:dRatio a=qMake (dMan a) r:=e0;show ACalls prog _ _ (.tup [rat (okOr q0 (dRatio a)).q,i64 (errN (dRatio a))]);rw[e1,hx,he];clear hx he e0 e1;refine conN func72 rfl (by kernel_rfl) ?_;conv=>whnf
   rw[decide_eq_false (show ¬ a.exp ≥ 0 from g)];conv=>whnf
   refine xK ?_;conv=>whnf
   refine callD (c_Of 1 (by decide)) rfl rfl ?_;conv=>whnf
   refine callD (args:=[nat 1,.lit (.int .i64 (IntKind.wrap .i64 (0-a.exp)))]) (by rw[hw]; exact C1) rfl rfl ?_;conv=>whnf
   refine xK ?_;conv=>whnf
   refine cE C3 ?_;conv=>whnf
   refine cE C2 ?_;conv=>whnf
   exact⟨fin rfl rfl,fin rfl rfl,trivial⟩
  ·rw[h1] at C1;rw[h2] at e0;have e1:dRatio a=.error eLimbs:=e0;rw[e1];refine conN func72 rfl (by kernel_rfl) ?_;conv=>whnf
   rw[decide_eq_false (show ¬ a.exp ≥ 0 from g)];conv=>whnf
   refine xK ?_;conv=>whnf
   refine callD (c_Of 1 (by decide)) rfl rfl ?_;conv=>whnf
   refine callD (args:=[nat 1,.lit (.int .i64 (IntKind.wrap .i64 (0-a.exp)))]) (by rw[hw]; exact C1) rfl rfl ?_;conv=>whnf
   refine cE c_qZero ?_;conv=>whnf
   exact⟨fin rfl rfl,fin rfl rfl,trivial⟩
theorem c_dCmpQ (a:FD) (b:FQ):ACalls prog 41 [dyad a,rat b.q] (tI (dCmpQ a b)):=by
 obtain⟨x1,e1,C1,hx1,he1⟩:=varT (c_dRatio a);obtain⟨x2,e2,C2,hx2,he2⟩:=varT (c_qCompare x1 b);obtain⟨X,E,hX,hE⟩:∃ x e,okOr 0 (dCmpQ a b)=x/\errN (dCmpQ a b)=e:=⟨_,_,rfl,rfl⟩
 have key:(e1≠0->X=0/\E=e1)/\(e1=0->X=x2/\E=e2):=by
  unfold dCmpQ at hX hE;rcases bnd_cases (dRatio a) (fun r=>qCmp r b) q0 0 with ⟨g1,g2,g3⟩ | ⟨g1,g2⟩
  ·rw[g2] at hX; rw[g3] at hE; rw[he1] at g1 hE
   exact⟨fun _=>⟨hX.symm,hE.symm⟩,fun h=>absurd h g1⟩
  ·rw[g2,hx1] at hX hE;rw[he1] at g1;exact⟨fun h=>absurd g1 h,fun _=>⟨hX▸hx2,hE▸he2⟩⟩
 show ACalls prog _ _ (.tup [i64 (okOr 0 (dCmpQ a b)),i64 (errN (dCmpQ a b))]);rw[hX,hE];clear hX hE hx1 he1 hx2 he2;refine conN func41 rfl (by kernel_rfl) ?_;conv=>whnf
 refine cE C1 ?_;conv=>whnf
 refine Br.mk (fun h=>?_) (fun h=>?_)
 ·obtain⟨rfl,rfl⟩:=key.1 (lit0 h);conv=>whnf
  exact⟨fin rfl rfl,fin rfl rfl,trivial⟩
 ·obtain⟨rfl,rfl⟩:=key.2 (lit1 h);conv=>whnf
  refine cE C2 ?_;conv=>whnf
  exact⟨fin rfl rfl,fin rfl rfl,trivial⟩
end
section
open Go Go.RowKit Go.Proofs.Tryz
theorem zDiv_ok (n d:FZ) (h:d.z≠0):∃ q r:FZ,zDiv n d=.ok (q,r)/\q.z=n.z/d.z/\r.z=n.z%d.z:=by
 unfold zDiv;rw[dif_neg h];exact⟨_,_,rfl,rfl,rfl⟩
theorem zLeft_ne {a:FZ} {n:Nat} {r:FZ} (h:zLeft a n=.ok r) (h0:a.z≠0):r.z≠0:=by
 rcases left_cases a n with ⟨r',_,h2,h3⟩ | ⟨_,h2⟩
 ·rw[h2] at h;cases h;rw[h3];have:=two_pow_pos' n;intro g;rcases Int.mul_eq_zero.1 g with g | g <;> omega
 ·rw[h2] at h;cases h
attribute [local irreducible] zMul zAdd zLeft zRight fitZ qMake zDiv dMake dLevel dRound
def nM (sh bits:Int) (up:Bool) (q:FZ):Except Nat FD:=bnd (dMake q sh) fun x=>dRound x bits up
def nT (sh bits:Int) (up:Bool) (q r:FZ):Except Nat FD:=bnd (if up&&r.z !=0 then zAdd q z1 else .ok q) fun q=>nM sh bits up q
theorem near_M (q:FZ) (sh bits:Int) (up:Bool) (h1:-4611686018427387904<=sh) (h2:sh<=4611686018427387904) (hb1:-4611686018427387904<=bits) (hb2:bits<=4611686018427387904):∃ (x3:FD) (e3:Nat) (x4:FD) (e4:Nat),
  ACalls prog 153 [int q.z,i64 sh] (.tup [dyad x3,i64 e3])/\ACalls prog 248 [dyad x3,i64 bits,boo up] (.tup [dyad x4,i64 e4]) /\
  (e3≠0->okOr d0 (nM sh bits up q)=d0/\errN (nM sh bits up q)=e3)/\(e3=0->okOr d0 (nM sh bits up q)=x4/\errN (nM sh bits up q)=e4):=by
 obtain⟨x3,e3,C3,hx3,he3⟩:=varT (c_dMake q sh h1 h2);obtain⟨x4,e4,C4,hx4,he4⟩:=varT (c_dRound x3 bits up hb1 hb2);refine⟨x3,e3,x4,e4,C3,C4,?_⟩;unfold nM;rcases bnd_cases (dMake q sh) (fun x=>dRound x bits up) d0 d0 with ⟨g1,g2,g3⟩ | ⟨g1,g2⟩
 ·rw[g2,g3,he3];rw[he3] at g1;exact⟨fun _=>⟨rfl,rfl⟩,fun h=>absurd h g1⟩
 ·rw[g2,hx3];rw[he3] at g1;exact⟨fun h=>absurd g1 h,fun _=>⟨hx4,he4⟩⟩
theorem c_dNear (a:FQ) (bits:Int) (up:Bool) (hb1:-4611686018427387904<=bits) (hb2:bits<=4611686018427387904):ACalls prog 201 [rat a.q,i64 bits,boo up] (tD (dNear a bits up)):=by
 by_cases g1:bits<2
 ·have e:dNear a bits up=.error eRange:=by unfold dNear; rw[bits_no (.inl g1)]; rfl
  rw[e];refine conN func201 rfl (by kernel_rfl) ?_;conv=>whnf
  rw[decide_eq_true g1];conv=>whnf
  exact⟨.sh _ _ rfl le_dy0,fin rfl rfl,trivial⟩
 by_cases g2:bits > 4096
 ·have e:dNear a bits up=.error eRange:=by unfold dNear; rw[bits_no (.inr g2)]; rfl
  rw[e];refine conN func201 rfl (by kernel_rfl) ?_;conv=>whnf
  rw[decide_eq_false g1];conv=>whnf
  rw[decide_eq_true g2];conv=>whnf
  exact⟨.sh _ _ rfl le_dy0,fin rfl rfl,trivial⟩
 have hb:bitsOk bits=true:=bitsOk_iff.2 ⟨by omega,by omega⟩;obtain⟨sg,C0,hsg⟩:∃ s,ACalls prog 21 [rat a.q] (i64 s)/\(s==0)=decide (a.q.num=0):=⟨_,c_qSign a,sgnZ_zero⟩
 by_cases hz:a.q.num=0
 ·have e:dNear a bits up=.ok d0:=by unfold dNear; rw[hb,if_pos rfl,if_pos hz]
  rw[decide_eq_true hz] at hsg;rw[e];refine conN func201 rfl (by kernel_rfl) ?_;conv=>whnf
  rw[decide_eq_false g1];conv=>whnf
  rw[decide_eq_false g2];conv=>whnf
  refine cE C0 ?_;conv=>whnf
  rw[hsg];conv=>whnf
  exact⟨.sh _ _ rfl le_dy0,fin rfl rfl,trivial⟩
 rw[decide_eq_false hz] at hsg;obtain⟨bn,C1,hbn⟩:∃ n,ACalls prog 105 [nat a.q.num.natAbs] (i64 ((n:Nat):Int))/\blen a.q.num.natAbs=n:=⟨_,c_Bits _ a.hn,rfl⟩
 obtain⟨bd,C2,hbd⟩:∃ n,ACalls prog 105 [nat a.q.den] (i64 ((n:Nat):Int))/\blen a.q.den=n:=⟨_,c_Bits _ a.hd,rfl⟩
 have hbn1:bn<=16384:=hbn▸blen_lt_big a.hn;have hbd1:bd<=16384:=hbd▸blen_lt_big a.hd;obtain⟨sh,hsh⟩:∃ sh:Int,bits-bn+bd+1=sh:=⟨_,rfl⟩
 have hw:IntKind.wrap .i64 (IntKind.wrap .i64 (IntKind.wrap .i64 (bits-(bn:Int))+(bd:Int))+1)=sh:=by
  rw[wI (n:=bits-(bn:Int)) (by omega) (by omega),wI (n:=bits-(bn:Int)+(bd:Int)) (by omega) (by omega),wI (by omega) (by omega),hsh]
 have hneg:IntKind.wrap .i64 (0-sh)=-sh:=by rw[wI (by omega) (by omega)]; omega
 have C5:=c_wNat a.q.den a.hd;have hden:(qDen a).z≠0:=by
  have:=a.q.den_pos;show ((a.q.den:Nat):Int)≠0;omega
 have C6:ACalls prog 96 [i64 1] (int z1.z):=c_wOf 1 (by decide) (by decide);obtain⟨X,E,hX,hE⟩:∃ x e,okOr d0 (dNear a bits up)=x/\errN (dNear a bits up)=e:=⟨_,_,rfl,rfl⟩
 show ACalls prog _ _ (.tup [dyad (okOr d0 (dNear a bits up)),i64 (errN (dNear a bits up))]);have hun:dNear a bits up=bnd (if 0<=sh then zLeft (qNum a) sh.toNat else .ok (qNum a)) fun n =>
    bnd (if 0<=sh then .ok (qDen a) else zLeft (qDen a) (-sh).toNat) fun d=>bnd (zDiv n d) fun qr=>nT (-sh) bits up qr.1 qr.2:=by
  unfold dNear;rw[hb,if_pos rfl,if_neg hz,hbn,hbd];dsimp only;rw[hsh];rfl
 rw[hun] at hX hE;rw[hun,hX,hE];clear hun;have hl:-4611686018427387904<=-sh/\-sh<=4611686018427387904:=by omega
 by_cases hs:sh ≥ 0
 ·obtain⟨k,hk⟩:∃ k,sh.toNat=k:=⟨_,rfl⟩
  have hk2:sh=(k:Int):=by omega
  rw[if_pos hs,hk] at hX hE;obtain⟨x1,e1,C3,hx1,he1⟩:=varT (t_wLeft (qNum a) k (by omega));obtain⟨q,r,hd1,hd2,hd3⟩:=zDiv_ok x1 (qDen a) hden;have C4:=c_wDiv x1 (qDen a) hden;rw[<- hd2,<- hd3] at C4;have key:(e1≠0->X=d0/\E=e1)/\(e1=0->okOr d0 (nT (-sh) bits up q r)=X/\errN (nT (-sh) bits up q r)=E):=by
   have fin:∀ f:FZ->FZ->Except Nat FD,(okOr d0 (bnd (zLeft (qNum a) k) fun n=>bnd (if 0<=sh then .ok (qDen a) else zLeft (qDen a) (-sh).toNat) fun d=>bnd (zDiv n d) fun qr=>f qr.1 qr.2)=X) ->
     (errN (bnd (zLeft (qNum a) k) fun n=>bnd (if 0<=sh then .ok (qDen a) else zLeft (qDen a) (-sh).toNat) fun d=>bnd (zDiv n d) fun qr=>f qr.1 qr.2)=E)->(e1≠0->X=d0/\E=e1)/\(e1=0->okOr d0 (f q r)=X/\errN (f q r)=E):=by
    intro f hX hE;rcases bnd_cases (zLeft (qNum a) k) (fun n=>bnd (if 0<=sh then .ok (qDen a) else zLeft (qDen a) (-sh).toNat) fun d=>bnd (zDiv n d) fun qr=>f qr.1 qr.2) z0 d0 with ⟨g1,g2,g3⟩ | ⟨g1,g2⟩
    ·rw[g2] at hX; rw[g3] at hE; rw[he1] at g1 hE
     exact⟨fun _=>⟨hX.symm,hE.symm⟩,fun h=>absurd h g1⟩
    ·rw[he1] at g1;rw[g2,hx1,if_pos hs] at hX hE;change okOr d0 (bnd (zDiv x1 (qDen a)) _)=X at hX;change errN (bnd (zDiv x1 (qDen a)) _)=E at hE;rw[hd1] at hX hE;exact⟨fun h=>absurd g1 h,fun _=>⟨hX,hE⟩⟩
   exact fin _ hX hE
  refine conN func201 rfl (by kernel_rfl) ?_;conv=>whnf
  rw[decide_eq_false g1];conv=>whnf
  rw[decide_eq_false g2];conv=>whnf
  refine cE C0 ?_;conv=>whnf
  rw[hsg];conv=>whnf
  refine xK ?_;conv=>whnf
  refine cE C1 ?_;conv=>whnf
  refine cE C2 ?_;conv=>whnf
  rw[hw];refine xK ?_;conv=>whnf
  refine cE C5 ?_;conv=>whnf
  rw[decide_eq_true hs];conv=>whnf
  refine callS (args:=[int (qNum a).z,i64 sh]) (by rw[hk2]; exact C3) rfl rfl ?_;conv=>whnf
  refine Br.mk (fun h=>?_) (fun h=>?_)
  ·obtain⟨rfl,rfl⟩:=key.1 (lit0 h);conv=>whnf
   exact⟨.sh _ _ rfl le_dy0,fin rfl rfl,trivial⟩
  have hT:=key.2 (lit1 h);clear key hx1 he1 hd1 hd2 hd3 hX hE h;conv=>whnf
  refine cE C4 ?_;conv=>whnf
  cases up with
  |false =>
   have hT:okOr d0 (nM (-sh) bits false q)=X/\errN (nM (-sh) bits false q)=E:=hT;conv=>whnf
   obtain⟨x3,e3,x4,e4,D1,D2,k1,k2⟩:=near_M q (-sh) bits false hl.1 hl.2 hb1 hb2;conv=>whnf
   refine callS (args:=[int (FZ.z q),.lit (.int .i64 (IntKind.wrap .i64 (0-sh)))]) (by rw[hneg]; exact D1) rfl rfl ?_;conv=>whnf
   refine Br.mk (fun h=>?_) (fun h=>?_)
   ·obtain⟨rfl,rfl⟩:X=d0/\E=e3:=⟨hT.1.symm.trans (k1 (lit0 h)).1,hT.2.symm.trans (k1 (lit0 h)).2⟩
    conv=>whnf
    exact⟨.sh _ _ rfl le_dy0,fin rfl rfl,trivial⟩
   ·obtain⟨rfl,rfl⟩:X=x4/\E=e4:=⟨hT.1.symm.trans (k2 (lit1 h)).1,hT.2.symm.trans (k2 (lit1 h)).2⟩
    conv=>whnf
    refine cE D2 ?_;conv=>whnf
    exact⟨fin rfl rfl,fin rfl rfl,trivial⟩
  |true =>
   conv=>whnf
   refine cE (c_wSign r.z) ?_;conv=>whnf
   refine Br.mk (fun h=>?_) (fun h=>?_)
   ·have hr0:(r.z !=0)=true:=by
     have:=sgnZ_zero (z:=r.z);have h2:(sgnZ r.z==0)=false:=by simpa using h
     rw[h2] at this;simpa using this.symm
    obtain⟨x2,e2,D0,hx2,he2⟩:=varT (t_wAdd q z1);have hT2:(e2≠0->X=d0/\E=e2)/\(e2=0->okOr d0 (nM (-sh) bits true x2)=X/\errN (nM (-sh) bits true x2)=E):=by
     have h1:=hT.1;have h2:=hT.2;unfold nT at h1 h2;rw[hr0] at h1 h2;change okOr d0 (bnd (zAdd q z1) fun q=>nM (-sh) bits true q)=X at h1;change errN (bnd (zAdd q z1) fun q=>nM (-sh) bits true q)=E at h2;rcases bnd_cases (zAdd q z1) (fun q=>nM (-sh) bits true q) z0 d0 with ⟨g1,g2,g3⟩ | ⟨g1,g2⟩
     ·rw[g2] at h1; rw[g3] at h2; rw[he2] at g1 h2
      exact⟨fun _=>⟨h1.symm,h2.symm⟩,fun h=>absurd h g1⟩
     ·rw[he2] at g1;rw[g2,hx2] at h1 h2;exact⟨fun h=>absurd g1 h,fun _=>⟨h1,h2⟩⟩
    clear hx2 he2;conv=>whnf
    refine xK ?_;conv=>whnf
    refine cE C6 ?_;conv=>whnf
    refine cE D0 ?_;conv=>whnf
    refine Br.mk (fun h=>?_) (fun h=>?_)
    ·obtain⟨rfl,rfl⟩:=hT2.1 (lit0 h);conv=>whnf
     exact⟨.sh _ _ rfl le_dy0,fin rfl rfl,trivial⟩
    ·have hT:=hT2.2 (lit1 h);obtain⟨x3,e3,x4,e4,D1,D2,k1,k2⟩:=near_M x2 (-sh) bits true hl.1 hl.2 hb1 hb2;conv=>whnf
     refine callS (args:=[int (FZ.z x2),.lit (.int .i64 (IntKind.wrap .i64 (0-sh)))]) (by rw[hneg]; exact D1) rfl rfl ?_;conv=>whnf
     refine Br.mk (fun h=>?_) (fun h=>?_)
     ·obtain⟨rfl,rfl⟩:X=d0/\E=e3:=⟨hT.1.symm.trans (k1 (lit0 h)).1,hT.2.symm.trans (k1 (lit0 h)).2⟩
      conv=>whnf
      exact⟨.sh _ _ rfl le_dy0,fin rfl rfl,trivial⟩
     ·obtain⟨rfl,rfl⟩:X=x4/\E=e4:=⟨hT.1.symm.trans (k2 (lit1 h)).1,hT.2.symm.trans (k2 (lit1 h)).2⟩
      conv=>whnf
      refine cE D2 ?_;conv=>whnf
      exact⟨fin rfl rfl,fin rfl rfl,trivial⟩
   ·have hr0:(r.z !=0)=false:=by
     have:=sgnZ_zero (z:=r.z);have h2:(sgnZ r.z==0)=true:=by simpa using h
     rw[h2] at this;simpa using this.symm
    have hT:okOr d0 (nM (-sh) bits true q)=X/\errN (nM (-sh) bits true q)=E:=by
     have h1:=hT.1;have h2:=hT.2;unfold nT at h1 h2;rw[hr0] at h1 h2;exact⟨h1,h2⟩
    obtain⟨x3,e3,x4,e4,D1,D2,k1,k2⟩:=near_M q (-sh) bits true hl.1 hl.2 hb1 hb2;conv=>whnf
    refine callS (args:=[int (FZ.z q),.lit (.int .i64 (IntKind.wrap .i64 (0-sh)))]) (by rw[hneg]; exact D1) rfl rfl ?_;conv=>whnf
    refine Br.mk (fun h=>?_) (fun h=>?_)
    ·obtain⟨rfl,rfl⟩:X=d0/\E=e3:=⟨hT.1.symm.trans (k1 (lit0 h)).1,hT.2.symm.trans (k1 (lit0 h)).2⟩
     conv=>whnf
     exact⟨.sh _ _ rfl le_dy0,fin rfl rfl,trivial⟩
    ·obtain⟨rfl,rfl⟩:X=x4/\E=e4:=⟨hT.1.symm.trans (k2 (lit1 h)).1,hT.2.symm.trans (k2 (lit1 h)).2⟩
     conv=>whnf
     refine cE D2 ?_;conv=>whnf
     exact⟨fin rfl rfl,fin rfl rfl,trivial⟩
 ·obtain⟨k,hk⟩:∃ k,(-sh).toNat=k:=⟨_,rfl⟩
  have hk2:-sh=(k:Int):=by omega
  rw[if_neg hs] at hX hE;obtain⟨x1,e1,C3,hx1,he1⟩:=varT (t_wLeft (qDen a) k (by omega));have key:(e1≠0->X=d0/\E=e1)/\(e1=0->∃ q r:FZ,ACalls prog 103 [int (qNum a).z,int x1.z] (.tup [int q.z,int r.z,i64 0])/\okOr d0 (nT (-sh) bits up q r)=X/\errN (nT (-sh) bits up q r)=E):=by
   have fin:∀ f:FZ->FZ->Except Nat FD,(okOr d0 (bnd (.ok (qNum a)) fun n=>bnd (if 0<=sh then .ok (qDen a) else zLeft (qDen a) (-sh).toNat) fun d=>bnd (zDiv n d) fun qr=>f qr.1 qr.2)=X) ->
     (errN (bnd (.ok (qNum a)) fun n=>bnd (if 0<=sh then .ok (qDen a) else zLeft (qDen a) (-sh).toNat) fun d=>bnd (zDiv n d) fun qr=>f qr.1 qr.2)=E)->(e1≠0->X=d0/\E=e1)/\(e1=0->∃ q r:FZ,ACalls prog 103 [int (qNum a).z,int x1.z] (.tup [int q.z,int r.z,i64 0])/\okOr d0 (f q r)=X/\errN (f q r)=E):=by
    intro f hX hE;change okOr d0 (bnd (if 0<=sh then .ok (qDen a) else zLeft (qDen a) (-sh).toNat) _)=X at hX;change errN (bnd (if 0<=sh then .ok (qDen a) else zLeft (qDen a) (-sh).toNat) _)=E at hE;rw[if_neg hs,hk] at hX hE;rcases bnd_cases (zLeft (qDen a) k) (fun d=>bnd (zDiv (qNum a) d) fun qr=>f qr.1 qr.2) z0 d0 with ⟨g1,g2,g3⟩ | ⟨g1,g2⟩
    ·rw[g2] at hX; rw[g3] at hE; rw[he1] at g1 hE
     exact⟨fun _=>⟨hX.symm,hE.symm⟩,fun h=>absurd h g1⟩
    ·have hne:x1.z≠0:=by
      have:=errN_ok g1 z0;rw[hx1] at this;exact zLeft_ne this hden
     rw[he1] at g1;rw[g2,hx1] at hX hE;obtain⟨q,r,hd1,hd2,hd3⟩:=zDiv_ok (qNum a) x1 hne;have C4:=c_wDiv (qNum a) x1 hne;rw[<- hd2,<- hd3] at C4;rw[hd1] at hX hE;exact⟨fun h=>absurd g1 h,fun _=>⟨q,r,C4,hX,hE⟩⟩
   exact fin _ hX hE
  refine conN func201 rfl (by kernel_rfl) ?_;conv=>whnf
  rw[decide_eq_false g1];conv=>whnf
  rw[decide_eq_false g2];conv=>whnf
  refine cE C0 ?_;conv=>whnf
  rw[hsg];conv=>whnf
  refine xK ?_;conv=>whnf
  refine cE C1 ?_;conv=>whnf
  refine cE C2 ?_;conv=>whnf
  rw[hw];refine xK ?_;conv=>whnf
  refine cE C5 ?_;conv=>whnf
  rw[decide_eq_false hs];conv=>whnf
  refine callS (args:=[int (qDen a).z,.lit (.int .i64 (IntKind.wrap .i64 (0-sh)))]) (by rw[hneg,hk2]; exact C3) rfl rfl ?_;conv=>whnf
  refine Br.mk (fun h=>?_) (fun h=>?_)
  ·obtain⟨rfl,rfl⟩:=key.1 (lit0 h);conv=>whnf
   exact⟨.sh _ _ rfl le_dy0,fin rfl rfl,trivial⟩
  obtain⟨q,r,C4,hT⟩:=key.2 (lit1 h);clear key hx1 he1 hX hE h;conv=>whnf
  refine cE C4 ?_;conv=>whnf
  cases up with
  |false =>
   have hT:okOr d0 (nM (-sh) bits false q)=X/\errN (nM (-sh) bits false q)=E:=hT;conv=>whnf
   obtain⟨x3,e3,x4,e4,D1,D2,k1,k2⟩:=near_M q (-sh) bits false hl.1 hl.2 hb1 hb2;conv=>whnf
   refine callS (args:=[int (FZ.z q),.lit (.int .i64 (IntKind.wrap .i64 (0-sh)))]) (by rw[hneg]; exact D1) rfl rfl ?_;conv=>whnf
   refine Br.mk (fun h=>?_) (fun h=>?_)
   ·obtain⟨rfl,rfl⟩:X=d0/\E=e3:=⟨hT.1.symm.trans (k1 (lit0 h)).1,hT.2.symm.trans (k1 (lit0 h)).2⟩
    conv=>whnf
    exact⟨.sh _ _ rfl le_dy0,fin rfl rfl,trivial⟩
   ·obtain⟨rfl,rfl⟩:X=x4/\E=e4:=⟨hT.1.symm.trans (k2 (lit1 h)).1,hT.2.symm.trans (k2 (lit1 h)).2⟩
    conv=>whnf
    refine cE D2 ?_;conv=>whnf
    exact⟨fin rfl rfl,fin rfl rfl,trivial⟩
  |true =>
   conv=>whnf
   refine cE (c_wSign r.z) ?_;conv=>whnf
   refine Br.mk (fun h=>?_) (fun h=>?_)
   ·have hr0:(r.z !=0)=true:=by
     have:=sgnZ_zero (z:=r.z);have h2:(sgnZ r.z==0)=false:=by simpa using h
     rw[h2] at this;simpa using this.symm
    obtain⟨x2,e2,D0,hx2,he2⟩:=varT (t_wAdd q z1);have hT2:(e2≠0->X=d0/\E=e2)/\(e2=0->okOr d0 (nM (-sh) bits true x2)=X/\errN (nM (-sh) bits true x2)=E):=by
     have h1:=hT.1;have h2:=hT.2;unfold nT at h1 h2;rw[hr0] at h1 h2;change okOr d0 (bnd (zAdd q z1) fun q=>nM (-sh) bits true q)=X at h1;change errN (bnd (zAdd q z1) fun q=>nM (-sh) bits true q)=E at h2;rcases bnd_cases (zAdd q z1) (fun q=>nM (-sh) bits true q) z0 d0 with ⟨g1,g2,g3⟩ | ⟨g1,g2⟩
     ·rw[g2] at h1; rw[g3] at h2; rw[he2] at g1 h2
      exact⟨fun _=>⟨h1.symm,h2.symm⟩,fun h=>absurd h g1⟩
     ·rw[he2] at g1;rw[g2,hx2] at h1 h2;exact⟨fun h=>absurd g1 h,fun _=>⟨h1,h2⟩⟩
    clear hx2 he2;conv=>whnf
    refine xK ?_;conv=>whnf
    refine cE C6 ?_;conv=>whnf
    refine cE D0 ?_;conv=>whnf
    refine Br.mk (fun h=>?_) (fun h=>?_)
    ·obtain⟨rfl,rfl⟩:=hT2.1 (lit0 h);conv=>whnf
     exact⟨.sh _ _ rfl le_dy0,fin rfl rfl,trivial⟩
    ·have hT:=hT2.2 (lit1 h);obtain⟨x3,e3,x4,e4,D1,D2,k1,k2⟩:=near_M x2 (-sh) bits true hl.1 hl.2 hb1 hb2;conv=>whnf
     refine callS (args:=[int (FZ.z x2),.lit (.int .i64 (IntKind.wrap .i64 (0-sh)))]) (by rw[hneg]; exact D1) rfl rfl ?_;conv=>whnf
     refine Br.mk (fun h=>?_) (fun h=>?_)
     ·obtain⟨rfl,rfl⟩:X=d0/\E=e3:=⟨hT.1.symm.trans (k1 (lit0 h)).1,hT.2.symm.trans (k1 (lit0 h)).2⟩
      conv=>whnf
      exact⟨.sh _ _ rfl le_dy0,fin rfl rfl,trivial⟩
     ·obtain⟨rfl,rfl⟩:X=x4/\E=e4:=⟨hT.1.symm.trans (k2 (lit1 h)).1,hT.2.symm.trans (k2 (lit1 h)).2⟩
      conv=>whnf
      refine cE D2 ?_;conv=>whnf
      exact⟨fin rfl rfl,fin rfl rfl,trivial⟩
   ·have hr0:(r.z !=0)=false:=by
     have:=sgnZ_zero (z:=r.z);have h2:(sgnZ r.z==0)=true:=by simpa using h
     rw[h2] at this;simpa using this.symm
    have hT:okOr d0 (nM (-sh) bits true q)=X/\errN (nM (-sh) bits true q)=E:=by
     have h1:=hT.1;have h2:=hT.2;unfold nT at h1 h2;rw[hr0] at h1 h2;exact⟨h1,h2⟩
    obtain⟨x3,e3,x4,e4,D1,D2,k1,k2⟩:=near_M q (-sh) bits true hl.1 hl.2 hb1 hb2;conv=>whnf
    refine callS (args:=[int (FZ.z q),.lit (.int .i64 (IntKind.wrap .i64 (0-sh)))]) (by rw[hneg]; exact D1) rfl rfl ?_;conv=>whnf
    refine Br.mk (fun h=>?_) (fun h=>?_)
    ·obtain⟨rfl,rfl⟩:X=d0/\E=e3:=⟨hT.1.symm.trans (k1 (lit0 h)).1,hT.2.symm.trans (k1 (lit0 h)).2⟩
     conv=>whnf
     exact⟨.sh _ _ rfl le_dy0,fin rfl rfl,trivial⟩
    ·obtain⟨rfl,rfl⟩:X=x4/\E=e4:=⟨hT.1.symm.trans (k2 (lit1 h)).1,hT.2.symm.trans (k2 (lit1 h)).2⟩
     conv=>whnf
     refine cE D2 ?_;conv=>whnf
     exact⟨fin rfl rfl,fin rfl rfl,trivial⟩
end
section
open Go Go.RowKit Go.Proofs.Tryz
attribute [local irreducible] zMul zAdd zLeft zRight fitZ qMake zDiv dMake dLevel dRound dNear dAdd dMul dRatio dCmp dMin dMax dAbs dLess qCmp
def spa (s:FS):AV:=.agg [boo (decide (s.lo.man<0)),nat s.lo.man.natAbs,i64 s.lo.exp,boo (decide (s.hi.man<0)),nat s.hi.man.natAbs,i64 s.hi.exp]
def tS (r:Except Nat FS):AV:=resT spa s0 r
theorem le_s0:Le (.agg [boo false,nilA,i64 0,boo false,nilA,i64 0]) (spa s0):=.ag ⟨.refl _,le_nil,.refl _,.refl _,le_nil,.refl _,trivial⟩
def BOk (bits:Int):Prop:=-4611686018427387904<=bits/\bits<=4611686018427387904
theorem key2 {α β γ:Type} {r1:Except Nat α} {r2:α->Except Nat β} {g:α->β->Except Nat γ} {a0:α} {b0:β} {c0:γ} {x1:α} {e1:Nat} {x2:β} {e2:Nat}
  (h1:okOr a0 r1=x1) (h2:errN r1=e1) (h3:okOr b0 (r2 x1)=x2) (h4:errN (r2 x1)=e2) {X:γ} {E:Nat}
  (hX:okOr c0 (bnd r1 fun l=>bnd (r2 l) fun h=>g l h)=X) (hE:errN (bnd r1 fun l=>bnd (r2 l) fun h=>g l h)=E) :
  (e1≠0->X=c0/\E=e1)/\(e1=0->(e2≠0->X=c0/\E=e2)/\(e2=0->X=okOr c0 (g x1 x2)/\E=errN (g x1 x2))):=by
 rcases bnd_cases r1 (fun l=>bnd (r2 l) fun h=>g l h) a0 c0 with ⟨g1,g2,g3⟩ | ⟨g1,g2⟩
 ·rw[g2] at hX; rw[g3] at hE; rw[h2] at g1 hE
  exact⟨fun _=>⟨hX.symm,hE.symm⟩,fun h=>absurd h g1⟩
 ·rw[h2] at g1;rw[g2,h1] at hX hE;refine⟨fun h=>absurd g1 h,fun _=>?_⟩;rcases bnd_cases (r2 x1) (fun h=>g x1 h) b0 c0 with ⟨k1,k2,k3⟩ | ⟨k1,k2⟩
  ·rw[k2] at hX; rw[k3] at hE; rw[h4] at k1 hE
   exact⟨fun _=>⟨hX.symm,hE.symm⟩,fun h=>absurd h k1⟩
  ·rw[h4] at k1;rw[k2,h3] at hX hE;exact⟨fun h=>absurd k1 h,fun _=>⟨hX.symm,hE.symm⟩⟩
theorem c_sNear (a:FQ) (bits:Int) (hb:BOk bits):ACalls prog 123 [rat a.q,i64 bits] (tS (sNear a bits)):=by
 obtain⟨x1,e1,C1,hx1,he1⟩:=varT (c_dNear a bits false hb.1 hb.2);obtain⟨x2,e2,C2,hx2,he2⟩:=varT (c_dNear a bits true hb.1 hb.2);obtain⟨X,E,hX,hE⟩:∃ x e,okOr s0 (sNear a bits)=x/\errN (sNear a bits)=e:=⟨_,_,rfl,rfl⟩
 have key:=key2 (r2:=fun _=>dNear a bits true) (g:=fun l h=>(.ok ⟨l,h⟩:Except Nat FS)) (c0:=s0) hx1 he1 hx2 he2 hX hE;show ACalls prog _ _ (.tup [spa (okOr s0 (sNear a bits)),i64 (errN (sNear a bits))]);rw[hX,hE];clear hX hE hx1 he1 hx2 he2;refine conN func123 rfl (by kernel_rfl) ?_;conv=>whnf
 refine cE C1 ?_;conv=>whnf
 refine Br.mk (fun h=>?_) (fun h=>?_)
 ·obtain⟨rfl,rfl⟩:=key.1 (lit0 h);conv=>whnf
  exact⟨.sh _ _ rfl le_s0,fin rfl rfl,trivial⟩
 have key:=key.2 (lit1 h);clear h;conv=>whnf
 refine cE C2 ?_;conv=>whnf
 refine Br.mk (fun h=>?_) (fun h=>?_)
 ·obtain⟨rfl,rfl⟩:=key.1 (lit0 h);conv=>whnf
  exact⟨.sh _ _ rfl le_s0,fin rfl rfl,trivial⟩
 obtain⟨rfl,rfl⟩:=key.2 (lit1 h);conv=>whnf
 exact⟨fin rfl rfl,fin rfl rfl,trivial⟩
theorem c_sOut (lo hi:FD) (bits:Int) (hb:BOk bits):ACalls prog 221 [dyad lo,dyad hi,i64 bits] (tS (sOut lo hi bits)):=by
 obtain⟨x1,e1,C1,hx1,he1⟩:=varT (c_dRound lo bits false hb.1 hb.2);obtain⟨x2,e2,C2,hx2,he2⟩:=varT (c_dRound hi bits true hb.1 hb.2);obtain⟨X,E,hX,hE⟩:∃ x e,okOr s0 (sOut lo hi bits)=x/\errN (sOut lo hi bits)=e:=⟨_,_,rfl,rfl⟩
 have key:=key2 (r2:=fun _=>dRound hi bits true) (g:=fun l h=>(.ok ⟨l,h⟩:Except Nat FS)) (c0:=s0) hx1 he1 hx2 he2 hX hE;show ACalls prog _ _ (.tup [spa (okOr s0 (sOut lo hi bits)),i64 (errN (sOut lo hi bits))]);rw[hX,hE];clear hX hE hx1 he1 hx2 he2;refine conN func221 rfl (by kernel_rfl) ?_;conv=>whnf
 refine cE C1 ?_;conv=>whnf
 refine Br.mk (fun h=>?_) (fun h=>?_)
 ·obtain⟨rfl,rfl⟩:=key.1 (lit0 h);conv=>whnf
  exact⟨.sh _ _ rfl le_s0,fin rfl rfl,trivial⟩
 have key:=key.2 (lit1 h);clear h;conv=>whnf
 refine cE C2 ?_;conv=>whnf
 refine Br.mk (fun h=>?_) (fun h=>?_)
 ·obtain⟨rfl,rfl⟩:=key.1 (lit0 h);conv=>whnf
  exact⟨.sh _ _ rfl le_s0,fin rfl rfl,trivial⟩
 obtain⟨rfl,rfl⟩:=key.2 (lit1 h);conv=>whnf
 exact⟨fin rfl rfl,fin rfl rfl,trivial⟩
theorem c_sAdd (a b:FS) (bits:Int) (hb:BOk bits):ACalls prog 149 [spa a,spa b,i64 bits] (tS (sAdd a b bits)):=by
 obtain⟨x1,e1,C1,hx1,he1⟩:=varT (c_dAdd a.lo b.lo);obtain⟨x2,e2,C2,hx2,he2⟩:=varT (c_dAdd a.hi b.hi);obtain⟨x3,e3,C3,hx3,he3⟩:=varT (c_sOut x1 x2 bits hb);obtain⟨X,E,hX,hE⟩:∃ x e,okOr s0 (sAdd a b bits)=x/\errN (sAdd a b bits)=e:=⟨_,_,rfl,rfl⟩
 have key:=key2 (r2:=fun _=>dAdd a.hi b.hi) (g:=fun l h=>sOut l h bits) (c0:=s0) hx1 he1 hx2 he2 hX hE;rw[hx3,he3] at key;show ACalls prog _ _ (.tup [spa (okOr s0 (sAdd a b bits)),i64 (errN (sAdd a b bits))]);rw[hX,hE];clear hX hE hx1 he1 hx2 he2 hx3 he3;refine conN func149 rfl (by kernel_rfl) ?_;conv=>whnf
 refine cE C1 ?_;conv=>whnf
 refine Br.mk (fun h=>?_) (fun h=>?_)
 ·obtain⟨rfl,rfl⟩:=key.1 (lit0 h);conv=>whnf
  exact⟨.sh _ _ rfl le_s0,fin rfl rfl,trivial⟩
 have key:=key.2 (lit1 h);clear h;conv=>whnf
 refine cE C2 ?_;conv=>whnf
 refine Br.mk (fun h=>?_) (fun h=>?_)
 ·obtain⟨rfl,rfl⟩:=key.1 (lit0 h);conv=>whnf
  exact⟨.sh _ _ rfl le_s0,fin rfl rfl,trivial⟩
 obtain⟨rfl,rfl⟩:=key.2 (lit1 h);conv=>whnf
 refine cE C3 ?_;conv=>whnf
 exact⟨fin rfl rfl,fin rfl rfl,trivial⟩
theorem c_sSize (a:FS):ACalls prog 150 [spa a] (dyad (sSize a)):=by
 refine conN func150 rfl (by kernel_rfl) ?_;conv=>whnf
 refine xK ?_;conv=>whnf
 refine cE (c_dAbs a.lo) ?_;conv=>whnf
 refine cE (c_dAbs a.hi) ?_;conv=>whnf
 refine callD (c_dMax (dAbs a.lo) (dAbs a.hi)) rfl rfl ?_;conv=>whnf
 exact fin rfl rfl
theorem c_sPoint (a:FD):ACalls prog 83 [dyad a] (spa (sPoint a)):=by
 refine conN func83 rfl (by kernel_rfl) ?_;conv=>whnf
 exact fin rfl rfl
theorem c_sEven (a:FD):ACalls prog 247 [dyad a] (spa (sEven a)):=by
 refine conN func247 rfl (by kernel_rfl) ?_;conv=>whnf
 refine cE (c_dAbs a) ?_;conv=>whnf
 refine xK ?_;conv=>whnf
 refine callD (c_dNeg (dAbs a)) rfl rfl ?_;conv=>whnf
 exact fin rfl rfl
end
section
open Go Go.RowKit Go.Proofs.Tryz
attribute [local irreducible] zMul zAdd zLeft zRight fitZ qMake zDiv dMake dLevel dRound dNear dAdd dMul dRatio dCmp dMin dMax dAbs dLess qCmp sOut
def cD (d:FD):List AV:=[boo (decide (d.man<0)),nat d.man.natAbs,i64 d.exp]
theorem sMul_key {a b:FS} {bits:Int} {x1 x2 x3 x4:FD} {e1 e2 e3 e4:Nat} (h1:okOr d0 (dMul a.lo b.lo)=x1) (g1:errN (dMul a.lo b.lo)=e1) (h2:okOr d0 (dMul a.lo b.hi)=x2) (g2:errN (dMul a.lo b.hi)=e2)
  (h3:okOr d0 (dMul a.hi b.lo)=x3) (g3:errN (dMul a.hi b.lo)=e3) (h4:okOr d0 (dMul a.hi b.hi)=x4) (g4:errN (dMul a.hi b.hi)=e4) {X:FS} {E:Nat} (hX:okOr s0 (sMul a b bits)=X) (hE:errN (sMul a b bits)=E) :
  (e1≠0->X=s0/\E=e1)/\(e1=0->(e2≠0->X=s0/\E=e2)/\(e2=0->(e3≠0->X=s0/\E=e3)/\(e3=0->(e4≠0->X=s0/\E=e4) /\
   (e4=0->X=okOr s0 (sOut (dMin (dMin (dMin x1 x2) x3) x4) (dMax (dMax (dMax x1 x2) x3) x4) bits)/\E=errN (sOut (dMin (dMin (dMin x1 x2) x3) x4) (dMax (dMax (dMax x1 x2) x3) x4) bits))))):=by
 have k:=key2 (r1:=dMul a.lo b.lo) (r2:=fun _=>dMul a.lo b.hi) (g:=fun x1 x2=>bnd (dMul a.hi b.lo) fun x3=>bnd (dMul a.hi b.hi) fun x4=>sOut (dMin (dMin (dMin x1 x2) x3) x4) (dMax (dMax (dMax x1 x2) x3) x4) bits) (c0:=s0) h1 g1 h2 g2 hX hE;refine⟨k.1,fun z1=>⟨(k.2 z1).1,fun z2=>?_⟩⟩;obtain⟨hX,hE⟩:=(k.2 z1).2 z2;exact key2 (r2:=fun _=>dMul a.hi b.hi) (g:=fun x3 x4=>sOut (dMin (dMin (dMin x1 x2) x3) x4) (dMax (dMax (dMax x1 x2) x3) x4) bits) (c0:=s0) h3 g3 h4 g4 hX.symm hE.symm
theorem one_less {s:AS} {F:List Rid} {ρ:Ren} {g:Nat} {x0 y0:AV} (h:Le x0 y0) (hl:okV ρ g y0=true:=by rfl):∀ (j:Nat) (x y:AV),[x0][j]?=some x->[y0][j]?=some y->WkV s F ρ g x y:=by
 intro j x y h1 h2;rcases j with _ | j
 ·cases h1;cases h2;exact .inl ⟨h,hl⟩
 ·cases h1
def arrS (a b:FS):AV:=.agg (cD a.lo++cD b.lo++(cD a.lo++cD b.hi)++(cD a.hi++cD b.lo)++(cD a.hi++cD b.hi))
def mulP (x1 x2 x3 x4:FD) (e1 e2 e3 e4:Nat) (q:Nat×FD×FD):Prop :=
 match q with
 |(0,lo,hi)=>lo=d0/\hi=d0
 |(1,lo,hi)=>e1=0/\lo=x1/\hi=x1
 |(2,lo,hi)=>(e1=0/\e2=0)/\lo=dMin x1 x2/\hi=dMax x1 x2
 |(3,lo,hi)=>(e1=0/\e2=0/\e3=0)/\lo=dMin (dMin x1 x2) x3/\hi=dMax (dMax x1 x2) x3
 |(4,lo,hi)=>(e1=0/\e2=0/\e3=0/\e4=0)/\lo=dMin (dMin (dMin x1 x2) x3) x4/\hi=dMax (dMax (dMax x1 x2) x3) x4
 |_=>False
set_option maxHeartbeats 4000000 in
set_option maxRecDepth 10000 in
theorem c_sMul (a b:FS) (bits:Int) (hb:BOk bits):ACalls prog 151 [spa a,spa b,i64 bits] (tS (sMul a b bits)):=by
 obtain⟨x1,e1,C1,hx1,he1⟩:=varT (c_dMul a.lo b.lo);obtain⟨x2,e2,C2,hx2,he2⟩:=varT (c_dMul a.lo b.hi);obtain⟨x3,e3,C3,hx3,he3⟩:=varT (c_dMul a.hi b.lo);obtain⟨x4,e4,C4,hx4,he4⟩:=varT (c_dMul a.hi b.hi);obtain⟨X,E,hX,hE⟩:∃ x e,okOr s0 (sMul a b bits)=x/\errN (sMul a b bits)=e:=⟨_,_,rfl,rfl⟩
 have key:=sMul_key hx1 he1 hx2 he2 hx3 he3 hx4 he4 hX hE;obtain⟨x5,e5,C5,hx5,he5⟩:=varT (c_sOut (dMin (dMin (dMin x1 x2) x3) x4) (dMax (dMax (dMax x1 x2) x3) x4) bits hb);rw[hx5,he5] at key;show ACalls prog _ _ (.tup [spa (okOr s0 (sMul a b bits)),i64 (errN (sMul a b bits))]);rw[hX,hE];clear hX hE hx1 he1 hx2 he2 hx3 he3 hx4 he4 hx5 he5;refine conN func151 rfl (by kernel_rfl) ?_;conv=>whnf
 refine⟨Nat×FD×FD,mulP x1 x2 x3 x4 e1 e2 e3 e4,
  fun q=>{ fr:=[(34,arrS a b),(35,i64 q.1),(8,.ptr (1,0) 0 0),(9,.ptr (1,1) 0 0),(6,.ptr (0,2) 0 0),(2,i64 bits)],st:=[((1,0),⟨76,3,[dyad q.2.1]⟩),((1,1),⟨76,3,[dyad q.2.2]⟩),((0,2),⟨150,6,[AV.ofVal (ty 150).zero]⟩)],g:=9 },
  fun q=>4-q.1,(0,d0,d0),⟨rfl,rfl⟩,?_,?_⟩
 ·refine⟨trivial,⟨.inl ⟨.of_eq ?_,rfl⟩,.inl ⟨.of_eq ?_,rfl⟩,x_R,x_R,x_R,x_R,trivial⟩,?_,?_,?_,trivial⟩
  ·rfl
  ·rfl
  ·exact⟨.less [.agg [boo false,nilA,i64 0]] rfl rfl (one_less le_dy0),x_N,x_L⟩
  ·exact⟨.less [.agg [boo false,nilA,i64 0]] rfl rfl (one_less le_dy0),x_N,x_L⟩
  ·exact⟨.same rfl rfl,List.not_mem_nil ,Nat.le_of_ble_eq_true rfl⟩
 rintro⟨i,lo,hi⟩ hp;rcases i with _ | _ | _ | _ | _ | i
 ·obtain⟨rfl,rfl⟩:=hp;dsimp only;conv=>whnf
  refine⟨⟨by decide,by decide⟩,?_⟩;conv=>whnf
  refine⟨⟨by decide,by decide,rfl⟩,?_⟩;conv=>whnf
  refine⟨⟨by decide,by decide,rfl⟩,?_⟩;conv=>whnf
  refine cE C1 ?_;conv=>whnf
  refine Br.mk (fun h=>?_) (fun h=>?_)
  ·obtain⟨rfl,rfl⟩:=key.1 (lit0 h);conv=>whnf
   exact⟨.sh _ _ rfl le_s0,fin rfl rfl,trivial⟩
  have z:=lit1 h;conv=>whnf
  refine xK ?_;conv=>whnf
  refine⟨(1,x1,x1),⟨z,rfl,rfl⟩,?_,by dsimp only; decide⟩;exact⟨trivial,⟨.inl ⟨.of_eq rfl,rfl⟩,.inl ⟨.of_eq rfl,rfl⟩,x_R,x_R,x_R,x_R,trivial⟩,
     x_S,x_S,x_S,trivial⟩
 ·obtain⟨z1,rfl,rfl⟩:=hp;dsimp only;conv=>whnf
  refine⟨⟨by decide,by decide⟩,?_⟩;conv=>whnf
  refine⟨⟨by decide,by decide,rfl⟩,?_⟩;conv=>whnf
  refine⟨⟨by decide,by decide,rfl⟩,?_⟩;conv=>whnf
  refine cE C2 ?_;conv=>whnf
  refine Br.mk (fun h=>?_) (fun h=>?_)
  ·obtain⟨rfl,rfl⟩:=(key.2 z1).1 (lit0 h);conv=>whnf
   exact⟨.sh _ _ rfl le_s0,fin rfl rfl,trivial⟩
  have z:=lit1 h;conv=>whnf
  refine xK ?_;conv=>whnf
  refine cE (c_dMin _ _) ?_;conv=>whnf
  refine cE (c_dMax _ _) ?_;conv=>whnf
  refine⟨(2,_,_),⟨⟨z1,z⟩,rfl,rfl⟩,?_,by dsimp only; decide⟩;exact⟨trivial,⟨.inl ⟨.of_eq rfl,rfl⟩,.inl ⟨.of_eq rfl,rfl⟩,x_R,x_R,x_R,x_R,trivial⟩,
     x_S,x_S,x_S,trivial⟩
 ·obtain⟨⟨z1,z2⟩,rfl,rfl⟩:=hp;dsimp only;conv=>whnf
  refine⟨⟨by decide,by decide⟩,?_⟩;conv=>whnf
  refine⟨⟨by decide,by decide,rfl⟩,?_⟩;conv=>whnf
  refine⟨⟨by decide,by decide,rfl⟩,?_⟩;conv=>whnf
  refine cE C3 ?_;conv=>whnf
  refine Br.mk (fun h=>?_) (fun h=>?_)
  ·obtain⟨rfl,rfl⟩:=((key.2 z1).2 z2).1 (lit0 h);conv=>whnf
   exact⟨.sh _ _ rfl le_s0,fin rfl rfl,trivial⟩
  have z:=lit1 h;conv=>whnf
  refine xK ?_;conv=>whnf
  refine cE (c_dMin _ _) ?_;conv=>whnf
  refine cE (c_dMax _ _) ?_;conv=>whnf
  refine⟨(3,_,_),⟨⟨z1,z2,z⟩,rfl,rfl⟩,?_,by dsimp only; decide⟩;exact⟨trivial,⟨.inl ⟨.of_eq rfl,rfl⟩,.inl ⟨.of_eq rfl,rfl⟩,x_R,x_R,x_R,x_R,trivial⟩,
     x_S,x_S,x_S,trivial⟩
 ·obtain⟨⟨z1,z2,z3⟩,rfl,rfl⟩:=hp;dsimp only;conv=>whnf
  refine⟨⟨by decide,by decide⟩,?_⟩;conv=>whnf
  refine⟨⟨by decide,by decide,rfl⟩,?_⟩;conv=>whnf
  refine⟨⟨by decide,by decide,rfl⟩,?_⟩;conv=>whnf
  refine cE C4 ?_;conv=>whnf
  refine Br.mk (fun h=>?_) (fun h=>?_)
  ·obtain⟨rfl,rfl⟩:=(((key.2 z1).2 z2).2 z3).1 (lit0 h);conv=>whnf
   exact⟨.sh _ _ rfl le_s0,fin rfl rfl,trivial⟩
  have z:=lit1 h;conv=>whnf
  refine xK ?_;conv=>whnf
  refine cE (c_dMin _ _) ?_;conv=>whnf
  refine cE (c_dMax _ _) ?_;conv=>whnf
  refine⟨(4,_,_),⟨⟨z1,z2,z3,z⟩,rfl,rfl⟩,?_,by dsimp only; decide⟩;exact⟨trivial,⟨.inl ⟨.of_eq rfl,rfl⟩,.inl ⟨.of_eq rfl,rfl⟩,x_R,x_R,x_R,x_R,trivial⟩,
     x_S,x_S,x_S,trivial⟩
 ·obtain⟨⟨z1,z2,z3,z4⟩,rfl,rfl⟩:=hp;dsimp only;conv=>whnf
  obtain⟨rfl,rfl⟩:=(((key.2 z1).2 z2).2 z3).2 z4;conv=>whnf
  refine cE C5 ?_;conv=>whnf
  exact⟨fin rfl rfl,fin rfl rfl,trivial⟩
 ·exact hp.elim
end
end Go.Proofs.YtjdkdcmpifapeaaGreatDoor.Abs
