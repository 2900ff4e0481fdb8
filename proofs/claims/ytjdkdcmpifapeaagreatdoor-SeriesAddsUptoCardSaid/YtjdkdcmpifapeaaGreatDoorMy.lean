/- Tables of numbers from nothing on: how small what isn't nothing is; their grids. -/
import Derived.Test.YtjdkdcmpifapeaaGreatDoorMu
set_option linter.unusedVariables false
set_option linter.unusedSectionVars false
set_option linter.unusedSimpArgs false
set_option maxHeartbeats 4000000
set_option maxRecDepth 10000
namespace Go.Proofs.YtjdkdcmpifapeaaGreatDoor.Abs
section
open Go Go.RowKit Go.Proofs.Tryz
attribute [local irreducible] zMul zAdd zLeft zRight fitZ qMake zDiv dMake dLevel dRound dNear dAdd dMul dRatio dCmp dMin dMax dAbs dLess qCmp sOut qAdd qMul
def PosV (m:Nat) (v:Rat):Prop:=v=0\/2^(-(m:Int))<=v
theorem PosV.mono {m m':Nat} {v:Rat} (h:PosV m v) (hm:m<=m'):PosV m' v:=h.imp id fun h=>Rat.le_trans (zpow_le2 (by omega)) h
theorem PosV.nonneg {m:Nat} {v:Rat} (h:PosV m v):0<=v:=by
 rcases h with h | h
 ·rw[h]; exact Rat.le_refl
 ·have:=zpow_pos2 (-(m:Int));grind
theorem PosV.mul {m m':Nat} {a b:Rat} (ha:PosV m a) (hb:PosV m' b):PosV (m+m') (a*b):=by
 rcases ha with ha | ha
 ·exact .inl (by rw[ha,Rat.zero_mul])
 ·rcases hb with hb | hb
  ·exact .inl (by rw[hb,Rat.mul_zero])
  ·refine .inr ?_;rw[show -((m+m':Nat):Int)=-(m:Int)+-(m':Int) by omega,zpow_add2];have h1:=zpow_pos2 (-(m:Int));have h2:=zpow_pos2 (-(m':Int));exact mul_le2 ha hb (by grind) (by grind)
theorem PosV.add {m:Nat} {a b:Rat} (ha:PosV m a) (hb:PosV m b):PosV m (a+b):=by
 have na:=ha.nonneg;have nb:=hb.nonneg;rcases ha with ha | ha
 ·rw[ha,Rat.zero_add];exact hb
 ·exact .inr (by grind)
structure PM (bits:Int) (m:Nat) (s:FS):Prop where
 l:PosV m s.lo.v
 h:PosV m s.hi.v
 b:MB bits s
theorem PM.mono {bits:Int} {m m':Nat} {s:FS} (h:PM bits m s) (hm:m<=m'):PM bits m' s:=⟨h.l.mono hm,h.h.mono hm,h.b⟩
theorem PM.s0 (bits:Int) (m:Nat):PM bits m s0:=by
 have:d0.v=0:=v_zero rfl;exact⟨.inl this,.inl this,Nat.zero_le _,Nat.zero_le _⟩
theorem exp_of {bits:Int} {m:Nat} {d:FD} (hp:PosV m d.v) (hb:d.man.natAbs<=2^bits.toNat) (h0:d.man≠0):-((m+bits.toNat:Nat):Int)<=d.exp:=by
 rcases hp with hp | hp
 ·exact absurd hp (v_ne h0)
 ·have h1:=man_v hb;rw[absQ_pos (by have:=zpow_pos2 (-(m:Int)); grind)] at h1;have h2:=Rat.le_trans hp h1;apply Classical.byContradiction;intro c;have h3:=zpow_le2 (show (bits.toNat:Int)+d.exp+1<=-(m:Int) by omega);rw[zpow_add2] at h3;have e4:(2:Rat)^(1:Int)=2:=by decide +kernel
  rw[e4] at h3;have:=zpow_pos2 ((bits.toNat:Int)+d.exp);grind
theorem PM.gr {bits:Int} {m K L:Nat} {s:FS} (h:PM bits m s) (g:SGr K L s):SGr K (m+bits.toNat) s :=
 ⟨g.1.regrid fun h0=>exp_of h.l h.b.1 h0,g.2.regrid fun h0=>exp_of h.h h.b.2 h0⟩
def PMT (n:Nat) (bits:Int) (m:Nat) (p:List (List FS)):Prop:=∀ i j,i<n->j<n->PM bits m (sp p i j)
theorem PMT.mono {n:Nat} {bits:Int} {m m':Nat} {p:List (List FS)} (h:PMT n bits m p) (hm:m<=m'):PMT n bits m' p:=fun i j hi hj=>(h i j hi hj).mono hm
theorem HTL.regrid {n K L m:Nat} {bits:Int} {p:List (List FS)} {f:Nat->Nat->Nat->Rat} (h:HTL n K L p f) (hp:PMT n bits m p):HTL n K (m+bits.toNat) p f :=
 ⟨h.1,fun i j hi hj=>⟨(hp i j hi hj).gr (h.2 i j hi hj).1,(h.2 i j hi hj).2⟩⟩
theorem PosV.ratio {q:Rat} {j k:Nat} (h0:0<=q) (h:Sz q j k):PosV k q:=by
 by_cases hz:q=0
 ·exact .inl hz
 ·refine .inr ?_;have hn:1<=q.num:=by
   have h1:=Rat.num_nonneg.2 h0;have h2:q.num≠0:=fun e=>hz (Rat.num_eq_zero.1 e)
   omega
  have e2:=rat_eq q;rw[Rat.divInt_eq_div] at e2;have hd0:(0:Rat)<((q.den:Int):Rat):=by
   have:(0:Int)<(q.den:Int):=by have:=q.den_nz; omega
   have:=Rat.intCast_lt_intCast.2 this;exact this
  have h3:q*((q.den:Int):Rat)=(q.num:Rat):=by
   have h4:(q.num:Rat)/((q.den:Int):Rat)*((q.den:Int):Rat)=(q.num:Rat):=Rat.div_mul_cancel (by grind);rw[<- e2] at h4;exact h4
  have h5:(1:Rat)<=(q.num:Rat):=by
   have:=Rat.intCast_le_intCast.2 hn;exact this
  have h6:((q.den:Int):Rat)<=2^(k:Int):=by
   have h7:((q.den:Nat):Rat)<=((2^k:Nat):Rat):=Rat.natCast_le_natCast.2 (Nat.le_of_lt h.2);have e:((2^k:Nat):Rat)=(2:Rat)^(k:Int):=by
    rw[Rat.natCast_pow,Rat.zpow_natCast];rfl
   rw[e] at h7;exact h7
  have h8:1<=q*2^(k:Int):=Rat.le_trans h5 (by rw[<- h3]; exact Rat.mul_le_mul_of_nonneg_left h6 h0);have h9:=Rat.mul_le_mul_of_nonneg_right h8 (Rat.le_of_lt (zpow_pos2 (-(k:Int))));rw[Rat.mul_assoc,<- zpow_add2,show (k:Int)+-(k:Int)=0 by omega,zpow_zero2] at h9;grind
end
section
open Go Go.RowKit Go.Proofs.Tryz
attribute [local irreducible] zMul zAdd zLeft zRight fitZ qMake zDiv dMake dLevel dRound dNear dAdd dMul dRatio dCmp dMin dMax dAbs dLess qCmp sOut qAdd qMul sAdd sMul vPlus vInner vTimes
end
section
open Go Go.RowKit Go.Proofs.Tryz
end
end Go.Proofs.YtjdkdcmpifapeaaGreatDoor.Abs
