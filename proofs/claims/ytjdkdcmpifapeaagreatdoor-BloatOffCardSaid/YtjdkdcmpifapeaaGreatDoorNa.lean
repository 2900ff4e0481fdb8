/- What numbers grow to: the terms, reckoned. -/
import Derived.Test.YtjdkdcmpifapeaaGreatDoorMz
set_option linter.unusedVariables false
set_option linter.unusedSectionVars false
set_option linter.unusedSimpArgs false
set_option maxHeartbeats 4000000
set_option maxRecDepth 20000
namespace Go.Proofs.YtjdkdcmpifapeaaGreatDoor.Abs
section
open Go Go.RowKit Go.Proofs.Tryz
def gD (s d:Nat):Nat->Nat
 |0=>if s=2 then 2 else 1
 |m+1=>gD s d m*(d*(m+1+s))
theorem gD_pos {s d:Nat} (hd:0<d):∀ m,0<gD s d m
 |0=>by unfold gD; split <;> decide
 |m+1=>Nat.mul_pos (gD_pos hd m) (Nat.mul_pos hd (by omega))
def gN (s p d:Nat):Nat->Nat
 |0=>0
 |m+1=>(gN s p d m+p^m)*(d*(m+1+s))
theorem num_den {r:Rat} (h0:0<=r):r*(r.den:Rat)=(r.num.natAbs:Rat):=by
 have e:(r.num.natAbs:Int)=r.num:=Int.natAbs_of_nonneg (Rat.num_nonneg.2 h0);have h:((r.num.natAbs:Nat):Rat)=((r.num:Int):Rat):=by rw[<- e]; rfl
 rw[h];have hd:(r.den:Rat)≠0:=by
  have:(0:Rat)<r.den:=Rat.natCast_pos.2 r.den_pos;grind
 conv=>lhs; lhs; rw[<- Rat.num_divInt_den r,Rat.divInt_eq_div]
 show (r.num:Rat)/(r.den:Rat)*_=_;rw[Rat.div_def,Rat.mul_assoc,Rat.inv_mul_cancel _ hd,Rat.mul_one]
theorem gT_den {s:Nat} {r:Rat} (hs:s<=2) (h0:0<=r):∀ m,gT s r m*(gD s r.den m:Rat)=((r.num.natAbs^m:Nat):Rat)
 |0=>by
  have hs':s=0\/s=1\/s=2:=by omega
  rcases hs' with rfl | rfl | rfl <;> (unfold gT gD; simp only[Nat.zero_add,Rat.pow_zero,Nat.pow_zero]; decide +kernel)
 |m+1=>by
  have h1:=gT_succ s r m;have h2:=gT_den hs h0 m;have h3:=num_den h0;have e:((m+1+s:Nat):Rat)=((m+s:Nat):Rat)+1:=by
   rw[show m+1+s=m+s+1 by omega,Rat.natCast_add];rfl
  show gT s r (m+1)*((gD s r.den m*(r.den*(m+1+s)):Nat):Rat)=_;rw[Rat.natCast_mul,Rat.natCast_mul,e,Nat.pow_succ,Rat.natCast_mul,<- h2,<- h3];generalize ((m+s:Nat):Rat)+1=c at *
  grind
theorem gS_den {s:Nat} {r:Rat} (hs:s<=2) (h0:0<=r):∀ m,gS s r m*(gD s r.den m:Rat)=(gN s r.num.natAbs r.den m:Rat)
 |0=>by
  show (0:Rat)*_=((0:Nat):Rat)
  rw[Rat.zero_mul];rfl
 |m+1=>by
  have h1:=gS_den hs h0 m;have h2:=gT_den hs h0 m;have e:gS s r (m+1)=gS s r m+gT s r m:=SS_last m _;show _*((gD s r.den m*(r.den*(m+1+s)):Nat):Rat)=(((gN s r.num.natAbs r.den m+r.num.natAbs^m)*(r.den*(m+1+s)):Nat):Rat)
  rw[Rat.natCast_mul (gD s r.den m),Rat.natCast_mul (gN s r.num.natAbs r.den m+r.num.natAbs^m),Rat.natCast_add,<- h1,<- h2,e];grind
theorem den_sz {x:Rat} {n d:Nat} {j k:Nat} (hd:0<d) (h:x*(d:Rat)=(n:Rat)) (h1:n<2^j) (h2:d<2^k):Sz x j k:=by
 have hd':(d:Rat)≠0:=by
  have:(0:Rat)<d:=Rat.natCast_pos.2 hd;grind
 have e:x=Rat.divInt (n:Int) (d:Int):=by
  rw[Rat.divInt_eq_div];show x=(n:Rat)/(d:Rat);rw[<- h,Rat.div_def,Rat.mul_assoc,Rat.mul_inv_cancel _ hd',Rat.mul_one]
 rw[e];exact divInt_sz (by omega) (by simpa using h1) (by simpa using h2)
theorem unit_q {d:Nat} (h0:0<d) (h:d<1000):(qOf 1 d).q=1/(d:Rat)/\Sz (qOf 1 d).q 1 10:=by
 have z1:(zI 1).z=1:=zI_z (by decide);have zd:(zI (d:Int)).z=(d:Int):=zI_z (by omega);have e:(qOf 1 d).q=Rat.divInt 1 (d:Int):=by
  unfold qOf;rw[qMake_ok (by rw[zd]; omega)];show Rat.divInt (zI 1).z (zI (d:Int)).z=_;rw[z1,zd]
 refine⟨by rw[e,Rat.divInt_eq_div]; rfl,?_⟩;rw[e];exact divInt_sz (by omega) (by decide) (by simp only[Int.natAbs_natCast]; omega)
end
end Go.Proofs.YtjdkdcmpifapeaaGreatDoor.Abs
