/- What numbers grow to: the terms, reckoned. -/
import Derived.Test.YtjdkdcmpifapeaaGreatDoorMz
set_option linter.unusedVariables false
set_option linter.unusedSectionVars false
set_option linter.unusedSimpArgs false
set_option maxHeartbeats 4000000
set_option maxRecDepth 20000
namespace Go.Proofs.YtjdkdcmpifapeaaGreatDoor.Abs
section
open Go Go.RowKit Go.Proofs.Tryz
def gD (s d:Nat):Nat->Nat
 |0=>if s=2 then 2 else 1
 |m+1=>gD s d m*(d*(m+1+s))
def gN (s p d:Nat):Nat->Nat
 |0=>0
 |m+1=>(gN s p d m+p^m)*(d*(m+1+s))
end
section
open Go Go.RowKit Go.Proofs.Tryz
def tmF (s:Nat):List (Nat×AV):=[(1,i64 s),(2,.ptr (0,0) 0 0),(4,.ptr (0,1) 0 0),(5,.ptr (0,2) 0 0),(6,.ptr (1,2) 0 0),(7,.ptr (1,3) 0 0)]
def tmS (r a t:Rat):List (Rid×Row):=[((0,0),⟨28,3,[rat r]⟩),((0,1),⟨28,3,[AV.ofVal (ty 28).zero]⟩),((0,2),⟨28,3,[AV.ofVal (ty 28).zero]⟩),((1,2),⟨28,3,[rat a]⟩),((1,3),⟨28,3,[rat t]⟩)]
attribute [local irreducible] qAdd qMul qOf gS gT ex
end
end Go.Proofs.YtjdkdcmpifapeaaGreatDoor.Abs
