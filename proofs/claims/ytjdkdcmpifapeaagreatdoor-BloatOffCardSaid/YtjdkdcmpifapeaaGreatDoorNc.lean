/- The document's digits, to the base 256 (the first part made by genref.py, a program of this session). -/
import Derived.Test.YtjdkdcmpifapeaaGreatDoorMe
import Derived.Test.YtjdkdcmpifapeaaGreatDoorMc
set_option linter.unusedVariables false
set_option linter.unusedSectionVars false
set_option linter.unusedSimpArgs false
set_option maxHeartbeats 4000000
namespace Go.Proofs.YtjdkdcmpifapeaaGreatDoor.Abs
section
open Go Go.RowKit Go.Proofs.Tryz
def i8 (x:Nat):AV:=i64 (x:Nat)
end
end Go.Proofs.YtjdkdcmpifapeaaGreatDoor.Abs
