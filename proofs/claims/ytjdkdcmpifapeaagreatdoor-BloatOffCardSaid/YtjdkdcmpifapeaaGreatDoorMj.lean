/- Bytes as lists; what is trimmed on the left; a row of bytes turned round. -/
import Derived.Test.YtjdkdcmpifapeaaGreatDoorMh
import Derived.Test.YtjdkdcmpifapeaaGreatDoorMi
set_option linter.unusedVariables false
set_option linter.unusedSectionVars false
set_option linter.unusedSimpArgs false
set_option maxHeartbeats 4000000
namespace Go.Proofs.YtjdkdcmpifapeaaGreatDoor.Abs
section
open Go Go.RowKit Go.Proofs.Tryz
def bytes (l:List Nat):ByteArray:=⟨(l.map UInt8.ofNat).toArray⟩
def str (l:List Nat):AV:=.lit (.string (bytes l))
end
end Go.Proofs.YtjdkdcmpifapeaaGreatDoor.Abs
