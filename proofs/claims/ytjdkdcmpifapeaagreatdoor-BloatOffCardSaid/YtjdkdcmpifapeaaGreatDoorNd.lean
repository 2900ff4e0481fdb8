/- The document's digits: products. -/
import Derived.Test.YtjdkdcmpifapeaaGreatDoorNc
import Derived.Test.YtjdkdcmpifapeaaGreatDoorMe
import Derived.Test.YtjdkdcmpifapeaaGreatDoorMm
set_option linter.unusedVariables false
set_option linter.unusedSectionVars false
set_option linter.unusedSimpArgs false
set_option maxHeartbeats 4000000
namespace Go.Proofs.YtjdkdcmpifapeaaGreatDoor.Abs
section
open Go Go.RowKit Go.Proofs.Tryz
abbrev XI:=Bool×Nat
def XI.v (x:XI):Int:=if x.1 then -(x.2:Int) else (x.2:Int)
end
section
open Go Go.RowKit Go.Proofs.Tryz
def x0:AV:=.agg [boo false,nilA]
end
end Go.Proofs.YtjdkdcmpifapeaaGreatDoor.Abs
