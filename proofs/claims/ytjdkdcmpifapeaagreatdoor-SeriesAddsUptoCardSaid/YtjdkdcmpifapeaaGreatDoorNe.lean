/- The document's tables of whole numbers: products, the walk (made by gentimes2.py, a program of this session). -/
import Derived.Test.YtjdkdcmpifapeaaGreatDoorNd
set_option linter.unusedVariables false
set_option linter.unusedSectionVars false
set_option linter.unusedSimpArgs false
set_option maxHeartbeats 4000000
set_option maxRecDepth 10000
namespace Go.Proofs.YtjdkdcmpifapeaaGreatDoor.Abs
section
open Go Go.RowKit Go.Proofs.Tryz
noncomputable def xtCode (l:List Bool):Code:=Code.at' (bodyOf f194) l
end
section
open Go Go.RowKit Go.Proofs.Tryz
end
end Go.Proofs.YtjdkdcmpifapeaaGreatDoor.Abs
