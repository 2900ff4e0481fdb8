/- The document's tables of whole numbers: products, the walk (made by gentimes2.py, a program of this session). -/
import Derived.Test.YtjdkdcmpifapeaaGreatDoorNd
set_option linter.unusedVariables false
set_option linter.unusedSectionVars false
set_option linter.unusedSimpArgs false
set_option maxHeartbeats 4000000
set_option maxRecDepth 10000
namespace Go.Proofs.YtjdkdcmpifapeaaGreatDoor.Abs
section
open Go Go.RowKit Go.Proofs.Tryz
theorem conNP {f:FuncId} {fn:Func} {c:Code} {args:List AV} {rows:List Row} {res:AV} (hf:prog.funcs[f]?=some fn) (hb:fn.body=some c)
  (hc:((fn.name == "runtime.NumGoroutine")==false&&codeN fn.ntmps c&&Nat.ble args.length fn.ntmps)=true)
  (h:Pc prog fn.ntmps c (frI args 0) [] 0 (fun e fr st g=>∃ ids,resNR ty fn.results.toList ids rows res e (mkS fr st g))):ACallsN prog f args rows res:=ACallsN.ofPc ty_ok hm hf hb hc h
end
end Go.Proofs.YtjdkdcmpifapeaaGreatDoor.Abs
