/- Numbers as texts: whole ones, ratios, spans. -/
import Derived.Test.YtjdkdcmpifapeaaGreatDoorMj
import Derived.Test.YtjdkdcmpifapeaaGreatDoorMl
import Derived.Test.YtjdkdcmpifapeaaGreatDoorMv
import Derived.KernelRfl
set_option linter.unusedVariables false
set_option linter.unusedSectionVars false
set_option linter.unusedSimpArgs false
set_option maxHeartbeats 4000000
set_option maxRecDepth 20000
namespace Go.Proofs.YtjdkdcmpifapeaaGreatDoor.Abs
section
open Go Go.RowKit Go.Proofs.Tryz
attribute [local irreducible] zMul zAdd zLeft zRight fitZ qMake zDiv dMake dLevel dRound dNear dAdd dMul dRatio dCmp dMin dMax dAbs dLess qCmp sOut qAdd qMul sAdd sMul sNear
def decZ (z:Int):List Nat:=if z<0 then 45::decD z.natAbs else decD z.natAbs
def decQ (q:Rat):List Nat:=if q.den=1 then decZ q.num else decZ q.num++[47]++decD q.den
def sText (s:FS):List Nat:=match dRatio s.lo,dRatio s.hi with
 |.ok l,.ok h=>decQ l.q++[46,46]++decQ h.q
 |_,_=>[]
end
section
open Go Go.RowKit Go.Proofs.Tryz
def gChk (r:FQ) (bits:Int):Nat:=if bits<8\/bits > 512\/qSgn r<0 then 1 else match qCmp r (qOf 32 1) with
 |.error e=>e+1
 |.ok c=>if c > 0 then 1 else 0
def gArg (r:FQ) (bits:Int):Except Nat FQ:=match gChk r bits with
 |0=>.ok r
 |e+1=>.error e
def q1:FQ:=qOf 1 1
def gPair (r:FQ) (bits:Int):Except Nat Gw:=bnd (gArg r bits) fun r=>mMake [[r]] q1 bits
def twoT (r:FQ):List (List FQ):=[[r,q1,q0],[q0,q0,q1],[q0,q0,q0]]
def gExp (r:FQ) (bits:Int):Except Nat FS:=bnd (gPair r bits) fun p=>.ok (sp p.1 0 0)
def gOne (r:FQ) (bits:Int):Except Nat FS:=bnd (gPair r bits) fun p=>.ok (sp p.2 0 0)
def gTwo (r:FQ) (bits:Int):Except Nat FS:=bnd (gArg r bits) fun r=>bnd (mMake (twoT r) q1 bits) fun p=>.ok (sp p.1 0 2)
def gCurve (r:FQ) (bits:Int):Except Nat FD:=bnd (gTwo r bits) fun t=>bnd (sNear r bits) fun n=>bnd (sMul t n bits) fun x=>bnd (sMul x n bits) fun y=>.ok (dMax y.hi d0)
def gRise (r:FQ) (bits:Int):Except Nat FD:=bnd (gTwo r bits) fun t=>bnd (sNear r bits) fun n=>bnd (sMul t n bits) fun x=>.ok (dMax x.hi d0)
def gRate (a:List (List FQ)) (t:FQ):Except Nat FQ:=bnd (mNorm a) fun n=>qMul n t
attribute [local irreducible] zMul zAdd zLeft zRight fitZ qMake zDiv dMake dLevel dRound dNear dAdd dMul dRatio dCmp dMin dMax dAbs dLess qCmp sOut qAdd qMul sAdd sMul sNear mMake mNorm qSgn
end
section
open Go Go.RowKit Go.Proofs.Tryz
attribute [local irreducible] zMul zAdd zLeft zRight fitZ qMake zDiv dMake dLevel dRound dNear dAdd dMul dRatio dCmp dMin dMax dAbs dLess qCmp sOut qAdd qMul sAdd sMul sNear mMake mNorm qSgn
end
section
open Go Go.RowKit Go.Proofs.Tryz
def WA:FS:=okOr s0 (gExp q0 40)
def WB:FS:=okOr s0 (gOne q0 40)
def WC:FS:=okOr s0 (gTwo q0 40)
def WD:FD:=okOr d0 (gCurve q1 40)
def WR:FD:=okOr d0 (gRise q1 40)
def WN:FQ:=okOr q0 (gRate (mOne 2) (qOf 3 1))
end
section
open Go Go.RowKit Go.Proofs.Tryz
end
end Go.Proofs.YtjdkdcmpifapeaaGreatDoor.Abs
