/- The document's sums: what is reckoned, and how many digits it has. -/
import Derived.Test.YtjdkdcmpifapeaaGreatDoorNe
import Derived.Test.YtjdkdcmpifapeaaGreatDoorMu
import Derived.Test.YtjdkdcmpifapeaaGreatDoorMw
import Derived.Test.YtjdkdcmpifapeaaGreatDoorNa
import Derived.Test.YtjdkdcmpifapeaaGreatDoorMe
set_option linter.unusedVariables false
set_option linter.unusedSectionVars false
set_option linter.unusedSimpArgs false
set_option maxHeartbeats 4000000
namespace Go.Proofs.YtjdkdcmpifapeaaGreatDoor.Abs
section
open Go Go.RowKit Go.Proofs.Tryz
def mkX (n:Nat) (f:Nat->Nat->XI):List (List XI):=(List.range n).map fun i=>(List.range n).map (f i)
def xTimes (n:Nat) (a p:List (List XI)):List (List XI):=mkX n fun i k=>xc a p i k n
def xDiag (n:Nat) (p:List (List XI)) (q:Nat):List (List XI):=mkX n fun i k=>if i=k then xAdd (xg p i k) (false,q) else xg p i k
def xSt (n:Nat) (a:List (List XI)) (u hi:Nat):Nat->List (List XI)×Nat
 |0=>(mkX n fun i k=>if k=i then (false,1) else (false,0),1)
 |s+1=>(xDiag n (xTimes n a (xSt n a u hi s).1) (u*(hi-s)*(xSt n a u hi s).2),u*(hi-s)*(xSt n a u hi s).2)
theorem XT.mono {n D D':Nat} {m:List (List XI)} (h:XT n D m) (hd:D<=D'):XT n D' m:=⟨h.l,h.r,fun i j=>(h.d i j).mono hd⟩
end
section
open Go Go.RowKit
def er (r:Nat):Nat->Rat
 |0=>1
 |m+1=>er (r+1) m/((r:Rat)+1)
end
section
open Go Go.RowKit Go.Proofs.Tryz
def xv (x:XI):Rat:=(x.v:Rat)
end
set_option exponentiation.threshold 20000
section
open Go Go.RowKit Go.Proofs.Tryz
attribute [local irreducible] qMk
def uR (u:Nat) (r:List FQ):Nat:=r.foldl (fun u x=>u*x.q.den) u
def uT (u:Nat) (T:List (List FQ)):Nat:=T.foldl uR u
def uN (T:List (List FQ)) (t:FQ):Nat:=uT t.q.den T
def zE (U:Nat) (t x:FQ):Int:=x.q.num*t.q.num*((U/(x.q.den*t.q.den):Nat):Int)
def xE (U:Nat) (t x:FQ):XI:=(decide (zE U t x<0),(zE U t x).natAbs)
def tX (U:Nat) (t:FQ) (T:List (List FQ)):List (List XI):=T.map fun r=>r.map (xE U t)
def bkQ (q:Nat) (x:XI):FQ:=if h:x.2<Big/\q<Big then qMk ⟨x.v,by unfold XI.v; split <;> simp <;> omega⟩ ⟨(q:Int),h.2⟩ else q0
def bkR (q:Nat) (r:List XI):List FQ:=r.map (bkQ q)
def bkT (q:Nat) (p:List (List XI)):List (List FQ):=p.map (bkR q)
theorem XT.len {n D:Nat} {p:List (List XI)} (h:XT n D p) {i:Nat} (hi:i<n):(p.getD i []).length=n:=by
 have hl:i<p.length:=by rw[h.l]; exact hi
 exact h.r _ (getD_mem hl)
end
set_option exponentiation.threshold 20000
section
open Go Go.RowKit Go.Proofs.Tryz
attribute [local irreducible] qMk mMake mTwice mTimes mHolds mScale mPlus mNear mOne mNorm qMul qAdd qSub dCmpQ gT xSt tX bkT er PS
structure MtS (s:FS) (x b:FQ) (low high:FQ) (l h:Int):Prop where
 m1:qSub x b=.ok low
 m2:qAdd x b=.ok high
 m3:dCmpQ s.lo high=.ok l
 m4:¬ l > 0
 m5:dCmpQ s.hi low=.ok h
 m6:¬ h<0
def one13 (T:List (List FQ)) (t:FQ):List (List FQ):=bkT (xSt T.length (tX (uN T t) t T) (uN T t) 23 23).2 (xSt T.length (tX (uN T t) t T) (uN T t) 23 23).1
def two13 (T:List (List FQ)) (t:FQ):List (List FQ):=bkT (xSt T.length (tX (uN T t) t T) (uN T t) 24 23).2 (xSt T.length (tX (uN T t) t T) (uN T t) 24 23).1
structure SumS (k:Nat) (T:List (List FQ)) (t:FQ) (two:List (List FQ)):Prop where
 ol:Sqr k (one13 T t)
 ov:∀ i j,i<k->j<k->en (one13 T t) i j=EN k (en T) t.q 24 i j
 oz:∀ r∈one13 T t,SzL r 8472 7920
 ts:mScale (two13 T t) t=.ok two
 tl:Sqr k two
 tv:∀ i j,i<k->j<k->en two i j=UN k (en T) t.q 24 i j
 tz:∀ r∈two,SzL r 8504 7952
 xt:XT k 42 (tX (uN T t) t T)
 u0:0<uN T t
 tl0:Sqr k (two13 T t)
structure LefS (k:Nat) (T:List (List FQ)) (t:FQ) (m:List (List FQ)) (N rest less:FQ):Prop where
 sc:mScale T t=.ok m
 m6:Six m
 nm:mNorm m=.ok N
 n0:0<=N.q
 nz:Sz N.q 196 196
 n6:N.q<=6
 rq:rest.q=2*ex 24 N.q
 lq:qMul rest t=.ok less
end
section
open Go Go.RowKit Go.Proofs.Tryz
def flatC:Code->Bool
 |.loop _=>false
 |.seq a b=>flatC a&&flatC b
 |.cond _ a b=>flatC a&&flatC b
 |.block _ _=>false
 |_=>true
theorem Pc.goF {N:Nat} {a b:Code} {fr:List (Nat×AV)} {st:Sts} {g:Nat} {Q:NPost} (hf:flatC a=true) (hN:codeN N a=true) (h:nwp prog ty N a fr st g (thenP (fun fr st g=>Pc prog N b fr st g Q) Q)):Pc prog N (.seq a b) fr st g Q:=Pc.go hN h
theorem Pc.endF {N:Nat} {c:Code} {fr:List (Nat×AV)} {st:Sts} {g:Nat} {Q:NPost} (hf:flatC c=true) (hN:codeN N c=true) (h:nwp prog ty N c fr st g Q):Pc prog N c fr st g Q:=pcN hN h
theorem callE {P:Program} {dr:Bool} {i:Nat} {s:AS} {n:FuncId} {args:List AV} {K:Eff->Prop} {res:AV} (h:ACalls P n args res) (hc:AV.closedL args=true) (hr:res.closed=true) (k:K { v:=res }):CallF P dr i s n args K:=by
 cases dr
 ·exact callS h hc hr k
 ·exact callD h hc hr k
def stI:Nat->List Row->Sts
 |_,[]=>[]
 |k,r::l=>((0,k),r)::stI (k+1) l
end
end Go.Proofs.YtjdkdcmpifapeaaGreatDoor.Abs
