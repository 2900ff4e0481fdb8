/- Bytes as lists; what is trimmed on the left; a row of bytes turned round. -/
import Derived.Test.YtjdkdcmpifapeaaGreatDoorMh
import Derived.Test.YtjdkdcmpifapeaaGreatDoorMi
set_option linter.unusedVariables false
set_option linter.unusedSectionVars false
set_option linter.unusedSimpArgs false
set_option maxHeartbeats 4000000
namespace Go.Proofs.YtjdkdcmpifapeaaGreatDoor.Abs
section
open Go Go.RowKit Go.Proofs.Tryz
def bytes (l:List Nat):ByteArray:=⟨(l.map UInt8.ofNat).toArray⟩
def str (l:List Nat):AV:=.lit (.string (bytes l))
def trimL (c:Nat) (l:List Nat):List Nat:=l.dropWhile (fun x=>x==c)
end
section
open Go Go.RowKit Go.Proofs.Tryz
def by8 (x:Nat):AV:=.lit (.int .u8 (x:Int))
def revI (n i:Nat) (g:Nat->AV):List AV:=(List.range n).map fun k=>if k<i\/n<=k+i then g (n-1-k) else g k
end
section
open Go Go.RowKit Go.Proofs.Tryz
def dgt (n k:Nat):Nat:=48+n/10^k%10
def decL (n m:Nat):List Nat:=(List.range m).map fun k=>dgt n (m-1-k)
def decD (n:Nat):List Nat:=if n=0 then [48] else trimL 48 (decL n n)
noncomputable def tCode (l:List Bool):Code:=Code.at' (bodyOf f227) l
def outR (n m:Nat):List AV:=(List.range m).map fun k=>by8 (dgt n k)
def innI (n q r o:Nat) (i:Nat):Inv:=match 9*o+i with
 |0=>{ fr:=[(3,nilA),(4,nat q),(7,u64 (r/10^i:Nat)),(27,i64 (i:Int))],st:=[],g:=9 }
 |m+1=>{ ren:=[((10,6),(3,0))],fr:=[(3,.own (3,0) (m+1)),(4,nat q),(7,u64 (r/10^i:Nat)),(27,i64 (i:Int))],st:=[((3,0),⟨5,1,outR n (m+1)⟩)],g:=9 }
def innE (n q m:Nat):Inv:={ fr:=[(3,.own (3,0) m),(4,nat q)],st:=[((3,0),⟨5,1,outR n m⟩)],g:=30 }
end
section
open Go Go.RowKit Go.Proofs.Tryz
def outI (n o:Nat):Inv:=match 9*o with
 |0=>{ fr:=[(0,nat (n/10^(9*o))),(3,nilA)],st:=[],g:=9 }
 |m+1=>{ fr:=[(0,nat (n/10^(9*o))),(3,.own (3,0) (m+1))],st:=[((3,0),⟨5,1,outR n (m+1)⟩)],g:=9 }
def endI (n o:Nat):Inv:={ fr:=[(3,.own (3,0) (9*o))],st:=[((3,0),⟨5,1,outR n (9*o)⟩)],g:=40 }
def endP (n o:Nat):Prop:=n<10^(9*o)/\9*o<100000
end
end Go.Proofs.YtjdkdcmpifapeaaGreatDoor.Abs
