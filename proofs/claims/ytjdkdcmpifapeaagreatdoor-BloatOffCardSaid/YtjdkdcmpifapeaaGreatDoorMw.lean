/- The laws of series: table. -/
import Derived.Test.YtjdkdcmpifapeaaGreatDoorMv
import Derived.Test.YtjdkdcmpifapeaaGreatDoorMn
set_option linter.unusedVariables false
set_option linter.unusedSectionVars false
set_option linter.unusedSimpArgs false
set_option maxHeartbeats 4000000
set_option maxRecDepth 10000
namespace Go.Proofs.YtjdkdcmpifapeaaGreatDoor.Abs
section
open Go Go.RowKit Go.Proofs.Tryz
theorem norm_le {n m P:Nat} {M:List (List FQ)} {N:FQ} {c:Rat} (hP:(m+1)*n+1=P) (h2:P+P<=16384) (hn:0<n) (hM:Sqr n M) (sM:SzT M m) (h:mNorm M=.ok N) (hr:RowB n (en M) c):N.q<=c:=by
 obtain⟨N',n1,_,_,n4,_⟩:=norm_ok hP h2 hM sM;rw[h] at n1;cases n1;rcases n4 with rfl | ⟨r,hr',e⟩
 ·omega
 ·obtain⟨i,hi,rfl⟩:=mem_getD (d:=[]) hr';have hi':i<n:=by rw[<- hM.1]; exact hi
  rw[<- e,aSum_SS,(hM.row hi').2];exact hr i hi'
theorem Tw.mono {n:Nat} {bits:Int} {A:Nat->Nat->Rat} {t:Rat} {KE LE KS LS KE' LE' KS' LS':Nat} {p:Gw} (h:Tw n bits A t KE LE KS LS p) (h1:KE<=KE') (h2:LE<=LE') (h3:KS<=KS') (h4:LS<=LS'):Tw n bits A t KE' LE' KS' LS' p:=by
 obtain⟨e,s,⟨M,m1,m2,m3⟩,⟨M',k1,k2,k3⟩⟩:=h;exact⟨e.mono h1 h2,s.mono h3 h4,⟨M,m1,m2,Std.lt_of_lt_of_le m3 (zpow_le2 (by omega))⟩,⟨M',k1,k2,Std.lt_of_lt_of_le k3 (zpow_le2 (by omega))⟩⟩
theorem HTL.le {n K L:Nat} {p:List (List FS)} {f:Nat->Nat->Nat->Rat} (h:HTL n K L p f) {i j:Nat} (hi:i<n) (hj:j<n):(sp p i j).lo.v<=(sp p i j).hi.v:=by
 obtain⟨g,g1,_⟩:=(h.2 i j hi hj).2;exact Rat.le_trans (g1 0).1 (g1 0).2
end
end Go.Proofs.YtjdkdcmpifapeaaGreatDoor.Abs
