/- The document's sums: what is reckoned, and how many digits it has. -/
import Derived.Test.YtjdkdcmpifapeaaGreatDoorNe
import Derived.Test.YtjdkdcmpifapeaaGreatDoorMu
import Derived.Test.YtjdkdcmpifapeaaGreatDoorMw
import Derived.Test.YtjdkdcmpifapeaaGreatDoorNa
import Derived.Test.YtjdkdcmpifapeaaGreatDoorMe
set_option linter.unusedVariables false
set_option linter.unusedSectionVars false
set_option linter.unusedSimpArgs false
set_option maxHeartbeats 4000000
namespace Go.Proofs.YtjdkdcmpifapeaaGreatDoor.Abs
section
open Go Go.RowKit
def er (r:Nat):Nat->Rat
 |0=>1
 |m+1=>er (r+1) m/((r:Rat)+1)
end
section
open Go Go.RowKit Go.Proofs.Tryz
def xv (x:XI):Rat:=(x.v:Rat)
end
section
open Go Go.RowKit Go.Proofs.Tryz
def flatC:Code->Bool
 |.loop _=>false
 |.seq a b=>flatC a&&flatC b
 |.cond _ a b=>flatC a&&flatC b
 |.block _ _=>false
 |_=>true
theorem Pc.goF {N:Nat} {a b:Code} {fr:List (Nat×AV)} {st:Sts} {g:Nat} {Q:NPost} (hf:flatC a=true) (hN:codeN N a=true) (h:nwp prog ty N a fr st g (thenP (fun fr st g=>Pc prog N b fr st g Q) Q)):Pc prog N (.seq a b) fr st g Q:=Pc.go hN h
theorem Pc.endF {N:Nat} {c:Code} {fr:List (Nat×AV)} {st:Sts} {g:Nat} {Q:NPost} (hf:flatC c=true) (hN:codeN N c=true) (h:nwp prog ty N c fr st g Q):Pc prog N c fr st g Q:=pcN hN h
theorem ok_map {α:Type} {ρ:Ren} {n:Nat} {f:α->AV} (h:∀ x,(f x).lt n=true) (h2:∀ x,(f x).off ρ=true):∀ l:List α,(AV.ltL n (l.map f)&&AV.offL ρ (l.map f))=true
 |[]=>by cases ρ <;> rfl
 |x::l=>by
  have h3:=ok_map h h2 l;simp only[List.map_cons,AV.ltL,AV.offL,Bool.and_eq_true] at h3 ⊢;exact⟨⟨h x,h3.1⟩,h2 x,h3.2⟩
theorem nMb {i:Rid} {F:List Rid} (h:(F.any fun j=>ridB i j)=false):i∉F:=fun hi=>by
 have:=List.any_eq_false.1 h i hi;exact this (ridB_iff.2 rfl)
theorem callE {P:Program} {dr:Bool} {i:Nat} {s:AS} {n:FuncId} {args:List AV} {K:Eff->Prop} {res:AV} (h:ACalls P n args res) (hc:AV.closedL args=true) (hr:res.closed=true) (k:K { v:=res }):CallF P dr i s n args K:=by
 cases dr
 ·exact callS h hc hr k
 ·exact callD h hc hr k
def stI:Nat->List Row->Sts
 |_,[]=>[]
 |k,r::l=>((0,k),r)::stI (k+1) l
theorem asSt_stI:∀ (l:List Row) (k:Nat) (i:Rid),asSt (stI k l) i=if i.1=0/\k<=i.2 then l[i.2-k]? else none
 |[],k,i=>by simp[stI,asSt]
 |r::l,k,i=>by
  show (match Nat.beq i.1 0&&Nat.beq i.2 k with | true=>some r | false=>asSt (stI (k+1) l) i)=_;rw[asSt_stI l (k+1) i];by_cases h1:i.1=0
  ·by_cases h2:i.2=k
   ·have e:(Nat.beq i.1 0&&Nat.beq i.2 k)=true:=by rw[h1,h2]; simp
    rw[e];show some r=_;rw[if_pos ⟨h1,by omega⟩,h2,Nat.sub_self];rfl
   ·have e:(Nat.beq i.1 0&&Nat.beq i.2 k)=false:=by
     rw[Bool.and_eq_false_iff];right;exact Bool.eq_false_iff.2 fun q=>h2 (Nat.eq_of_beq_eq_true q)
    rw[e];by_cases h3:k+1<=i.2
    ·rw[if_pos ⟨h1,h3⟩,if_pos ⟨h1,by omega⟩,show i.2-k=(i.2-(k+1))+1 by omega];rfl
    ·rw[if_neg (fun q=>h3 q.2),if_neg (fun q=>by omega)]
  ·have e:(Nat.beq i.1 0&&Nat.beq i.2 k)=false:=by
    rw[Bool.and_eq_false_iff];left;exact Bool.eq_false_iff.2 fun q=>h1 (Nat.eq_of_beq_eq_true q)
   rw[e,if_neg (fun q=>h1 q.1),if_neg (fun q=>h1 q.1)]
theorem initM_mk (args:List AV) (rows:List Row):initM args rows=mkS (frI args 0) (stI 0 rows) 1:=by
 unfold initM mkS;congr 1
 ·funext t;rw[asFr_frI,if_pos (Nat.zero_le _)];rfl
 ·funext i;rw[asSt_stI];cases hb:Nat.beq i.1 0 with
  |true =>
   rw[if_pos ⟨Nat.eq_of_beq_eq_true hb,Nat.zero_le _⟩];exact rowsL_get rows i.2
  |false =>
   rw[if_neg];rintro⟨q,_⟩;rw[q] at hb;cases hb
theorem conMP {f:FuncId} {fn:Func} {c:Code} {args:List AV} {rows rows':List Row} {res:AV} (hf:prog.funcs[f]?=some fn) (hb:fn.body=some c)
  (hc:((fn.name == "runtime.NumGoroutine")==false&&codeN fn.ntmps c&&Nat.ble args.length fn.ntmps&&Nat.beq rows.length rows'.length)=true)
  (h:Pc prog fn.ntmps c (frI args 0) (stI 0 rows) 1 (fun e fr st g=>resM ty fn.results.toList res rows' e (mkS fr st g))):ACallsM prog f args rows res rows':=by
 refine ACallsM.ofWp ty_ok hm hf hb hc fun cx m S a w hR=>?_
 rw[initM_mk] at hR;refine wp_mono (h.h cx m S a w hR) ?_;rintro e a' w' ⟨ae,s',m',S',rfl,⟨fr,st,g,rfl,hq⟩,hR'⟩;exact⟨ae,_,m',S',rfl,hq,hR'⟩
end
section
open Go Go.RowKit Go.Proofs.Tryz
theorem Pc.gF {N : Nat} {a b : Code} {fr : List (Nat × AV)} {st : Sts} {g : Nat} {Q : NPost} (h : nwp prog ty N a fr st g (thenP (fun fr st g => Pc prog N b fr st g Q) Q)) (hf : flatC a = true := by exact rfl) (hN : codeN N a = true := by kernel_rfl) : Pc prog N (.seq a b) fr st g Q := .goF hf hN h
theorem Pc.eF {N : Nat} {c : Code} {fr : List (Nat × AV)} {st : Sts} {g : Nat} {Q : NPost} (h : nwp prog ty N c fr st g Q) (hf : flatC c = true := by exact rfl) (hN : codeN N c = true := by kernel_rfl) : Pc prog N c fr st g Q := .endF hf hN h
end
end Go.Proofs.YtjdkdcmpifapeaaGreatDoor.Abs
