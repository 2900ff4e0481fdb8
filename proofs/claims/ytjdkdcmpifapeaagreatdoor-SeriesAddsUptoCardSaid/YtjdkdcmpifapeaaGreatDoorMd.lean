/- What comes in is read: cells that the form reads as data stand for abstract values. -/
import Derived.Test.YtjdkdcmpifapeaaGreatDoorMa
import Derived.ProofKit
import Derived.Deep.Slices
import Derived.OpenShut
set_option linter.unusedVariables false
set_option linter.unusedSectionVars false
set_option linter.unusedSimpArgs false
namespace Go.Proofs.YtjdkdcmpifapeaaGreatDoor.Abs
section
open Go Go.RowKit
def isAgg (P:Program) (t:TypeId):Bool:=match P.underlying t with
 |some (.struct _)=>true
 |some (.array _ _)=>true
 |_=>false
def mkV (P:Program) (t:TypeId) (as:List AV):AV:=match isAgg P t with
 |true=>.agg as
 |false=>as.headD .any
def contig (P:Program):Nat->List Field->Nat->Bool
 |o,[],n=>Nat.beq o n
 |o,f::fs,n=>Nat.beq f.offset o&&contig P (o+P.cellsOf f.type) fs n
def shB (P:Program):Nat->TypeId->Bool
 |0,_=>false
 |n+1,t=>match P.underlying t with
  |some .bool=>Nat.beq (P.cellsOf t) 1
  |some (.int _)=>Nat.beq (P.cellsOf t) 1
  |some .string=>Nat.beq (P.cellsOf t) 1
  |some (.slice e)=>Nat.beq (P.cellsOf t) 1&&(Nat.blt 0 (P.cellsOf e)&&shB P n e)
  |some (.struct fs)=>contig P 0 fs.toList (P.cellsOf t)&&fs.toList.all fun f=>shB P n f.type
  |some (.array m e)=>Nat.beq (P.cellsOf t) (m*P.cellsOf e)&&shB P n e
  |_=>false
def RdF (R:TypeId->List AV->Prop):List Field->List AV->Prop
 |[],as=>as=[]
 |f::fs,as=>∃ ds rest,as=ds++rest/\R f.type ds/\RdF R fs rest
def RdC (P:Program):Nat->TypeId->List AV->Prop
 |0,_,_=>False
 |n+1,t,as=>match P.underlying t with
  |some .bool=>∃ b,as=[.lit (.bool b)]
  |some (.int k)=>∃ i,as=[.lit (.int k i)]/\(Lit.int k i).wf=true
  |some .string=>∃ s:ByteArray,as=[.lit (.string s)]/\s.size<=maxLen
  |some (.slice e)=>∃ ess:List (List AV),as=[.sl (ess.map (mkV P e))]/\ess.length<=maxLen/\∀ ds∈ess,RdC P n e ds
  |some (.struct fs)=>RdF (fun t=>RdC P n t) fs.toList as
  |some (.array m e)=>∃ ess:List (List AV),ess.length=m/\as=ess.flatten/\∀ ds∈ess,RdC P n e ds
  |_=>False
def CellsR (S:Nat->Prop) (W:World) (as:List AV) (cs:List Value):Prop :=
 as.length=cs.length/\(∀ a∈as,a.oneCell=true)/\∀ (j:Nat) (y:AV) (u:Value),as[j]?=some y->cs[j]?=some u->SRep S W y u
section
variable {S:Nat->Prop} {W:World}
theorem CellsR.one {y:AV} {u:Value} (h1:y.oneCell=true) (h:SRep S W y u):CellsR S W [y] [u]:=by
 refine⟨rfl,by simpa using h1,fun j y' u' hy hu=>?_⟩;cases j with
 |zero=>simp at hy hu; subst hy hu; exact h
 |succ j=>simp at hy
theorem CellsR.nil:CellsR S W [] []:=⟨rfl,by simp,by simp⟩
theorem CellsR.append {as bs:List AV} {cs ds:List Value} (h1:CellsR S W as cs) (h2:CellsR S W bs ds):CellsR S W (as++bs) (cs++ds):=by
 obtain⟨l1,o1,r1⟩:=h1;obtain⟨l2,o2,r2⟩:=h2;refine⟨by simp[l1,l2],fun a ha=>(List.mem_append.1 ha).elim (o1 a) (o2 a),fun j y u hy hu=>?_⟩;by_cases hj:j<as.length
 ·rw[List.getElem?_append_left hj] at hy;rw[List.getElem?_append_left (by omega)] at hu;exact r1 j y u hy hu
 ·rw[List.getElem?_append_right (by omega)] at hy;rw[List.getElem?_append_right (by omega),<- l1] at hu;exact r2 _ y u hy hu
end
section
variable {P:Program} {S:Nat->Prop} {W:World}
theorem fields_read {R:TypeId->List AV->Prop} {cs:List Value} {N:Nat} (hN:cs.length=N):∀ (fs:List Field) (o:Nat),contig P o fs N=true ->
  (∀ f∈fs,∃ as,R f.type as/\CellsR S W as ((cs.drop f.offset).take (P.cellsOf f.type)))->∃ as,RdF R fs as/\CellsR S W as (cs.drop o)
 |[],o,h,_=>by
  have:=Nat.eq_of_beq_eq_true h;refine⟨[],rfl,?_⟩;rw[List.drop_eq_nil_of_le (by omega)];exact .nil
 |f::fs,o,h,hf=>by
  simp only[contig,Bool.and_eq_true] at h;have ho:=Nat.eq_of_beq_eq_true h.1;obtain⟨ds,h1,h2⟩:=hf f (by simp);obtain⟨rest,h3,h4⟩:=fields_read hN fs (o+P.cellsOf f.type) h.2 fun g hg=>hf g (by simp[hg])
  refine⟨ds++rest,⟨ds,rest,rfl,h1,h3⟩,?_⟩;have e:cs.drop o=(cs.drop o).take (P.cellsOf f.type)++cs.drop (o+P.cellsOf f.type):=by
   rw[<- List.drop_drop,List.take_append_drop]
  rw[e];rw[ho] at h2;exact h2.append h4
theorem array_read {R:List AV->Prop} {cs:List Value} {k m:Nat} (h:∀ i,i<m->∃ as,R as/\CellsR S W as ((cs.drop (i*k)).take k)) :
  ∀ m',m'<=m->∃ ess:List (List AV),ess.length=m'/\(∀ ds∈ess,R ds)/\CellsR S W ess.flatten (cs.take (m'*k))
 |0,_=>⟨[],rfl,by simp,by simpa using CellsR.nil⟩
 |m'+1,hm=>by
  obtain⟨ess,h1,h2,h3⟩:=array_read h m' (by omega);obtain⟨as,h4,h5⟩:=h m' (by omega);refine⟨ess++[as],by simp[h1],fun ds hd=>?_,?_⟩
  ·rcases List.mem_append.1 hd with hd | hd
   ·exact h2 ds hd
   ·simp at hd; subst hd; exact h4
  ·have e:cs.take ((m'+1)*k)=cs.take (m'*k)++(cs.drop (m'*k)).take k:=by
    rw[Nat.add_mul,Nat.one_mul,List.take_add]
   rw[e];simp only[List.flatten_append,List.flatten_cons,List.flatten_nil,List.append_nil];exact h3.append h5
variable {H:Type} {enc:TypeId×Value->H}
theorem rdc_int {n:Nat} {t:TypeId} {k:IntKind} {cs:List AV} (ht:P.underlying t=some (.int k)) (h:RdC P (n+1) t cs):∃ i,cs=[.lit (.int k i)]/\(Lit.int k i).wf=true:=by
 simp only[RdC,ht] at h;exact h
theorem rdc_bool {n:Nat} {t:TypeId} {cs:List AV} (ht:P.underlying t=some .bool) (h:RdC P (n+1) t cs):∃ b,cs=[.lit (.bool b)]:=by
 simp only[RdC,ht] at h;exact h
theorem rdc_slice {n:Nat} {t e:TypeId} {cs:List AV} (ht:P.underlying t=some (.slice e)) (h:RdC P (n+1) t cs):∃ ess:List (List AV),cs=[.sl (ess.map (mkV P e))]/\ess.length<=maxLen/\∀ ds∈ess,RdC P n e ds:=by
 simp only[RdC,ht] at h;exact h
theorem rdc_struct {n:Nat} {t:TypeId} {fs:Array Field} {cs:List AV} (ht:P.underlying t=some (.struct fs)) (h:RdC P (n+1) t cs):RdF (fun t=>RdC P n t) fs.toList cs:=by
 simp only[RdC,ht] at h;exact h
theorem isAgg_slice {t e:TypeId} (ht:P.underlying t=some (.slice e)):isAgg P t=false:=by unfold isAgg; rw[ht]
theorem isAgg_int {t:TypeId} {k:IntKind} (ht:P.underlying t=some (.int k)):isAgg P t=false:=by unfold isAgg; rw[ht]
theorem isAgg_struct {t:TypeId} {fs:Array Field} (ht:P.underlying t=some (.struct fs)):isAgg P t=true:=by unfold isAgg; rw[ht]
theorem isAgg_array {t e:TypeId} {m:Nat} (ht:P.underlying t=some (.array m e)):isAgg P t=true:=by unfold isAgg; rw[ht]
theorem mkV_one {t:TypeId} (h:isAgg P t=false) (a:AV):mkV P t [a]=a:=by
 unfold mkV;rw[h];rfl
theorem mkV_agg {t:TypeId} (h:isAgg P t=true) (cs:List AV):mkV P t cs=.agg cs:=by
 unfold mkV;rw[h]
def RdArgs (P:Program) (n:Nat):List TypeId->List AV->Prop
 |[],[]=>True
 |t::ts,a::as=>(∃ cs,RdC P n t cs/\a=mkV P t cs)/\RdArgs P n ts as
 |_,_=>False
end
attribute [irreducible] RdC
end
section
open Go Go.RowKit Go.ChangeShapes
section
variable {P:Program} {H:Type} {enc:TypeId×Value->H}
theorem trodAll_below {W W':World} (hl:laidOutB P=true) (hb:Below W.heap.size W W'):∀ {ts:List TypeId} {vs:List Value} {ds:List (DataW H)} {ps:List MemPlace},DataW.TrodAll enc P W 0 (fun _=>true) true ts vs ds ps ->
  (∀ x∈ps,x.block<W.heap.size)->(∀ t∈ts,P.readableRec t=true/\t<P.types.size)->DataW.TrodAll enc P W' 0 (fun b=>decide (b<W.heap.size)) true ts vs ds ps
 |[],[],[],_,h,_,_=>h
 |t::ts,v::vs,d::ds,ps,h,hlt,hr=>by
  obtain⟨p,q,h1,h2,rfl⟩:=h;exact⟨p,q,Below.trod hl (hr t (by simp)).1 (hr t (by simp)).2 h1 hb (fun x hx=>hlt x (by simp[hx])),trodAll_below hl hb h2 (fun x hx=>hlt x (by simp[hx])) (fun t ht=>hr t (by simp[ht])),rfl⟩
 |[],[],_::_,_,h,_,_=>h.elim
 |[],_::_,_,_,h,_,_=>h.elim
 |_::_,[],_,_,h,_,_=>h.elim
 |_::_,_::_,[],_,h,_,_=>h.elim
theorem trodAll_len {W:World} {sp:Nat->Bool}:∀ {ts:List TypeId} {vs:List Value} {ds:List (DataW H)} {ps:List MemPlace},DataW.TrodAll enc P W 0 sp true ts vs ds ps->ds.length=ts.length
 |[],[],[],_,_=>rfl
 |t::ts,v::vs,d::ds,ps,h=>by
  obtain⟨p,q,h1,h2,rfl⟩:=h;simp[trodAll_len h2]
 |[],[],_::_,_,h=>h.elim
 |[],_::_,_,_,h=>h.elim
 |_::_,[],_,_,h=>h.elim
 |_::_,_::_,[],_,h=>h.elim
def inB (P:Program) (n:Nat) (ts:List TypeId):Bool:=ts.all fun t=>shB P n t&&(P.readableRec t&&Nat.blt t P.types.size)
variable [Gl]
end
end
end Go.Proofs.YtjdkdcmpifapeaaGreatDoor.Abs
