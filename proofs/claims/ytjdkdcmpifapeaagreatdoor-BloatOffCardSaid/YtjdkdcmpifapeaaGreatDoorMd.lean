/- What comes in is read: cells that the form reads as data stand for abstract values. -/
import Derived.Test.YtjdkdcmpifapeaaGreatDoorMa
import Derived.ProofKit
import Derived.Deep.Slices
import Derived.OpenShut
set_option linter.unusedVariables false
set_option linter.unusedSectionVars false
set_option linter.unusedSimpArgs false
namespace Go.Proofs.YtjdkdcmpifapeaaGreatDoor.Abs
section
open Go Go.RowKit
def isAgg (P:Program) (t:TypeId):Bool:=match P.underlying t with
 |some (.struct _)=>true
 |some (.array _ _)=>true
 |_=>false
def mkV (P:Program) (t:TypeId) (as:List AV):AV:=match isAgg P t with
 |true=>.agg as
 |false=>as.headD .any
def contig (P:Program):Nat->List Field->Nat->Bool
 |o,[],n=>Nat.beq o n
 |o,f::fs,n=>Nat.beq f.offset o&&contig P (o+P.cellsOf f.type) fs n
def shB (P:Program):Nat->TypeId->Bool
 |0,_=>false
 |n+1,t=>match P.underlying t with
  |some .bool=>Nat.beq (P.cellsOf t) 1
  |some (.int _)=>Nat.beq (P.cellsOf t) 1
  |some .string=>Nat.beq (P.cellsOf t) 1
  |some (.slice e)=>Nat.beq (P.cellsOf t) 1&&(Nat.blt 0 (P.cellsOf e)&&shB P n e)
  |some (.struct fs)=>contig P 0 fs.toList (P.cellsOf t)&&fs.toList.all fun f=>shB P n f.type
  |some (.array m e)=>Nat.beq (P.cellsOf t) (m*P.cellsOf e)&&shB P n e
  |_=>false
def RdF (R:TypeId->List AV->Prop):List Field->List AV->Prop
 |[],as=>as=[]
 |f::fs,as=>∃ ds rest,as=ds++rest/\R f.type ds/\RdF R fs rest
def RdC (P:Program):Nat->TypeId->List AV->Prop
 |0,_,_=>False
 |n+1,t,as=>match P.underlying t with
  |some .bool=>∃ b,as=[.lit (.bool b)]
  |some (.int k)=>∃ i,as=[.lit (.int k i)]/\(Lit.int k i).wf=true
  |some .string=>∃ s:ByteArray,as=[.lit (.string s)]/\s.size<=maxLen
  |some (.slice e)=>∃ ess:List (List AV),as=[.sl (ess.map (mkV P e))]/\ess.length<=maxLen/\∀ ds∈ess,RdC P n e ds
  |some (.struct fs)=>RdF (fun t=>RdC P n t) fs.toList as
  |some (.array m e)=>∃ ess:List (List AV),ess.length=m/\as=ess.flatten/\∀ ds∈ess,RdC P n e ds
  |_=>False
def CellsR (S:Nat->Prop) (W:World) (as:List AV) (cs:List Value):Prop :=
 as.length=cs.length/\(∀ a∈as,a.oneCell=true)/\∀ (j:Nat) (y:AV) (u:Value),as[j]?=some y->cs[j]?=some u->SRep S W y u
section
variable {S:Nat->Prop} {W:World}
theorem CellsR.one {y:AV} {u:Value} (h1:y.oneCell=true) (h:SRep S W y u):CellsR S W [y] [u]:=by
 refine⟨rfl,by simpa using h1,fun j y' u' hy hu=>?_⟩;cases j with
 |zero=>simp at hy hu; subst hy hu; exact h
 |succ j=>simp at hy
theorem CellsR.nil:CellsR S W [] []:=⟨rfl,by simp,by simp⟩
theorem CellsR.append {as bs:List AV} {cs ds:List Value} (h1:CellsR S W as cs) (h2:CellsR S W bs ds):CellsR S W (as++bs) (cs++ds):=by
 obtain⟨l1,o1,r1⟩:=h1;obtain⟨l2,o2,r2⟩:=h2;refine⟨by simp[l1,l2],fun a ha=>(List.mem_append.1 ha).elim (o1 a) (o2 a),fun j y u hy hu=>?_⟩;by_cases hj:j<as.length
 ·rw[List.getElem?_append_left hj] at hy;rw[List.getElem?_append_left (by omega)] at hu;exact r1 j y u hy hu
 ·rw[List.getElem?_append_right (by omega)] at hy;rw[List.getElem?_append_right (by omega),<- l1] at hu;exact r2 _ y u hy hu
end
section
variable {P:Program} {S:Nat->Prop} {W:World}
theorem shB_one {n:Nat} {t:TypeId} (hs:shB P n t=true) (ha:isAgg P t=false) {as:List AV} (h:RdC P n t as):∃ y,as=[y]/\y.cells=[y]/\y.oneCell=true:=by
 cases n with
 |zero=>cases hs
 |succ n =>
  simp only[RdC] at h;simp only[isAgg] at ha;split at h
  ·obtain⟨b,rfl⟩:=h; exact⟨_,rfl,rfl,rfl⟩
  ·obtain⟨i,rfl,_⟩:=h; exact⟨_,rfl,rfl,rfl⟩
  ·obtain⟨s,rfl,_⟩:=h; exact⟨_,rfl,rfl,rfl⟩
  ·obtain⟨ess,rfl,_⟩:=h; exact⟨_,rfl,rfl,rfl⟩
  ·rename_i e; rw[e] at ha; cases ha
  ·rename_i e; rw[e] at ha; cases ha
  ·exact h.elim
theorem mkV_cells {n:Nat} {t:TypeId} (hs:shB P n t=true) {as:List AV} (h:RdC P n t as):(mkV P t as).cells=as:=by
 unfold mkV;cases ha:isAgg P t with
 |true=>rfl
 |false =>
  obtain⟨y,rfl,h1,_⟩:=shB_one hs ha h;exact h1
theorem fields_read {R:TypeId->List AV->Prop} {cs:List Value} {N:Nat} (hN:cs.length=N):∀ (fs:List Field) (o:Nat),contig P o fs N=true ->
  (∀ f∈fs,∃ as,R f.type as/\CellsR S W as ((cs.drop f.offset).take (P.cellsOf f.type)))->∃ as,RdF R fs as/\CellsR S W as (cs.drop o)
 |[],o,h,_=>by
  have:=Nat.eq_of_beq_eq_true h;refine⟨[],rfl,?_⟩;rw[List.drop_eq_nil_of_le (by omega)];exact .nil
 |f::fs,o,h,hf=>by
  simp only[contig,Bool.and_eq_true] at h;have ho:=Nat.eq_of_beq_eq_true h.1;obtain⟨ds,h1,h2⟩:=hf f (by simp);obtain⟨rest,h3,h4⟩:=fields_read hN fs (o+P.cellsOf f.type) h.2 fun g hg=>hf g (by simp[hg])
  refine⟨ds++rest,⟨ds,rest,rfl,h1,h3⟩,?_⟩;have e:cs.drop o=(cs.drop o).take (P.cellsOf f.type)++cs.drop (o+P.cellsOf f.type):=by
   rw[<- List.drop_drop,List.take_append_drop]
  rw[e];rw[ho] at h2;exact h2.append h4
theorem array_read {R:List AV->Prop} {cs:List Value} {k m:Nat} (h:∀ i,i<m->∃ as,R as/\CellsR S W as ((cs.drop (i*k)).take k)) :
  ∀ m',m'<=m->∃ ess:List (List AV),ess.length=m'/\(∀ ds∈ess,R ds)/\CellsR S W ess.flatten (cs.take (m'*k))
 |0,_=>⟨[],rfl,by simp,by simpa using CellsR.nil⟩
 |m'+1,hm=>by
  obtain⟨ess,h1,h2,h3⟩:=array_read h m' (by omega);obtain⟨as,h4,h5⟩:=h m' (by omega);refine⟨ess++[as],by simp[h1],fun ds hd=>?_,?_⟩
  ·rcases List.mem_append.1 hd with hd | hd
   ·exact h2 ds hd
   ·simp at hd; subst hd; exact h4
  ·have e:cs.take ((m'+1)*k)=cs.take (m'*k)++(cs.drop (m'*k)).take k:=by
    rw[Nat.add_mul,Nat.one_mul,List.take_add]
   rw[e];simp only[List.flatten_append,List.flatten_cons,List.flatten_nil,List.append_nil];exact h3.append h5
variable {H:Type} {enc:TypeId×Value->H}
theorem read_cells:∀ (n:Nat) (t:TypeId),shB P n t=true->∀ (fuel:Nat) (cs:List Value) (x:DataW H×List MemPlace),DataW.trod enc P W 0 (fun _=>true) true fuel t cs=some x ->
  ∃ as,RdC P n t as/\CellsR (fun b=>b<W.heap.size) W as cs/\cs.length=P.cellsOf t
 |0,t,hs,_,_,_,_=>by cases hs
 |n+1,t,hs,fuel,cs,x,h=>by
  simp only[shB] at hs;simp only[RdC];split at hs
  ·rename_i ht;obtain⟨b,rfl,_⟩:=DataW.trod_bool ht h;exact⟨_,⟨b,rfl⟩,.one rfl (.lit _),(Nat.eq_of_beq_eq_true hs).symm⟩
  ·rename_i k ht;obtain⟨i,rfl,_,hw⟩:=DataW.trod_int ht h;exact⟨_,⟨i,rfl,hw⟩,.one rfl (.lit _),(Nat.eq_of_beq_eq_true hs).symm⟩
  ·rename_i ht;obtain⟨s,rfl,_,hw⟩:=DataW.trod_string ht h;exact⟨_,⟨s,rfl,hw⟩,.one rfl (.lit _),(Nat.eq_of_beq_eq_true hs).symm⟩
  ·rename_i e ht;simp only[Bool.and_eq_true] at hs;obtain⟨hs1,hs2,hs3⟩:=hs;have hs1:=Nat.eq_of_beq_eq_true hs1;have hk:0<P.cellsOf e:=Nat.le_of_ble_eq_true hs2;rcases Go.Deep.open_slice ht h with ⟨rfl,_⟩ | ⟨a,len,cap,m,n',D,Pl,rfl,_,hl,hm,hmm,_,hel⟩
   ·exact⟨_,⟨[],rfl,Nat.zero_le _,by simp⟩,.one rfl .slnil,hs1.symm⟩
   simp only[if_true] at hmm;subst hmm;have hel:∀ i,i<m->∃ cs' as,W.cells? 0 (a.add (i*P.cellsOf e)) (P.cellsOf e)=some cs'/\RdC P n e as/\CellsR (fun b=>b<W.heap.size) W as cs'/\cs'.length=P.cellsOf e:=fun i hi=>by
    obtain⟨cs',h1,h2⟩:=hel i hi;obtain⟨as,h3,h4,h5⟩:=read_cells n e hs3 _ _ _ h2;exact⟨cs',as,h1,h3,h4,h5⟩
   by_cases hm0:m=0
   ·subst hm0;obtain rfl:len=0:=by omega
    exact⟨_,⟨[],rfl,Nat.zero_le _,by simp⟩,.one rfl (.sle a),hs1.symm⟩
   obtain⟨b,off,spot⟩:=a;have hspot:spot=none/\b<W.heap.size:=by
    obtain⟨cs',as,h1,_,_,h5⟩:=hel 0 (by omega);obtain⟨_,_,hc⟩:=World.cells?_some h1;have hc:=hc 0 hk;rw[List.getElem?_eq_getElem (by omega)] at hc;refine⟨by simpa [Addr.add] using World.cell?_spot hc,?_⟩;unfold World.cell? at hc;split at hc
    ·rename_i hh;simpa [Addr.add] using (Array.getElem?_eq_some_iff.1 hh).1
    ·cases hc
   obtain⟨rfl,hb⟩:=hspot;have hel':∀ i,∃ q:List Value×List AV,i<m->W.cells? 0 ((⟨b,off,none⟩:Addr).add (i*P.cellsOf e)) (P.cellsOf e)=some q.1/\RdC P n e q.2/\CellsR (fun b=>b<W.heap.size) W q.2 q.1/\q.1.length=P.cellsOf e:=fun i=>by
    by_cases hi:i<m
    ·obtain⟨cs',as,h1⟩:=hel i hi;exact⟨(cs',as),fun _=>h1⟩
    ·exact⟨([],[]),fun h=>absurd h hi⟩
   let F:Nat->List Value×List AV:=fun i=>Classical.choose (hel' i)
   have hF:∀ i,i<m->W.cells? 0 ((⟨b,off,none⟩:Addr).add (i*P.cellsOf e)) (P.cellsOf e)=some (F i).1/\RdC P n e (F i).2/\CellsR (fun b=>b<W.heap.size) W (F i).2 (F i).1/\(F i).1.length=P.cellsOf e:=fun i=>Classical.choose_spec (hel' i)
   have hget:∀ (i:Nat) (y:AV),(((List.range len).map fun i=>(F i).2).map (mkV P e))[i]?=some y->i<len/\y=mkV P e (F i).2/\y.cells=(F i).2:=fun i y hy=>by
    have hi:i<len:=by
     have:=(List.getElem?_eq_some_iff.1 hy).1;simpa using this
    simp[hi] at hy;subst hy;exact⟨hi,rfl,mkV_cells hs3 (hF i (by omega)).2.1⟩
   refine⟨_,⟨(List.range len).map fun i=>(F i).2,rfl,by simp; omega,fun ds hd=>?_⟩,.one rfl (.sl _ b off len m (P.cellsOf e) (fun i j=>((F i).1).getD j default) (by simp) hl hb ?_ ?_ ?_),hs1.symm⟩
   ·obtain⟨i,hi,rfl⟩:=List.mem_map.1 hd;exact (hF i (by have:=List.mem_range.1 hi; omega)).2.1
   ·intro i y hy;obtain⟨hi,_,hc⟩:=hget i y hy;obtain⟨_,_,⟨h3,h4,_⟩,h5⟩:=hF i (by omega);unfold elB;rw[hc,Bool.and_eq_true,List.all_eq_true];exact⟨by rw[h3,h5]; exact Nat.beq_refl _,h4⟩
   ·intro i y j z hy hz;obtain⟨hi,_,hc⟩:=hget i y hy;obtain⟨h1,_,⟨h3,h4,h6⟩,h5⟩:=hF i (by omega);rw[hc] at hz;have hj:j<P.cellsOf e:=by
     have:=(List.getElem?_eq_some_iff.1 hz).1;omega
    obtain⟨_,_,hcell⟩:=World.cells?_some h1;have:=hcell j hj;rw[List.getElem?_eq_getElem (by omega)] at this;simp only[List.getD,List.getElem?_eq_getElem (show j<(F i).1.length by omega),Option.getD_some];rw[<- this];congr 1;unfold Addr.add;split <;> split <;> simp_all <;> omega
   ·intro i y j z hy hz;obtain⟨hi,_,hc⟩:=hget i y hy;obtain⟨h1,_,⟨h3,h4,h6⟩,h5⟩:=hF i (by omega);rw[hc] at hz;have hj:j<P.cellsOf e:=by
     have:=(List.getElem?_eq_some_iff.1 hz).1;omega
    refine h6 j z _ hz ?_;simp only[List.getD,List.getElem?_eq_getElem (show j<(F i).1.length by omega),Option.getD_some]
  ·rename_i fs ht;simp only[Bool.and_eq_true,List.all_eq_true] at hs;obtain⟨xs,n',rfl,_,hl,hxs,hf⟩:=DataW.trod_struct ht h;obtain⟨as,h1,h2⟩:=fields_read (P:=P) (S:=fun b=>b<W.heap.size) (W:=W) (R:=fun t=>RdC P n t) hl fs.toList 0 hs.1 fun f hmem=>by
    obtain⟨i,hi,rfl⟩:=List.mem_iff_getElem.1 hmem;have hi':i<fs.size:=by simpa using hi
    have:=hf i fs[i] (by simp[hi']);rw[List.getElem?_eq_getElem (by omega)] at this;obtain⟨as,h3,h4,_⟩:=read_cells n _ (hs.2 _ hmem) _ _ _ this;exact⟨as,h3,h4⟩
   exact⟨as,h1,by simpa using h2,hl⟩
  ·rename_i m e ht;simp only[Bool.and_eq_true] at hs;have hsz:=Nat.eq_of_beq_eq_true hs.1;obtain⟨xs,n',rfl,_,hl,hxs,hf⟩:=DataW.trod_array ht h;obtain⟨ess,h1,h2,h3⟩:=array_read (S:=fun b=>b<W.heap.size) (W:=W) (R:=fun as=>RdC P n e as) (cs:=cs) (k:=P.cellsOf e) (m:=m) (fun i hi=>by
    have:=hf i hi;rw[List.getElem?_eq_getElem (by omega)] at this;obtain⟨as,h3,h4,_⟩:=read_cells n _ hs.2 _ _ _ this;exact⟨as,h3,h4⟩) m (Nat.le_refl _)
   rw[List.take_of_length_le (by omega)] at h3;exact⟨_,⟨ess,h1,rfl,h2⟩,h3,hl⟩
  ·cases hs
theorem rdc_int {n:Nat} {t:TypeId} {k:IntKind} {cs:List AV} (ht:P.underlying t=some (.int k)) (h:RdC P (n+1) t cs):∃ i,cs=[.lit (.int k i)]/\(Lit.int k i).wf=true:=by
 simp only[RdC,ht] at h;exact h
theorem rdc_bool {n:Nat} {t:TypeId} {cs:List AV} (ht:P.underlying t=some .bool) (h:RdC P (n+1) t cs):∃ b,cs=[.lit (.bool b)]:=by
 simp only[RdC,ht] at h;exact h
theorem rdc_slice {n:Nat} {t e:TypeId} {cs:List AV} (ht:P.underlying t=some (.slice e)) (h:RdC P (n+1) t cs):∃ ess:List (List AV),cs=[.sl (ess.map (mkV P e))]/\ess.length<=maxLen/\∀ ds∈ess,RdC P n e ds:=by
 simp only[RdC,ht] at h;exact h
theorem rdc_struct {n:Nat} {t:TypeId} {fs:Array Field} {cs:List AV} (ht:P.underlying t=some (.struct fs)) (h:RdC P (n+1) t cs):RdF (fun t=>RdC P n t) fs.toList cs:=by
 simp only[RdC,ht] at h;exact h
theorem isAgg_slice {t e:TypeId} (ht:P.underlying t=some (.slice e)):isAgg P t=false:=by unfold isAgg; rw[ht]
theorem isAgg_int {t:TypeId} {k:IntKind} (ht:P.underlying t=some (.int k)):isAgg P t=false:=by unfold isAgg; rw[ht]
theorem isAgg_struct {t:TypeId} {fs:Array Field} (ht:P.underlying t=some (.struct fs)):isAgg P t=true:=by unfold isAgg; rw[ht]
theorem mkV_one {t:TypeId} (h:isAgg P t=false) (a:AV):mkV P t [a]=a:=by
 unfold mkV;rw[h];rfl
theorem mkV_agg {t:TypeId} (h:isAgg P t=true) (cs:List AV):mkV P t cs=.agg cs:=by
 unfold mkV;rw[h]
theorem read_arg {n:Nat} {t:TypeId} {v:Value} {d:DataW H} {p:List MemPlace} {r:Reach} {base:Nat} (hs:shB P n t=true) (hv:Value.okWide P W r base t v) (h:DataW.Trod enc P W 0 (fun _=>true) true t v d p) :
  ∃ as,RdC P n t as/\SRep (fun b=>b<W.heap.size) W (mkV P t as) v:=by
 obtain⟨fuel,h⟩:=h;obtain⟨as,h1,h2,h3⟩:=read_cells n t hs fuel _ _ h;refine⟨as,h1,?_⟩;unfold mkV;cases ha:isAgg P t with
 |true =>
  have:∃ cs,v=.agg cs:=by
   unfold isAgg at ha;unfold Value.okWide at hv;split at ha
   ·rename_i e; rw[e] at hv; exact⟨_,hv.choose_spec.1⟩
   ·rename_i e; rw[e] at hv; exact⟨_,hv.choose_spec.1⟩
   ·cases ha
  obtain⟨cs,rfl⟩:=this;exact .agg as cs (by simpa [Value.cells] using h2.1) fun j x u hx hu=>h2.2.2 j x u hx (by simpa [Value.cells] using hu)
 |false =>
  obtain⟨y,rfl,_,_⟩:=shB_one hs ha h1;have hc:v.cells=#[v]:=by
   cases v <;> first
    |rfl
    |exact by
      exfalso;cases n with
      |zero=>cases hs
      |succ n =>
       simp only[shB] at hs;unfold Value.okWide at hv;unfold isAgg at ha;split at hs <;> first
        |(rename_i e; rw[e] at ha; exact absurd (show true=false from ha) (by decide))
        |(rename_i e; rw[e] at hv; simp[Cell.okWide,Cell.ok,e] at hv; done)
        |exact absurd hs (by decide)
  rw[hc] at h2;exact h2.2.2 0 y v rfl rfl
def RdArgs (P:Program) (n:Nat):List TypeId->List AV->Prop
 |[],[]=>True
 |t::ts,a::as=>(∃ cs,RdC P n t cs/\a=mkV P t cs)/\RdArgs P n ts as
 |_,_=>False
theorem read_all {n:Nat} {r:Reach} {base:Nat}:∀ {ts:List TypeId} {vs:List Value} {ds:List (DataW H)} {ps:List MemPlace},DataW.TrodAll enc P W 0 (fun _=>true) true ts vs ds ps ->
  (∀ (j:Nat) t v,ts[j]?=some t->vs[j]?=some v->Value.okWide P W r base t v)->(∀ t∈ts,shB P n t=true)->∃ avs,RdArgs P n ts avs/\SRepL (fun b=>b<W.heap.size) W avs vs
 |[],[],[],_,_,_,_=>⟨[],trivial,rfl,by simp⟩
 |t::ts,v::vs,d::ds,ps,h,hv,hs=>by
  obtain⟨p,q,h1,h2,_⟩:=h;obtain⟨as,g1,g2⟩:=read_arg (hs t (by simp)) (hv 0 t v rfl rfl) h1;obtain⟨avs,g3,g4,g5⟩:=read_all h2 (fun j t v ht hv'=>hv (j+1) t v (by simpa using ht) (by simpa using hv')) fun t ht=>hs t (by simp[ht])
  refine⟨mkV P t as::avs,⟨⟨as,g1,rfl⟩,g3⟩,by simp[g4],fun j x u hx hu=>?_⟩;cases j with
  |zero=>simp at hx hu; subst hx hu; exact g2
  |succ j=>exact g5 j x u (by simpa using hx) (by simpa using hu)
 |[],[],_::_,_,h,_,_=>h.elim
 |[],_::_,_,_,h,_,_=>h.elim
 |_::_,[],_,_,h,_,_=>h.elim
 |_::_,_::_,[],_,h,_,_=>h.elim
end
attribute [irreducible] RdC
end
section
open Go Go.RowKit Go.ChangeShapes
section
variable {P:Program} {H:Type} {enc:TypeId×Value->H}
theorem trodAll_below {W W':World} (hl:laidOutB P=true) (hb:Below W.heap.size W W'):∀ {ts:List TypeId} {vs:List Value} {ds:List (DataW H)} {ps:List MemPlace},DataW.TrodAll enc P W 0 (fun _=>true) true ts vs ds ps ->
  (∀ x∈ps,x.block<W.heap.size)->(∀ t∈ts,P.readableRec t=true/\t<P.types.size)->DataW.TrodAll enc P W' 0 (fun b=>decide (b<W.heap.size)) true ts vs ds ps
 |[],[],[],_,h,_,_=>h
 |t::ts,v::vs,d::ds,ps,h,hlt,hr=>by
  obtain⟨p,q,h1,h2,rfl⟩:=h;exact⟨p,q,Below.trod hl (hr t (by simp)).1 (hr t (by simp)).2 h1 hb (fun x hx=>hlt x (by simp[hx])),trodAll_below hl hb h2 (fun x hx=>hlt x (by simp[hx])) (fun t ht=>hr t (by simp[ht])),rfl⟩
 |[],[],_::_,_,h,_,_=>h.elim
 |[],_::_,_,_,h,_,_=>h.elim
 |_::_,[],_,_,h,_,_=>h.elim
 |_::_,_::_,[],_,h,_,_=>h.elim
theorem trodAll_len {W:World} {sp:Nat->Bool}:∀ {ts:List TypeId} {vs:List Value} {ds:List (DataW H)} {ps:List MemPlace},DataW.TrodAll enc P W 0 sp true ts vs ds ps->ds.length=ts.length
 |[],[],[],_,_=>rfl
 |t::ts,v::vs,d::ds,ps,h=>by
  obtain⟨p,q,h1,h2,rfl⟩:=h;simp[trodAll_len h2]
 |[],[],_::_,_,h=>h.elim
 |[],_::_,_,_,h=>h.elim
 |_::_,[],_,_,h=>h.elim
 |_::_,_::_,[],_,h=>h.elim
def inB (P:Program) (n:Nat) (ts:List TypeId):Bool:=ts.all fun t=>shB P n t&&(P.readableRec t&&Nat.blt t P.types.size)
variable [Gl]
theorem bridge {f:FuncId} {fn:Func} {s:ChangeSpec} {n:Nat} {tb:TypeId} (hl:laidOutB P=true) (hin:inB P n fn.params.toList=true) (hsv:s.vars=[])
  (hsf:∀ ds:List (DataW H),ds.length=fn.params.toList.length->s.fn H ds={ results:=[.lit (.bool true)],args:=ds })
  (hres:fn.resultTypes=#[tb]) (hb:P.underlying tb=some .bool)
  (hC:∀ avs,RdArgs P n fn.params.toList avs->ACalls P f avs (.lit (.bool true)))
  {W:World} {base:Nat} {args:Array Value} {ds gs:List (DataW H)} {before:List MemPlace}
  (hval:∀ (j:Nat) t v,fn.params[j]?=some t->args[j]?=some v->Value.okWide P W .any base t v)
  (hW:DataW.Whole enc P fn.params.toList s.vars false W args.toList ds gs before) (hG:GOk (fun b=>b<W.heap.size) W) :
  Calls P f args W fun e W'=>∃ v,e=.returned v/\s.post enc P fn false true false false W args v W':=by
 have hW':=hW;obtain⟨p,q,hA,hV,rfl,hfz,hnd⟩:=hW;rw[hsv] at hV;obtain⟨rfl,rfl⟩:=trodVars_none hV;have hin':∀ t∈fn.params.toList,shB P n t=true/\P.readableRec t=true/\t<P.types.size:=fun t ht=>by
  have:=List.all_eq_true.1 hin t ht;simp only[Bool.and_eq_true] at this;exact⟨this.1,this.2.1,Nat.le_of_ble_eq_true this.2.2⟩
 obtain⟨avs,h1,h2⟩:=read_all hA (fun j t v ht hv=>hval j t v (by simpa using ht) (by simpa using hv)) fun t ht=>(hin' t ht).1
 have hc:=(hC avs h1).2 _ W args.toList (fun b h=>h) hG h2;rw[Array.toArray_toList] at hc;simp only[List.append_nil] at hW';have hlt:∀ x∈p,x.block<W.heap.size:=fun x hx=>by simpa using hW'.lt x hx
 refine hc.mono fun e W' ⟨v,S',he,hB,_,_,_,hv⟩=>?_
 cases hv;refine⟨_,he,ds,[],p,[],p,[],hW',?_,?_,?_,hB.frame _,fun h=>by cases h⟩
 ·rw[List.append_nil,hsf ds (trodAll_len hA),hres];exact trodAll_mk1 (shut_bool hb true)
 ·rw[List.append_nil,hsf ds (trodAll_len hA)];exact trodAll_below hl hB hA hlt fun t ht=>(hin' t ht).2
 ·rw[List.append_nil,hsf ds (trodAll_len hA),hsv];rfl
end
end
end Go.Proofs.YtjdkdcmpifapeaaGreatDoor.Abs
