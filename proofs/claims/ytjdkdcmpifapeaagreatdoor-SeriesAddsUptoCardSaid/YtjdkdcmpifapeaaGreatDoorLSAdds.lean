/- SeriesAdds: for every input the law returns true where what comes in is of bulk at most 1048576, and each argument reads afterwards as it read before. Conditions: the listed variables of the library hold what their text lays (tied by the card). -/
import Derived.Test.YtjdkdcmpifapeaaGreatDoorMd
import Derived.Test.YtjdkdcmpifapeaaGreatDoorRows
import Derived.Test.YtjdkdcmpifapeaaGreatDoorMw
import Derived.Test.YtjdkdcmpifapeaaGreatDoorNf
import Derived.Test.YtjdkdcmpifapeaaGreatDoorMn
set_option linter.unusedVariables false
set_option linter.unusedSectionVars false
set_option linter.unusedSimpArgs false
namespace Go.Proofs.YtjdkdcmpifapeaaGreatDoor.Abs
open Go Go.RowKit Go.ChangeShapes
def RdU (M:Nat) (P:Program):Nat->TypeId->List AV->Prop
 |0,_,_=>False
 |n+1,t,aq=>match P.underlying t with
  |some .bool=>∃ b,aq=[.lit (.bool b)]
  |some (.int k)=>∃ i,aq=[.lit (.int k i)]/\(Lit.int k i).wf=true
  |some .string=>∃ s:ByteArray,aq=[.lit (.string s)]/\s.size<=maxLen
  |some (.slice e)=>∃ ess:List (List AV),aq=[.sl (ess.map (mkV P e))]/\(ess.length<=M/\ess.length<=maxLen)/\∀ ds∈ess,RdU M P n e ds
  |some (.struct fs)=>RdF (fun t=>RdU M P n t) fs.toList aq
  |some (.array m e)=>∃ ess:List (List AV),ess.length=m/\aq=ess.flatten/\∀ ds∈ess,RdU M P n e ds
  |_=>False
theorem RdF.mono {R R':TypeId->List AV->Prop}:∀ {fs:List Field} {aq:List AV},(∀ f∈fs,∀ aq,R f.type aq->R' f.type aq)->RdF R fs aq->RdF R' fs aq
 |[],_,_,h=>h
 |f::fs,aq,g,h=>by
  obtain⟨ds,rest,e,h1,h2⟩:=h;exact⟨ds,rest,e,g f (by simp) _ h1,RdF.mono (fun f hf=>g f (by simp[hf])) h2⟩
theorem RdU.rd {M:Nat} {P:Program}:∀ {n:Nat} {t:TypeId} {aq:List AV},RdU M P n t aq->RdC P n t aq
 |0,_,_,h=>h.elim
 |n+1,t,aq,h=>by
  unfold RdC;simp only[RdU] at h;split at h
  ·simp_all
  ·simp_all
  ·simp_all
  ·rename_i e ht;obtain⟨ess,h1,h2,h3⟩:=h;simp only[ht];exact⟨ess,h1,h2.2,fun ds hd=>(h3 ds hd).rd⟩
  ·rename_i fs ht;simp only[ht];exact RdF.mono (fun f _ aq h=>h.rd) h
  ·rename_i m e ht;obtain⟨ess,h1,h2,h3⟩:=h;simp only[ht];exact⟨ess,h1,h2,fun ds hd=>(h3 ds hd).rd⟩
  ·exact h.elim
theorem blk_mem {H:Type}:∀ {l:List (DataW H)} {d:DataW H},d∈l->Rows.uptoBulk d<=Rows.uptoBulkAll l
 |x::l,d,h=>by
  unfold Rows.uptoBulkAll;rcases List.mem_cons.1 h with rfl | h
  ·omega
  ·have:=blk_mem h;omega
theorem blk_pos {H:Type} (d:DataW H):1<=Rows.uptoBulk d:=by
 cases d <;> unfold Rows.uptoBulk <;> first | omega | (split <;> omega) | skip
theorem blk_len {H:Type}:∀ l:List (DataW H),l.length<=Rows.uptoBulkAll l
 |[]=>Nat.zero_le _
 |x::l=>by
  unfold Rows.uptoBulkAll;have:=blk_len l;have:=blk_pos x;simp only[List.length_cons];omega
theorem blk_app {H:Type}:∀ a b:List (DataW H),Rows.uptoBulkAll a<=Rows.uptoBulkAll (a++b)
 |[],b=>by unfold Rows.uptoBulkAll; exact Nat.zero_le _
 |x::a,b=>by
  have:=blk_app a b;rw[List.cons_append];unfold Rows.uptoBulkAll;omega
theorem blk_upto {H:Type} {a b:List (DataW H)} (h:Rows.uptoSmall H (a++b)=true):Rows.uptoBulkAll a<=1048576:=by
 have h:decide (Rows.uptoBulkAll (a++b)<=1048576)=true:=h;exact Nat.le_trans (blk_app a b) (of_decide_eq_true h)
section
variable {P:Program} {S:Nat->Prop} {W:World}
variable {H:Type} {enc:TypeId×Value->H}
theorem shU_one {M n:Nat} {t:TypeId} (hs:shB P n t=true) (ha:isAgg P t=false) {aq:List AV} (h:RdU M P n t aq):∃ y,aq=[y]/\y.cells=[y]/\y.oneCell=true:=by
 cases n with
 |zero=>cases hs
 |succ n =>
  simp only[RdU] at h;simp only[isAgg] at ha;split at h
  ·obtain⟨b,rfl⟩:=h; exact⟨_,rfl,rfl,rfl⟩
  ·obtain⟨i,rfl,_⟩:=h; exact⟨_,rfl,rfl,rfl⟩
  ·obtain⟨s,rfl,_⟩:=h; exact⟨_,rfl,rfl,rfl⟩
  ·obtain⟨ess,rfl,_⟩:=h; exact⟨_,rfl,rfl,rfl⟩
  ·rename_i e; rw[e] at ha; cases ha
  ·rename_i e; rw[e] at ha; cases ha
  ·exact h.elim
theorem mkU_cells {M n:Nat} {t:TypeId} (hs:shB P n t=true) {aq:List AV} (h:RdU M P n t aq):(mkV P t aq).cells=aq:=by
 unfold mkV;cases ha:isAgg P t with
 |true=>rfl
 |false =>
  obtain⟨y,rfl,h1,_⟩:=shU_one hs ha h;exact h1
theorem read_cellsU {M:Nat}:∀ (n:Nat) (t:TypeId),shB P n t=true->∀ (fuel:Nat) (cs:List Value) (x:DataW H×List MemPlace),DataW.trod enc P W 0 (fun _=>true) true fuel t cs=some x->Rows.uptoBulk x.1<=M ->
  ∃ aq,RdU M P n t aq/\CellsR (fun b=>b<W.heap.size) W aq cs/\cs.length=P.cellsOf t
 |0,t,hs,_,_,_,_,_=>by cases hs
 |n+1,t,hs,fuel,cs,x,h,hM=>by
  simp only[shB] at hs;simp only[RdU];split at hs
  ·rename_i ht;simp only[ht];obtain⟨b,rfl,_⟩:=DataW.trod_bool ht h;exact⟨_,⟨b,rfl⟩,.one rfl (.lit _),(Nat.eq_of_beq_eq_true hs).symm⟩
  ·rename_i k ht;simp only[ht];obtain⟨i,rfl,_,hw⟩:=DataW.trod_int ht h;exact⟨_,⟨i,rfl,hw⟩,.one rfl (.lit _),(Nat.eq_of_beq_eq_true hs).symm⟩
  ·rename_i ht;simp only[ht];obtain⟨s,rfl,_,hw⟩:=DataW.trod_string ht h;exact⟨_,⟨s,rfl,hw⟩,.one rfl (.lit _),(Nat.eq_of_beq_eq_true hs).symm⟩
  ·rename_i e ht;simp only[ht];simp only[Bool.and_eq_true] at hs;obtain⟨hs1,hs2,hs3⟩:=hs;have hs1:=Nat.eq_of_beq_eq_true hs1;have hk:0<P.cellsOf e:=Nat.le_of_ble_eq_true hs2;rcases Go.Deep.open_slice ht h with ⟨rfl,_⟩ | ⟨a,len,cap,m,n',D,Pl,rfl,_,hl,hm,hmm,rfl,hel⟩
   ·exact⟨_,⟨[],rfl,⟨Nat.zero_le _,Nat.zero_le _⟩,by simp⟩,.one rfl .slnil,hs1.symm⟩
   simp only[if_true] at hmm;subst hmm;have hM:Rows.uptoBulkAll ((List.range len).map D)+Rows.uptoBulkAll ((List.range (m-len)).map fun j=>D (len+j))+1<=M:=hM;have hlM:len<=M:=by
    have:=blk_len ((List.range len).map D);simp at this;omega
   have hDM:∀ i,i<m->Rows.uptoBulk (D i)<=M:=fun i hi=>by
    by_cases h:i<len
    ·have:=blk_mem (l:=(List.range len).map D) (d:=D i) (List.mem_map.2 ⟨i,List.mem_range.2 h,rfl⟩);omega
    ·have:=blk_mem (l:=(List.range (m-len)).map fun j=>D (len+j)) (d:=D i) (List.mem_map.2 ⟨i-len,List.mem_range.2 (by omega),by rw[show len+(i-len)=i by omega]⟩);omega
   have hel:∀ i,i<m->∃ cs' aq,W.cells? 0 (a.add (i*P.cellsOf e)) (P.cellsOf e)=some cs'/\RdU M P n e aq/\CellsR (fun b=>b<W.heap.size) W aq cs'/\cs'.length=P.cellsOf e:=fun i hi=>by
    obtain⟨cs',h1,h2⟩:=hel i hi;obtain⟨aq,h3,h4,h5⟩:=read_cellsU n e hs3 _ _ _ h2 (hDM i hi);exact⟨cs',aq,h1,h3,h4,h5⟩
   by_cases hm0:m=0
   ·subst hm0;obtain rfl:len=0:=by omega
    exact⟨_,⟨[],rfl,⟨Nat.zero_le _,Nat.zero_le _⟩,by simp⟩,.one rfl (.sle a),hs1.symm⟩
   obtain⟨b,off,spot⟩:=a;have hspot:spot=none/\b<W.heap.size:=by
    obtain⟨cs',aq,h1,_,_,h5⟩:=hel 0 (by omega);obtain⟨_,_,hc⟩:=World.cells?_some h1;have hc:=hc 0 hk;rw[List.getElem?_eq_getElem (by omega)] at hc;refine⟨by simpa [Addr.add] using World.cell?_spot hc,?_⟩;unfold World.cell? at hc;split at hc
    ·rename_i hh;simpa [Addr.add] using (Array.getElem?_eq_some_iff.1 hh).1
    ·cases hc
   obtain⟨rfl,hb⟩:=hspot;have hel':∀ i,∃ q:List Value×List AV,i<m->W.cells? 0 ((⟨b,off,none⟩:Addr).add (i*P.cellsOf e)) (P.cellsOf e)=some q.1/\RdU M P n e q.2/\CellsR (fun b=>b<W.heap.size) W q.2 q.1/\q.1.length=P.cellsOf e:=fun i=>by
    by_cases hi:i<m
    ·obtain⟨cs',aq,h1⟩:=hel i hi;exact⟨(cs',aq),fun _=>h1⟩
    ·exact⟨([],[]),fun h=>absurd h hi⟩
   let F:Nat->List Value×List AV:=fun i=>Classical.choose (hel' i)
   have hF:∀ i,i<m->W.cells? 0 ((⟨b,off,none⟩:Addr).add (i*P.cellsOf e)) (P.cellsOf e)=some (F i).1/\RdU M P n e (F i).2/\CellsR (fun b=>b<W.heap.size) W (F i).2 (F i).1/\(F i).1.length=P.cellsOf e:=fun i=>Classical.choose_spec (hel' i)
   have hget:∀ (i:Nat) (y:AV),(((List.range len).map fun i=>(F i).2).map (mkV P e))[i]?=some y->i<len/\y=mkV P e (F i).2/\y.cells=(F i).2:=fun i y hy=>by
    have hi:i<len:=by
     have:=(List.getElem?_eq_some_iff.1 hy).1;simpa using this
    simp[hi] at hy;subst hy;exact⟨hi,rfl,mkU_cells hs3 (hF i (by omega)).2.1⟩
   refine⟨_,⟨(List.range len).map fun i=>(F i).2,rfl,by simp; omega,fun ds hd=>?_⟩,.one rfl (.sl _ b off len m (P.cellsOf e) (fun i j=>((F i).1).getD j default) (by simp) hl hb ?_ ?_ ?_),hs1.symm⟩
   ·obtain⟨i,hi,rfl⟩:=List.mem_map.1 hd;exact (hF i (by have:=List.mem_range.1 hi; omega)).2.1
   ·intro i y hy;obtain⟨hi,_,hc⟩:=hget i y hy;obtain⟨_,_,⟨h3,h4,_⟩,h5⟩:=hF i (by omega);unfold elB;rw[hc,Bool.and_eq_true,List.all_eq_true];exact⟨by rw[h3,h5]; exact Nat.beq_refl _,h4⟩
   ·intro i y j z hy hz;obtain⟨hi,_,hc⟩:=hget i y hy;obtain⟨h1,_,⟨h3,h4,h6⟩,h5⟩:=hF i (by omega);rw[hc] at hz;have hj:j<P.cellsOf e:=by
     have:=(List.getElem?_eq_some_iff.1 hz).1;omega
    obtain⟨_,_,hcell⟩:=World.cells?_some h1;have:=hcell j hj;rw[List.getElem?_eq_getElem (by omega)] at this;simp only[List.getD,List.getElem?_eq_getElem (show j<(F i).1.length by omega),Option.getD_some];rw[<- this];congr 1;unfold Addr.add;split <;> split <;> simp_all <;> omega
   ·intro i y j z hy hz;obtain⟨hi,_,hc⟩:=hget i y hy;obtain⟨h1,_,⟨h3,h4,h6⟩,h5⟩:=hF i (by omega);rw[hc] at hz;have hj:j<P.cellsOf e:=by
     have:=(List.getElem?_eq_some_iff.1 hz).1;omega
    refine h6 j z _ hz ?_;simp only[List.getD,List.getElem?_eq_getElem (show j<(F i).1.length by omega),Option.getD_some]
  ·rename_i fs ht;simp only[ht];simp only[Bool.and_eq_true,List.all_eq_true] at hs;obtain⟨xs,n',rfl,rfl,hl,hxs,hf⟩:=DataW.trod_struct ht h;have hM:Rows.uptoBulkAll (xs.map (·.1))+1<=M:=hM;have hX:∀ i (h:i<xs.length),Rows.uptoBulk xs[i].1<=M:=fun i h=>by
    have:=blk_mem (l:=xs.map (·.1)) (d:=xs[i].1) (List.mem_map.2 ⟨xs[i],List.getElem_mem h,rfl⟩);omega
   obtain⟨aq,h1,h2⟩:=fields_read (P:=P) (S:=fun b=>b<W.heap.size) (W:=W) (R:=fun t=>RdU M P n t) hl fs.toList 0 hs.1 fun f hmem=>by
    obtain⟨i,hi,rfl⟩:=List.mem_iff_getElem.1 hmem;have hi':i<fs.size:=by simpa using hi
    have:=hf i fs[i] (by simp[hi']);rw[List.getElem?_eq_getElem (by omega)] at this;obtain⟨aq,h3,h4,_⟩:=read_cellsU n _ (hs.2 _ hmem) _ _ _ this (hX i (by omega));exact⟨aq,h3,h4⟩
   exact⟨aq,h1,by simpa using h2,hl⟩
  ·rename_i m e ht;simp only[ht];simp only[Bool.and_eq_true] at hs;have hsz:=Nat.eq_of_beq_eq_true hs.1;obtain⟨xs,n',rfl,rfl,hl,hxs,hf⟩:=DataW.trod_array ht h;have hM:Rows.uptoBulkAll (xs.map (·.1))+1<=M:=hM;have hX:∀ i (h:i<xs.length),Rows.uptoBulk xs[i].1<=M:=fun i h=>by
    have:=blk_mem (l:=xs.map (·.1)) (d:=xs[i].1) (List.mem_map.2 ⟨xs[i],List.getElem_mem h,rfl⟩);omega
   obtain⟨ess,h1,h2,h3⟩:=array_read (S:=fun b=>b<W.heap.size) (W:=W) (R:=fun aq=>RdU M P n e aq) (cs:=cs) (k:=P.cellsOf e) (m:=m) (fun i hi=>by
    have:=hf i hi;rw[List.getElem?_eq_getElem (by omega)] at this;obtain⟨aq,h3,h4,_⟩:=read_cellsU n _ hs.2 _ _ _ this (hX i (by omega));exact⟨aq,h3,h4⟩) m (Nat.le_refl _)
   rw[List.take_of_length_le (by omega)] at h3;exact⟨_,⟨ess,h1,rfl,h2⟩,h3,hl⟩
  ·cases hs
theorem read_argU {M n:Nat} {t:TypeId} {v:Value} {d:DataW H} {p:List MemPlace} {r:Reach} {base:Nat} (hs:shB P n t=true) (hv:Value.okWide P W r base t v) (h:DataW.Trod enc P W 0 (fun _=>true) true t v d p) (hM:Rows.uptoBulk d<=M) :
  ∃ aq,RdU M P n t aq/\SRep (fun b=>b<W.heap.size) W (mkV P t aq) v:=by
 obtain⟨fuel,h⟩:=h;obtain⟨aq,h1,h2,h3⟩:=read_cellsU n t hs fuel _ _ h hM;refine⟨aq,h1,?_⟩;unfold mkV;cases ha:isAgg P t with
 |true =>
  have:∃ cs,v=.agg cs:=by
   unfold isAgg at ha;unfold Value.okWide at hv;split at ha
   ·rename_i e; rw[e] at hv; exact⟨_,hv.choose_spec.1⟩
   ·rename_i e; rw[e] at hv; exact⟨_,hv.choose_spec.1⟩
   ·cases ha
  obtain⟨cs,rfl⟩:=this;exact .agg aq cs (by simpa [Value.cells] using h2.1) fun j x u hx hu=>h2.2.2 j x u hx (by simpa [Value.cells] using hu)
 |false =>
  obtain⟨y,rfl,_,_⟩:=shU_one hs ha h1;have hc:v.cells=#[v]:=by
   cases v <;> first
    |rfl
    |exact by
      exfalso;cases n with
      |zero=>cases hs
      |succ n =>
       simp only[shB] at hs;unfold Value.okWide at hv;unfold isAgg at ha;split at hs <;> first
        |(rename_i e; rw[e] at ha; exact absurd (show true=false from ha) (by decide))
        |(rename_i e; rw[e] at hv; simp[Cell.okWide,Cell.ok,e] at hv; done)
        |exact absurd hs (by decide)
  rw[hc] at h2;exact h2.2.2 0 y v rfl rfl
def RdArgsU (M:Nat) (P:Program) (n:Nat):List TypeId->List AV->Prop
 |[],[]=>True
 |t::ts,a::aq=>(∃ cs,RdU M P n t cs/\a=mkV P t cs)/\RdArgsU M P n ts aq
 |_,_=>False
theorem read_allU {M n:Nat} {r:Reach} {base:Nat}:∀ {ts:List TypeId} {vs:List Value} {ds:List (DataW H)} {ps:List MemPlace},DataW.TrodAll enc P W 0 (fun _=>true) true ts vs ds ps ->
  (∀ (j:Nat) t v,ts[j]?=some t->vs[j]?=some v->Value.okWide P W r base t v)->(∀ t∈ts,shB P n t=true)->(∀ d∈ds,Rows.uptoBulk d<=M)->∃ avs,RdArgsU M P n ts avs/\SRepL (fun b=>b<W.heap.size) W avs vs
 |[],[],[],_,_,_,_,_=>⟨[],trivial,rfl,by simp⟩
 |t::ts,v::vs,d::ds,ps,h,hv,hs,hM=>by
  obtain⟨p,q,h1,h2,_⟩:=h;obtain⟨aq,g1,g2⟩:=read_argU (hs t (by simp)) (hv 0 t v rfl rfl) h1 (hM d (by simp));obtain⟨avs,g3,g4,g5⟩:=read_allU h2 (fun j t v ht hv'=>hv (j+1) t v (by simpa using ht) (by simpa using hv')) (fun t ht=>hs t (by simp[ht])) fun d hd=>hM d (by simp[hd])
  refine⟨mkV P t aq::avs,⟨⟨aq,g1,rfl⟩,g3⟩,by simp[g4],fun j x u hx hu=>?_⟩;cases j with
  |zero=>simp at hx hu; subst hx hu; exact g2
  |succ j=>exact g5 j x u (by simpa using hx) (by simpa using hu)
 |[],[],_::_,_,h,_,_,_=>h.elim
 |[],_::_,_,_,h,_,_,_=>h.elim
 |_::_,[],_,_,h,_,_,_=>h.elim
 |_::_,_::_,[],_,h,_,_,_=>h.elim
theorem rdu_slice {M n:Nat} {t e:TypeId} {cs:List AV} (ht:P.underlying t=some (.slice e)) (h:RdU M P (n+1) t cs):∃ ess:List (List AV),cs=[.sl (ess.map (mkV P e))]/\ess.length<=M/\∀ ds∈ess,RdU M P n e ds:=by
 simp only[RdU,ht] at h;obtain⟨ess,h1,h2,h3⟩:=h;exact⟨ess,h1,h2.1,h3⟩
theorem rdu_struct {M n:Nat} {t:TypeId} {fs:Array Field} {cs:List AV} (ht:P.underlying t=some (.struct fs)) (h:RdU M P (n+1) t cs):RdF (fun t=>RdU M P n t) fs.toList cs:=by
 simp only[RdU,ht] at h;exact h
theorem rdu_array {M n m:Nat} {t e:TypeId} {cs:List AV} (ht:P.underlying t=some (.array m e)) (h:RdU M P (n+1) t cs):∃ ess:List (List AV),ess.length=m/\cs=ess.flatten/\∀ ds∈ess,RdU M P n e ds:=by
 simp only[RdU,ht] at h;exact h
theorem RdArgsU.rd {M n:Nat}:∀ {ts:List TypeId} {aq:List AV},RdArgsU M P n ts aq->RdArgs P n ts aq
 |[],[],_=>trivial
 |t::ts,a::aq,h=>by
  obtain⟨⟨cs,h1,h2⟩,h3⟩:=h;exact⟨⟨cs,h1.rd,h2⟩,h3.rd⟩
 |[],_::_,h=>h.elim
 |_::_,[],h=>h.elim
variable [Gl]
theorem bridgeU {M:Nat} {f:FuncId} {fn:Func} {s:ChangeSpec} {n:Nat} {tb:TypeId} (hl:laidOutB P=true) (hin:inB P n fn.params.toList=true) (hsv:s.vars=[])
  (hsf:∀ ds:List (DataW H),ds.length=fn.params.toList.length->s.fn H ds={ results:=[.lit (.bool true)],args:=ds })
  (hres:fn.resultTypes=#[tb]) (hb:P.underlying tb=some .bool)
  (hC:∀ avs,RdArgsU M P n fn.params.toList avs->ACalls P f avs (.lit (.bool true)))
  {W:World} {base:Nat} {args:Array Value} {ds gs:List (DataW H)} {before:List MemPlace}
  (hval:∀ (j:Nat) t v,fn.params[j]?=some t->args[j]?=some v->Value.okWide P W .any base t v)
  (hW:DataW.Whole enc P fn.params.toList s.vars false W args.toList ds gs before) (hM:Rows.uptoBulkAll ds<=M) (hG:GOk (fun b=>b<W.heap.size) W) :
  Calls P f args W fun e W'=>∃ v,e=.returned v/\s.post enc P fn false true false false W args v W':=by
 have hW':=hW;obtain⟨p,q,hA,hV,rfl,hfz,hnd⟩:=hW;rw[hsv] at hV;obtain⟨rfl,rfl⟩:=trodVars_none hV;have hin':∀ t∈fn.params.toList,shB P n t=true/\P.readableRec t=true/\t<P.types.size:=fun t ht=>by
  have:=List.all_eq_true.1 hin t ht;simp only[Bool.and_eq_true] at this;exact⟨this.1,this.2.1,Nat.le_of_ble_eq_true this.2.2⟩
 obtain⟨avs,h1,h2⟩:=read_allU hA (fun j t v ht hv=>hval j t v (by simpa using ht) (by simpa using hv)) (fun t ht=>(hin' t ht).1) fun d hd=>Nat.le_trans (blk_mem hd) hM
 have hc:=(hC avs h1).2 _ W args.toList (fun b h=>h) hG h2;rw[Array.toArray_toList] at hc;simp only[List.append_nil] at hW';have hlt:∀ x∈p,x.block<W.heap.size:=fun x hx=>by simpa using hW'.lt x hx
 refine hc.mono fun e W' ⟨v,S',he,hB,_,_,_,hv⟩=>?_
 cases hv;refine⟨_,he,ds,[],p,[],p,[],hW',?_,?_,?_,hB.frame _,fun h=>by cases h⟩
 ·rw[List.append_nil,hsf ds (trodAll_len hA),hres];exact trodAll_mk1 (shut_bool hb true)
 ·rw[List.append_nil,hsf ds (trodAll_len hA)];exact trodAll_below hl hB hA hlt fun t ht=>(hin' t ht).2
 ·rw[List.append_nil,hsf ds (trodAll_len hA),hsv];rfl
end
attribute [irreducible] RdU
end Go.Proofs.YtjdkdcmpifapeaaGreatDoor.Abs
set_option linter.unusedVariables false
set_option linter.unusedSectionVars false
set_option linter.unusedSimpArgs false
set_option maxHeartbeats 4000000
set_option maxRecDepth 20000
namespace Go.Proofs.YtjdkdcmpifapeaaGreatDoor.Abs
open Go Go.RowKit Go.Proofs.Tryz
theorem c_ofL (l:List Nat):ACalls prog 184 [boo false,lst l] (.agg [boo false,lst l]):=by
 refine conN func184 rfl (by kernel_rfl) ?_;conv=>whnf
 exact fin rfl rfl
theorem c_wNatL (l:List Nat) (h:l.length<=1099511627776):ACalls prog 101 [lst l] (.agg [boo false,lst l]):=by
 refine conN func101 rfl (by kernel_rfl) ?_;conv=>whnf
 refine callS (c_CloneL l h) rfl rfl ?_;conv=>whnf
 refine callS (c_ofL l) rfl rfl ?_;conv=>whnf
 exact fin rfl rfl
theorem c_qDenL (m:Bool) (n d:List Nat) (h:d.length<=1099511627776):ACalls prog 92 [ratL m n d] (.agg [boo false,lst d]):=by
 refine conN func92 rfl (by kernel_rfl) ?_;conv=>whnf
 refine callS (c_wNatL d h) rfl rfl ?_;conv=>whnf
 exact fin rfl rfl
theorem mulL_cases (a b:List Nat):(∃ n,mulL a b=.ok n/\n<Big)\/mulL a b=.error eLimbs:=by
 unfold mulL;split
 ·exact .inl ⟨0,rfl,Big_pos⟩
 ·split
  ·exact .inr rfl
  ·rcases fit_cases (val a*val b) with ⟨h,e⟩ | ⟨h,e⟩
   ·exact .inl ⟨_,e,h⟩
   ·exact .inr e
theorem c_wMulL (m m':Bool) (a b:List Nat) (ha:∀ x∈a,x<B) (hb:∀ x∈b,x<B) (la:a.length<=1099511627776) (lb:b.length<=1099511627776):∃ (z:FZ) (e:Nat),ACalls prog 91 [.agg [boo m,lst a],.agg [boo m',lst b]] (.tup [int z.z,i64 e]):=by
 have C:=c_MulL a b ha hb (by omega) (by omega);rcases mulL_cases a b with ⟨n,h1,h2⟩ | h1
 ·have hz:(sgn (m !=m') n).natAbs<Big:=by
   unfold sgn;split
   ·rw[Int.natAbs_neg]; exact h2
   ·exact h2
  rw[h1] at C;refine⟨⟨sgn (m !=m') n,hz⟩,0,?_⟩;refine conN func91 rfl (by kernel_rfl) ?_;conv=>whnf
  refine callS C rfl rfl ?_;conv=>whnf
  refine⟨trivial,?_⟩;conv=>whnf
  refine callS (c_of (m !=m') n) rfl rfl ?_;conv=>whnf
  exact⟨fin rfl rfl,fin rfl rfl,trivial⟩
 ·rw[h1] at C;refine⟨z0,eLimbs+1,?_⟩;refine conN func91 rfl (by kernel_rfl) ?_;conv=>whnf
  refine callS C rfl rfl ?_;conv=>whnf
  refine⟨trivial,?_⟩;conv=>whnf
  refine callS (c_of (m !=m') 0) rfl rfl ?_;conv=>whnf
  exact⟨fin rfl (congrArg int (by cases (m !=m') <;> rfl)),fin rfl rfl,trivial⟩
theorem c_qAddL (m m':Bool) (n d n' d':List Nat) (h1:∀ x∈n,x<B) (h2:∀ x∈d,x<B) (h3:∀ x∈n',x<B) (h4:∀ x∈d',x<B) (l1:n.length<=1099511627776) (l2:d.length<=1099511627776) (l3:n'.length<=1099511627776) (l4:d'.length<=1099511627776) :
  ∃ (w:FQ) (e:Nat),ACalls prog 29 [ratL m n d,ratL m' n' d'] (.tup [rat w.q,i64 e]):=by
 obtain⟨x1,e1,C1⟩:=c_wMulL m false n d' h1 h4 l1 l4;obtain⟨x2,e2,C2⟩:=c_wMulL m' false n' d h3 h2 l3 l2;obtain⟨x3,e3,C3⟩:=c_wMulL false false d d' h2 h4 l2 l4;obtain⟨x4,e4,C4,hx4,he4⟩:=varT (t_wAdd x1 x2);obtain⟨x5,e5,C5,hx5,he5⟩:=varT (c_qMake x4 x3);have C6:=c_first3 e1 e2 e3;obtain⟨f,hf⟩:∃ f,fst3 e1 e2 e3=f:=⟨_,rfl⟩
 rw[hf] at C6;obtain⟨x,e,key⟩:∃ (x:FQ) (e:Nat),(f≠0->x=q0/\e=f)/\(f=0->(e4≠0->x=q0/\e=e4)/\(e4=0->x=x5/\e=e5)):=by
  by_cases g1:f=0
  ·by_cases g2:e4=0
   ·exact⟨x5,e5,fun h=>absurd g1 h,fun _=>⟨fun h=>absurd g2 h,fun _=>⟨rfl,rfl⟩⟩⟩
   ·exact⟨q0,e4,fun h=>absurd g1 h,fun _=>⟨fun _=>⟨rfl,rfl⟩,fun h=>absurd h g2⟩⟩
  ·exact⟨q0,f,fun _=>⟨rfl,rfl⟩,fun h=>absurd h g1⟩
 refine⟨x,e,?_⟩;clear hx4 he4 hx5 he5 hf;refine conN func29 rfl (by kernel_rfl) ?_;conv=>whnf
 refine⟨by kernel_rfl,?_⟩;conv=>whnf
 refine callD (c_qDenL m' n' d' l4) rfl rfl ?_;conv=>whnf
 refine callD C1 rfl rfl ?_;conv=>whnf
 refine⟨by kernel_rfl,?_⟩;conv=>whnf
 refine callD (c_qDenL m n d l2) rfl rfl ?_;conv=>whnf
 refine callD C2 rfl rfl ?_;conv=>whnf
 refine⟨by kernel_rfl,?_⟩;conv=>whnf
 refine callD (c_qDenL m n d l2) rfl rfl ?_;conv=>whnf
 refine callD (c_qDenL m' n' d' l4) rfl rfl ?_;conv=>whnf
 refine callD C3 rfl rfl ?_;conv=>whnf
 refine callL [(4,3)] [.sl [i64 (e1:Int),i64 (e2:Int),i64 (e3:Int)]] ⟨⟨_,rfl⟩,trivial⟩ ⟨.own2 (.head _) rfl rfl rfl rfl,trivial⟩ C6 rfl ?_;conv=>whnf
 refine Br.mk (fun h=>?_) (fun h=>?_)
 ·have hq:=key.1 (lit0 h);conv=>whnf
  refine callS c_qZero rfl rfl ?_;conv=>whnf
  exact⟨fin rfl (congrArg (fun x:FQ=>rat x.q) hq.1.symm),fin rfl (congrArg (fun x:Nat=>i64 x) hq.2.symm),trivial⟩
 ·have hq:=key.2 (lit1 h);conv=>whnf
  refine callS C4 rfl rfl ?_;conv=>whnf
  refine Br.mk (fun h=>?_) (fun h=>?_)
  ·have hq:=hq.1 (lit0 h);conv=>whnf
   refine callS c_qZero rfl rfl ?_;conv=>whnf
   exact⟨fin rfl (congrArg (fun x:FQ=>rat x.q) hq.1.symm),fin rfl (congrArg (fun x:Nat=>i64 x) hq.2.symm),trivial⟩
  ·have hq:=hq.2 (lit1 h);conv=>whnf
   refine callS C5 rfl rfl ?_;conv=>whnf
   exact⟨fin rfl (congrArg (fun x:FQ=>rat x.q) hq.1.symm),fin rfl (congrArg (fun x:Nat=>i64 x) hq.2.symm),trivial⟩
structure AddS (k:Nat) (T:List (List FQ)) (s t w:FQ) (p q r:Gw) (m x y:List (List FS)):Prop where
 h1:mMake T s 50=.ok p
 h2:mMake T t 50=.ok q
 h3:mMake T w 50=.ok r
 h4:mTimes 50 p.1 q.1=.ok m
 h5:mTimes 50 p.1 q.2=.ok x
 h6:mPlus 50 x p.2=.ok y
 h7:∀ i j,i<k->j<k->∃ z,sMeet (sp m i j) (sp r.1 i j)=.ok z
 h8:∀ i j,i<k->j<k->∃ z,sMeet (sp y i j) (sp r.2 i j)=.ok z
 q1:SqG k m
 q2:SqG k r.1
 q3:SqG k y
 q4:SqG k r.2
 s1:Six p.1
 s2:Six p.2
 s3:Six q.1
 s4:Six q.2
 s5:Six x
theorem adds_T {k:Nat} {T:List (List FQ)} {s t w:FQ} (hs:In3 k T s) (ht:In3 k T t) (hw:In3 k T w) (e:w.q=s.q+t.q):∃ p q r m x y,AddS k T s t w p q r m x y:=by
 have hk1:=hs.k1;have hk3:=hs.k3;have hbo:bitsOk ((50:Nat):Int)=true:=by decide
 have hsz:∀ r∈T,SzL r 33 33:=fun r hr=>(hs.sz r hr).mono (by omega) (by omega)
 obtain⟨p,p1,p2⟩:=made (b:=50) (by omega) (by omega) hk1 hk3 hs.sq hsz (hs.st.mono (by omega) (by omega)) hs.nn (fun i hi=>Rat.le_trans (hs.row i hi) (by decide +kernel));obtain⟨q,q1,q2⟩:=made (b:=50) (by omega) (by omega) hk1 hk3 hs.sq hsz (ht.st.mono (by omega) (by omega)) ht.nn (fun i hi=>Rat.le_trans (ht.row i hi) (by decide +kernel));obtain⟨r,r1,r2⟩:=made (b:=50) (by omega) (by omega) hk1 hk3 hs.sq hsz (hw.st.mono (by omega) (by omega)) hw.nn (fun i hi=>Rat.le_trans (hw.row i hi) (by decide +kernel));obtain⟨c,c1,c2⟩:=row_all (by omega) hs.sq;obtain⟨m,m1,m2⟩:=times_L hbo p2.e q2.e (by omega);obtain⟨x,x1,x2⟩:=times_L hbo p2.e q2.s (by omega);obtain⟨y,y1,y2⟩:=plus_L hbo x2 (p2.s.mono (K':=48+150+1+2*k) (L':=2080+2300) (by omega) (by omega)) (by omega);have g1:=m2.congr (g:=fun N=>EN k (en T) w.q N) fun i j hi hj=>by
  rw[e];exact ((EE_nul c1 c2 s.q t.q hi hj).neg).congr fun N=>by grind
 have g2:=y2.congr (g:=fun N=>UN k (en T) w.q N) fun i j hi hj=>by
  rw[e];exact ((EU_nul c1 c2 s.q t.q hi hj).neg).congr fun N=>by grind
 exact⟨p,q,r,m,x,y,p1,q1,r1,m1,x1,y1,g1.touch r2.e,g2.touch r2.s,m2.1,r2.e.1,y2.1,r2.s.1,p2.e.six (by omega),p2.s.six (by omega),q2.e.six (by omega),q2.s.six (by omega),x2.six (by omega)⟩
attribute [local irreducible] mMake mTwice mTimes mHolds mScale mPlus mNear mOne
theorem ne_i64 {e:Nat} (h:e≠0):((e:Int) !=0)=true:=by simp; exact h
theorem sadds_bad (n:Int) (l:List RawQ) (s t:RawQ) (w:FQ) (e:Nat) {e0 e1 e2:List AV} {b0 b1 b2:Bool} (C0:ACalls prog 25 [i64 n,slv l,rawv s] (.tup [.sl e0,boo b0])) (C1:ACalls prog 25 [i64 n,slv l,rawv t] (.tup [.sl e1,boo b1]))
  (CA:ACalls prog 29 [rawv s,rawv t] (.tup [rat w.q,i64 e])) (C2:ACalls prog 25 [i64 n,slv l,rat w.q] (.tup [.sl e2,boo b2])) (h:b0=false\/b1=false\/b2=false\/e≠0) :
  ACalls prog 5 [i64 n,slv l,.agg [boo s.1,lst s.2.1,lst s.2.2,boo t.1,lst t.2.1,lst t.2.2]] (boo true):=by
 have G:=c_grows;have hne:b0=true->b1=true->b2=true->((e:Int) !=0)=true:=fun h0 h1 h2=>ne_i64 (by
  rcases h with h | h | h | h
  ·rw[h0] at h; cases h
  ·rw[h1] at h; cases h
  ·rw[h2] at h; cases h
  ·exact h)
 refine conP func5 rfl (by kernel_rfl) ?_;cases b0 with
 |false =>
  repeat ((first | refine .goF rfl (by kernel_rfl) ?_ | refine .endF rfl (by kernel_rfl) ?_ | refine callE G rfl rfl ?_ | refine callE C0 rfl rfl ?_ | refine callE C1 rfl rfl ?_ | refine callE CA rfl rfl ?_ | refine callE C2 rfl rfl ?_ | refine⟨⟨by decide,by decide,rfl⟩,?_⟩ | refine⟨by kernel_rfl,?_⟩ | rw[decide_eq_true (by omega)] | rw[decide_eq_false (by omega)] | fail); conv=>whnf)
  exact fin rfl rfl
 |true =>
  cases b1 with
  |false =>
   repeat ((first | refine .goF rfl (by kernel_rfl) ?_ | refine .endF rfl (by kernel_rfl) ?_ | refine callE G rfl rfl ?_ | refine callE C0 rfl rfl ?_ | refine callE C1 rfl rfl ?_ | refine callE CA rfl rfl ?_ | refine callE C2 rfl rfl ?_ | refine⟨⟨by decide,by decide,rfl⟩,?_⟩ | refine⟨by kernel_rfl,?_⟩ | rw[decide_eq_true (by omega)] | rw[decide_eq_false (by omega)] | fail); conv=>whnf)
   exact fin rfl rfl
  |true =>
   cases b2 with
   |false =>
    repeat ((first | refine .goF rfl (by kernel_rfl) ?_ | refine .endF rfl (by kernel_rfl) ?_ | refine callE G rfl rfl ?_ | refine callE C0 rfl rfl ?_ | refine callE C1 rfl rfl ?_ | refine callE CA rfl rfl ?_ | refine callE C2 rfl rfl ?_ | refine⟨⟨by decide,by decide,rfl⟩,?_⟩ | refine⟨by kernel_rfl,?_⟩ | rw[decide_eq_true (by omega)] | rw[decide_eq_false (by omega)] | fail); conv=>whnf)
    exact fin rfl rfl
   |true =>
    have he:=hne rfl rfl rfl;repeat ((first | refine .goF rfl (by kernel_rfl) ?_ | refine .endF rfl (by kernel_rfl) ?_ | refine callE G rfl rfl ?_ | refine callE C0 rfl rfl ?_ | refine callE C1 rfl rfl ?_ | refine callE CA rfl rfl ?_ | refine callE C2 rfl rfl ?_ | refine⟨⟨by decide,by decide,rfl⟩,?_⟩ | rw[he] | refine⟨by kernel_rfl,?_⟩ | rw[decide_eq_true (by omega)] | rw[decide_eq_false (by omega)] | fail); conv=>whnf)
    exact fin rfl rfl
theorem sadds_go {k:Nat} {l:List RawQ} {s t w:FQ} (hs:In3 k (TabQ k l) s) (ht:In3 k (TabQ k l) t) (hw:In3 k (TabQ k l) w) (hadd:qAdd s t=.ok w)
  (C0:ACalls prog 25 [i64 (k:Nat),slv l,rat s.q] (.tup [lT (TabQ k l),boo true])) (C1:ACalls prog 25 [i64 (k:Nat),slv l,rat t.q] (.tup [lT (TabQ k l),boo true]))
  (C2:ACalls prog 25 [i64 (k:Nat),slv l,rat w.q] (.tup [lT (TabQ k l),boo true])) :
  ACalls prog 5 [i64 (k:Nat),slv l,.agg [boo (decide (s.q.num<0)),nat s.q.num.natAbs,nat s.q.den,boo (decide (t.q.num<0)),nat t.q.num.natAbs,nat t.q.den]] (boo true):=by
 have B50:BOk 50:=⟨by decide,by decide⟩
 have hq:w.q=s.q+t.q:=by
  obtain⟨r,r1,r2,_⟩:=qAdd_ok hs.st ht.st (t:=64) (by omega) (by omega) (by omega) (by omega);rw[hadd] at r1;cases r1;exact r2
 obtain⟨p,q,r,m,x,y,h1,h2,h3,h4,h5,h6,h7,h8,q1,q2,q3,q4,s1,s2,s3,s4,s5⟩:=adds_T hs ht hw hq;obtain⟨T,hT⟩:∃ T,TabQ k l=T:=⟨_,rfl⟩
 rw[hT] at hs h1 h2 h3 C0 C1 C2;have hk3:=hs.k3;have T6:Six T:=⟨by rw[hs.sq.1]; omega,hs.sq.rows6 (by omega)⟩
 have G:=c_grows;have CA:=c_qAdd s t;rw[hadd] at CA;obtain⟨j1,M1⟩:=c_mMake T s 50 T6;obtain⟨j2,M2⟩:=c_mMake T t 50 T6;obtain⟨j3,M3⟩:=c_mMake T w 50 T6;have M4:=c_mTimes p.1 q.1 50 B50 s1.1 s1.2 s3.1 s3.2;have M5:=c_mTimes p.1 q.2 50 B50 s1.1 s1.2 s4.1 s4.2;have M6:=c_mPlus x p.2 50 B50 s5.1 s5.2;have M7:=c_touch (by omega:k<1000000) m r.1 q1 q2 h7;have M8:=c_touch (by omega:k<1000000) y r.2 q3 q4 h8;change mMake T s 50=.ok p at h1;change mMake T t 50=.ok q at h2;change mMake T w 50=.ok r at h3;change mTimes 50 p.1 q.1=.ok m at h4;change mTimes 50 p.1 q.2=.ok x at h5;change mPlus 50 x p.2=.ok y at h6;rw[h1] at M1;rw[h2] at M2;rw[h3] at M3;rw[h4] at M4;rw[h5] at M5;rw[h6] at M6;change ACalls prog _ _ (.tup [gro p,i64 0]) at M1;change ACalls prog _ _ (.tup [gro q,i64 0]) at M2;change ACalls prog _ _ (.tup [gro r,i64 0]) at M3;clear h1 h2 h3 h4 h5 h6 h7 h8 hadd hq;refine conP func5 rfl (by kernel_rfl) ?_;repeat ((first | refine .goF rfl (by kernel_rfl) ?_ | refine .endF rfl (by kernel_rfl) ?_ | refine callE G rfl rfl ?_ | refine callE C0 rfl rfl ?_ | refine callE C1 rfl rfl ?_ | refine callE CA rfl rfl ?_ | refine callE C2 rfl rfl ?_ | refine callE M1 rfl rfl ?_ | refine callE M2 rfl rfl ?_ | refine callE M3 rfl rfl ?_ | refine callE M4 rfl rfl ?_ | refine callE M5 rfl rfl ?_ | refine callE M6 rfl rfl ?_ | refine callE M7 rfl rfl ?_ | refine callE M8 rfl rfl ?_ | refine⟨⟨by decide,by decide,rfl⟩,?_⟩ | refine⟨by kernel_rfl,?_⟩ | rw[decide_eq_true (by omega)] | rw[decide_eq_false (by omega)] | fail); conv=>whnf)
 exact fin rfl rfl
theorem rdu_rat {n:Nat} {cv:List AV} (h:RdU 1048576 prog (n+4) 28 cv):∃ x:RawQ,cv=[boo x.1,lst x.2.1,lst x.2.2]/\RawB x/\x.2.1.length<=1048576/\x.2.2.length<=1048576:=by
 obtain⟨d1,r1,rfl,h1,d2,r2,rfl,h2,rfl⟩:=rdu_struct underlying28 h;obtain⟨d3,r3,rfl,h3,d4,r4,rfl,h4,rfl⟩:=rdu_struct underlying26 h1;obtain⟨m,rfl⟩:=rdc_bool underlying4 h3.rd;have go:∀ {cs:List AV} {k:Nat},RdU 1048576 prog (k+2) 24 cs->∃ l:List Nat,cs=[lst l]/\l.length<=1048576/\∀ x∈l,x<B:=fun hn=>by
  obtain⟨ess,rfl,g1,g2⟩:=rdu_slice underlying24 hn;obtain⟨l,g3,g4,g5⟩:=rd_list (enc:=dg) (ok:=fun x=>x<B) (fun cv h=>by
   obtain⟨x,rfl,hx⟩:=rd_u32 h;exact⟨x,mkV_one (isAgg_int underlying207) _,hx⟩) ess (fun ds hd=>(g2 ds hd).rd)
  exact⟨l,by rw[g3]; rfl,by rw[g4]; exact g1,g5⟩
 obtain⟨a,rfl,a1,a2⟩:=go h4;obtain⟨b,rfl,b1,b2⟩:=go h2;exact⟨(m,a,b),rfl,⟨by show a.length<=_; omega,by show b.length<=_; omega,a2,b2⟩,a1,b1⟩
theorem ag_two:isAgg prog 59=true:=isAgg_array underlying59
theorem rawQ_inj {a b:FQ} (h:rawQ a=rawQ b):a=b:=by
 unfold rawQ at h;simp only[Prod.mk.injEq] at h;have h1:=digs_inj h.2.1;have h2:=digs_inj h.2.2;apply FQ.ext;have hs:a.q.num=b.q.num:=by
  have:=h.1;simp only[decide_eq_decide] at this;omega
 exact Rat.ext hs h2
theorem rawvQ (a:FQ):rawv (rawQ a)=rat a.q:=by rw[rawv_rawQ]; rfl
theorem rawB_rawQ (a:FQ):RawB (rawQ a):=rawQ_ok a
theorem seriesAdds_c:∀ avs,RdArgsU 1048576 prog 9 f5.params.toList avs->ACalls prog 5 avs (.lit (.bool true)):=by
 intro avs h
 match avs,h with
 |[a0,a1,a2],⟨⟨c1,r1,e1⟩,⟨c2,r2,e2⟩,⟨c3,r3,e3⟩,_⟩ =>
  obtain⟨n,rfl,_⟩:=rd_int r1.rd;obtain⟨l,rfl,hl⟩:=rd_rats r2.rd;obtain⟨ess,g1,rfl,g2⟩:=rdu_array underlying59 r3
  match ess,g1 with
  |[x,y],_ =>
   obtain⟨s,rfl,hs,ls1,ls2⟩:=rdu_rat (g2 x (by simp));obtain⟨t,rfl,ht,lt1,lt2⟩:=rdu_rat (g2 y (by simp));rw[mkV_one ag_int] at e1;rw[mkV_one ag_rats] at e2;rw[mkV_agg ag_two] at e3;subst e1 e2 e3;obtain⟨w,e,CA⟩:=c_qAddL s.1 t.1 s.2.1 s.2.2 t.2.1 t.2.2 hs.2.2.1 hs.2.2.2 ht.2.2.1 ht.2.2.2 (by omega) (by omega) (by omega) (by omega);have CT:=c_table n l (rawQ w) hl (rawB_rawQ w);rw[rawvQ] at CT;rcases c_table n l s hl hs with ⟨es,C0⟩ | ⟨k,sq,hi,C0⟩
   ·rcases c_table n l t hl ht with ⟨et,C1⟩ | ⟨k',tq,hi',C1⟩
    ·rcases CT with ⟨ew,C2⟩ | ⟨k2,wq,hi2,C2⟩
     ·exact sadds_bad n l s t w e C0 C1 CA C2 (.inl rfl)
     ·exact sadds_bad n l s t w e C0 C1 CA C2 (.inl rfl)
    ·rcases CT with ⟨ew,C2⟩ | ⟨k2,wq,hi2,C2⟩
     ·exact sadds_bad n l s t w e C0 C1 CA C2 (.inl rfl)
     ·exact sadds_bad n l s t w e C0 C1 CA C2 (.inl rfl)
   ·rcases c_table n l t hl ht with ⟨et,C1⟩ | ⟨k',tq,hi',C1⟩
    ·rcases CT with ⟨ew,C2⟩ | ⟨k2,wq,hi2,C2⟩
     ·exact sadds_bad n l s t w e C0 C1 CA C2 (.inr (.inl rfl))
     ·exact sadds_bad n l s t w e C0 C1 CA C2 (.inr (.inl rfl))
    ·have es:=hi.q;have et:=hi'.q;subst es et;obtain rfl:=hi.nk;have hk:k'=k:=by have:=hi'.nk; omega
     subst hk;rw[rawvQ] at C0 C1;have I0:=hi.in3;have I1:=hi'.in3;obtain⟨v,v1,v2,_⟩:=qAdd_ok I0.st I1.st (t:=64) (by omega) (by omega) (by omega) (by omega);have CV:=c_table (k':Nat) l (rawQ v) hl (rawB_rawQ v);rw[rawvQ] at CV;rcases CV with ⟨ew,C2⟩ | ⟨k2,wq,hi2,C2⟩
     ·have CA2:=c_qAdd sq tq;rw[v1] at CA2;refine sadds_bad (k':Nat) l (rawQ sq) (rawQ tq) v 0 (e0:=(TabQ k' l).map lQ) (e1:=(TabQ k' l).map lQ) (b0:=true) (b1:=true) ?_ ?_ ?_ C2 (.inr (.inr (.inl rfl)))
      ·rw[rawvQ]; exact C0
      ·rw[rawvQ]; exact C1
      ·rw[rawvQ,rawvQ]; exact CA2
     ·have hk2:k2=k':=by have:=hi2.nk; omega
      subst hk2;have hq:=rawQ_inj hi2.q;subst hq;exact sadds_go I0 I1 hi2.in3 v1 C0 C1 C2
end Go.Proofs.YtjdkdcmpifapeaaGreatDoor.Abs
set_option linter.unusedVariables false
namespace Go.Proofs.YtjdkdcmpifapeaaGreatDoor.Abs
open Go Go.RowKit Go.ChangeShapes Go.WideShapes Go.ChangeAt Go.Proofs.Tryz
theorem seriesAdds_laid {W:World} (h:laidMetH prog Rows.seriesAddsUptoRow.laid W):GOk (fun b=>b<W.heap.size) W :=
 gok_of_tab (Lib.tabIs_of_head gDb gDbT underlying358 underlying5 cU8 cDb h)
theorem seriesAdds_met (os:Os):laidMet prog Rows.seriesAddsUptoRow.laid ((laidWorld os).forCall (fun _ _=>0) ⟨#[],#[.int .i64 0,.slice none 0 0,.agg #[.bool false,.slice none 0 0,.slice none 0 0,.bool false,.slice none 0 0,.slice none 0 0]],[]⟩).memory :=
 laidMet_of_run' 8 (by kernel_rfl) (by kernel_rfl)
theorem seriesAdds_reads (os:Os) {H:Type} (enc:TypeId×Value->H):∃ x places,DataW.whole enc prog ((laidWorld os).forCall (fun _ _=>0) ⟨#[],#[.int .i64 0,.slice none 0 0,.agg #[.bool false,.slice none 0 0,.slice none 0 0,.bool false,.slice none 0 0,.slice none 0 0]],[]⟩).memory f5.params.toList Rows.seriesAddsSpec.vars false (#[.int .i64 0,.slice none 0 0,.agg #[.bool false,.slice none 0 0,.slice none 0 0,.bool false,.slice none 0 0,.slice none 0 0]]:Array Value).toList 8=some (x,[],places)/\Rows.uptoSmall H (x++[])=true :=
 ⟨[.lit (.int .i64 0),.nil,.agg [.agg [.agg [.lit (.bool false),.nil],.nil],.agg [.agg [.lit (.bool false),.nil],.nil]]],[],by kernel_rfl,by kernel_rfl⟩
set_option maxRecDepth 100000 in
theorem seriesAdds_lifted (os:Os) (started:os.Started) (H:Type) (enc:TypeId×Value->H) (F:Stop.Interp) :
  ReturnsInHanded {} checked os 5 .any ((Rows.OpenSpec.upto Rows.seriesAddsSpec).preRow enc prog f5 Rows.seriesAddsUptoRow.domain false Rows.seriesAddsUptoRow.laid) (((Rows.OpenSpec.upto Rows.seriesAddsSpec).at F).post enc prog f5 false true false false):=by
 obtain⟨x,places,hx,hx2⟩:=seriesAdds_reads os enc;refine returnsInHanded_of_row (C:=checked) (s:=Rows.OpenSpec.upto Rows.seriesAddsSpec) ownK started (by kernel_rfl) func5
  (witness_row_at (enc:=enc) (C:=checked) false (laidWorld os) #[.int .i64 0,.slice none 0 0,.agg #[.bool false,.slice none 0 0,.slice none 0 0,.bool false,.slice none 0 0,.slice none 0 0]] rfl (by kernel_rfl) (by kernel_rfl) (by kernel_rfl)
   (OpenSpec.preRow_of_cond 8 hx (by kernel_rfl) (fun k hk=>by cases hk; exact hx2) (by kernel_rfl) (seriesAdds_met os))) ?_
 intro W base args ds gs before hval hW _ hc _ hL _ _;exact bridgeU (n:=9) laidOutP (by kernel_rfl) rfl (fun ds hd=>by
  match ds,hd with
  |[_,_,_],_=>rfl) rfl underlying4 seriesAdds_c hval hW (blk_upto (hc _ rfl)) (seriesAdds_laid hL)
theorem seriesAdds_f1:Tryz.pinned.checked.prog.inPlace 5=Rows.seriesAddsUptoRow.inPlace:=by kernel_rfl
theorem seriesAdds_f2:Tryz.pinned.checked.prog.unfollowed 5=Rows.seriesAddsUptoRow.unfollowed:=by kernel_rfl
theorem seriesAdds_f3:Tryz.pinned.checked.prog.recurses 5=Rows.seriesAddsUptoRow.recurses:=by kernel_rfl
theorem seriesAdds_f4:Tryz.pinned.checked.prog.varsNamed 5=Rows.seriesAddsUptoRow.named:=by kernel_rfl
theorem seriesAdds_named:Tryz.pinned.checked.prog.funcNamed Rows.seriesAddsUptoRow.func=some 5:=by kernel_rfl
theorem seriesAdds_closed:joinedFacts Tryz.pinned.checked.prog 5 f5 (Rows.OpenSpec.upto Rows.seriesAddsSpec).bare Rows.seriesAddsUptoRow=true:=by
 unfold joinedFacts;rw[seriesAdds_f1,seriesAdds_f2,seriesAdds_f3,seriesAdds_f4];kernel_rfl
theorem seriesAdds_said:Rows.SeriesAddsUptoSaid :=
 OpenClaim.holds_of_cond 5 f5 rfl rfl rfl rfl rfl rfl rfl ⟨rfl,rfl,rfl,rfl,rfl⟩ rfl rfl rfl rfl rfl seriesAdds_named func5 seriesAdds_closed
  (of_decide_eq_true (by kernel_rfl)) (by unfold Func.isWrapper; first | (rw[if_pos (by decide +kernel)]; kernel_rfl) | (rw[if_neg (by decide +kernel)]; exact⟨rfl,rfl⟩))
  (fun os started H enc _ F=>by rw[OpenClaim.pre_eq_preRow]; exact seriesAdds_lifted os started H enc F)
theorem seriesAdds_plain (f:FuncId) (fn:Func) (hf:Tryz.pinned.checked.prog.funcNamed "girdle/girdlelaw13.SeriesAdds"=some f) (hfn:Tryz.pinned.checked.prog.funcs[f]?=some fn) :
  false=Tryz.pinned.checked.prog.looks []/\∀ (j:Nat) t,fn.params[j]?=some t->Tryz.pinned.checked.prog.wantsStandIn t=false:=by
 obtain rfl:f=5:=Option.some.inj ((show prog.funcNamed "girdle/girdlelaw13.SeriesAdds"=some 5 by kernel_rfl).symm.trans hf) |>.symm
 obtain rfl:fn=f5:=(Option.some.inj (func5.symm.trans hfn)).symm;refine⟨by kernel_rfl,fun j t ht=>?_⟩;have hall:(f5.params.toList.all fun u=>!prog.wantsStandIn u)=true:=by kernel_rfl
 exact (show prog.wantsStandIn t=false by simpa using List.all_eq_true.1 hall t (by simpa using Array.mem_of_getElem? ht))
end Go.Proofs.YtjdkdcmpifapeaaGreatDoor.Abs
namespace Go.Proofs.YtjdkdcmpifapeaaGreatDoor
open Go Go.Proofs.YtjdkdcmpifapeaaGreatDoor.Abs
theorem seriesAddsUpto_card:Rows.SeriesAddsUptoCardSaid :=
 Claim7.holds_tied_plain_at .later [] _ _ _ _ seriesAdds_said (fun _ h=>by cases h) (by kernel_rfl) (fun _ h=>by cases h) seriesAddsUpto_row_tie rfl ⟨rfl,rfl⟩ (by kernel_rfl) rfl seriesAdds_plain (by kernel_rfl)
#print axioms seriesAddsUpto_card
end Go.Proofs.YtjdkdcmpifapeaaGreatDoor
