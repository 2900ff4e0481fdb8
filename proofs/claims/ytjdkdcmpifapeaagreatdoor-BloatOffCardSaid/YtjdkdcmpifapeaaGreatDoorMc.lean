/- What an operation does hangs on its operands and its row alone. -/
import Derived.Test.YtjdkdcmpifapeaaGreatDoorMb
import Derived.Deep.LoopGhost
set_option linter.unusedVariables false
set_option linter.unusedSectionVars false
set_option linter.unusedSimpArgs false
namespace Go.Proofs.YtjdkdcmpifapeaaGreatDoor.Abs
section
open Go Go.RowKit
variable [Gl]
section
variable {P:Program} {ty:Nat->Ty} {dr:Bool} {pre:Nat->Bool} {i:Nat} {s s':AS}
def tchA (op:Op) (s:AS) (id:Rid):Prop :=
 match op with
 |.load _ p=>ridOf (s.ev p)=some id
 |.store _ p _=>ridOf (s.ev p)=some id
 |.indexAddr _ p _=>ridOf (s.ev p)=some id
 |.call c=>(match c.callee,c.args.toList with
  |.builtin .append,[x,y]=>ridOf (s.ev x)=some id\/ridOf (s.ev y)=some id
  |_,_=>True)
 |_=>True
def UpOk (dr:Bool) (s:AS) (pre:Nat->Bool) (op:Op) (e:Eff):Prop:=(∀ id q,e.up=some (id,q)->muB op=true/\(id.1=s.gen->pre id.2=true)/\tchA op s id)/\(dr=true->e.fz=[]/\e.mt=[])
def Ex (U:Eff->Prop) (F:(Eff->Prop)->Prop):Prop:=∀ K,F K->∃ e,(∀ K',K' e->F K')/\U e/\K e
section
variable {U:Eff->Prop}
theorem Ex.one {e:Eff} (h:U e):Ex U fun K=>K e:=fun K hK=>⟨e,fun _ h=>h,h,hK⟩
theorem Ex.false:Ex U fun _=>False:=fun K h=>h.elim
theorem Ex.and {C:Prop} {F:(Eff->Prop)->Prop} (h:C->Ex U F):Ex U fun K=>C/\F K:=fun K hK=>let ⟨e,h1,h2,h3⟩:=h hK.1 K hK.2; ⟨e,fun K' h=>⟨hK.1,h1 K' h⟩,h2,h3⟩
theorem Ex.exists {α:Type} {F:α->(Eff->Prop)->Prop} (h:∀ x,Ex U (F x)):Ex U fun K=>∃ x,F x K:=fun K ⟨x,hK⟩=>let ⟨e,h1,h2,h3⟩:=h x K hK; ⟨e,fun K' h=>⟨x,h1 K' h⟩,h2,h3⟩
theorem Ex.or {F G:(Eff->Prop)->Prop} (h:Ex U F) (g:Ex U G):Ex U fun K=>F K\/G K:=fun K hK=>by
 rcases hK with hK | hK
 ·exact let ⟨e,h1,h2,h3⟩:=h K hK; ⟨e,fun K' h=>.inl (h1 K' h),h2,h3⟩
 ·exact let ⟨e,h1,h2,h3⟩:=g K hK; ⟨e,fun K' h=>.inr (h1 K' h),h2,h3⟩
theorem Ex.someA {α:Type} {o:Option α} {F:α->(Eff->Prop)->Prop} (h:∀ x,o=some x->Ex U (F x)):Ex U fun K=>someA o fun x=>F x K:=by
 cases o with
 |none=>exact fun K h=>h.elim
 |some x=>exact h x rfl
theorem Ex.trueA {b:Bool} {F:(Eff->Prop)->Prop} (h:Ex U F):Ex U fun K=>trueA b (F K):=by
 cases b with
 |false=>exact fun K h=>h.elim
 |true=>exact h
theorem Ex.forceA {v:AV} {F:AV->(Eff->Prop)->Prop} (h:∀ v,Ex U (F v)):Ex U fun K=>forceA v fun v=>F v K:=by
 intro K hK;rw[forceA_eq] at hK;obtain⟨e,h1,h2,h3⟩:=h v K hK;exact⟨e,fun K' h=>by show Abs.forceA v _; rw[forceA_eq]; exact h1 K' h,h2,h3⟩
theorem Ex.br {b:Bool} {F G:(Eff->Prop)->Prop} (h:Ex U F) (g:Ex U G):Ex U fun K=>Br b (F K) (G K):=by
 intro K hK;have h1:=hK.t;have h2:=hK.f;cases b with
 |true=>exact let ⟨e,q1,q2,q3⟩:=h K (h1 rfl); ⟨e,fun K' h=>.mk (fun _=>q1 K' h) (fun x=>nomatch x),q2,q3⟩
 |false=>exact let ⟨e,q1,q2,q3⟩:=g K (h2 rfl); ⟨e,fun K' h=>.mk (fun x=>nomatch x) (fun _=>q1 K' h),q2,q3⟩
theorem Ex.rowA {id:Rid} {F:Row->(Eff->Prop)->Prop} (h:(id.1=s.gen->pre id.2=true)->∀ r,Ex U (F r)):Ex U fun K=>rowA s pre id fun r=>F r K:=by
 intro K hK;obtain⟨r,h1,h2,h3⟩:=rowA_iff hK;obtain⟨e,q1,q2,q3⟩:=h h2 r K h3;refine⟨e,fun K' hK'=>?_,q2,q3⟩;unfold Abs.rowA;rw[h1];simp only;split
 ·rename_i hb;rw[h2 (Nat.eq_of_beq_eq_true hb)];exact q1 K' hK'
 ·exact q1 K' hK'
theorem Ex.elA {es:List AV} {x:Nat} {F:AV->(Eff->Prop)->Prop} (h:∀ e,Ex U (F e)):Ex U fun K=>elA es x fun e=>F e K:=by
 intro K hK;unfold Abs.elA at hK ⊢;split at hK
 ·exact h _ K hK
 ·exact Ex.exists (fun v=>Ex.and fun _=>h v) K hK
theorem Ex.optA {o:Option Operand} {d:Int} {F:Int->(Eff->Prop)->Prop} (h:∀ n,Ex U (F n)):Ex U fun K=>optA s o d fun n=>F n K:=by
 intro K hK;unfold Abs.optA at hK ⊢;split at hK
 ·exact h _ K hK
 ·split at hK
  ·rename_i hx;simp only[hx];exact h _ K hK
  ·exact hK.elim
theorem Ex.binA {m:Mk} {op:BinOp} {x y:AV} {F:AV->(Eff->Prop)->Prop} (h:∀ v,Ex U (F v)):Ex U fun K=>binA m op x y fun v=>F v K:=by
 intro K hK;unfold Abs.binA at hK ⊢;split at hK
 all_goals first
  |exact hK.elim
  |exact h _ K hK
  |exact Ex.and (fun _=>h _) K hK
  |skip
 ·split at hK
  ·exact h _ K hK
  ·exact hK.elim
 ·split at hK
  ·exact h _ K hK
  ·exact hK.elim
 ·split at hK
  ·have q:=Ex.br Ex.false (h _) K hK;exact q
  ·exact hK.elim
 ·split at hK
  ·have q:=Ex.br Ex.false (h _) K hK;exact q
  ·exact hK.elim
 ·split at hK
  ·split at hK
   ·exact h _ K hK
   ·exact hK.elim
  ·exact hK.elim
theorem Ex.unA {op:UnOp} {x:AV} {F:AV->(Eff->Prop)->Prop} (h:∀ v,Ex U (F v)):Ex U fun K=>unA op x fun v=>F v K:=by
 intro K hK;unfold Abs.unA at hK ⊢;split at hK
 all_goals first
  |exact hK.elim
  |exact h _ K hK
end
theorem upNone {op:Op} {v:AV} {r:Option Row}:UpOk dr s pre op { v:=v,new:=r }:=And.intro (fun _ _ h=>nomatch h) (fun _=>⟨rfl,rfl⟩)
theorem upFz {op:Op} {v:AV} {r:Option Row} {F:List Rid} {l:List (Rid×Row)}:UpOk false s pre op { v:=v,new:=r,fz:=F,mt:=l }:=And.intro (fun _ _ h=>nomatch h) (fun h=>nomatch h)
theorem callF_ex {op:Op} {n:FuncId} {xs:List AV}:Ex (UpOk dr s pre op) (callF P dr i s n xs):=by
 intro K hK;cases dr with
 |true =>
  have q:=Ex.or (U:=UpOk true s pre op) (Ex.trueA (b:=AV.closedL xs) (Ex.or (Ex.exists fun _=>Ex.exists fun _=>Ex.and fun _=>Ex.and fun _=>Ex.trueA (Ex.one upNone)) (Ex.exists fun _=>Ex.exists fun _=>Ex.and fun _=>Ex.and fun _=>Ex.one upNone))) (Ex.exists fun _=>Ex.exists fun _=>Ex.exists fun _=>Ex.exists fun _=>Ex.and fun _=>Ex.and fun _=>Ex.trueA (Ex.one upNone)) K hK;exact q
 |false =>
  have q:=Ex.or (Ex.exists (U:=UpOk false s pre op) (fun F=>Ex.and fun _=>Ex.or (Ex.exists fun _=>Ex.exists fun _=>Ex.and fun _=>Ex.and fun _=>Ex.trueA (Ex.one upFz)) (Ex.or (Ex.exists fun _=>Ex.exists fun _=>Ex.and fun _=>Ex.and fun _=>Ex.one upFz) (Ex.exists fun _=>Ex.exists fun _=>Ex.exists fun _=>Ex.and fun _=>Ex.and fun _=>Ex.one upFz)))) (Ex.exists fun _=>Ex.exists fun _=>Ex.exists fun _=>Ex.exists fun _=>Ex.exists fun _=>Ex.and fun _=>Ex.and fun _=>Ex.trueA (Ex.one upFz)) K hK;exact q
theorem CallF_ex {op:Op} {n:FuncId} {xs:List AV}:Ex (UpOk dr s pre op) (CallF P dr i s n xs):=by
 intro K hK;obtain⟨hK⟩:=hK;obtain⟨e,h1,h2,h3⟩:=callF_ex (op:=op) (pre:=pre) K hK;exact⟨e,fun K' h=>⟨h1 K' h⟩,h2,h3⟩
theorem callA_ex {c:Call}:Ex (UpOk dr s pre (.call c)) (callA P ty dr pre i s c):=by
 intro K hK;have nn:∀ {v:AV} {r:Option Row},UpOk dr s pre (.call c) { v:=v,new:=r }:=upNone;unfold callA at hK ⊢;cases hc:c.callee with
 |invoke r n=>rw[hc] at hK; exact hK.elim
 |value f =>
  rw[hc] at hK;simp only at hK ⊢;split at hK
  ·split at hK
   ·exact CallF_ex K hK
   ·exact hK.elim
  ·exact CallF_ex K hK
  ·exact hK.elim
 |builtin b =>
  rw[hc] at hK;cases b
  case len =>
   simp only at hK ⊢;split at hK
   ·rename_i x t _ _ _;obtain⟨hb,hK⟩:=trueA_iff hK;rw[hb];generalize s.ev x=v at hK ⊢;generalize (ty t).d=d at hK ⊢;split at hK
    all_goals first
     |exact hK.elim
     |exact Ex.one nn K hK
   ·exact hK.elim
  case min =>
   simp only at hK ⊢;split at hK
   ·split at hK
    ·exact Ex.one nn K hK
    ·exact hK.elim
   ·exact hK.elim
  case max =>
   simp only at hK ⊢;split at hK
   ·split at hK
    ·exact Ex.one nn K hK
    ·exact hK.elim
   ·exact hK.elim
  case append =>
   simp only at hK ⊢;have mu:muB (.call c)=true:=by simp[muB,hc]
   split at hK
   ·split at hK
    ·rename_i x y t t2 _ _ _ e _;have hargs:c.args.toList=[x,y]:=by assumption
     obtain⟨hb,hK⟩:=trueA_iff hK;rw[hb];have htch:∀ id,ridOf (s.ev x)=some id->tchA (.call c) s id:=fun id h=>by
      unfold tchA;simp only[hc,hargs];exact .inl h
     generalize s.ev x=vx at hK htch ⊢;generalize s.ev y=vy at hK ⊢;have qa:∀ {k:Nat} {ys:List AV} {C:Prop},Ex (UpOk dr s pre (.call c)) (appA s pre i e k vx ys C):=by
      intro k ys C K hK;unfold appA at hK ⊢;split at hK
      ·cases ys with
       |nil=>exact Ex.one nn K hK
       |cons y l=>exact Ex.and (fun _=>Ex.one nn) K hK
      ·have q:=Ex.rowA (fun hp r=>Ex.and fun _=>Ex.one (U:=UpOk dr s pre (.call c)) ⟨fun id q h=>by cases h; exact⟨mu,hp,htch _ rfl⟩,fun _=>⟨rfl,rfl⟩⟩) K hK;exact q
      ·exact hK.elim
     split at hK
     ·have q:=Ex.rowA (U:=UpOk dr s pre (.call c)) (fun hp r2=>Ex.trueA qa) K hK;exact q
     ·exact Ex.trueA qa K hK
     ·exact Ex.trueA qa K hK
     ·exact Ex.trueA qa K hK
     ·exact hK.elim
    ·exact hK.elim
   ·exact hK.elim
  all_goals exact hK.elim
theorem act_ex {op:Op}:Ex (UpOk dr s pre op) (act P ty dr pre i s op):=by
 have nn:∀ {v:AV} {r:Option Row},UpOk dr s pre op { v:=v,new:=r }:=upNone;intro K hK;cases op
 case call c=>exact callA_ex K hK
 case move x =>
  have q:=Ex.forceA (U:=UpOk dr s pre (.move x)) (fun v=>Ex.one (e:={ v:=v }) nn) K hK;exact q
 case assign x =>
  have q:=Ex.forceA (U:=UpOk dr s pre (.assign x)) (fun v=>Ex.one (e:={ v:=v }) nn) K hK;exact q
 case pick c x y =>
  simp only[act] at hK ⊢;generalize s.ev c=vc at hK ⊢;split at hK
  ·exact Ex.br (Ex.forceA fun v=>Ex.one nn) (Ex.forceA fun v=>Ex.one nn) K hK
  ·exact hK.elim
 case alloc t=>exact Ex.trueA (Ex.one nn) K hK
 case box t x =>
  have q:=Ex.trueA (Ex.forceA (U:=UpOk dr s pre (.box t x)) fun v=>Ex.one (e:={ v:=.ptr (s.gen,i) 0 0,new:=some ⟨t,(ty t).size,[v]⟩ }) nn) K hK;exact q
 case build t ps =>
  simp only[act] at hK ⊢;obtain⟨hb,hK⟩:=trueA_iff hK;rw[hb];generalize (ty t).d=d at hK ⊢;split at hK
  ·have q:=Ex.trueA (Ex.someA fun _ _=>Ex.one nn) K hK;exact q
  ·have q:=Ex.trueA (Ex.someA fun _ _=>Ex.one nn) K hK;exact q
  ·exact hK.elim
 case buildSlice t n ps =>
  simp only[act] at hK ⊢;generalize (ty t).d=d at hK ⊢;split at hK
  ·have q:=Ex.trueA (Ex.someA fun els _=>(show Ex (UpOk dr s pre (.buildSlice t n ps)) (fun K=>match dr&&AV.closedL els with | true=>K { v:=.sl els } | false=>K _) from by
    cases (dr&&AV.closedL els) with
    |true=>exact Ex.one nn
    |false=>exact Ex.one nn)) K hK
   exact q
  ·exact hK.elim
 case load t p =>
  simp only[act] at hK ⊢;generalize s.ev p=vp at hK ⊢;split at hK
  ·have q:=Ex.rowA (fun _ r=>Ex.elA fun e=>Ex.someA fun _ _=>Ex.forceA fun _=>Ex.one nn) K hK;exact q
  ·have q:=Ex.someA (fun _ _=>Ex.forceA fun _=>Ex.one nn) K hK;exact q
  ·exact hK.elim
 case store t p v =>
  simp only[act] at hK ⊢;generalize hvp:s.ev p=vp at hK ⊢;split at hK
  ·have q:=Ex.rowA (fun hp r=>Ex.trueA (Ex.elA fun e=>Ex.forceA fun _=>Ex.someA fun _ _=>Ex.one (U:=UpOk dr s pre (.store t p v)) ⟨fun id q h=>by cases h; exact⟨rfl,hp,by show ridOf (s.ev p)=_; rw[hvp]; rfl⟩,fun _=>⟨rfl,rfl⟩⟩)) K hK;exact q
  ·exact hK.elim
 case nilCheck x =>
  simp only[act] at hK ⊢;generalize s.ev x=vx at hK ⊢;split at hK
  ·exact Ex.one nn K hK
  ·exact Ex.one nn K hK
  ·exact hK.elim
 case binOp op t x y t2 =>
  have q:=Ex.trueA (Ex.binA fun v=>Ex.one (e:={ v:=v }) nn) K hK;exact q
 case unOp op t x =>
  have q:=Ex.unA (fun v=>Ex.one (e:={ v:=v }) nn) K hK;exact q
 case convert t t2 x =>
  simp only[act] at hK ⊢;obtain⟨hb,hK⟩:=trueA_iff hK;rw[hb];generalize s.ev x=vx at hK ⊢;generalize (ty t2).d=d at hK ⊢;split at hK
  ·exact Ex.one nn K hK
  ·exact Ex.one nn K hK
  ·cases dr with
   |true=>exact hK.elim
   |false =>
    simp only at hK ⊢;generalize (ty t).d=d2 at hK ⊢;split at hK
    ·rename_i e;obtain⟨hb2,hK⟩:=trueA_iff hK;rw[hb2];generalize (ty e).d=d3 at hK ⊢;split at hK
     ·have q:=Ex.rowA (U:=UpOk false s pre (.convert t t2 x)) (fun _ r=>Ex.exists fun _=>Ex.and fun _=>Ex.one nn) K hK;exact q
     ·exact hK.elim
    ·exact hK.elim
  ·exact hK.elim
 case makeInterface t x =>
  simp only[act] at hK ⊢;obtain⟨hb,hK⟩:=trueA_iff hK;rw[hb];generalize s.ev x=vx at hK ⊢;generalize (ty t).d=d at hK ⊢;split at hK
  ·exact Ex.one nn K hK
  ·exact hK.elim
 case makeFunc fn f c =>
  simp only[act] at hK ⊢;generalize f.toList=fl at hK ⊢;generalize c.toList=cl at hK ⊢;split at hK
  ·exact Ex.one nn K hK
  ·rename_i g _;cases dr with
   |true=>exact hK.elim
   |false =>
    have q:=Ex.exists (U:=UpOk false s pre (.makeFunc (.func g) f c)) (fun F=>Ex.exists fun _=>Ex.and fun _=>Ex.and fun _=>Ex.one upFz) K hK;exact q
  ·exact hK.elim
 case makeSlice t l c =>
  simp only[act] at hK ⊢;generalize s.ev l=vl at hK ⊢;generalize s.ev c=vc at hK ⊢;generalize (ty t).d=d at hK ⊢;split at hK
  ·exact Ex.trueA (Ex.and fun _=>Ex.one nn) K hK
  ·exact hK.elim
 case slice t x lo hi mx =>
  simp only[act] at hK ⊢;generalize s.ev x=vx at hK ⊢;generalize (ty t).d=d at hK ⊢;have qs:∀ {size:Nat} {es:List AV},Ex (UpOk dr s pre (.slice t x lo hi mx)) (sliceA size es s lo hi mx):=by
   intro size es K hK;have q:=Ex.trueA (Ex.optA fun l=>Ex.optA fun h=>Ex.optA fun m=>Ex.and fun _=>Ex.one nn) K hK;exact q
  split at hK
  ·obtain⟨hb,hK⟩:=trueA_iff hK;rw[hb];cases mx with
   |none =>
    have q:=Ex.optA (fun l=>Ex.optA fun h=>Ex.and fun _=>Ex.one nn) K hK;exact q
   |some y =>
    have q:=Ex.optA (U:=UpOk dr s pre (.slice t x lo hi (some y))) (fun l=>Ex.optA fun h=>Ex.false) K hK;exact q
  ·exact Ex.trueA qs K hK
  ·exact Ex.trueA qs K hK
  ·exact Ex.trueA qs K hK
  ·have q:=Ex.trueA (Ex.rowA fun _ r=>Ex.optA fun l=>Ex.optA fun h=>Ex.and fun _=>Ex.one nn) K hK;exact q
  ·exact hK.elim
 case fieldAddr t x f =>
  simp only[act] at hK ⊢;obtain⟨hb,hK⟩:=trueA_iff hK;rw[hb];generalize s.ev x=vx at hK ⊢;generalize (ty t).d=d at hK ⊢;split at hK
  ·obtain⟨o,ho,hK⟩:=someA_iff hK;rw[ho];obtain⟨hb2,hK⟩:=trueA_iff hK;simp only[trueA,someA];rw[hb2];split at hK
   ·exact Ex.one nn K hK
   ·exact Ex.one nn K hK
   ·exact hK.elim
  ·exact hK.elim
 case field t x f =>
  simp only[act] at hK ⊢;obtain⟨hb,hK⟩:=trueA_iff hK;rw[hb];generalize s.ev x=vx at hK ⊢;generalize (ty t).d=d at hK ⊢;split at hK
  ·obtain⟨o,ho,hK⟩:=someA_iff hK;rw[ho];split at hK
   ·have q:=Ex.someA (fun _ _=>Ex.one nn) K hK;exact q
   ·exact hK.elim
  ·exact hK.elim
 case indexAddr t p x =>
  simp only[act] at hK ⊢;obtain⟨hb,hK⟩:=trueA_iff hK;rw[hb];generalize s.ev x=vx at hK ⊢;generalize s.ev p=vp at hK ⊢;generalize (ty t).d=d at hK ⊢;split at hK
  ·split at hK
   ·have q:=Ex.exists (fun v=>Ex.and fun _=>Ex.one nn) K hK;exact q
   ·have q:=Ex.exists (fun v=>Ex.and fun _=>Ex.one nn) K hK;exact q
   ·have q:=Ex.rowA (fun _ r=>Ex.and fun _=>Ex.and fun _=>Ex.one nn) K hK;exact q
   ·have q:=Ex.rowA (fun _ r=>Ex.and fun _=>Ex.and fun _=>Ex.one nn) K hK;exact q
   ·exact Ex.and (fun _=>Ex.one nn) K hK
   ·exact Ex.and (fun _=>Ex.one nn) K hK
   ·exact hK.elim
  ·exact hK.elim
 case index t x ix =>
  simp only[act] at hK ⊢;obtain⟨hb,hK⟩:=trueA_iff hK;rw[hb];generalize s.ev x=vx at hK ⊢;generalize s.ev ix=vi at hK ⊢;generalize (ty t).d=d at hK ⊢;split at hK
  ·split at hK
   ·have q:=Ex.and (fun _=>Ex.someA fun _ _=>Ex.forceA fun _=>Ex.one nn) K hK;exact q
   ·have q:=Ex.exists (fun v=>Ex.and fun _=>Ex.one nn) K hK;exact q
   ·exact hK.elim
  ·exact hK.elim
 case extract t j =>
  simp only[act] at hK ⊢;generalize s.ev t=vt at hK ⊢;split at hK
  ·have q:=Ex.someA (fun _ _=>Ex.forceA fun _=>Ex.one nn) K hK;exact q
  ·exact hK.elim
 all_goals exact hK.elim
end
end
section
open Go Go.RowKit
variable [Gl]
section
variable {P:Program} {ty:Nat->Ty} {pre:Nat->Bool} {i:Nat} {s s':AS} {K:Eff->Prop}
def RowAs (s s':AS) (pre:Nat->Bool) (id:Rid):Prop:=∀ r,s.st id=some r->(id.1=s.gen->pre id.2=true)->s'.st id=some r
def RowsAs (s s':AS) (pre:Nat->Bool):Prop:=∀ id,RowAs s s' pre id
theorem rowA_local {id:Rid} {F G:Row->Prop} (hg:s'.gen=s.gen) (hr:RowAs s s' pre id) (h:rowA s pre id F) (hFG:∀ r,F r->G r):rowA s' pre id G:=by
 obtain⟨r,h1,h2,h3⟩:=rowA_iff h;unfold rowA;rw[hr r h1 h2,hg];simp only;split
 ·rename_i hb;rw[h2 (Nat.eq_of_beq_eq_true hb)];exact hFG r h3
 ·exact hFG r h3
theorem buildA_local {place:Nat->Option (Nat×Nat)}:∀ (parts:List (Nat×Operand)) (cells:List AV),(∀ p∈parts,s'.ev p.2=s.ev p.2)->buildA place s' cells parts=buildA place s cells parts
 |[],cells,h=>rfl
 |(j,x)::rest,cells,h=>by
  have e:=h (j,x) (by simp);simp only at e;simp only[buildA,e];split
  ·rfl
  ·split
   ·exact buildA_local rest _ fun p hp=>h p (by simp[hp])
   ·rfl
theorem optA_local {o:Option Operand} {d:Int} {F:Int->Prop} (h:∀ x,o=some x->s'.ev x=s.ev x):optA s' o d F=optA s o d F:=by
 cases o with
 |none=>rfl
 |some x=>simp only[optA,h x rfl]
theorem appA_local {e:TypeId} {k:Nat} {x:AV} {ys:List AV} {C:Prop} (hg:s'.gen=s.gen) (hr:∀ id,ridOf x=some id->RowAs s s' pre id) (h:appA s pre i e k x ys C K):appA s' pre i e k x ys C K:=by
 unfold appA at h ⊢;split at h
 ·cases ys with
  |nil=>exact h
  |cons y l=>simp only at h ⊢; rw[hg]; exact h
 ·rw[hg]; exact rowA_local hg (hr _ rfl) h fun r h=>h
 ·exact h.elim
theorem sliceA_local {size:Nat} {es:List AV} {lo hi mx:Option Operand} (h1:∀ x,lo=some x->s'.ev x=s.ev x) (h2:∀ x,hi=some x->s'.ev x=s.ev x) (h3:∀ x,mx=some x->s'.ev x=s.ev x) :
  sliceA size es s' lo hi mx K=sliceA size es s lo hi mx K:=by
 unfold sliceA;rw[optA_local h1];congr 2;funext l;rw[optA_local h2];congr 1;funext hh;rw[optA_local h3]
theorem mrows_local (hr:RowsAs s s' pre):∀ {ids:List Rid} {rows:List Row},(ids.all fun id=>!Nat.beq id.1 s.gen)=true->mrows s ids rows->mrows s' ids rows
 |[],[],_,_=>trivial
 |i::is,r::rs,hg,h=>by
  simp only[List.all_cons,Bool.and_eq_true] at hg;exact⟨⟨hr i r h.1.1 fun e=>by rw[e] at hg; simp at hg,h.1.2⟩,mrows_local hr hg.2 h.2⟩
 |[],_::_,_,h=>h.elim
 |_::_,[],_,h=>h.elim
theorem callA_local {c:Call} (hev:∀ x∈c.operands,s'.ev x=s.ev x) (hg:s'.gen=s.gen) (hr:accB (.call c)=true->∀ id,tchA (.call c) s id->RowAs s s' pre id) (h:callA P ty true pre i s c K):callA P ty true pre i s' c K:=by
 have hargs:∀ x∈c.args.toList,s'.ev x=s.ev x:=fun x hx=>hev x (by simp only[Call.operands]; exact Array.mem_append_right _ (Array.mem_toList_iff.1 hx))
 unfold callA at h ⊢;cases hc:c.callee with
 |invoke r n=>rw[hc] at h; exact h.elim
 |value f =>
  rw[hc] at h;have hf:s'.ev f=s.ev f:=hev f (by simp[Call.operands,hc]);have ha:c.args.toList.map s'.ev=c.args.toList.map s.ev:=List.map_congr_left hargs;simp only at h ⊢;rw[hf,ha];have q:∀ {n:FuncId} {xs:List AV},CallF P true i s n xs K->CallF P true i s' n xs K:=fun h=>by
   obtain⟨h⟩:=h;refine⟨?_⟩;have hr:RowsAs s s' pre:=fun id=>hr (by simp[accB,hc]) id (by unfold tchA; simp only[hc])
   simp only[callF] at h ⊢;rcases h with h | ⟨ids,as,rows,res,⟨h1,h2,h3,h4⟩,h5,h6⟩
   ·left;rw[hg];exact h
   ·refine .inr ⟨ids,as,rows,res,⟨h1,mrows_local hr h4 h2,h3,by rw[hg]; exact h4⟩,h5,h6⟩
  split at h
  ·split at h
   ·exact q h
   ·exact h.elim
  ·exact q h
  ·exact h.elim
 |builtin b =>
  rw[hc] at h;cases b
  case len =>
   simp only at h ⊢;generalize hal:c.args.toList=al at h ⊢ hargs;generalize c.argTypes.toList=tl at h ⊢;split at h
   ·rw[hargs _ (by simp)]; exact h
   ·exact h.elim
  case min =>
   simp only at h ⊢;generalize hal:c.args.toList=al at h ⊢ hargs;split at h
   ·rw[hargs _ (by simp),hargs _ (by simp)]; exact h
   ·exact h.elim
  case max =>
   simp only at h ⊢;generalize hal:c.args.toList=al at h ⊢ hargs;split at h
   ·rw[hargs _ (by simp),hargs _ (by simp)]; exact h
   ·exact h.elim
  case append =>
   have hr:=hr (by simp[accB,hc]);have hr1:∀ x y id,c.args.toList=[x,y]->(ridOf (s.ev x)=some id\/ridOf (s.ev y)=some id)->RowAs s s' pre id:=fun x y id e h=>hr id (by unfold tchA; simp only[hc,e]; exact h)
   simp only at h ⊢;generalize hal:c.args.toList=al at h ⊢ hargs hr1;generalize c.argTypes.toList=tl at h ⊢;split at h
   ·rename_i x y t t2;have hx:∀ id,ridOf (s.ev x)=some id->RowAs s s' pre id:=fun id h=>hr1 x y id rfl (.inl h)
    have hy:∀ id,ridOf (s.ev y)=some id->RowAs s s' pre id:=fun id h=>hr1 x y id rfl (.inr h)
    generalize (ty t).d=d at h ⊢;split at h
    ·rename_i e;rw[hargs x (by simp),hargs y (by simp)];obtain⟨hb,h⟩:=trueA_iff h;rw[hb];dsimp only[trueA];generalize s.ev y=vy at h hy ⊢;split at h
     ·refine rowA_local hg (hy _ rfl) h fun r2 h=>?_
      obtain⟨hb2,h⟩:=trueA_iff h;rw[hb2];exact appA_local hg hx h
     ·obtain⟨hb2,h⟩:=trueA_iff h;rw[hb2];exact appA_local hg hx h
     ·obtain⟨hb2,h⟩:=trueA_iff h;rw[hb2];exact appA_local hg hx h
     ·obtain⟨hb2,h⟩:=trueA_iff h;rw[hb2];exact appA_local hg hx h
     ·exact h.elim
    ·exact h.elim
   ·exact h.elim
  all_goals exact h.elim
theorem act_local {op:Op} (hev:∀ x∈op.operands,s'.ev x=s.ev x) (hg:s'.gen=s.gen) (hr:accB op=true->∀ id,tchA op s id->RowAs s s' pre id) (h:act P ty true pre i s op K):act P ty true pre i s' op K:=by
 cases op
 case call c=>exact callA_local (by simpa [Op.operands] using hev) hg hr h
 case move x =>
  simp only[act] at h ⊢;rw[hev x (by simp[Op.operands])];exact h
 case assign x =>
  simp only[act] at h ⊢;rw[hev x (by simp[Op.operands])];exact h
 case pick c x y =>
  simp only[act] at h ⊢;rw[hev c (by simp[Op.operands]),hev x (by simp[Op.operands]),hev y (by simp[Op.operands])];exact h
 case alloc t=>simp only[act] at h ⊢; rw[hg]; exact h
 case box t x =>
  simp only[act] at h ⊢;rw[hev x (by simp[Op.operands]),hg];exact h
 case build t ps =>
  have hp:∀ p∈ps.toList,s'.ev p.2=s.ev p.2:=fun p hp=>hev p.2 (by
   simp only[Op.operands];exact Array.mem_toList_iff.1 (by simpa using ⟨p.1,by simpa using hp⟩))
  simp only[act] at h ⊢;simp only[buildA_local _ _ hp];exact h
 case buildSlice t n ps =>
  have hp:∀ p∈ps.toList,s'.ev p.2=s.ev p.2:=fun p hp=>hev p.2 (by
   simp only[Op.operands];exact Array.mem_toList_iff.1 (by simpa using ⟨p.1,by simpa using hp⟩))
  have hm:(ps.toList.map fun p=>(p.1,s'.ev p.2))=ps.toList.map fun p=>(p.1,s.ev p.2):=List.map_congr_left fun p hq=>by rw[hp p hq]
  simp only[act] at h ⊢;rw[hm,hg];exact h
 case load t p =>
  have hr:=hr rfl;simp only[act] at h ⊢;rw[hev p (by simp[Op.operands])];generalize hvp:s.ev p=vp at h ⊢;split at h
  ·exact rowA_local hg (hr _ (by show ridOf (s.ev p)=_; rw[hvp]; rfl)) h fun r h=>h
  ·exact h
  ·exact h.elim
 case store t p v =>
  have hr:=hr rfl;simp only[act] at h ⊢;rw[hev p (by simp[Op.operands]),hev v (by simp[Op.operands])];generalize hvp:s.ev p=vp at h ⊢;split at h
  ·exact rowA_local hg (hr _ (by show ridOf (s.ev p)=_; rw[hvp]; rfl)) h fun r h=>h
  ·exact h.elim
 case nilCheck x =>
  simp only[act] at h ⊢;rw[hev x (by simp[Op.operands])];exact h
 case binOp op t x y t2 =>
  simp only[act] at h ⊢;rw[hev x (by simp[Op.operands]),hev y (by simp[Op.operands])];exact h
 case unOp op t x =>
  simp only[act] at h ⊢;rw[hev x (by simp[Op.operands])];exact h
 case convert t t2 x =>
  simp only[act] at h ⊢;rw[hev x (by simp[Op.operands])];exact h
 case makeInterface t x =>
  simp only[act] at h ⊢;rw[hev x (by simp[Op.operands])];exact h
 case makeFunc fn f c =>
  simp only[act] at h ⊢;exact h
 case makeSlice t l c =>
  simp only[act] at h ⊢;rw[hev l (by simp[Op.operands]),hev c (by simp[Op.operands]),hg];exact h
 case slice t x lo hi mx =>
  simp only[act] at h ⊢;have h1:∀ y,lo=some y->s'.ev y=s.ev y:=fun y hy=>hev y (by simp[Op.operands,hy])
  have h2:∀ y,hi=some y->s'.ev y=s.ev y:=fun y hy=>hev y (by simp[Op.operands,hy])
  have h3:∀ y,mx=some y->s'.ev y=s.ev y:=fun y hy=>hev y (by simp[Op.operands,hy])
  simp only[hev x (by simp[Op.operands]),sliceA_local h1 h2 h3];simp only[optA_local h1];have e2:∀ {d:Int} {F:Int->Prop},optA s' hi d F=optA s hi d F:=optA_local h2;simp only[e2];have hr:=hr rfl;generalize s.ev x=vx at h ⊢;generalize (ty t).d=d at h ⊢;split at h
  ·exact h
  ·exact h
  ·exact h
  ·exact h
  ·obtain⟨hb,h⟩:=trueA_iff h;simp only[hb,trueA];exact rowA_local hg (hr _ trivial) h fun r h=>h
  ·exact h.elim
 case fieldAddr t x f =>
  simp only[act] at h ⊢;rw[hev x (by simp[Op.operands])];exact h
 case field t x f =>
  simp only[act] at h ⊢;rw[hev x (by simp[Op.operands])];exact h
 case indexAddr t p x =>
  have hr:=hr rfl;simp only[act] at h ⊢;rw[hev p (by simp[Op.operands]),hev x (by simp[Op.operands])];obtain⟨hb,h⟩:=trueA_iff h;rw[hb];dsimp only[trueA];generalize s.ev x=vx at h ⊢;generalize hvp:s.ev p=vp at h ⊢;generalize (ty t).d=d at h ⊢;split at h
  ·split at h
   ·exact h
   ·exact h
   ·exact rowA_local hg (hr _ (by show ridOf (s.ev p)=_; rw[hvp]; rfl)) h fun r h=>h
   ·exact rowA_local hg (hr _ (by show ridOf (s.ev p)=_; rw[hvp]; rfl)) h fun r h=>h
   ·exact h
   ·exact h
   ·exact h.elim
  ·exact h.elim
 case index t x ix =>
  simp only[act] at h ⊢;rw[hev x (by simp[Op.operands]),hev ix (by simp[Op.operands])];exact h
 case extract t j =>
  simp only[act] at h ⊢;rw[hev t (by simp[Op.operands])];exact h
 all_goals exact h.elim
end
end
section
open Go Go.RowKit
variable [Gl]
section
variable {P:Program} {ty:Nat->Ty} {ops:Array Oper} {s s':AS}
def wantA (ops:Array Oper) (o:Oper) (s:AS):Option Bool :=
 match o.guard with
 |none=>some true
 |some (j,want)=>match (ops[j]?).bind (·.dst) with
  |some d=>(match s.fr d with
   |.lit (.bool b)=>some (b==want)
   |.lit (.tuple _)=>some false
   |_=>none)
  |none=>none
def Tc (tc:Option (Option Rid)) (s:AS) (op:Op):Prop:=∀ id,tc=some id->∃ p,ptrOp op=some p/\ridT (s.fr p)=some id/\cleanOp s op=true
theorem ridTB_iff {a b:Option Rid} (h:ridTB a b=true):a=b:=by
 unfold ridTB at h;split at h
 ·rw[ridB_iff.1 h]
 ·rfl
 ·cases h
theorem ridT_of {v:AV} {t:Option Rid} {id:Rid} (h:ridT v=some t) (h2:ridOf v=some id):t=some id:=by
 unfold ridOf at h2;split at h2
 all_goals first
  |(cases h2; exact (Option.some.inj h).symm)
  |exact nomatch h2
theorem chk_iff {tc:Option (Option Rid)} {s:AS} {op:Op} {K:Prop} (h:chk tc s op K):Tc tc s op/\K:=by
 unfold chk at h;split at h
 ·exact⟨fun id h=>(nomatch h),h⟩
 ·rename_i id;split at h
  ·rename_i p hp;split at h
   ·rename_i id' hid;obtain⟨hb,hK⟩:=trueA_iff h;rw[Bool.and_eq_true] at hb;have e:=ridTB_iff hb.1;subst e;exact⟨fun id2 h2=>⟨p,hp,by cases h2; exact hid,hb.2⟩,hK⟩
   ·exact h.elim
  ·exact h.elim
theorem Tc.tch {tc:Option (Option Rid)} {s:AS} {op:Op} (h:Tc tc s op) {x:Option Rid} {id:Rid} (hx:tc=some x) (ht:tchA op s id):x=some id:=by
 obtain⟨p,h1,h2,h3⟩:=h x hx;have go:∀ q:Operand,q=.tmp p->ridOf (s.ev q)=some id->x=some id:=by
  rintro q rfl h3;exact ridT_of h2 h3
 unfold ptrOp at h1;split at h1
 case h_4 =>
  split at h1
  ·rename_i c _ p' y hc ha;cases h1;unfold tchA at ht;simp only[hc,ha] at ht;rcases ht with ht | ht
   ·exact go _ rfl ht
   ·unfold cleanOp at h3;simp only[ha] at h3;rw[ht] at h3;cases h3
  ·exact nomatch h1
 all_goals first
  |(cases h1; exact go _ rfl ht)
  |exact nomatch h1
def StepR (P:Program) (ty:Nat->Ty) (ops:Array Oper) (tc:Nat->Option (Option Rid)) (dr:Bool) (pre:Nat->Bool) (i:Nat) (o:Oper) (s s':AS):Prop :=
 ∃ e,s'=s.app i o.dst e/\((wantA ops o s=some true/\act P ty (drB ops dr o) pre i s o.op (fun x=>x=e)/\UpOk dr s pre o.op e/\Tc (tc i) s o.op)\/(wantA ops o s=some false/\e={ v:=.lit undef }))
theorem drB_cases (ops:Array Oper) (dr:Bool) (o:Oper):drB ops dr o=dr\/(drB ops dr o=false/\∃ t n ps,o.op=.buildSlice t n ps):=by
 unfold drB;split
 ·rename_i t n ps h;cases hb:appd ops o.dst with
  |true=>exact .inr ⟨by simp,t,n,ps,h⟩
  |false=>exact .inl (by simp)
 ·exact .inl rfl
theorem buildB {P:Program} {ty:Nat->Ty} {pre:Nat->Bool} {i:Nat} {t n:Nat} {ps:Array (Nat×Operand)} {e:Eff} (h:act P ty false pre i s (.buildSlice t n ps) (fun x=>x=e)):e.fz=[]/\e.mt=[]:=by
 simp only[act] at h;generalize (ty t).d=d at h;split at h
 ·obtain⟨_,h⟩:=trueA_iff h;obtain⟨els,_,h⟩:=someA_iff h;simp only[Bool.false_and] at h;subst h;exact⟨rfl,rfl⟩
 ·exact h.elim
theorem up_drB {dr:Bool} {pre:Nat->Bool} {i:Nat} {o:Oper} {e:Eff} (h:act P ty (drB ops dr o) pre i s o.op (fun x=>x=e)) (hu:UpOk (drB ops dr o) s pre o.op e):UpOk dr s pre o.op e:=by
 rcases drB_cases ops dr o with hd | ⟨hd,t,n,ps,ho⟩
 ·rw[hd] at hu;exact hu
 ·rw[hd] at hu h;rw[ho] at hu h ⊢;exact⟨hu.1,fun _=>buildB h⟩
theorem act_localB {pre:Nat->Bool} {i:Nat} {o:Oper} {s s':AS} {K:Eff->Prop} (hev:∀ x∈o.op.operands,s'.ev x=s.ev x) (hg:s'.gen=s.gen) (hr:accB o.op=true->∀ id,tchA o.op s id->RowAs s s' pre id) (h:act P ty (drB ops true o) pre i s o.op K):act P ty (drB ops true o) pre i s' o.op K:=by
 rcases drB_cases ops true o with hd | ⟨hd,t,n,ps,ho⟩
 ·rw[hd] at h ⊢;exact act_local hev hg hr h
 ·rw[hd] at h ⊢;rw[ho] at h hev ⊢;have hp:∀ p∈ps.toList,s'.ev p.2=s.ev p.2:=fun p hp=>hev p.2 (by
   simp only[Op.operands];exact Array.mem_toList_iff.1 (by simpa using ⟨p.1,by simpa using hp⟩))
  have hm:(ps.toList.map fun p=>(p.1,s'.ev p.2))=ps.toList.map fun p=>(p.1,s.ev p.2):=List.map_congr_left fun p hq=>by rw[hp p hq]
  simp only[act] at h ⊢;rw[hm,hg];exact h
theorem stepA_step {tc:Nat->Option (Option Rid)} {dr:Bool} {pre:Nat->Bool} {i:Nat} {o:Oper} {K:AS->Prop} (h:stepA P ty ops tc dr pre i o s K):∃ s',StepR P ty ops tc dr pre i o s s'/\K s':=by
 unfold stepA at h;cases hg:o.guard with
 |none =>
  rw[hg] at h;obtain⟨ht,h⟩:=chk_iff h;obtain⟨e,h1,h2,h3⟩:=act_ex _ h;exact⟨_,⟨e,rfl,.inl ⟨by simp[wantA,hg],h1 _ rfl,up_drB (h1 _ rfl) h2,ht⟩⟩,h3⟩
 |some g =>
  obtain⟨j,want⟩:=g;rw[hg] at h;simp only at h;cases hd:(ops[j]?).bind (·.dst) with
  |none=>rw[hd] at h; exact h.elim
  |some d =>
   rw[hd] at h;simp only at h;split at h
   ·rename_i b hb;have h1:=h.t;have h2:=h.f;cases hbw:b==want with
    |true =>
     obtain⟨ht,h1⟩:=chk_iff (h1 hbw);obtain⟨e,q1,q2,q3⟩:=act_ex _ h1;exact⟨_,⟨e,rfl,.inl ⟨by simp only[wantA,hg,hd,hb,hbw],q1 _ rfl,up_drB (q1 _ rfl) q2,ht⟩⟩,q3⟩
    |false=>exact⟨_,⟨{ v:=.lit undef },rfl,.inr ⟨by simp only[wantA,hg,hd,hb,hbw],rfl⟩⟩,h2 hbw⟩
   ·rename_i vs hb;exact⟨_,⟨{ v:=.lit undef },rfl,.inr ⟨by simp only[wantA,hg,hd,hb],rfl⟩⟩,h⟩
   ·exact h.elim
theorem app_fr (s:AS) (i:Nat) (dst:Option Nat) (e:Eff) (t:Nat) (h:∀ d,dst=some d->t≠d):(s.app i dst e).fr t=s.fr t:=by
 unfold AS.app;cases dst with
 |none=>rfl
 |some d=>rw[put_fr,if_neg (h d rfl)]
theorem app_fr' (s:AS) (i:Nat) (dst:Option Nat) (e:Eff) (t:Nat):(s.app i dst e).fr t=match dst with | some d=>if t=d then e.v else s.fr t | none=>s.fr t:=by
 unfold AS.app;cases dst with
 |none=>rfl
 |some d=>rw[put_fr]
theorem app_gen (s:AS) (i:Nat) (dst:Option Nat) (e:Eff) (hz:e.fz=[]/\e.mt=[]):(s.app i dst e).gen=s.gen:=by
 unfold AS.app;rw[put_gen];show genAfter s.gen e.mt=_;rw[hz.2];rfl
theorem app_st (s:AS) (i:Nat) (dst:Option Nat) (e:Eff) (hz:e.fz=[]/\e.mt=[]):(s.app i dst e).st=match e.new with | some r=>upd (dropUp s.st e.up) (s.gen,i) (some r) | none=>dropUp s.st e.up:=by
 unfold AS.app;rw[put_st,hz.1,hz.2];unfold dropUp;cases e.up with
 |none=>rfl
 |some p=>cases p; rfl
theorem wantA_app {o oi:Oper} {i:Nat} {e:Eff} (h:∀ d,oi.dst=some d->d∉o.looksAt ops):wantA ops o (s.app i oi.dst e)=wantA ops o s:=by
 unfold wantA;cases hg:o.guard with
 |none=>rfl
 |some g =>
  obtain⟨j,want⟩:=g;simp only;cases hd:(ops[j]?).bind (·.dst) with
  |none=>rfl
  |some d =>
   simp only;rw[app_fr];intro d' hd' e';subst e';exact h d hd' (by simp[Oper.looksAt,hg,hd])
theorem ev_app {o oi:Oper} {i:Nat} {e:Eff} (h:∀ d,oi.dst=some d->d∉o.looksAt ops):∀ x∈o.op.operands,(s.app i oi.dst e).ev x=s.ev x:=by
 intro x hx;cases x with
 |tmp t =>
  simp only[AS.ev];refine app_fr _ _ _ _ _ fun d hd e'=>?_
  subst e';exact h t hd (List.mem_append_left _ (List.mem_filterMap.2 ⟨.tmp t,by simpa using hx,rfl⟩))
 |_=>rfl
theorem upd_comm {α β:Type} [DecidableEq α] (f:α->β) {a b:α} (x y:β) (h:a≠b):upd (upd f a x) b y=upd (upd f b y) a x:=by
 funext z;unfold upd;by_cases h1:z=a
 ·subst h1; simp[h]
 ·by_cases h2:z=b
  ·subst h2; simp[h1]
  ·simp[h1,h2]
theorem mu_acc {op:Op} (h:muB op=true):accB op=true:=by
 cases op
 case call c =>
  simp only[muB,accB] at h ⊢;split at h
  ·rename_i e;rw[e]
  ·cases h
 all_goals simp_all [muB,accB]
theorem app_comm {i j:Nat} {x y:Option Nat} {ei ej:Eff} (hzi:ei.fz=[]/\ei.mt=[]) (hzj:ej.fz=[]/\ej.mt=[]) (hij:i≠j) (hd:∀ d,x=some d->y≠some d)
  (h1:∀ a q b r,ei.up=some (a,q)->ej.up=some (b,r)->a≠b) (h2:∀ id q,ei.up=some (id,q)->id≠(s.gen,j)) (h3:∀ id q,ej.up=some (id,q)->id≠(s.gen,i)) :
  (s.app i x ei).app j y ej=(s.app j y ej).app i x ei:=by
 have hne:(s.gen,i)≠(s.gen,j):=fun e=>hij (Prod.mk.inj e).2
 have hfr:((s.app i x ei).app j y ej).fr=((s.app j y ej).app i x ei).fr:=by
  funext t;simp only[app_fr'];cases x with
  |none=>rfl
  |some d =>
   cases y with
   |none=>rfl
   |some e =>
    have hde:d≠e:=fun q=>hd d rfl (by rw[q])
    simp only;by_cases h1:t=d
    ·subst h1; simp[hde]
    ·by_cases h2:t=e
     ·subst h2; simp[h1]
     ·simp[h1,h2]
 have hst:((s.app i x ei).app j y ej).st=((s.app j y ej).app i x ei).st:=by
  simp only[app_st _ _ _ _ hzi,app_st _ _ _ _ hzj,app_gen _ _ _ _ hzi,app_gen _ _ _ _ hzj];rcases ei with ⟨vi,ni,ui,fi,mi⟩
  rcases ej with ⟨vj,nj,uj,fj,mj⟩
  simp only at h1 h2 h3 ⊢;have hc1:∀ (f:Rid->Option Row) (r:Row),dropUp (upd f (s.gen,i) (some r)) uj=upd (dropUp f uj) (s.gen,i) (some r):=by
   intro f r;cases uj with
   |none=>rfl
   |some p=>obtain⟨id,q⟩:=p; exact upd_comm _ _ _ (h3 id q rfl).symm
  have hc2:∀ (f:Rid->Option Row) (r:Row),dropUp (upd f (s.gen,j) (some r)) ui=upd (dropUp f ui) (s.gen,j) (some r):=by
   intro f r;cases ui with
   |none=>rfl
   |some p=>obtain⟨id,q⟩:=p; exact upd_comm _ _ _ (h2 id q rfl).symm
  have hc3:∀ (f:Rid->Option Row),dropUp (dropUp f ui) uj=dropUp (dropUp f uj) ui:=by
   intro f;cases ui with
   |none=>rfl
   |some p =>
    cases uj with
    |none=>rfl
    |some p' =>
     obtain⟨a,q⟩:=p;obtain⟨b,r⟩:=p';exact upd_comm _ _ _ (h1 a q b r rfl rfl)
  cases ni with
  |none =>
   cases nj with
   |none=>exact hc3 _
   |some rj=>simp only[hc2,hc3]
  |some ri =>
   cases nj with
   |none=>simp only[hc1,hc3]
   |some rj=>simp only[hc1,hc2,hc3]; exact upd_comm _ _ _ hne
 have hgen:((s.app i x ei).app j y ej).gen=((s.app j y ej).app i x ei).gen:=by simp only[app_gen _ _ _ _ hzi,app_gen _ _ _ _ hzj]
 cases hA:(s.app i x ei).app j y ej;cases hB:(s.app j y ej).app i x ei;rw[hA,hB] at hfr hst hgen;simp only at hfr hst hgen;rw[hfr,hst,hgen]
theorem diamond {tc:Nat->Option (Option Rid)} {prei prej:Nat->Bool} {i j:Nat} {oi oj:Oper} {s1 s2:AS} (hij:i≠j) (hap:oi.apart ops oj=true)
  (hsi:StepR P ty ops tc true prei i oi s s1) (hsj:StepR P ty ops tc true prej j oj s1 s2) (hji:prej i=false) (hjj:prei j=false)
  (hc1:muB oi.op=true->accB oj.op=true->∃ x y,tc i=some x/\tc j=some y/\∀ a b,x=some a->y=some b->a≠b) (hc2:muB oj.op=true->accB oi.op=true->∃ x y,tc j=some x/\tc i=some y/\∀ a b,x=some a->y=some b->a≠b) :
  ∃ s1',StepR P ty ops tc true prej j oj s s1'/\StepR P ty ops tc true prei i oi s1' s2:=by
 obtain⟨h1,h2,h3⟩:=Oper.apart_spec hap;obtain⟨ei,rfl,hi⟩:=hsi;obtain⟨ej,rfl,hj⟩:=hsj
 -- what each effect turns
 have upi:∀ id q,ei.up=some (id,q)->(muB oi.op=true/\(id.1=s.gen->prei id.2=true)/\tchA oi.op s id)/\Tc (tc i) s oi.op:=by
  rcases hi with ⟨_,_,hU,ht⟩ | ⟨_,rfl⟩
  ·exact fun id q h=>⟨hU.1 id q h,ht⟩
  ·intro id q h; cases h
 have zi:ei.fz=[]/\ei.mt=[]:=by
  rcases hi with ⟨_,_,hU,_⟩ | ⟨_,rfl⟩
  ·exact hU.2 rfl
  ·exact⟨rfl,rfl⟩
 have upj:∀ id q,ej.up=some (id,q)->(muB oj.op=true/\(id.1=s.gen->prej id.2=true)/\tchA oj.op (s.app i oi.dst ei) id)/\Tc (tc j) (s.app i oi.dst ei) oj.op:=by
  rcases hj with ⟨_,_,hU,ht⟩ | ⟨_,rfl⟩
  ·intro id q h;have:=hU.1 id q h;rw[app_gen _ _ _ _ zi] at this;exact⟨this,ht⟩
  ·intro id q h; cases h
 have zj:ej.fz=[]/\ej.mt=[]:=by
  rcases hj with ⟨_,_,hU,_⟩ | ⟨_,rfl⟩
  ·exact hU.2 rfl
  ·exact⟨rfl,rfl⟩
 have off1:∀ id q id',ei.up=some (id,q)->accB oj.op=true->Tc (tc j) (s.app i oi.dst ei) oj.op->tchA oj.op (s.app i oi.dst ei) id'->id≠id':=by
  intro id q id' hu hacc htj ht;obtain⟨⟨u1,_,u3⟩,hti⟩:=upi id q hu;obtain⟨x,y,x1,y1,hxy⟩:=hc1 u1 hacc;exact hxy _ _ (hti.tch x1 u3) (htj.tch y1 ht)
 have off2:∀ id q id',ej.up=some (id,q)->accB oi.op=true->Tc (tc i) s oi.op->tchA oi.op s id'->id≠id':=by
  intro id q id' hu hacc hti ht;obtain⟨⟨u1,_,u3⟩,htj⟩:=upj id q hu;obtain⟨x,y,x1,y1,hxy⟩:=hc2 u1 hacc;exact hxy _ _ (htj.tch x1 u3) (hti.tch y1 ht)
 have nei:∀ id q,ei.up=some (id,q)->id≠(s.gen,j):=by
  intro id q h e;have:=(upi id q h).1.2.1 (by rw[e]);rw[e] at this;rw[hjj] at this;cases this
 have nej:∀ id q,ej.up=some (id,q)->id≠(s.gen,i):=by
  intro id q h e;have:=(upj id q h).1.2.1 (by rw[e]);rw[e] at this;rw[hji] at this;cases this
 have one:∀ a q b r,ei.up=some (a,q)->ej.up=some (b,r)->a≠b:=by
  intro a q b r hu hv;obtain⟨⟨v1,_,v3⟩,htj⟩:=upj b r hv;exact off1 a q b hu (mu_acc v1) htj v3
 have ev1:∀ x∈oj.op.operands,s.ev x=(s.app i oi.dst ei).ev x:=fun x hx=>(ev_app h1 x hx).symm
 have ev2:∀ x∈oi.op.operands,(s.app j oj.dst ej).ev x=s.ev x:=fun x hx=>ev_app h3 x hx
 have tcm:∀ {o:Op} {s s':AS} {c:Option (Option Rid)},(∀ x∈o.operands,s'.ev x=s.ev x)->Tc c s o->Tc c s' o:=by
  intro o s s' c hev ht id hid;obtain⟨p,p1,p2,p3⟩:=ht id hid;have hcl:cleanOp s' o=true:=by
   rw[<- p3];unfold cleanOp;split
   ·rename_i c;split
    ·rename_i x y ha;rw[hev y (by simp only[Op.operands,Call.operands]; exact Array.mem_append_right _ (Array.mem_toList_iff.1 (by rw[ha]; simp)))]
    ·rfl
   ·rfl
  refine⟨p,p1,?_,hcl⟩;have:s'.ev (.tmp p)=s.ev (.tmp p):=hev _ (by
   unfold ptrOp at p1;split at p1
   case h_4 =>
    split at p1
    ·rename_i c _ p' y hc ha;cases p1;simp only[Op.operands,Call.operands];exact Array.mem_append_right _ (Array.mem_toList_iff.1 (by rw[ha]; simp))
    ·exact nomatch p1
   all_goals first
    |(cases p1; simp[Op.operands])
    |exact nomatch p1)
  have e2:s'.fr p=s.fr p:=this;rw[e2];exact p2
 have tchm:∀ {o:Op} {s s':AS} {id:Rid},(∀ x∈o.operands,s'.ev x=s.ev x)->tchA o s id->tchA o s' id:=by
  intro o s s' id hev ht;cases o
  case load t p =>
   show ridOf (s'.ev p)=_;rw[hev p (by simp[Op.operands])];exact ht
  case store t p v =>
   show ridOf (s'.ev p)=_;rw[hev p (by simp[Op.operands])];exact ht
  case indexAddr t p v =>
   show ridOf (s'.ev p)=_;rw[hev p (by simp[Op.operands])];exact ht
  case call c =>
   unfold tchA at ht ⊢;simp only at ht ⊢;split
   ·rename_i x y hc ha;simp only[hc,ha] at ht;have hm:∀ z∈[x,y],z∈(Op.call c).operands:=fun z hz=>by
     simp only[Op.operands,Call.operands];exact Array.mem_append_right _ (Array.mem_toList_iff.1 (by rw[ha]; exact hz))
    rw[hev x (hm x (by simp)),hev y (hm y (by simp))];exact ht
   ·trivial
  all_goals exact ht
 refine⟨s.app j oj.dst ej,⟨ej,rfl,?_⟩,⟨ei,app_comm zi zj hij h2 one nei nej,?_⟩⟩
 ·rcases hj with ⟨w1,w2,w3,w4⟩ | ⟨w1,w2⟩
  ·refine .inl ⟨by rw[<- w1,wantA_app h1],?_,⟨fun id q h=>?_,fun _=>zj⟩,tcm ev1 w4⟩
   ·refine act_localB (s:=s.app i oi.dst ei) ev1 (app_gen _ _ _ _ zi).symm (fun hacc id ht r hr hp=>?_) w2;have hn:∀ a q,ei.up=some (a,q)->a≠id:=fun a q hu=>off1 a q id hu hacc w4 ht
    rw[app_gen _ _ _ _ zi] at hp;rw[app_st _ _ _ _ zi] at hr;have hne:id≠(s.gen,i):=by
     intro e;have:=hp (by rw[e]);rw[e] at this;simp only at this;rw[hji] at this;cases this
    have hdrop:∀ f:Rid->Option Row,dropUp f ei.up id=f id:=by
     intro f;cases hu:ei.up with
     |none=>rfl
     |some p =>
      obtain⟨a,q⟩:=p;simp only[dropUp,upd,if_neg (hn a q hu).symm]
    cases hnew:ei.new with
    |none=>rw[hnew] at hr; exact (hdrop s.st).symm.trans hr
    |some rr =>
     rw[hnew] at hr;simp only[upd,hne,if_false] at hr;exact (hdrop s.st).symm.trans hr
   ·obtain⟨⟨u1,u2,u3⟩,_⟩:=upj id q h;exact⟨u1,u2,tchm ev1 u3⟩
  ·exact .inr ⟨by rw[<- w1,wantA_app h1],w2⟩
 ·rcases hi with ⟨w1,w2,w3,w4⟩ | ⟨w1,w2⟩
  ·refine .inl ⟨by rw[<- w1,wantA_app h3],?_,⟨fun id q h=>?_,fun _=>zi⟩,tcm ev2 w4⟩
   ·refine act_localB (s:=s) ev2 (app_gen _ _ _ _ zj) (fun hacc id ht r hr hp=>?_) w2;have hn:∀ a q,ej.up=some (a,q)->a≠id:=fun a q hu=>off2 a q id hu hacc w4 ht
    rw[app_st _ _ _ _ zj];have hne:id≠(s.gen,j):=by
     intro e;have:=hp (by rw[e]);rw[e] at this;simp only at this;rw[hjj] at this;cases this
    have hdrop:dropUp s.st ej.up id=s.st id:=by
     cases hu:ej.up with
     |none=>rfl
     |some p =>
      obtain⟨a,q⟩:=p;simp only[dropUp,upd,if_neg (hn a q hu).symm]
    cases hnew:ej.new with
    |none=>simp only; rw[hdrop]; exact hr
    |some rr =>
     simp only[upd,hne,if_false];rw[hdrop];exact hr
   ·obtain⟨⟨u1,u2,u3⟩,_⟩:=upi id q h;exact⟨u1,by rw[app_gen _ _ _ _ zj]; exact u2,tchm ev2 u3⟩
  ·exact .inr ⟨by rw[<- w1,wantA_app h3],w2⟩
end
end
section
open Go Go.RowKit
variable [Gl]
section
variable {P:Program} {ty:Nat->Ty} {ops:Array Oper}
def Dn (ops:Array Oper) (listed:Array Bool):Prop :=
 ∀ (k:Nat) (o:Oper),listed.getD k false=true->ops[k]?=some o->∀ e∈o.after,Region.binds .any e=true->listed.getD e.on false=true
theorem down_listed {listed:Array Bool} (hD:Dn ops listed):∀ (f j i:Nat),down ops f j i=true->(∀ o,ops[j]?=some o->∀ e∈o.after,Region.binds .any e=true->listed.getD e.on false=true)->listed.getD i false=true
 |0,j,i,h,_=>by simp[down] at h
 |f+1,j,i,h,hj=>by
  unfold down at h;split at h
  ·rename_i o ho;rw[Bool.or_eq_true] at h;rcases h with h | h
   ·rw[List.any_eq_true] at h;obtain⟨e,he,hb⟩:=h;simp only[Bool.and_eq_true] at hb;have hl:=hj o ho e (Array.mem_toList_iff.1 he) hb.1;rw[<- Nat.eq_of_beq_eq_true hb.2]; exact hl
   ·rw[List.any_eq_true] at h;obtain⟨e,he,hb⟩:=h;simp only[Bool.and_eq_true] at hb;have hl:=hj o ho e (Array.mem_toList_iff.1 he) hb.1;exact down_listed hD f e.on i hb.2 fun o' ho'=>hD e.on o' hl ho'
  ·cases h
theorem Dn.set {listed:Array Bool} {i:Nat} (hD:Dn ops listed) (hi:∀ o,ops[i]?=some o->∀ e∈o.after,Region.binds .any e=true->listed.getD e.on false=true):Dn ops (listed.setIfInBounds i true):=by
 intro k o hk ho e he hb;refine getD_set_true ?_;by_cases hki:i=k
 ·subst hki; exact hi o ho e he hb
 ·rw[getD_set_ne false hki] at hk;exact hD k o hk ho e he hb
theorem memOk_spec {tc:Nat->Option (Option Rid)} {i j:Nat} {oi oj:Oper} (h:memOk ops tc=true) (hi:ops[i]?=some oi) (hj:ops[j]?=some oj) (hij:i≠j) (h1:down ops ops.size i j=false) (h2:down ops ops.size j i=false) :
  muB oi.op=true->accB oj.op=true->∃ x y,tc i=some x/\tc j=some y/\∀ a b,x=some a->y=some b->a≠b:=by
 have li:=(Array.getElem?_eq_some_iff.1 hi).1;have lj:=(Array.getElem?_eq_some_iff.1 hj).1;simp only[memOk,List.all_eq_true,List.mem_range] at h;have:=h i li j lj;rw[hi,hj] at this;simp only[h1,h2,Bool.or_false,Bool.or_eq_true] at this;intro m1 m2;rcases this with h | h
 ·exact (hij (Nat.eq_of_beq_eq_true h)).elim
 ·simp only[m1,m2,Bool.and_self,Bool.not_true,Bool.false_eq_true,false_or] at h;unfold unlike at h;split at h
  ·rename_i a b ha hb;refine⟨a,b,ha,hb,fun x y hx hy e=>?_⟩;subst hx hy;simp only[ridB_iff.2 e] at h;cases h
  ·cases h
def aAny (P:Program) (ty:Nat->Ty) (ops:Array Oper) (tc:Nat->Option (Option Rid)) (Q:AS->Prop):Nat->Array Bool->AS->Prop
 |0,listed,s=>Region.ready .any ops listed=[]/\Q s
 |f+1,listed,s=>(Region.ready .any ops listed=[]->Q s)/\∀ i∈Region.ready .any ops listed,∀ o,ops[i]?=some o->∃ s',StepR P ty ops tc true (down ops ops.size i) i o s s'/\aAny P ty ops tc Q f (listed.setIfInBounds i true) s'
theorem aAny_first {tc:Nat->Option (Option Rid)} {Q:AS->Prop} {i:Nat} {oi:Oper} (hi:ops[i]?=some oi) (hmem:memOk ops tc=true) :
  ∀ (fuel:Nat) (listed:Array Bool) (s s1:AS),Dn ops listed ->
   (∀ j oj,ops[j]?=some oj->j≠i->listed.getD j true=false->(∀ e∈oj.after,Region.binds .any e=true->e.on≠i)->oi.apart ops oj=true) ->
   i∈Region.ready .any ops listed->StepR P ty ops tc true (down ops ops.size i) i oi s s1 ->
   aAny P ty ops tc Q fuel (listed.setIfInBounds i true) s1->aAny P ty ops tc Q (fuel+1) listed s:=by
 intro fuel
 induction fuel with
 |zero =>
  intro listed s s1 hDn _ hr hy H;refine⟨fun h=>(by rw[h] at hr; cases hr),fun j hj oj hoj=>?_⟩;by_cases hji:j=i
  ·subst hji;have:oj=oi:=Option.some.inj (hoj.symm.trans hi);subst this;exact⟨s1,hy,H⟩
  ·have:=ready_mono hj hji;rw[H.1] at this;cases this
 |succ fuel ih =>
  intro listed s s1 hDn hfree hr hy H;refine⟨fun h=>(by rw[h] at hr; cases hr),fun j hj oj hoj=>?_⟩;by_cases hji:j=i
  ·subst hji;have:oj=oi:=Option.some.inj (hoj.symm.trans hi);subst this;exact⟨s1,hy,H⟩
  ·obtain⟨s2,hst2,H2⟩:=H.2 j (ready_mono hj hji) oj hoj;obtain⟨hjun,oj',hoj',hall⟩:=mem_ready.1 hj;have:oj'=oj:=Option.some.inj (hoj'.symm.trans hoj);subst this;obtain⟨hiun,oi',hoi',halli⟩:=mem_ready.1 hr;have:oi'=oi:=Option.some.inj (hoi'.symm.trans hi);subst this;have unl:∀ (k:Nat),listed.getD k true=false->listed.getD k false=true->False:=by
    intro k h0 h1;rcases Nat.lt_or_ge k listed.size with h' | h'
    ·simp[h'] at h0 h1; rw[h0] at h1; cases h1
    ·simp[Array.getElem?_eq_none h'] at h1
   have hnot:∀ e∈oj'.after,Region.binds .any e=true->e.on≠i:=fun e he hb heq=>by
    have h1:=hall e he hb;rw[heq] at h1;exact unl i hiun h1
   have nd1:down ops ops.size j i=false:=by
    cases hd:down ops ops.size j i with
    |false=>rfl
    |true=>exact (unl i hiun (down_listed hDn _ _ _ hd fun o ho e he hb=>by
      have:o=oj':=Option.some.inj (ho.symm.trans hoj);subst this;exact hall e he hb)).elim
   have nd2:down ops ops.size i j=false:=by
    cases hd:down ops ops.size i j with
    |false=>rfl
    |true=>exact (unl j hjun (down_listed hDn _ _ _ hd fun o ho e he hb=>by
      have:o=oi':=Option.some.inj (ho.symm.trans hi);subst this;exact halli e he hb)).elim
   have hap:=hfree j oj' hoj hji hjun hnot;obtain⟨s1',g1,g2⟩:=diamond (Ne.symm hji) hap hy hst2 nd1 nd2 (memOk_spec hmem hi hoj (Ne.symm hji) nd2 nd1) (memOk_spec hmem hoj hi hji nd1 nd2);refine⟨s1',g1,ih (listed.setIfInBounds j true) s1' s2 (hDn.set fun o ho e he hb=>?_) ?_ (ready_mono hr (Ne.symm hji)) g2 ?_⟩
   ·have:o=oj':=Option.some.inj (ho.symm.trans hoj);subst this;exact hall e he hb
   ·intro k ok hk hki hun hno;refine hfree k ok hk hki ?_ hno;by_cases hjk:j=k
    ·subst hjk; exact hjun
    ·rw[getD_set_ne true hjk] at hun; exact hun
   ·rw[Array.setIfInBounds_comm _ _ hji];exact H2
def aRun (P:Program) (ty:Nat->Ty) (ops:Array Oper) (tc:Nat->Option (Option Rid)):List Oper->Nat->AS->AS->Prop
 |[],_,s,s'=>s'=s
 |o::l,i,s,s'=>∃ s1,StepR P ty ops tc true (down ops ops.size i) i o s s1/\aRun P ty ops tc l (i+1) s1 s'
theorem aops_run {tc:Nat->Option (Option Rid)} {K:AS->Prop}:∀ (l:List Oper) (i:Nat) (s:AS),aops P ty ops tc true l i s K->∃ s',aRun P ty ops tc l i s s'/\K { s' with gen:=s'.gen+1 }
 |[],i,s,h=>⟨s,rfl,h⟩
 |o::l,i,s,h=>by
  obtain⟨s1,h1,h2⟩:=stepA_step h;obtain⟨s',h3,h4⟩:=aops_run l (i+1) s1 h2;exact⟨s',⟨s1,h1,h3⟩,h4⟩
theorem aAny_lex {tc:Nat->Option (Option Rid)} {Q:AS->Prop} (hmem:memOk ops tc=true):∀ (l:List Oper) (k:Nat) (listed:Array Bool) (s s':AS),(∀ j,l[j]?=ops[k+j]?)->Dn ops listed ->
  Region.lexFrom .any ops l.length k listed=true->aRun P ty ops tc l k s s'->Q s'->aAny P ty ops tc Q l.length listed s
 |[],_,_,s,s',_,_,hB,h,hQ=>by
  cases h;exact⟨by simpa [Region.lexFrom] using hB,hQ⟩
 |o::l,k,listed,s,s',hl,hDn,hB,h,hQ=>by
  have h0:ops[k]?=some o:=by simpa using (hl 0).symm
  simp only[List.length_cons,Region.lexFrom,Bool.and_eq_true] at hB;obtain⟨⟨hr,hf⟩,hB'⟩:=hB;obtain⟨s1,h1,h2⟩:=h;have hr':k∈Region.ready .any ops listed:=by simpa using hr
  obtain⟨_,o',ho',hall⟩:=mem_ready.1 hr';have:o'=o:=Option.some.inj (ho'.symm.trans h0);subst this;refine aAny_first h0 hmem l.length listed s s1 hDn (Region.free_spec h0 hf) hr' h1 ?_;refine aAny_lex hmem l (k+1) _ s1 s' (fun j=>by have:=hl (j+1); simpa [Nat.add_assoc,Nat.add_comm 1 j] using this) (hDn.set fun o ho e he hb=>?_) hB' h2 hQ;have:o=o':=Option.some.inj (ho.symm.trans h0);subst this;exact hall e he hb
section
variable {cx:Cx} {N:Nat} {D:Nat->Prop} {m:RMap} {S:Nat->Prop} {s s':AS} {a:Act} {w:World}
theorem Rel.weakD {D':Nat->Prop} (h:Rel cx N D m S s a w) (hD:∀ n,D n->D' n):Rel cx N D' m S s a w :=
 { h with dom:=fun i x hx=>(h.dom i x hx).imp id fun ⟨q1,q2⟩=>⟨q1,hD _ q2⟩ }
theorem wanted_sound {o:Oper} {b:Bool} (hR:Rel cx N D m S s a w) (h:wantA ops o s=some b):Region.wanted o (yielded ops a.tmps)=b:=by
 unfold wantA at h;unfold Region.wanted;cases hg:o.guard with
 |none=>rw[hg] at h; simp only[Option.some.injEq] at h; subst h; rfl
 |some g =>
  obtain⟨j,want⟩:=g;rw[hg] at h;simp only at h ⊢;cases hd:(ops[j]?).bind (·.dst) with
  |none=>rw[hd] at h; cases h
  |some d =>
   rw[hd] at h;simp only at h;have hf:=hR.fr d;split at h
   ·rename_i b0 hb;rw[hb] at hf;have hv:=hf.lit_inv;have hget:a.tmps[d]?=some (.bool b0):=by
     rw[Array.getD_eq_getD_getElem?] at hv;cases hq:a.tmps[d]? with
     |none=>rw[hq] at hv; cases hv
     |some v=>rw[hq] at hv; simp at hv; rw[hv]
    simp only[Option.some.injEq] at h;subst h;simp[yielded,hd,hget]
   ·rename_i vs hb;rw[hb] at hf;have hv:=hf.lit_inv;simp only[Option.some.injEq] at h;subst h;have hy:yielded ops a.tmps j=none:=by
     unfold yielded;simp only[hd,Option.bind_some];rw[Array.getD_eq_getD_getElem?] at hv;cases hq:a.tmps[d]? with
     |none=>rfl
     |some v=>rw[hq] at hv; simp at hv; subst hv; rfl
    rw[hy];rfl
   ·cases h
theorem stepR_sound {tc:Nat->Option (Option Rid)} (hty:∀ t,(ty t).ok=true->TyOk P t (ty t)) {Q:Exit->Act->World->Prop} {dr:Bool} {pre:Nat->Bool} {i:Nat} {o:Oper} (ho:ops[i]?=some o) (hd:∀ d,o.dst=some d->d<N) (hR:Rel cx N D m S s a w) (hD:¬ D i)
  (h:StepR P ty ops tc dr pre i o s s'):wpOp P ops Q i (fun a' w'=>∃ m' S',Rel cx N (fun n=>D n\/n=i) m' S' s' a' w') a w:=by
 obtain⟨e,rfl,h⟩:=h;unfold wpOp;simp only[ho];rcases h with ⟨h1,h2,_,_⟩ | ⟨h1,rfl⟩
 ·rw[wanted_sound hR h1];simp only[if_true];refine .inl (Oper.wp_mono ?_ (act_sound (K:=fun x=>x=e) hty hR hd hD h2));rintro a' w' ⟨e',m',S',rfl,hR'⟩;exact⟨m',S',hR'⟩
 ·rw[wanted_sound hR h1];simp only[Bool.false_eq_true,if_false];exact⟨m,S,hR.step (s':=s) hd rfl rfl (fun _ _ h=>h) (fun _ h=>h) (fun _ _=>rfl) (.sh _ _ (.lit _)) hR.row hR.inj (fun _ _ h=>.inl h) hR.sh hR.below (fun _ h=>.inl h)⟩
theorem aAny_sound {tc:Nat->Option (Option Rid)} (hty:∀ t,(ty t).ok=true->TyOk P t (ty t)) {Q:AS->Prop} {Q':Exit->Act->World->Prop} (hN:∀ (i:Nat) (o:Oper),ops[i]?=some o->∀ d,o.dst=some d->d<N)
  (hQ:∀ D m S s a w,Rel cx N D m S s a w->Q s->Q' .normal a w):∀ (fuel:Nat) (listed:Array Bool) (m:RMap) (S:Nat->Prop) (s:AS) (a:Act) (w:World),
  Rel cx N (fun n=>listed.getD n false=true) m S s a w->aAny P ty ops tc Q fuel listed s->wpAny P .any ops Q' fuel listed a w
 |0,listed,m,S,s,a,w,hR,h=>⟨h.1,hQ _ _ _ _ _ _ hR h.2⟩
 |fuel+1,listed,m,S,s,a,w,hR,h=>by
  refine⟨fun h0=>hQ _ _ _ _ _ _ hR (h.1 h0),fun i hi=>?_⟩;obtain⟨hun,o,ho,_⟩:=mem_ready.1 hi;obtain⟨s',hst,hrest⟩:=h.2 i hi o ho;have hlt:i<listed.size:=by
   rcases Nat.lt_or_ge i listed.size with h' | h'
   ·exact h'
   ·simp[Array.getElem?_eq_none h'] at hun
  have hD:¬ (listed.getD i false=true):=by
   intro h1;simp[hlt] at hun h1;rw[hun] at h1;cases h1
  refine wpOp_mono ?_ (stepR_sound hty ho (hN i o ho) hR hD hst);rintro a' w' ⟨m',S',hR'⟩;refine aAny_sound hty hN hQ fuel _ m' S' s' a' w' (hR'.weakD ?_) hrest;rintro n (h1 | rfl)
  ·exact getD_set_true h1
  ·simp[hlt]
theorem Rel.next (h:Rel cx N D m S s a w):Rel cx N (fun _=>False) m S { s with gen:=s.gen+1 } a w :=
 { h with dom:=fun i x hx=>.inl (by
   rcases h.dom i x hx with h1 | ⟨h1,_⟩
   ·exact Nat.lt_succ_of_lt h1
   ·show i.1<s.gen+1;rw[h1]; exact Nat.lt_succ_self _) }
theorem Rel.drew (h:Rel cx N D m S s a w):Rel cx N D m S s a w.drew :=
 { h with
  fr:=fun t=>(h.fr t).mono (w:=w) (w':=w.drew) (fun _ _ h=>h) (fun _ h=>h) (fun _ _=>rfl)
  row:=fun i r hr=>(h.row i r hr).mono (w:=w) (w':=w.drew) (fun _ _ h=>h) (fun _ h=>h) (fun _ _=>rfl) fun _ _=>⟨rfl,fun h=>h⟩
  below:=h.below.drew
  gok:=h.gok.mono (w:=w) (w':=w.drew) (fun _ h=>h) (fun _ _=>rfl) }
theorem region_draw {tc:Nat->Option (Option Rid)} (hty:∀ t,(ty t).ok=true->TyOk P t (ty t)) (hm:P.follows .mixedOrders=true) {id:Nat} {K:AS->Prop} {Q:Exit->Act->World->Prop} (hN:∀ (i:Nat) (o:Oper),ops[i]?=some o->∀ d,o.dst=some d->d<N)
  (hB:(Region.lexB .any ops&&memOk ops tc)=true) (hR:Rel cx N (fun _=>False) m S s a w) (h:aops P ty ops tc true ops.toList 0 s K)
  (hQ:∀ m S s a w,K s->Rel cx N (fun _=>False) m S s a w->Q .normal a w):(Code.region id ops true).wp P Q a w:=by
 simp only[Bool.and_eq_true,Region.lexB] at hB;obtain⟨s',h1,h2⟩:=aops_run _ _ _ h;refine wp_region_any hm ?_;refine aAny_sound (tc:=tc) (Q:=fun s=>K { s with gen:=s.gen+1 }) hty hN (fun D m S s a w hR hK=>hQ _ _ _ _ _ hK hR.next) ops.size _ m S s a _ ?_ ?_
 ·exact hR.drew.weakD fun n h=>h.elim
 ·have:=aAny_lex (P:=P) (ty:=ty) (tc:=tc) (Q:=fun s=>K { s with gen:=s.gen+1 }) hB.2 ops.toList 0 (Array.replicate ops.size false) s s' (by simp) (by
   intro k o hk;simp only[Array.getD_eq_getD_getElem?,Array.getElem?_replicate] at hk;split at hk <;> simp at hk) (by simpa using hB.1.2) h1 h2
  simpa using this
theorem region_text {tc:Nat->Option (Option Rid)} (hty:∀ t,(ty t).ok=true->TyOk P t (ty t)) {K:AS->Prop} {Q:Exit->Act->World->Prop} (hN:∀ (i:Nat) (o:Oper),ops[i]?=some o->∀ d,o.dst=some d->d<N)
  (hQ:∀ m S s a w,K s->Rel cx N (fun _=>False) m S s a w->Q .normal a w):∀ (l:List Oper) (k:Nat) (m:RMap) (S:Nat->Prop) (s:AS) (a:Act) (w:World),(∀ j,l[j]?=ops[k+j]?) ->
  Rel cx N (fun n=>n<k) m S s a w->aops P ty ops tc false l k s K->wpOps P ops Q (List.range' k l.length) a w
 |[],k,m,S,s,a,w,_,hR,h=>hQ _ _ _ _ _ h hR.next
 |o::l,k,m,S,s,a,w,hl,hR,h=>by
  have h0:ops[k]?=some o:=by simpa using (hl 0).symm
  obtain⟨s1,h1,h2⟩:=stepA_step h;have hst:=stepR_sound (Q:=Q) hty h0 (hN k o h0) hR (Nat.lt_irrefl k) h1;have hcons:List.range' k (o::l).length=k::List.range' (k+1) l.length:=by simp[List.range'_succ]
  rw[hcons];rw[wpOps_cons];refine wpOp_mono ?_ hst;rintro a' w' ⟨m',S',hR'⟩;refine region_text hty hN hQ l (k+1) m' S' s1 a' w' (fun j=>by have:=hl (j+1); simpa [Nat.add_assoc,Nat.add_comm 1 j] using this) (hR'.weakD ?_) h2;rintro n (h1 | rfl)
  ·exact Nat.lt_succ_of_lt h1
  ·exact Nat.lt_succ_self _
end
end
end
section
open Go Go.RowKit
variable [Gl]
theorem ltL_get:∀ {g:Nat} {cs:List AV} {j:Nat} {x:AV},AV.ltL g cs=true->cs[j]?=some x->x.lt g=true
 |g,[],j,x,_,h=>by simp at h
 |g,c::cs,0,x,h,h2=>by simp[AV.ltL] at h h2; subst h2; exact h.1
 |g,c::cs,j+1,x,h,h2=>by simp[AV.ltL] at h h2; exact ltL_get h.2 h2
theorem cells_lt {g:Nat} {e:AV} {j:Nat} {y:AV} (h:e.lt g=true) (hy:e.cells[j]?=some y):y.lt g=true:=by
 cases e with
 |agg cs=>exact ltL_get (cs:=cs) (by simpa [AV.lt] using h) hy
 |_=>cases j <;> simp[AV.cells] at hy; subst hy; exact h
section
variable {P:Program} {ty:Nat->Ty} {cx:Cx} {N:Nat} {D:Nat->Prop} {m:RMap} {S S':Nat->Prop} {s:AS} {a:Act} {w:World}
theorem sig_off {s:AS}:∀ {ρ:Ren} {i:Rid},isT ρ i=false->sig s ρ i=i
 |[],i,_=>rfl
 |(o,t)::l,i,h=>by
  have h':(ridB t i||isT l i)=false:=by simpa [isT] using h
  rw[Bool.or_eq_false_iff] at h';unfold sig;rw[h'.1];exact sig_off h'.2
theorem offL_get:∀ {ρ:Ren} {cs:List AV} {j:Nat} {x:AV},AV.offL ρ cs=true->cs[j]?=some x->x.off ρ=true
 |ρ,[],j,x,_,h=>by simp at h
 |ρ,c::cs,0,x,h,h2=>by simp[AV.offL] at h h2; subst h2; exact h.1
 |ρ,c::cs,j+1,x,h,h2=>by simp[AV.offL] at h h2; exact offL_get h.2 h2
theorem okV_iff {ρ:Ren} {g:Nat} {y:AV} (h:okV ρ g y=true):y.lt g=true/\(ρ≠[]->y.off ρ=true):=by
 unfold okV at h;split at h
 ·exact⟨h,fun q=>absurd rfl q⟩
 ·rw[Bool.and_eq_true] at h;exact⟨h.1,fun _=>h.2⟩
theorem okL_get {ρ:Ren} {g:Nat} {cs:List AV} {j:Nat} {x:AV} (h:okL ρ g cs=true) (hx:cs[j]?=some x):okV ρ g x=true:=by
 unfold okL at h;unfold okV;split at h
 ·exact ltL_get h hx
 ·rw[Bool.and_eq_true] at h ⊢;exact⟨ltL_get h.1 hx,offL_get h.2 hx⟩
theorem cells_ok {ρ:Ren} {g:Nat} {e:AV} {j:Nat} {y:AV} (h:okV ρ g e=true) (hy:e.cells[j]?=some y):okV ρ g y=true:=by
 unfold okV at h ⊢;split at h
 ·exact cells_lt h hy
 ·rw[Bool.and_eq_true] at h ⊢;refine⟨cells_lt h.1 hy,?_⟩;have h2:=h.2;cases e with
  |agg cs=>exact offL_get (cs:=cs) (by simpa [AV.off] using h2) hy
  |_=>cases j <;> simp[AV.cells] at hy; subst hy; exact h2
def renM (s:AS) (m:RMap) (ρ:Ren) (g:Nat):RMap:=fun i=>if i.1<g then m (sig s ρ i) else none
theorem renM_sub {m:RMap} {ρ:Ren} {g:Nat} {i:Rid} {r:RInfo} (h:renM s m ρ g i=some r):m (sig s ρ i)=some r/\i.1<g:=by
 unfold renM at h;split at h
 ·exact⟨h,‹_›⟩
 ·cases h
theorem Rep.renV {ρ:Ren} {g:Nat} {x:AV} {v:Value} (h:Rep m S w x v) (hl:okV ρ g x=true):Rep (renM s m ρ g) S w x v:=by
 have id':∀ i:Rid,(ρ≠[]->(!isT ρ i)=true)->sig s ρ i=i:=fun i hi=>by
  by_cases h0:ρ=[]
  ·subst h0; rfl
  ·have:=hi h0;exact sig_off (by simpa using this)
 induction h with
 |any v=>exact .any v
 |sh x v h=>exact .sh x v h
 |own i n r h =>
  obtain⟨h1,h2⟩:=okV_iff hl;simp only[AV.lt] at h1;have:i.1<g:=Nat.le_of_ble_eq_true h1;exact .own i n r (by simp[renM,this,h,id' i fun q=>h2 q])
 |osl i off n cap r h hcap =>
  obtain⟨h1,h2⟩:=okV_iff hl;simp only[AV.lt] at h1;have:i.1<g:=Nat.le_of_ble_eq_true h1;exact .osl i off n cap r (by simp[renM,this,h,id' i fun q=>h2 q]) hcap
 |ptr i x c r h =>
  obtain⟨h1,h2⟩:=okV_iff hl;simp only[AV.lt] at h1;have:i.1<g:=Nat.le_of_ble_eq_true h1;exact .ptr i x c r (by simp[renM,this,h,id' i fun q=>h2 q])
 |agg cs vs hl' h ih=>exact .agg cs vs hl' fun j x u h1 h2=>ih j x u h1 h2 (by
   obtain⟨q1,q2⟩:=okV_iff hl;unfold okV;split
   ·exact ltL_get (by simpa [AV.lt] using q1) h1
   ·rw[Bool.and_eq_true];exact⟨ltL_get (by simpa [AV.lt] using q1) h1,offL_get (by simpa [AV.off] using q2 (by simp)) h1⟩)
 |tup cs vs hl' h ih=>exact .tup cs vs hl' fun j x u h1 h2=>ih j x u h1 h2 (by
   obtain⟨q1,q2⟩:=okV_iff hl;unfold okV;split
   ·exact ltL_get (by simpa [AV.lt] using q1) h1
   ·rw[Bool.and_eq_true];exact⟨ltL_get (by simpa [AV.lt] using q1) h1,offL_get (by simpa [AV.off] using q2 (by simp)) h1⟩)
theorem wkFr_get {F:List Rid} {ρ:Ren} {g:Nat}:∀ {l:List (Nat×AV)} (t:Nat),wkFr s F ρ g l->asFr l t=.any\/WkV s F ρ g (s.fr t) (asFr l t)
 |[],t,_=>.inl rfl
 |(u,y)::l,t,h=>by
  unfold asFr;cases hb:Nat.beq t u with
  |true =>
   have:=Nat.eq_of_beq_eq_true hb;subst this;exact .inr h.1
  |false=>exact wkFr_get t h.2
theorem asSt_mem:∀ {l:List (Rid×Row)} {i:Rid} {r:Row},asSt l i=some r->(i,r)∈l
 |[],i,r,h=>by simp[asSt] at h
 |(u,q)::l,i,r,hi=>by
  unfold asSt at hi;cases hb:(Nat.beq i.1 u.1&&Nat.beq i.2 u.2) with
  |true =>
   rw[hb] at hi;simp only[Option.some.injEq] at hi;simp only[Bool.and_eq_true] at hb;have e:i=u:=Prod.ext (Nat.eq_of_beq_eq_true hb.1) (Nat.eq_of_beq_eq_true hb.2);subst e hi;exact .head _
  |false =>
   rw[hb] at hi;exact .tail _ (asSt_mem hi)
theorem stR_eq {s:AS} {ρ:Ren} {i:Rid}:stR s ρ i=s.st (sig s ρ i):=by cases ρ <;> rfl
theorem sigR_eq {s:AS} {ρ:Ren} {i:Rid}:sigR s ρ i=sig s ρ i:=by cases ρ <;> rfl
theorem wkSt_mem {F:List Rid} {ρ:Ren} {g:Nat}:∀ {l:List (Rid×Row)} {i:Rid} {r:Row},wkSt s F ρ g l->(i,r)∈l->WkRow s F ρ g i r/\sig s ρ i∉F/\i.1<g
 |[],i,r,_,h=>by cases h
 |(u,q)::l,i,r,h,hi=>by
  rcases List.mem_cons.1 hi with e | e
  ·cases e; have:=h.1; rw[sigR_eq] at this; exact this
  ·exact wkSt_mem h.2 e
theorem wkSt_get {F:List Rid} {ρ:Ren} {g:Nat} {l:List (Rid×Row)} {i:Rid} {r:Row} (h:wkSt s F ρ g l) (hi:asSt l i=some r):WkRow s F ρ g i r/\sig s ρ i∉F/\i.1<g:=wkSt_mem h (asSt_mem hi)
theorem injB_spec {f:Rid->Rid}:∀ {l:List (Rid×Row)} {i j:Rid} {r q:Row},injB f l=true->(i,r)∈l->(j,q)∈l->f i=f j->i=j
 |[],i,j,r,q,_,h,_,_=>by cases h
 |(u,x)::l,i,j,r,q,h,hi,hj,hf=>by
  simp only[injB,Bool.and_eq_true,List.all_eq_true] at h;obtain⟨h1,h2⟩:=h;have key:∀ {v:Rid} {y:Row},(v,y)∈l->f u=f v->u=v:=fun {v y} hv hf=>by
   have h3:=h1 (v,y) hv;rw[Bool.or_eq_true] at h3;rcases h3 with h3 | h3
   ·exact ridB_iff.1 h3
   ·rw[ridB_iff.2 hf] at h3;cases h3
  rcases List.mem_cons.1 hi with e | e
  ·rcases List.mem_cons.1 hj with e2 | e2
   ·cases e; cases e2; rfl
   ·cases e; exact key e2 hf
  ·rcases List.mem_cons.1 hj with e2 | e2
   ·cases e2; exact (key e hf.symm).symm
   ·exact injB_spec h2 e e2 hf
theorem wkv_sound {F:List Rid} {ρ:Ren} {g:Nat} (hR:Rel cx N D m S s a w) {x y:AV} {v:Value} (h:WkV s F ρ g x y) (hv:Rep m S w x v):Rep (renM s m ρ g) (Sfz m S s (·∈F)) w y v:=by
 rcases h with ⟨h1,h2⟩ | h1 | h1
 ·exact ((hv.le h1).renV h2).mono (fun _ _ h=>h) (fun b hb=>.inl hb) fun _ _=>rfl
 ·exact .sh _ _ (frz_sound hR h1 hv)
 ·induction h1 generalizing v with
  |own i n h =>
   have hi:i.1<g:=Nat.le_of_ble_eq_true h;obtain⟨inf,hm,rfl⟩:=hv.own_inv;exact .own i n inf (by simp[renM,hi,hm])
  |osl i o n h =>
   have hi:i.1<g:=Nat.le_of_ble_eq_true h;cases hv with
   |sh _ _ hv=>cases hv
   |osl _ _ _ cap inf hm hcap=>exact .osl i o n cap inf (by simp[renM,hi,hm]) hcap
  |ptr i x c h =>
   have hi:i.1<g:=Nat.le_of_ble_eq_true h;obtain⟨inf,hm,rfl⟩:=hv.ptr_inv;exact .ptr i x c inf (by simp[renM,hi,hm])
  |le x y h hk=>exact ((hv.le h).renV hk).mono (fun _ _ h=>h) (fun b hb=>.inl hb) fun _ _=>rfl
  |frz x y h=>exact .sh _ _ (frz_sound hR h hv)
  |agg cs ds hl h ih =>
   obtain⟨vs,rfl,hl',hr⟩:=hv.agg_inv;refine .agg ds vs (by omega) fun j y u hy hu=>?_
   have hj:j<cs.length:=by
    have:=(List.getElem?_eq_some_iff.1 hy).1;omega
   exact ih j cs[j] y (by simp[hj]) hy (hr j cs[j] u (by simp[hj]) hu)
theorem RenV.one {F:List Rid} {ρ:Ren} {g:Nat} {x y:AV} (h:RenV s F ρ g x y) (h1:x.oneCell=true):y.oneCell=true:=by
 cases h with
 |own i n h=>rfl
 |osl i o n h=>rfl
 |ptr i x c h=>rfl
 |le _ _ h hk=>exact h.one h1
 |frz _ _ h=>exact h.one h1
 |agg cs ds hl h=>simp[AV.oneCell] at h1
theorem WkV.cell {F:List Rid} {ρ:Ren} {g:Nat} {x y:AV} {j:Nat} {b:AV} (h:WkV s F ρ g x y) (hy:y.cells[j]?=some b):∃ a,x.cells[j]?=some a/\WkV s F ρ g a b:=by
 rcases h with ⟨h1,h2⟩ | h1 | h1
 ·obtain⟨a,q1,q2⟩:=h1.cell hy;exact⟨a,q1,.inl ⟨q2,cells_ok h2 hy⟩⟩
 ·obtain⟨a,q1,q2⟩:=h1.cell hy;exact⟨a,q1,.inr (.inl q2)⟩
 ·have h2:=h1;cases h1 with
  |le _ _ h hk =>
   obtain⟨a,q1,q2⟩:=h.cell hy;exact⟨a,q1,.inl ⟨q2,cells_ok hk hy⟩⟩
  |frz _ _ h =>
   obtain⟨a,q1,q2⟩:=h.cell hy;exact⟨a,q1,.inr (.inl q2)⟩
  |agg cs ds hl h =>
   simp only[AV.cells] at hy ⊢;have hj:j<cs.length:=by
    have:=(List.getElem?_eq_some_iff.1 hy).1;omega
   exact⟨cs[j],by simp[hj],.inr (.inr (h j cs[j] b (by simp[hj]) hy))⟩
  |own i n h=>(cases j <;> simp[AV.cells] at hy ⊢); subst hy; exact .inr (.inr h2)
  |osl i o n h=>(cases j <;> simp[AV.cells] at hy ⊢); subst hy; exact .inr (.inr h2)
  |ptr i x c h=>(cases j <;> simp[AV.cells] at hy ⊢); subst hy; exact .inr (.inr h2)
theorem WkV.elB {F:List Rid} {ρ:Ren} {g:Nat} {x y:AV} {k:Nat} (h:WkV s F ρ g x y) (hk:Abs.elB k x=true):Abs.elB k y=true:=by
 rcases h with ⟨h1,_⟩ | h1 | h1
 ·exact h1.elB hk
 ·exact h1.elB hk
 ·cases h1 with
  |own i n h=>exact hk
  |osl i o n h=>exact hk
  |ptr i x c h=>exact hk
  |le _ _ h _=>exact h.elB hk
  |frz _ _ h=>exact h.elB hk
  |agg cs ds hl h =>
   simp only[Abs.elB,AV.cells,Bool.and_eq_true,List.all_eq_true] at hk ⊢;refine⟨by rw[<- hl]; exact hk.1,fun y hy=>?_⟩;obtain⟨j,hj,rfl⟩:=List.mem_iff_getElem.1 hy;have hj2:j<cs.length:=by omega
   exact (h j cs[j] ds[j] (by simp[hj2]) (by simp[hj])).one (hk.2 _ (List.getElem_mem hj2))
theorem WkRow.row {F:List Rid} {ρ:Ren} {g:Nat} {i:Rid} {r:Row} (h:WkRow s F ρ g i r):∃ els,s.st (sig s ρ i)=some ⟨r.elem,r.k,els⟩/\els.length=r.els.length /\
  ∀ (j:Nat) (x y:AV),els[j]?=some x->r.els[j]?=some y->WkV s F ρ g x y:=by
 cases h with
 |same h hl=>exact⟨r.els,stR_eq.symm.trans h,rfl,fun j x y h1 h2=>by rw[h1] at h2; cases h2; exact .inl ⟨.refl _,okL_get hl h1⟩⟩
 |less els h hl hc=>exact⟨els,stR_eq.symm.trans h,hl,hc⟩
theorem wkI_spec {F:List Rid} {ρ:Ren} {st:List (Rid×Row)} (h:wkI s F ρ st):wkF s F/\(∀ {i j:Rid} {r q:Row},asSt st i=some r->asSt st j=some q->sig s ρ i=sig s ρ j->i=j)/\∀ i:Rid,i.1=0->sig s ρ i=i:=by
 unfold wkI at h;split at h
 ·exact⟨h,fun _ _ e=>e,fun _ _=>rfl⟩
 ·rename_i p l;obtain⟨h1,h2⟩:=h;rw[Bool.and_eq_true] at h2;refine⟨h1,fun hi hj e=>injB_spec h2.1 (asSt_mem hi) (asSt_mem hj) e,fun i hi=>sig_off ?_⟩;cases ht:isT (p::l) i with
  |false=>rfl
  |true =>
   simp only[isT,List.any_eq_true] at ht;obtain⟨q,hq,hqb⟩:=ht;have h3:=List.all_eq_true.1 h2.2 q hq;have e:=ridB_iff.1 hqb;rw[e,hi] at h3;cases h3
theorem Rel.weaken {F:List Rid} {ρ:Ren} {fr:List (Nat×AV)} {st:List (Rid×Row)} {g:Nat} (hR:Rel cx N (fun _=>False) m S s a w) (h:Wk s F ρ fr st g) (hg:0<g) :
  ∃ m' S',Rel cx N (fun _=>False) m' S' (mkS fr st g) a w:=by
 obtain⟨hI,hfr,hst⟩:=h;obtain⟨hF,hinj,hbase⟩:=wkI_spec hI;obtain⟨f1,f2,f3,f4⟩:=sfz_facts (F:=(·∈F)) hR;refine⟨renM s m ρ g,Sfz m S s (·∈F),?_⟩;refine⟨hR.defers,hR.size,fun t=>?_,?_,?_,?_,f3,hR.below,hR.base,fun b hb=>f1 b (hR.s0 b hb),f2,hR.gok.mono f1 fun _ _=>rfl,fun i r hi=>⟨(hR.mb i r hi).1,by
  have h1:=hR.mb i r hi;have h2:=hbase i h1.1;simp[renM,h1.1,h1.2,hg,h2]⟩⟩
 ·show Rep _ _ w (asFr fr t) _;rcases wkFr_get t hfr with h1 | h1
  ·rw[h1]; exact .any _
  ·exact wkv_sound hR h1 (hR.fr t)
 ·intro i r hr;obtain⟨h1,h2,h3⟩:=wkSt_get hst hr;obtain⟨els,g1,g2,g3⟩:=h1.row;obtain⟨inf,c,k1,k2,k3,k4,k5,k6,k7,k8,k9⟩:=hR.row _ _ g1;refine⟨inf,c,by simp[renM,h3,k1],k2,k3,?_,k5,k6,by rw[<- g2]; exact k7,k8,fun x e he=>?_⟩
  ·rintro (h5 | ⟨i',inf',r',q0,q1,q2,q3⟩)
   ·exact k4 h5
   ·have:=hR.inj i' _ r' _ inf' inf q1 g1 q2 k1 q3;rw[<- this] at h2;exact h2 q0
  ·have hx:x<els.length:=by
    have:=(List.getElem?_eq_some_iff.1 he).1;omega
   have hw:=g3 x els[x] e (by simp[hx]) he;obtain⟨p1,p2⟩:=k9 x els[x] (by simp[hx]);refine⟨hw.elB p1,fun j y hy=>?_⟩;obtain⟨z,hz,hzw⟩:=hw.cell hy;obtain⟨u,q1,q2⟩:=p2 j z hz;exact⟨u,q1,wkv_sound hR hzw q2⟩
 ·intro i j r r' x y h1 h2 h3 h4 h5;obtain⟨_,g1,_⟩:=(wkSt_get hst h1).1.row;obtain⟨_,g2,_⟩:=(wkSt_get hst h2).1.row;exact hinj h1 h2 (hR.inj _ _ _ _ x y g1 g2 (renM_sub h3).1 (renM_sub h4).1 h5)
 ·intro i x hx;exact .inl (renM_sub hx).2
def dstN (N:Nat) (o:Oper):Bool:=match o.dst with | some d=>Nat.blt d N | none=>true
def codeN (N:Nat):Code->Bool
 |.region _ ops _=>ops.all (dstN N)
 |.seq a b=>codeN N a&&codeN N b
 |.cond _ x y=>codeN N x&&codeN N y
 |.block _ c=>codeN N c
 |.loop c=>codeN N c
 |_=>true
def exitOf:AExit->Exit
 |.normal=>.normal
 |.exit i=>.exit i
 |.ret=>.ret
def CPost (cx:Cx) (N:Nat) (Q:AExit->AS->Prop) (e:Exit) (a:Act) (w:World):Prop :=
 ∃ ae s m S,e=exitOf ae/\Q ae s/\Rel cx N (fun _=>False) m S s a w
theorem dstN_ok {ops:Array Oper} (h:ops.all (dstN N)=true):∀ (i:Nat) (o:Oper),ops[i]?=some o->∀ d,o.dst=some d->d<N:=by
 intro i o ho d hd;have:=Array.all_eq_true_iff_forall_mem.1 h o (Array.mem_of_getElem? ho);simp only[dstN,hd] at this;exact Nat.le_of_ble_eq_true this
theorem awp_sound (hty:∀ t,(ty t).ok=true->TyOk P t (ty t)) (hm:P.follows .mixedOrders=true):∀ (c:Code) (s:AS) (Q:AExit->AS->Prop),codeN N c=true->awp P ty N c s Q ->
  ∀ (m:RMap) (S:Nat->Prop) (a:Act) (w:World),Rel cx N (fun _=>False) m S s a w->c.wp P (CPost cx N Q) a w
 |.skip,s,Q,_,h,m,S,a,w,hR=>wp_skip ⟨.normal,s,m,S,rfl,h,hR⟩
 |.label l,s,Q,_,h,m,S,a,w,hR=>wp_label ⟨.normal,s,m,S,rfl,h,hR⟩
 |.region id ops draw,s,Q,hN,h,m,S,a,w,hR=>by
  have hN':=dstN_ok (by simpa [codeN] using hN);cases draw with
  |true=>exact region_draw hty hm hN' h.1 hR h.2 fun m S s a w hK hR=>⟨.normal,s,m,S,rfl,hK,hR⟩
  |false =>
   refine wp_region ?_;have:=region_text (P:=P) (cx:=cx) (N:=N) (K:=Q .normal) (Q:=CPost cx N Q) hty hN' (fun m S s a w hK hR=>⟨.normal,s,m,S,rfl,hK,hR⟩) ops.toList 0 m S s a w (by simp) (hR.weakD fun n h=>h.elim) h;simpa [List.range_eq_range'] using this
 |.seq x y,s,Q,hN,h,m,S,a,w,hR=>by
  simp only[codeN,Bool.and_eq_true] at hN;refine wp_seq (wp_mono (awp_sound hty hm x s _ hN.1 h m S a w hR) ?_);rintro e a' w' ⟨ae,s',m',S',rfl,hq,hR'⟩;cases ae with
  |normal=>exact awp_sound hty hm y s' Q hN.2 hq m' S' a' w' hR'
  |exit i=>exact⟨.exit i,s',m',S',rfl,hq,hR'⟩
  |ret=>exact⟨.ret,s',m',S',rfl,hq,hR'⟩
 |.cond c x y,s,Q,hN,h,m,S,a,w,hR=>by
  simp only[codeN,Bool.and_eq_true] at hN;simp only[awp] at h;split at h
  ·rename_i b hb;exact wp_cond_split (hR.evBool hb) (fun q=>awp_sound hty hm x s Q hN.1 (h.t q) m S a w hR) fun q=>awp_sound hty hm y s Q hN.2 (h.f q) m S a w hR
  ·exact h.elim
 |.block id c,s,Q,hN,h,m,S,a,w,hR=>by
  refine wp_block (wp_mono (awp_sound hty hm c s _ hN h m S a w hR) ?_);rintro e a' w' ⟨ae,s',m',S',rfl,hq,hR'⟩;cases ae with
  |normal=>exact⟨.normal,s',m',S',rfl,hq,hR'⟩
  |exit i =>
   simp only[exitOf,Exit.inBlock];simp only at hq;split at hq
   ·rename_i hb;rw[if_pos (Nat.eq_of_beq_eq_true hb)];exact⟨.normal,s',m',S',rfl,hq,hR'⟩
   ·rename_i hb;rw[if_neg (by intro e; subst e; simp at hb)];exact⟨.exit i,s',m',S',rfl,hq,hR'⟩
  |ret=>exact⟨.ret,s',m',S',rfl,hq,hR'⟩
 |.loop c,s,Q,hN,h,m,S,a,w,hR=>by
  obtain⟨α,p,inv,μ,x0,hp0,h0,hround⟩:=h;obtain⟨m0,S0,hR0⟩:=hR.weaken h0 (Nat.le_of_ble_eq_true (inv x0).pos);refine wp_loop_ghost (fun n a w=>∃ x,p x/\μ x=n/\∃ m S,Rel cx N (fun _=>False) m S (mkS (inv x).fr (inv x).st (inv x).g) a w) (μ x0) ⟨x0,hp0,rfl,m0,S0,hR0⟩ ?_;rintro n a' w' ⟨x,hp,rfl,m',S',hR'⟩;refine wp_mono (awp_sound hty hm c _ _ hN (hround x hp) m' S' a' w' hR') ?_;rintro e a'' w'' ⟨ae,s2,m2,S2,rfl,hq,hR2⟩;cases ae with
  |normal =>
   obtain⟨y,hpy,hw,hlt⟩:=hq;obtain⟨m3,S3,hR3⟩:=hR2.weaken hw (Nat.le_of_ble_eq_true (inv y).pos);exact⟨μ y,hlt,y,hpy,rfl,m3,S3,hR3⟩
  |exit i=>exact⟨.exit i,s2,m2,S2,rfl,hq,hR2⟩
  |ret=>exact⟨.ret,s2,m2,S2,rfl,hq,hR2⟩
 |.exit id,s,Q,_,h,m,S,a,w,hR=>wp_exit ⟨.exit id,s,m,S,rfl,h,hR⟩
 |.ret,s,Q,_,h,m,S,a,w,hR=>wp_ret ⟨.ret,s,m,S,rfl,h,hR⟩
 |.rangeFunc _ _ _ _,s,Q,_,h,m,S,a,w,hR=>h.elim
 |.scope _,s,Q,_,h,m,S,a,w,hR=>h.elim
 |.goto _,s,Q,_,h,m,S,a,w,hR=>h.elim
 |.refuse _,s,Q,_,h,m,S,a,w,hR=>h.elim
end
end
section
open Go Go.RowKit
variable [Gl]
def resR (ty:Nat->Ty) (F:Rid->Prop) (s:AS):ResultVar->AV->Prop
 |.tmp t,y=>FrzV s F (s.fr t) y
 |.cell a t,y=>match s.fr a with
  |.ptr id x c=>someA (s.st id) fun r=>elA r.els x fun e=>someA (partA (ty t) e c) fun v=>FrzV s F v y
  |_=>False
def resL (ty:Nat->Ty) (F:Rid->Prop) (s:AS):List ResultVar->List AV->Prop
 |[],[]=>True
 |r::rs,y::ys=>resR ty F s r y/\resL ty F s rs ys
 |_,_=>False
def resB (ty:Nat->Ty) (F:Rid->Prop) (rs:List ResultVar) (res:AV) (s:AS):Prop :=
 match rs,res with
 |[r],res=>resR ty F s r res
 |rs,.tup ys=>resL ty F s rs ys
 |_,_=>False
def resA (ty:Nat->Ty) (rs:List ResultVar) (res:AV) (e:AExit) (s:AS):Prop :=
 match e with
 |.exit _=>False
 |.normal=>resB ty (fun _=>True) rs res s
 |.ret=>resB ty (fun _=>True) rs res s
def resO (rs:List ResultVar) (r:Row) (e:AExit) (s:AS):Prop :=
 match e with
 |.exit _=>False
 |_=>match rs with
  |[.tmp t]=>∃ i,s.fr t=.own i r.els.length/\s.st i=some r/\∀ e∈r.els,e.closed=true
  |_=>False
def initS (args:List AV):AS:=⟨fun t=>args.getD t .any,fun _=>none,0⟩
section
variable {P:Program} {ty:Nat->Ty} {cx:Cx} {N:Nat} {F:Rid->Prop} {m:RMap} {S:Nat->Prop} {s:AS} {a:Act} {w:World}
def Sall (m:RMap) (S:Nat->Prop) (s:AS):Nat->Prop:=Sfz m S s fun _=>True
theorem res_sound (hty:∀ t,(ty t).ok=true->TyOk P t (ty t)) (hR:Rel cx N (fun _=>False) m S s a w) {r:ResultVar} {y:AV} (h:resR ty F s r y) :
  ∃ v,((match r with | .tmp t=>pure (a.tmps.getD t undef) | .cell p t=>do loadVar t (<- asAddr (a.tmps.getD p undef)):Sem Value).run P w)=.ok v w/\SRep (Sfz m S s F) w y v:=by
 cases r with
 |tmp t=>exact⟨_,rfl,frz_sound hR h (hR.fr t)⟩
 |cell p t =>
  simp only[resR] at h;have hp:=hR.fr p;split at h
  ·rename_i id x c hx;rw[hx] at hp;obtain⟨inf,hm,hv⟩:=hp.ptr_inv;obtain⟨r,hr,h⟩:=someA_iff h;obtain⟨e,he,h⟩:=elA_iff h;obtain⟨v,hpa,h⟩:=someA_iff h;obtain⟨q1,q2,q3⟩:=(hR.row id r hr).cellsAt hm he;obtain⟨u,hrun,hu⟩:=run_load_part (P:=P) (hty t (partA_ok hpa)) hpa q3;refine⟨u,?_,frz_sound hR h hu⟩;simp only[hv];simpa [asAddr,Instr.loadAt,Instr.sureAddr] using hrun
  ·exact h.elim
theorem resL_sound (hty:∀ t,(ty t).ok=true->TyOk P t (ty t)) (hR:Rel cx N (fun _=>False) m S s a w):∀ {rs:List ResultVar} {ys:List AV},resL ty F s rs ys ->
  ∃ vs:List Value,((rs.mapM fun | .tmp t=>pure (a.tmps.getD t undef) | .cell p t=>do loadVar t (<- asAddr (a.tmps.getD p undef)):Sem (List Value)).run P w)=.ok vs w/\ys.length=vs.length/\vs.length=rs.length /\
   ∀ (j:Nat) (y:AV) (u:Value),ys[j]?=some y->vs[j]?=some u->SRep (Sfz m S s F) w y u
 |[],[],_=>⟨[],rfl,rfl,rfl,by simp⟩
 |r::rs,y::ys,h=>by
  obtain⟨v,h1,h2⟩:=res_sound hty hR h.1;obtain⟨vs,g1,g2,g3,g4⟩:=resL_sound hty hR h.2;refine⟨v::vs,?_,by simp[g2],by simp[g3],?_⟩
  ·simp only[List.mapM_cons,Sem.run_bind];rw[h1];simp only[Result.andThen_ok,g1,Sem.run_pure]
  ·intro j y' u hy hu;cases j with
   |zero=>simp at hy hu; subst hy hu; exact h2
   |succ j=>exact g4 j y' u (by simpa using hy) (by simpa using hu)
 |[],_::_,h=>h.elim
 |_::_,[],h=>h.elim
theorem run_results {fn:Func} {tmps:Array Value} {vs:List Value} (h:(fn.results.toList.mapM fun | .tmp t=>pure (tmps.getD t undef) | .cell p t=>do loadVar t (<- asAddr (tmps.getD p undef)):Sem (List Value)).run P w=.ok vs w) :
  (results fn tmps).run P w=.ok (if h:vs.toArray.size=1 then vs.toArray[0] else .tuple vs.toArray) w:=by
 unfold results;rw[Sem.run_bind,Array.mapM_eq_mapM_toList,Sem.run_map];erw [h];simp only[Result.andThen_ok,Sem.run_pure]
theorem init_rel {args:List AV} {vs:List Value} {S:Nat->Prop} (hS:∀ b,S b->b<w.heap.size) (hG:GOk S w) (h:SRepL S w args vs) (hN:args.length<=N) :
  Rel ⟨fun b=>w.heap.size<=b,w,S,fun _=>none⟩ N (fun _=>False) (fun _=>none) S (initS args) { tmps:=vs.toArray++Array.replicate (N-vs.toArray.size) undef,defers:=[] } w:=by
 obtain⟨hl,hr⟩:=h;refine⟨rfl,by simp; omega,fun t=>?_,(fun i r h=>by cases h),(fun i j r r' x y h=>by cases h),(fun i x h=>by cases h),hS,Bel.refl _ _,fun _ h=>h,fun b hb=>hb,fun b hb=>.inl hb,hG,fun i r h=>nomatch h⟩;show Rep _ S w (args.getD t .any) _;rw[List.getD_eq_getElem?_getD];cases ht:args[t]? with
 |none=>exact .any _
 |some x =>
  have hlt:t<vs.length:=by
   have:=(List.getElem?_eq_some_iff.1 ht).1;omega
  have hv:(vs.toArray++Array.replicate (N-vs.toArray.size) undef).getD t undef=vs[t]:=by
   rw[Array.getD_eq_getD_getElem?,Array.getElem?_append_left (by simpa using hlt)];simp[hlt]
  rw[hv];exact .sh _ _ (hr t x vs[t] ht (by simp[hlt]))
theorem Rel.sall (hR:Rel cx N (fun _=>False) m S s a w):(∀ b,S b->Sall m S s b)/\(∀ b,Sall m S s b->cx.S0 b\/cx.wr b)/\∀ b,Sall m S s b->b<w.heap.size :=
 ⟨(sfz_facts hR).1,(sfz_facts hR).2.1,(sfz_facts hR).2.2.1⟩
theorem ACalls.ofWp (hty:∀ t,(ty t).ok=true->TyOk P t (ty t)) (hm:P.follows .mixedOrders=true) {f:FuncId} {fn:Func} {c:Code} {args:List AV} {res:AV} (hf:P.funcs[f]?=some fn) (hb:fn.body=some c)
  (hc:((fn.name == "runtime.NumGoroutine")==false&&codeN fn.ntmps c&&Nat.ble args.length fn.ntmps)=true)
  (h:∀ (cx:Cx) (m:RMap) (S:Nat->Prop) (a:Act) (w:World),Rel cx fn.ntmps (fun _=>False) m S (initS args) a w->c.wp P (CPost cx fn.ntmps (resA ty fn.results.toList res)) a w):ACalls P f args res:=by
 simp only[Bool.and_eq_true,beq_iff_eq] at hc;obtain⟨⟨h1,h2⟩,h3⟩:=hc;refine⟨⟨fn,hf,h1,by rw[hb]; rfl⟩,fun S w vs hS hG hargs=>?_⟩;refine calls_of_wp hf hb (wp_mono (h _ _ S _ w (init_rel hS hG hargs (Nat.le_of_ble_eq_true h3))) ?_);rintro e a' w' ⟨ae,s,m,S',rfl,hq,hR⟩;obtain⟨z1,z2,z3⟩:=hR.sall;have key:ae≠.exit 0->(∃ v,(results fn a'.tmps).run P w'=.ok v w'/\SRep (Sall m S' s) w' res v)->bodyPost P fn (fun (e:Ending) (w':World)=>∃ (v:Value) (S':Nat->Prop),e=.returned v/\Below w.heap.size w w'/\(∀ b,S b->S' b)/\(∀ b,S' b->S b\/w.heap.size<=b)/\(∀ b,S' b->b<w'.heap.size)/\SRep S' w' res v) .ret a' w':=by
  rintro _ ⟨v,q1,q2⟩;exact⟨hR.defers,v,q1,v,Sall m S' s,rfl,hR.below.to_below,fun b hb=>z1 b (hR.s0 b hb),z2,z3,q2⟩
 have main:(∀ i,ae≠.exit i)->∃ v,(results fn a'.tmps).run P w'=.ok v w'/\SRep (Sall m S' s) w' res v:=by
  intro hne;have hq':resB ty (fun _=>True) fn.results.toList res s:=by
   cases ae with
   |exit i=>exact absurd rfl (hne i)
   |normal=>exact hq
   |ret=>exact hq
  clear hq key;unfold resB at hq';split at hq'
  ·rename_i r hrs;obtain⟨v,q1,q2⟩:=res_sound hty hR hq';refine⟨v,?_,q2⟩;rw[run_results (vs:=[v])]
   ·simp
   ·rw[hrs];simp only[List.mapM_cons,List.mapM_nil,Sem.run_bind];rw[q1];rfl
  ·rename_i ys hnot;obtain⟨vs,g1,g2,g3,g4⟩:=resL_sound hty hR hq';refine⟨.tuple vs.toArray,?_,.tup ys vs.toArray (by simpa using g2) fun j y u h1 h2=>g4 j y u h1 (by simpa using h2)⟩;rw[run_results g1];have:¬ vs.toArray.size=1:=by
    intro e;have e1:fn.results.toList.length=1:=by rw[<- g3]; simpa using e
    cases hl:fn.results.toList with
    |nil=>rw[hl] at e1; cases e1
    |cons r rest =>
     cases rest with
     |nil=>exact hnot r hl
     |cons _ _=>rw[hl] at e1; simp at e1
   rw[dif_neg this]
  ·exact hq'.elim
 cases ae with
 |normal=>exact key (by simp) (main (by simp))
 |ret=>exact key (by simp) (main (by simp))
 |exit i=>exact hq.elim
theorem ACalls.of (hty:∀ t,(ty t).ok=true->TyOk P t (ty t)) (hm:P.follows .mixedOrders=true) {f:FuncId} {fn:Func} {c:Code} {args:List AV} {res:AV} (hf:P.funcs[f]?=some fn) (hb:fn.body=some c)
  (hc:((fn.name == "runtime.NumGoroutine")==false&&codeN fn.ntmps c&&Nat.ble args.length fn.ntmps)=true)
  (h:awp P ty fn.ntmps c (initS args) (resA ty fn.results.toList res)):ACalls P f args res :=
 ACalls.ofWp hty hm hf hb hc fun _ m S a w hR=>awp_sound hty hm c _ _ (by simp only[Bool.and_eq_true] at hc; exact hc.1.2) h m S a w hR
theorem ACallsO.ofWp (hty:∀ t,(ty t).ok=true->TyOk P t (ty t)) (hm:P.follows .mixedOrders=true) {f:FuncId} {fn:Func} {c:Code} {args:List AV} {r:Row} (hf:P.funcs[f]?=some fn) (hb:fn.body=some c)
  (hc:((fn.name == "runtime.NumGoroutine")==false&&codeN fn.ntmps c&&Nat.ble args.length fn.ntmps)=true)
  (h:∀ (cx:Cx) (m:RMap) (S:Nat->Prop) (a:Act) (w:World),Rel cx fn.ntmps (fun _=>False) m S (initS args) a w->c.wp P (CPost cx fn.ntmps (resO fn.results.toList r)) a w):ACallsO P f args r:=by
 simp only[Bool.and_eq_true,beq_iff_eq] at hc;obtain⟨⟨h1,h2⟩,h3⟩:=hc;refine⟨⟨fn,hf,h1,by rw[hb]; rfl⟩,fun S w vs hS hG hargs=>?_⟩;refine calls_of_wp hf hb (wp_mono (h _ _ S _ w (init_rel hS hG hargs (Nat.le_of_ble_eq_true h3))) ?_);rintro e a' w' ⟨ae,s,m,S',rfl,hq,hR⟩;have hq':(∀ i,ae≠.exit i)->∃ t i,fn.results.toList=[.tmp t]/\s.fr t=.own i r.els.length/\s.st i=some r/\∀ e∈r.els,e.closed=true:=by
  intro hne;have:(match fn.results.toList with
   |[.tmp t]=>∃ i,s.fr t=.own i r.els.length/\s.st i=some r/\∀ e∈r.els,e.closed=true
   |_=>False):=by
   unfold resO at hq;cases ae with
   |exit i=>exact absurd rfl (hne i)
   |normal=>exact hq
   |ret=>exact hq
  split at this
  ·rename_i t ht;obtain⟨i,q⟩:=this;exact⟨t,i,ht,q⟩
  ·exact this.elim
 have main:(∀ i,ae≠.exit i)->bodyPost P fn (fun (e:Ending) (w':World)=>∃ (b cap:Nat) (S':Nat->Prop) (c:Array Value),e=.returned (.slice (some ⟨b,0,none⟩) r.els.length cap)/\Below w.heap.size w w'/\(∀ b,S b->S' b)/\(∀ b,S' b->S b\/w.heap.size<=b)/\(∀ b,S' b->b<w'.heap.size) /\
   ¬ S' b/\w.heap.size<=b/\w'.heap[b]?=some (.cells c r.elem (0,0))/\c.size=cap*r.k/\r.els.length<=cap/\cap<=maxLen /\
   ∀ (x:Nat) (e:AV),r.els[x]?=some e->elB r.k e=true/\∀ (j:Nat) (y:AV),e.cells[j]?=some y->∃ u,c[x*r.k+j]?=some u/\SRep S' w' y u) .ret a' w':=by
  intro hne;obtain⟨t,i,q1,q2,q3,q4⟩:=hq' hne;have hv:=hR.fr t;rw[q2] at hv;obtain⟨inf,hm,hv⟩:=hv.own_inv;obtain⟨inf',c,k1,k2,k3,k4,k5,k6,k7,k8,k9⟩:=hR.row i r q3;rw[hm] at k1;cases k1;refine⟨hR.defers,_,run_results (vs:=[a'.tmps.getD t undef]) (by rw[q1]; simp),inf.b,inf.cap,S',c,?_,hR.below.to_below,hR.s0,hR.s1,hR.sh,k4,k3,k5,k6,k7,k8,fun x e he=>⟨(k9 x e he).1,fun j y hy=>?_⟩⟩
  ·simp[hv] at hv ⊢
  ·obtain⟨u,z1,z2⟩:=(k9 x e he).2 j y hy;exact⟨u,z1,z2.closed (cells_closed (q4 e (List.mem_of_getElem? he)) hy)⟩
 cases ae with
 |normal=>exact main (by simp)
 |ret=>exact main (by simp)
 |exit i=>exact hq.elim
theorem ACallsO.of (hty:∀ t,(ty t).ok=true->TyOk P t (ty t)) (hm:P.follows .mixedOrders=true) {f:FuncId} {fn:Func} {c:Code} {args:List AV} {r:Row} (hf:P.funcs[f]?=some fn) (hb:fn.body=some c)
  (hc:((fn.name == "runtime.NumGoroutine")==false&&codeN fn.ntmps c&&Nat.ble args.length fn.ntmps)=true)
  (h:awp P ty fn.ntmps c (initS args) (resO fn.results.toList r)):ACallsO P f args r :=
 ACallsO.ofWp hty hm hf hb hc fun _ m S a w hR=>awp_sound hty hm c _ _ (by simp only[Bool.and_eq_true] at hc; exact hc.1.2) h m S a w hR
theorem ACalls.nilOr {f:FuncId} {es:List AV} {pre post:List AV} {res:AV} (h1:es=[]->ACalls P f (pre++.lit (.slice none 0 0)::post) res) (h2:ACalls P f (pre++.sln es::post) res):ACalls P f (pre++.sl es::post) res:=by
 refine⟨h2.1,fun S w vs hS hG hargs=>?_⟩;obtain⟨hl,hr⟩:=hargs;have hlt:pre.length<vs.length:=by rw[<- hl]; simp
 have hv:=hr pre.length (.sl es) vs[pre.length] (by simp) (by simp[hlt]);have other:∀ (y:AV),SRep S w y vs[pre.length]->SRepL S w (pre++y::post) vs:=by
  intro y hy;refine⟨by simpa using hl,fun j x u hx hu=>?_⟩;by_cases hj:j=pre.length
  ·subst hj;simp at hx;subst hx;have:vs[pre.length]=u:=by
    have:=(List.getElem?_eq_some_iff.1 hu).2;exact this
   rw[<- this];exact hy
  ·refine hr j x u ?_ hu;by_cases hlt':j<pre.length
   ·rw[List.getElem?_append_left hlt'] at hx ⊢;exact hx
   ·rw[List.getElem?_append_right (by omega)] at hx ⊢;have:j-pre.length=(j-pre.length-1)+1:=by omega
    rw[this] at hx ⊢;simpa using hx
 generalize vs[pre.length]=v at hv other;cases hv with
 |slnil=>exact (h1 rfl).2 S w vs hS hG (other _ (.lit _))
 |sle a=>exact h2.2 S w vs hS hG (other _ (.slne a))
 |sl _ b off n cap k us hn hcap hb hk hc hr'=>exact h2.2 S w vs hS hG (other _ (.sln _ b off n cap k us hn hcap hb hk hc hr'))
end
end
section
open Go Go.RowKit
variable [Gl]
def rowsL:List Row->Nat->Option Row
 |[],_=>none
 |r::_,0=>some r
 |_::l,k+1=>rowsL l k
theorem rowsL_get:∀ (l:List Row) (k:Nat),rowsL l k=l[k]?
 |[],k=>by cases k <;> rfl
 |r::l,0=>rfl
 |r::l,k+1=>by simp[rowsL,rowsL_get l k]
def initM (args:List AV) (rows:List Row):AS:=⟨fun t=>args.getD t .any,fun i=>match Nat.beq i.1 0 with | true=>rowsL rows i.2 | false=>none,1⟩
def resRows (s:AS):Nat->List Row->Prop
 |_,[]=>True
 |k,r::l=>(s.st (0,k)=some r/\AV.closedL r.els=true)/\resRows s (k+1) l
def resM (ty:Nat->Ty) (rs:List ResultVar) (res:AV) (rows':List Row) (e:AExit) (s:AS):Prop :=
 match e with
 |.exit _=>False
 |.normal=>resB ty (fun i=>i.1≠0) rs res s/\resRows s 0 rows'
 |.ret=>resB ty (fun i=>i.1≠0) rs res s/\resRows s 0 rows'
section
variable {P:Program} {ty:Nat->Ty} {cx:Cx} {N:Nat} {F:Rid->Prop} {m:RMap} {S:Nat->Prop} {s:AS} {a:Act} {w:World}
theorem resRows_get:∀ {l:List Row} {k j:Nat} {r:Row},resRows s k l->l[j]?=some r->s.st (0,k+j)=some r/\AV.closedL r.els=true
 |[],k,j,r,_,h=>by simp at h
 |q::l,k,0,r,h,hj=>by simp at hj; subst hj; exact h.1
 |q::l,k,j+1,r,h,hj=>by
  have:=resRows_get (k:=k+1) (j:=j) h.2 (by simpa using hj);rwa [Nat.add_assoc,Nat.add_comm 1 j] at this
theorem resB_sound (hty:∀ t,(ty t).ok=true->TyOk P t (ty t)) (hR:Rel cx N (fun _=>False) m S s a w) {fn:Func} {res:AV} (hq:resB ty F fn.results.toList res s) :
  ∃ v,(results fn a.tmps).run P w=.ok v w/\SRep (Sfz m S s F) w res v:=by
 unfold resB at hq;split at hq
 ·rename_i r hrs;obtain⟨v,q1,q2⟩:=res_sound hty hR hq;refine⟨v,?_,q2⟩;rw[run_results (vs:=[v])]
  ·simp
  ·rw[hrs];simp only[List.mapM_cons,List.mapM_nil,Sem.run_bind];rw[q1];rfl
 ·rename_i ys hnot;obtain⟨vs,g1,g2,g3,g4⟩:=resL_sound hty hR hq;refine⟨.tuple vs.toArray,?_,.tup ys vs.toArray (by simpa using g2) fun j y u h1 h2=>g4 j y u h1 (by simpa using h2)⟩;rw[run_results g1];have:¬ vs.toArray.size=1:=by
   intro e;have e1:fn.results.toList.length=1:=by rw[<- g3]; simpa using e
   cases hl:fn.results.toList with
   |nil=>rw[hl] at e1; cases e1
   |cons r rest =>
    cases rest with
    |nil=>exact hnot r hl
    |cons _ _=>rw[hl] at e1; simp at e1
  rw[dif_neg this]
 ·exact hq.elim
theorem m0_inv {inf:Nat->RInfo} {n:Nat} {i:Rid} {r:RInfo} (h:m0 inf n i=some r):i.1=0/\i.2<n/\r=inf i.2:=by
 unfold m0 at h;split at h
 ·rename_i hb;simp only[Bool.and_eq_true] at hb;cases h;exact⟨Nat.eq_of_beq_eq_true hb.1,Nat.le_of_ble_eq_true hb.2,rfl⟩
 ·cases h
theorem ACallsM.ofWp (hty:∀ t,(ty t).ok=true->TyOk P t (ty t)) (hm:P.follows .mixedOrders=true) {f:FuncId} {fn:Func} {c:Code} {args:List AV} {rows rows':List Row} {res:AV} (hf:P.funcs[f]?=some fn) (hb:fn.body=some c)
  (hc:((fn.name == "runtime.NumGoroutine")==false&&codeN fn.ntmps c&&Nat.ble args.length fn.ntmps&&Nat.beq rows.length rows'.length)=true)
  (h:∀ (cx:Cx) (m:RMap) (S:Nat->Prop) (a:Act) (w:World),Rel cx fn.ntmps (fun _=>False) m S (initM args rows) a w->c.wp P (CPost cx fn.ntmps (resM ty fn.results.toList res rows')) a w):ACallsM P f args rows res rows':=by
 simp only[Bool.and_eq_true,beq_iff_eq] at hc;obtain⟨⟨⟨h1,h2⟩,h3⟩,h4⟩:=hc;have h3:=Nat.le_of_ble_eq_true h3;have h4:=Nat.eq_of_beq_eq_true h4;refine⟨⟨fn,hf,h1,by rw[hb]; rfl⟩,h4,fun S w vs inf hS hG hrows hdist hargs=>?_⟩;have hst:∀ i r,(initM args rows).st i=some r->i.1=0/\rows[i.2]?=some r:=by
  intro i r hi;simp only[initM] at hi;split at hi
  ·rename_i hb0;rw[rowsL_get] at hi;exact⟨Nat.eq_of_beq_eq_true hb0,hi⟩
  ·cases hi
 have hlt:∀ {k:Nat} {r:Row},rows[k]?=some r->k<rows.length:=fun h=>(List.getElem?_eq_some_iff.1 h).1
 have hR0:Rel ⟨fun b=>w.heap.size<=b\/∃ k,k<rows.length/\(inf k).b=b,w,S,m0 inf rows.length⟩ fn.ntmps (fun _=>False) (m0 inf rows.length) S (initM args rows) { tmps:=vs.toArray++Array.replicate (fn.ntmps-vs.toArray.size) undef,defers:=[] } w:=by
  obtain⟨hl,hr⟩:=hargs;refine⟨rfl,by simp; omega,fun t=>?_,?_,?_,?_,hS,Bel.refl _ _,fun b hb=>.inl hb,fun b hb=>hb,fun b hb=>.inl hb,hG,fun i r hi=>⟨(m0_inv hi).1,hi⟩⟩
  ·show Rep _ S w (args.getD t .any) _;rw[List.getD_eq_getElem?_getD];cases ht:args[t]? with
   |none=>exact .any _
   |some x =>
    have hlt:t<vs.length:=by
     have:=(List.getElem?_eq_some_iff.1 ht).1;omega
    have hv:(vs.toArray++Array.replicate (fn.ntmps-vs.toArray.size) undef).getD t undef=vs[t]:=by
     rw[Array.getD_eq_getD_getElem?,Array.getElem?_append_left (by simpa using hlt)];simp[hlt]
    rw[hv];exact hr t x vs[t] ht (by simp[hlt])
  ·rintro⟨i1,i2⟩ r hi;obtain⟨q1,q2⟩:=hst _ r hi;simp only at q1 q2;subst q1;obtain⟨inf',c,k1,k2,_,k4,k5,k6,k7,k8,k9⟩:=hrows i2 r q2;have:=(m0_inv k1).2.2;simp only at this;subst this;exact⟨inf i2,c,k1,k2,.inr ⟨i2,hlt q2,rfl⟩,k4,k5,k6,k7,k8,k9⟩
  ·rintro⟨i1,i2⟩ ⟨j1,j2⟩ r r' x y hi hj hx hy hb';obtain⟨q1,q2⟩:=hst _ r hi;obtain⟨p1,p2⟩:=hst _ r' hj;simp only at q1 q2 p1 p2;obtain⟨_,_,rfl⟩:=m0_inv hx;obtain⟨_,_,rfl⟩:=m0_inv hy;have:=hdist i2 j2 (hlt q2) (hlt p2) hb';subst q1 p1 this;rfl
  ·intro i x hx;exact .inl (by rw[(m0_inv hx).1]; exact Nat.zero_lt_one)
 refine calls_of_wp hf hb (wp_mono (h _ _ S _ w hR0) ?_);rintro e a' w' ⟨ae,s,m,S',rfl,hq,hR⟩;have main:(resB ty (fun i=>i.1≠0) fn.results.toList res s/\resRows s 0 rows')->bodyPost P fn (fun (e:Ending) (w':World)=>∃ (v:Value) (S':Nat->Prop),e=.returned v/\Bel (fun b=>w.heap.size<=b\/∃ k,k<rows.length/\(inf k).b=b) w w'/\(∀ b,S b->S' b)/\(∀ b,S' b->S b\/w.heap.size<=b)/\(∀ b,S' b->b<w'.heap.size)/\SRep S' w' res v /\
   ∀ (k:Nat) (r:Row),rows'[k]?=some r->AV.closedL r.els=true/\RowOk (fun _=>True) (m0 inf rows.length) S' w' (0,k) r) .ret a' w':=by
  rintro⟨q1,q2⟩;obtain⟨v,hv,hr⟩:=resB_sound hty hR q1;obtain⟨f1,f2,f3,f4⟩:=sfz_facts (F:=fun i:Rid=>i.1≠0) hR;have hrow':∀ (k:Nat) (r:Row),rows'[k]?=some r->AV.closedL r.els=true/\RowOk (fun _=>True) (m0 inf rows.length) (Sfz m S' s (fun i=>i.1≠0)) w' (0,k) r:=by
   intro k r hk;obtain⟨p1,p2⟩:=resRows_get q2 hk;simp only[Nat.zero_add] at p1;have hkl:k<rows.length:=by
    have:=(List.getElem?_eq_some_iff.1 hk).1;omega
   obtain⟨inf',c,k1,k2,_,k4,k5,k6,k7,k8,k9⟩:=hR.row (0,k) r p1;have:=(hR.mb (0,k) _ (m0_some hkl)).2;rw[k1] at this;cases this;have hns:¬ Sfz m S' s (fun i=>i.1≠0) (inf k).b:=by
    rintro (h5 | ⟨j,x,q,hj,h5,h6,h7⟩)
    ·exact k4 h5
    ·have:=hR.inj j (0,k) q r _ _ h5 p1 h6 k1 h7;rw[this] at hj;exact hj rfl
   refine⟨p2,inf k,c,m0_some hkl,k2,trivial,hns,k5,k6,k7,k8,fun x e he=>⟨(k9 x e he).1,fun j y hy=>?_⟩⟩;obtain⟨u,z1,z2⟩:=(k9 x e he).2 j y hy;exact⟨u,z1,.sh _ _ ((z2.closed (cells_closed (closedL_get p2 he) hy)).mono f1 fun _ _=>rfl)⟩
  refine⟨hR.defers,v,hv,v,Sfz m S' s (fun i=>i.1≠0),rfl,hR.below,fun b hb=>f1 b (hR.s0 b hb),fun b hb=>?_,f3,hr,hrow'⟩;rcases f2 b hb with h5 | h5 | ⟨k,hk,h5⟩
  ·exact .inl h5
  ·exact .inr h5
  ·have hk':k<rows'.length:=by omega
   obtain⟨_,inf',c,k1,k2,_,k4,_⟩:=hrow' k rows'[k] (by simp[hk']);rw[m0_some hk] at k1;cases k1;rw[h5] at k4;exact absurd hb k4
 cases ae with
 |normal=>exact main hq
 |ret=>exact main hq
 |exit i=>exact hq.elim
theorem ACallsO.shared {f:FuncId} {args:List AV} {r:Row} (h:ACallsO P f args r):ACalls P f args (.sl r.els):=by
 refine⟨h.1,fun S w vs hS hG hargs=>(h.2 S w vs hS hG hargs).mono ?_⟩;rintro e w' ⟨b,cap,S',c,rfl,hb,h1,h2,h3,h4,h5,h6,h7,h8,h9,h10⟩;refine⟨_,fun x=>S' x\/x=b,rfl,hb,fun x hx=>.inl (h1 x hx),?_,?_,?_⟩
 ·rintro x (hx | rfl)
  ·exact h2 x hx
  ·exact .inr h5
 ·rintro x (hx | rfl)
  ·exact h3 x hx
  ·exact (Array.getElem?_eq_some_iff.1 h6).1
 ·refine .sl r.els b 0 _ cap r.k (fun x j=>(c[x*r.k+j]?).getD undef) rfl h8 (.inr rfl) (fun x e hx=>(h10 x e hx).1) ?_ ?_
  ·intro x e j y hx hy;obtain⟨u,q1,q2⟩:=(h10 x e hx).2 j y hy;rw[Nat.zero_add,cell_of_row w' b _ c r.elem (0,0) h6,q1];rfl
  ·intro x e j y hx hy;obtain⟨u,q1,q2⟩:=(h10 x e hx).2 j y hy;rw[q1];exact q2.mono (fun _ h=>.inl h) fun _ _=>rfl
theorem ACalls.res {f:FuncId} {args:List AV} {x y:AV} (h:ACalls P f args x) (hl:Le x y):ACalls P f args y:=by
 refine⟨h.1,fun S w vs hS hG hargs=>(h.2 S w vs hS hG hargs).mono ?_⟩;rintro e w' ⟨v,S',q1,q2,q3,q4,q5,q6⟩;exact⟨v,S',q1,q2,q3,q4,q5,q6.le hl⟩
theorem ACalls.arg {f:FuncId} {xs ys:List AV} {x:AV} (h:ACalls P f ys x) (hl:leL xs ys):ACalls P f xs x :=
 ⟨h.1,fun S w vs hS hG hargs=>h.2 S w vs hS hG (hargs.le hl)⟩
theorem ACallsM.of (hty:∀ t,(ty t).ok=true->TyOk P t (ty t)) (hm:P.follows .mixedOrders=true) {f:FuncId} {fn:Func} {c:Code} {args:List AV} {rows rows':List Row} {res:AV} (hf:P.funcs[f]?=some fn) (hb:fn.body=some c)
  (hc:((fn.name == "runtime.NumGoroutine")==false&&codeN fn.ntmps c&&Nat.ble args.length fn.ntmps&&Nat.beq rows.length rows'.length)=true)
  (h:awp P ty fn.ntmps c (initM args rows) (resM ty fn.results.toList res rows')):ACallsM P f args rows res rows' :=
 ACallsM.ofWp hty hm hf hb hc fun _ m S a w hR=>awp_sound hty hm c _ _ (by simp only[Bool.and_eq_true] at hc; exact hc.1.1.2) h m S a w hR
end
end
section
open Go Go.RowKit
variable [Gl]
def forceV (v:Value) (K:Value->Prop):Prop :=
 match v with
 |.int k n=>K (.int k n)
 |.bool b=>K (.bool b)
 |.string b=>K (.string b)
 |.slice a n c=>K (.slice a n c)
 |v=>K v
theorem forceV_eq (v:Value) (K:Value->Prop):forceV v K=K v:=by cases v <;> rfl
def natK (n:Nat) (K:Nat->Prop):Prop :=
 match n with
 |0=>K 0
 |n+1=>K (n+1)
theorem natK_eq (n:Nat) (K:Nat->Prop):natK n K=K n:=by cases n <;> rfl
def ridK (i:Rid) (K:Rid->Prop):Prop :=
 match i with
 |(a,b)=>natK a fun a=>natK b fun b=>K (a,b)
theorem ridK_eq (i:Rid) (K:Rid->Prop):ridK i K=K i:=by
 obtain⟨a,b⟩:=i;simp only[ridK,natK_eq]
mutual
def forceD:AV->(AV->Prop)->Prop
 |.lit v,K=>forceV v fun v=>K (.lit v)
 |.sl es,K=>K (.sl es)
 |.sln es,K=>K (.sln es)
 |.agg cs,K=>forceDL cs fun cs=>K (.agg cs)
 |.tup cs,K=>forceDL cs fun cs=>K (.tup cs)
 |.own i n,K=>ridK i fun i=>K (.own i n)
 |.osl i o n,K=>ridK i fun i=>K (.osl i o n)
 |.ptr i x c,K=>ridK i fun i=>K (.ptr i x c)
 |.rptr e c,K=>K (.rptr e c)
 |.clo f cs,K=>K (.clo f cs)
 |.any,K=>K .any
def forceDL:List AV->(List AV->Prop)->Prop
 |[],K=>K []
 |x::xs,K=>forceD x fun x=>forceDL xs fun xs=>K (x::xs)
end
mutual
theorem forceD_eq:∀ (v:AV) (K:AV->Prop),forceD v K=K v
 |.lit v,K=>by simp only[forceD,forceV_eq]
 |.sl es,K=>rfl
 |.sln es,K=>rfl
 |.agg cs,K=>by simp only[forceD]; exact forceDL_eq cs _
 |.tup cs,K=>by simp only[forceD]; exact forceDL_eq cs _
 |.own i n,K=>by simp only[forceD,ridK_eq]
 |.osl i o n,K=>by simp only[forceD,ridK_eq]
 |.ptr i x c,K=>by simp only[forceD,ridK_eq]
 |.rptr e c,K=>rfl
 |.clo f cs,K=>rfl
 |.any,K=>rfl
theorem forceDL_eq:∀ (cs:List AV) (K:List AV->Prop),forceDL cs K=K cs
 |[],K=>rfl
 |x::xs,K=>by
  simp only[forceDL];rw[forceD_eq x];exact forceDL_eq xs _
end
abbrev Sts:=List (Rid×Row)
def dropK:Sts->Rid->(Sts->Prop)->Prop
 |[],_,K=>K []
 |(i,r)::l,j,K=>match ridB j i with
  |true=>dropK l j K
  |false=>dropK l j fun l=>K ((i,r)::l)
def dropsK (st:Sts):List Rid->(Sts->Prop)->Prop
 |[],K=>K st
 |j::F,K=>dropsK st F fun st=>dropK st j K
def setsK (st:Sts):List (Rid×Row)->(Sts->Prop)->Prop
 |[],K=>K st
 |(j,r)::l,K=>setsK st l fun st=>dropK st j fun st=>K ((j,r)::st)
def rowK (r:Row) (K:Row->Prop):Prop :=
 match r with
 |⟨a,b,els⟩=>natK a fun a=>natK b fun b=>K ⟨a,b,els⟩
theorem rowK_eq (r:Row) (K:Row->Prop):rowK r K=K r:=by
 obtain⟨a,b,els⟩:=r;simp only[rowK,natK_eq]
def upK (st:Sts) (up:Option (Rid×Option Row)) (K:Sts->Prop):Prop :=
 match up with
 |none=>K st
 |some (j,none)=>dropK st j K
 |some (j,some r)=>dropK st j fun st=>ridK j fun j=>rowK r fun r=>K ((j,r)::st)
def newK (st:Sts) (id:Rid) (new:Option Row) (K:Sts->Prop):Prop :=
 match new with
 |none=>K st
 |some r=>rowK r fun r=>K ((id,r)::st)
theorem asSt_cons (i:Rid) (r:Row) (l:Sts):asSt ((i,r)::l)=upd (asSt l) i (some r):=by
 funext u;show (match Nat.beq u.1 i.1&&Nat.beq u.2 i.2 with | true=>some r | false=>asSt l u)=_;unfold upd;by_cases h:u=i
 ·rw[if_pos h,show (Nat.beq u.1 i.1&&Nat.beq u.2 i.2)=true from ridB_iff.2 h]
 ·rw[if_neg h];cases hb:(Nat.beq u.1 i.1&&Nat.beq u.2 i.2) with
  |true=>exact absurd (ridB_iff.1 hb) h
  |false=>rfl
theorem dropK_eq:∀ {st:Sts} {j:Rid} {K:Sts->Prop},dropK st j K->∃ st',asSt st'=upd (asSt st) j none/\K st'
 |[],j,K,h=>⟨[],by funext u; simp[asSt,upd],h⟩
 |(i,r)::l,j,K,h=>by
  unfold dropK at h;cases hb:ridB j i with
  |true =>
   rw[hb] at h;obtain⟨st',h1,h2⟩:=dropK_eq h;have e:=ridB_iff.1 hb;subst e;refine⟨st',?_,h2⟩;rw[h1,asSt_cons];funext u;unfold upd;split <;> rfl
  |false =>
   rw[hb] at h;obtain⟨st',h1,h2⟩:=dropK_eq h;refine⟨_,?_,h2⟩;rw[asSt_cons,h1,asSt_cons];funext u;unfold upd;by_cases h3:u=i
   ·subst h3;have:¬ u=j:=by
     intro e;rw[ridB_iff.2 e.symm] at hb;cases hb
    rw[if_pos rfl,if_neg this,if_pos rfl]
   ·rw[if_neg h3];split <;> rfl
theorem dropsK_eq {st:Sts}:∀ {F:List Rid} {K:Sts->Prop},dropsK st F K->∃ st',asSt st'=dropF (asSt st) F/\K st'
 |[],K,h=>⟨st,rfl,h⟩
 |j::F,K,h=>by
  obtain⟨st1,h1,h2⟩:=dropsK_eq (K:=fun st=>dropK st j K) h;obtain⟨st2,h3,h4⟩:=dropK_eq h2;exact⟨st2,by rw[h3,h1]; rfl,h4⟩
theorem upd_upd {α β:Type} [DecidableEq α] (f:α->β) (a:α) (x y:β):upd (upd f a x) a y=upd f a y:=by
 funext u;unfold upd;split <;> rfl
theorem setsK_eq {st:Sts}:∀ {l:List (Rid×Row)} {K:Sts->Prop},setsK st l K->∃ st',asSt st'=setF (asSt st) l/\K st'
 |[],K,h=>⟨st,rfl,h⟩
 |(j,r)::l,K,h=>by
  obtain⟨st1,h1,h2⟩:=setsK_eq (K:=fun st=>dropK st j fun st=>K ((j,r)::st)) h;obtain⟨st2,h3,h4⟩:=dropK_eq h2;exact⟨_,by rw[asSt_cons,h3,upd_upd,h1]; rfl,h4⟩
def upS (f:Rid->Option Row):Option (Rid×Option Row)->Rid->Option Row
 |some (j,r)=>upd f j r
 |none=>f
def newS (f:Rid->Option Row) (id:Rid):Option Row->Rid->Option Row
 |some r=>upd f id (some r)
 |none=>f
theorem upK_eq {st:Sts} {K:Sts->Prop}:∀ {up:Option (Rid×Option Row)},upK st up K->∃ st',asSt st'=upS (asSt st) up/\K st'
 |none,h=>⟨st,rfl,h⟩
 |some (j,none),h=>dropK_eq h
 |some (j,some r),h=>by
  obtain⟨st',h1,h2⟩:=dropK_eq h;rw[ridK_eq,rowK_eq] at h2;exact⟨_,by rw[asSt_cons,h1,upd_upd]; rfl,h2⟩
theorem newK_eq {st:Sts} {id:Rid} {K:Sts->Prop}:∀ {new:Option Row},newK st id new K->∃ st',asSt st'=newS (asSt st) id new/\K st'
 |none,h=>⟨st,rfl,h⟩
 |some r,h=>by
  simp only[newK,rowK_eq] at h;exact⟨_,by rw[asSt_cons]; rfl,h⟩
def genK (g:Nat) (l:List (Rid×Row)) (K:Nat->Prop):Prop :=
 match l with
 |[]=>K g
 |(j,_)::_=>match Nat.beq j.1 (g+1) with | true=>natK (g+2) K | false=>K g
theorem genK_eq (g:Nat) (l:List (Rid×Row)) (K:Nat->Prop):genK g l K=K (genAfter g l):=by
 match l with
 |[]=>rfl
 |(j,_)::_ =>
  simp only[genK,genAfter];cases Nat.beq j.1 (g+1) with
  |true=>exact natK_eq _ _
  |false=>rfl
def appK (fr:List (Nat×AV)) (st:Sts) (g i:Nat) (d:Option Nat) (e:Eff) (K:List (Nat×AV)->Sts->Nat->Prop):Prop :=
 forceD e.v fun v=>dropsK st e.fz fun st=>setsK st e.mt fun st=>upK st e.up fun st=>newK st (g,i) e.new fun st=>genK g e.mt fun g =>
  match d with
  |some d=>K ((d,v)::fr) st g
  |none=>K fr st g
theorem appK_eq {fr:List (Nat×AV)} {st:Sts} {g i:Nat} {d:Option Nat} {e:Eff} {K:List (Nat×AV)->Sts->Nat->Prop} (h:appK fr st g i d e K) :
  ∃ fr' st' g',(mkS fr st g).app i d e=mkS fr' st' g'/\K fr' st' g':=by
 unfold appK at h;rw[forceD_eq] at h;obtain⟨s1,e1,h⟩:=dropsK_eq h;obtain⟨s2,e2,h⟩:=setsK_eq h;obtain⟨s3,e3,h⟩:=upK_eq h;obtain⟨s4,e4,h⟩:=newK_eq h;rw[genK_eq] at h;have ea:(mkS fr st g).app i d e=({ fr:=asFr fr,st:=asSt s4,gen:=genAfter g e.mt }:AS).put d e.v:=by
  rw[e4,e3,e2,e1];obtain⟨v,new,up,fz,mt⟩:=e;cases up with
  |none=>cases new <;> rfl
  |some u=>obtain⟨j,r⟩:=u; cases new <;> rfl
 rw[ea];cases d with
 |none=>exact⟨fr,s4,_,rfl,h⟩
 |some d=>exact⟨(d,e.v)::fr,s4,_,rfl,h⟩
section
variable {P:Program} {ty:Nat->Ty}
theorem act_mono {dr:Bool} {pre:Nat->Bool} {i:Nat} {s:AS} {op:Op} {K K':Eff->Prop} (h:act P ty dr pre i s op K) (hK:∀ e,K e->K' e):act P ty dr pre i s op K':=by
 obtain⟨e,h1,_,h3⟩:=act_ex K h;exact h1 K' (hK e h3)
theorem chk_mono {tc:Option (Option Rid)} {s:AS} {op:Op} {K K':Prop} (h:chk tc s op K) (hK:K->K'):chk tc s op K':=by
 unfold chk at h ⊢;split at h
 ·exact hK h
 ·split at h
  ·split at h
   ·obtain⟨hb,h⟩:=trueA_iff h;simp only[hb];exact hK h
   ·exact h.elim
  ·exact h.elim
theorem stepA_mono {ops:Array Oper} {tc:Nat->Option (Option Rid)} {dr:Bool} {pre:Nat->Bool} {i:Nat} {o:Oper} {s:AS} {K K':AS->Prop} (h:stepA P ty ops tc dr pre i o s K) (hK:∀ s,K s->K' s):stepA P ty ops tc dr pre i o s K':=by
 unfold stepA at h ⊢;cases hg:o.guard with
 |none =>
  rw[hg] at h;exact chk_mono h fun h=>act_mono h fun e=>hK _
 |some g =>
  obtain⟨j,want⟩:=g;rw[hg] at h;simp only at h ⊢;cases hd:(ops[j]?).bind (·.dst) with
  |none=>rw[hd] at h; exact h.elim
  |some d =>
   rw[hd] at h;simp only at h ⊢;split at h
   ·exact Br.mk (fun q=>chk_mono (h.t q) fun h=>act_mono h fun e=>hK _) fun q=>hK _ (h.f q)
   ·exact hK _ h
   ·exact h.elim
theorem aops_mono {ops:Array Oper} {tc:Nat->Option (Option Rid)} {draw:Bool} {K K':AS->Prop} (hK:∀ s,K s->K' s):∀ (l:List Oper) (i:Nat) (s:AS),aops P ty ops tc draw l i s K->aops P ty ops tc draw l i s K'
 |[],i,s,h=>hK _ h
 |o::l,i,s,h=>stepA_mono h fun s'=>aops_mono hK l (i+1) s'
def nops (P:Program) (ty:Nat->Ty) (ops:Array Oper) (tc:Nat->Option (Option Rid)) (draw:Bool):List Oper->Nat->List (Nat×AV)->Sts->Nat->(List (Nat×AV)->Sts->Nat->Prop)->Prop
 |[],_,fr,st,g,K=>natK (g+1) fun g=>K fr st g
 |o::rest,i,fr,st,g,K =>
  match o.guard with
  |none=>chk (tc i) (mkS fr st g) o.op (act P ty (drB ops draw o) (match draw with | true=>down ops ops.size i | false=>fun _=>true) i (mkS fr st g) o.op fun e=>appK fr st g i o.dst e fun fr st g=>nops P ty ops tc draw rest (i+1) fr st g K)
  |some (j,want)=>match (ops[j]?).bind (·.dst) with
   |some d=>(match asFr fr d with
    |.lit (.bool b)=>Br (b==want) (chk (tc i) (mkS fr st g) o.op (act P ty (drB ops draw o) (match draw with | true=>down ops ops.size i | false=>fun _=>true) i (mkS fr st g) o.op fun e=>appK fr st g i o.dst e fun fr st g=>nops P ty ops tc draw rest (i+1) fr st g K))
      (match o.dst with | some d=>nops P ty ops tc draw rest (i+1) ((d,.lit undef)::fr) st g K | none=>nops P ty ops tc draw rest (i+1) fr st g K)
    |.lit (.tuple _)=>(match o.dst with | some d=>nops P ty ops tc draw rest (i+1) ((d,.lit undef)::fr) st g K | none=>nops P ty ops tc draw rest (i+1) fr st g K)
    |_=>False)
   |none=>False
def NP (K:List (Nat×AV)->Sts->Nat->Prop) (s:AS):Prop:=∃ fr st g,s=mkS fr st g/\K fr st g
theorem nops_sound {ops:Array Oper} {tc:Nat->Option (Option Rid)} {draw:Bool} {K:List (Nat×AV)->Sts->Nat->Prop}:∀ (l:List Oper) (i:Nat) (fr:List (Nat×AV)) (st:Sts) (g:Nat),nops P ty ops tc draw l i fr st g K->aops P ty ops tc draw l i (mkS fr st g) (NP K)
 |[],i,fr,st,g,h=>by
  simp only[nops,natK_eq] at h;exact⟨fr,st,g+1,rfl,h⟩
 |o::rest,i,fr,st,g,h=>by
  have go:∀ e,(appK fr st g i o.dst e fun fr st g=>nops P ty ops tc draw rest (i+1) fr st g K)->aops P ty ops tc draw rest (i+1) ((mkS fr st g).app i o.dst e) (NP K):=by
   intro e he;obtain⟨fr',st',g',e1,h1⟩:=appK_eq he;rw[e1];exact nops_sound rest (i+1) fr' st' g' h1
  have skip:(match o.dst with | some d=>nops P ty ops tc draw rest (i+1) ((d,.lit undef)::fr) st g K | none=>nops P ty ops tc draw rest (i+1) fr st g K)->aops P ty ops tc draw rest (i+1) ((mkS fr st g).put o.dst (.lit undef)) (NP K):=by
   intro hk;cases hd:o.dst with
   |none=>rw[hd] at hk; exact nops_sound rest (i+1) fr st g hk
   |some d=>rw[hd] at hk; exact nops_sound rest (i+1) ((d,.lit undef)::fr) st g hk
  unfold nops at h;show stepA P ty ops tc draw _ i o (mkS fr st g) _;unfold stepA;cases hg:o.guard with
  |none =>
   rw[hg] at h;exact chk_mono h fun h=>act_mono h go
  |some gu =>
   obtain⟨j,want⟩:=gu;rw[hg] at h;simp only at h ⊢;cases hd:(ops[j]?).bind (·.dst) with
   |none=>rw[hd] at h; exact h.elim
   |some d =>
    rw[hd] at h;simp only at h ⊢;have e0:(mkS fr st g).fr d=asFr fr d:=rfl;rw[e0];generalize asFr fr d=vd at h ⊢;split at h
    ·exact Br.mk (fun q=>chk_mono (h.t q) fun h=>act_mono h go) fun q=>skip (h.f q)
    ·exact skip h
    ·exact h.elim
def nwp (P:Program) (ty:Nat->Ty) (N:Nat):Code->List (Nat×AV)->Sts->Nat->(AExit->List (Nat×AV)->Sts->Nat->Prop)->Prop
 |.skip,fr,st,g,Q=>Q .normal fr st g
 |.label _,fr,st,g,Q=>Q .normal fr st g
 |.region _ ops draw,fr,st,g,Q=>match draw with
  |true=>(Region.lexB .any ops&&memOk ops (tcOf ty ops (mkS fr st g)))=true/\nops P ty ops (tcOf ty ops (mkS fr st g)) true ops.toList 0 fr st g (Q .normal)
  |false=>nops P ty ops (fun _=>none) false ops.toList 0 fr st g (Q .normal)
 |.seq a b,fr,st,g,Q=>nwp P ty N a fr st g fun e fr st g=>match e with
  |.normal=>nwp P ty N b fr st g Q
  |.exit i=>Q (.exit i) fr st g
  |.ret=>Q .ret fr st g
 |.cond c x y,fr,st,g,Q=>(match (mkS fr st g).ev c with
  |.lit (.bool b)=>Br b (nwp P ty N x fr st g Q) (nwp P ty N y fr st g Q)
  |_=>False)
 |.block id c,fr,st,g,Q=>nwp P ty N c fr st g fun e fr st g=>match e with
  |.normal=>Q .normal fr st g
  |.exit i=>match Nat.beq i id with | true=>Q .normal fr st g | false=>Q (.exit i) fr st g
  |.ret=>Q .ret fr st g
 |.loop c,fr,st,g,Q=>∃ (α:Type) (p:α->Prop) (inv:α->Inv) (μ:α->Nat) (x0:α),p x0/\Wk (mkS fr st g) (inv x0).F (inv x0).ren (inv x0).fr (inv x0).st (inv x0).g /\
   ∀ x,p x->nwp P ty N c (inv x).fr (inv x).st (inv x).g fun e fr st g=>match e with
    |.normal=>∃ y,p y/\Wk (mkS fr st g) (inv y).F (inv y).ren (inv y).fr (inv y).st (inv y).g/\μ y < μ x
    |.exit i=>Q (.exit i) fr st g
    |.ret=>Q .ret fr st g
 |.exit id,fr,st,g,Q=>Q (.exit id) fr st g
 |.ret,fr,st,g,Q=>Q .ret fr st g
 |_,_,_,_,_=>False
theorem awp_mono {N:Nat}:∀ (c:Code) (s:AS) (Q Q':AExit->AS->Prop),(∀ e s,Q e s->Q' e s)->awp P ty N c s Q->awp P ty N c s Q'
 |.skip,s,Q,Q',hQ,h=>hQ _ _ h
 |.label _,s,Q,Q',hQ,h=>hQ _ _ h
 |.region _ ops draw,s,Q,Q',hQ,h=>by
  cases draw with
  |true=>exact⟨h.1,aops_mono (fun s=>hQ .normal s) _ _ _ h.2⟩
  |false=>exact aops_mono (fun s=>hQ .normal s) _ _ _ h
 |.seq a b,s,Q,Q',hQ,h=>by
  refine awp_mono a s _ _ (fun e s' h1=>?_) h;cases e with
  |normal=>exact awp_mono b s' Q Q' hQ h1
  |exit i=>exact hQ _ _ h1
  |ret=>exact hQ _ _ h1
 |.cond c x y,s,Q,Q',hQ,h=>by
  simp only[awp] at h ⊢;split at h
  ·exact Br.mk (fun q=>awp_mono x s Q Q' hQ (h.t q)) fun q=>awp_mono y s Q Q' hQ (h.f q)
  ·exact h.elim
 |.block id c,s,Q,Q',hQ,h=>by
  refine awp_mono c s _ _ (fun e s' h1=>?_) h;cases e with
  |normal=>exact hQ _ _ h1
  |exit i =>
   simp only at h1 ⊢;split
   ·rename_i hb; rw[hb] at h1; exact hQ _ _ h1
   ·rename_i hb; rw[hb] at h1; exact hQ _ _ h1
  |ret=>exact hQ _ _ h1
 |.loop c,s,Q,Q',hQ,h=>by
  obtain⟨α,p,inv,μ,x0,h1,h2,h3⟩:=h;refine⟨α,p,inv,μ,x0,h1,h2,fun x hx=>awp_mono c _ _ _ (fun e s' h4=>?_) (h3 x hx)⟩;cases e with
  |normal=>exact h4
  |exit i=>exact hQ _ _ h4
  |ret=>exact hQ _ _ h4
 |.exit id,s,Q,Q',hQ,h=>hQ _ _ h
 |.ret,s,Q,Q',hQ,h=>hQ _ _ h
 |.rangeFunc _ _ _ _,s,Q,Q',hQ,h=>h.elim
 |.scope _,s,Q,Q',hQ,h=>h.elim
 |.goto _,s,Q,Q',hQ,h=>h.elim
 |.refuse _,s,Q,Q',hQ,h=>h.elim
def NQ (Q:AExit->List (Nat×AV)->Sts->Nat->Prop) (e:AExit) (s:AS):Prop:=NP (Q e) s
theorem nwp_sound {N:Nat}:∀ (c:Code) (fr:List (Nat×AV)) (st:Sts) (g:Nat) (Q:AExit->List (Nat×AV)->Sts->Nat->Prop),nwp P ty N c fr st g Q->awp P ty N c (mkS fr st g) (NQ Q)
 |.skip,fr,st,g,Q,h=>⟨fr,st,g,rfl,h⟩
 |.label _,fr,st,g,Q,h=>⟨fr,st,g,rfl,h⟩
 |.region _ ops draw,fr,st,g,Q,h=>by
  cases draw with
  |true=>exact⟨h.1,nops_sound _ _ _ _ _ h.2⟩
  |false=>exact nops_sound _ _ _ _ _ h
 |.seq a b,fr,st,g,Q,h=>by
  refine awp_mono a _ _ _ ?_ (nwp_sound a fr st g _ h);rintro e s' ⟨fr',st',g',rfl,h1⟩;cases e with
  |normal=>exact nwp_sound b fr' st' g' Q h1
  |exit i=>exact⟨fr',st',g',rfl,h1⟩
  |ret=>exact⟨fr',st',g',rfl,h1⟩
 |.cond c x y,fr,st,g,Q,h=>by
  simp only[nwp,awp] at h ⊢;generalize (mkS fr st g).ev c=vc at h ⊢;split at h
  ·exact Br.mk (fun q=>nwp_sound x fr st g Q (h.t q)) fun q=>nwp_sound y fr st g Q (h.f q)
  ·exact h.elim
 |.block id c,fr,st,g,Q,h=>by
  refine awp_mono c _ _ _ ?_ (nwp_sound c fr st g _ h);rintro e s' ⟨fr',st',g',rfl,h1⟩;cases e with
  |normal=>exact⟨fr',st',g',rfl,h1⟩
  |exit i =>
   simp only at h1 ⊢;split
   ·rename_i hb; rw[hb] at h1; exact⟨fr',st',g',rfl,h1⟩
   ·rename_i hb; rw[hb] at h1; exact⟨fr',st',g',rfl,h1⟩
  |ret=>exact⟨fr',st',g',rfl,h1⟩
 |.loop c,fr,st,g,Q,h=>by
  obtain⟨α,p,inv,μ,x0,h1,h2,h3⟩:=h;refine⟨α,p,inv,μ,x0,h1,h2,fun x hx=>awp_mono c _ _ _ ?_ (nwp_sound c _ _ _ _ (h3 x hx))⟩;rintro e s' ⟨fr',st',g',rfl,h4⟩;cases e with
  |normal=>exact h4
  |exit i=>exact⟨fr',st',g',rfl,h4⟩
  |ret=>exact⟨fr',st',g',rfl,h4⟩
 |.exit id,fr,st,g,Q,h=>⟨fr,st,g,rfl,h⟩
 |.ret,fr,st,g,Q,h=>⟨fr,st,g,rfl,h⟩
 |.rangeFunc _ _ _ _,fr,st,g,Q,h=>h.elim
 |.scope _,fr,st,g,Q,h=>h.elim
 |.goto _,fr,st,g,Q,h=>h.elim
 |.refuse _,fr,st,g,Q,h=>h.elim
def frI:List AV->Nat->List (Nat×AV)
 |[],_=>[]
 |a::l,k=>(k,a)::frI l (k+1)
theorem asFr_frI:∀ (l:List AV) (k t:Nat),asFr (frI l k) t=if k<=t then l.getD (t-k) .any else .any
 |[],k,t=>by simp[frI,asFr]
 |a::l,k,t=>by
  show (match Nat.beq t k with | true=>a | false=>asFr (frI l (k+1)) t)=_;cases hb:Nat.beq t k with
  |true =>
   have:=Nat.eq_of_beq_eq_true hb;subst this;simp
  |false =>
   have hne:t≠k:=by
    rintro rfl;simp at hb
   simp only;rw[asFr_frI l (k+1) t];by_cases h:k+1<=t
   ·rw[if_pos h,if_pos (by omega),show t-k=t-(k+1)+1 by omega];rfl
   ·rw[if_neg h,if_neg (by omega)]
theorem initS_mk (args:List AV):initS args=mkS (frI args 0) [] 0:=by
 unfold initS mkS;congr 1;funext t;rw[asFr_frI,if_pos (Nat.zero_le _)];rfl
def nresR (ty:Nat->Ty) (s:AS) (F:Rid->Prop) (r:ResultVar) (y:AV):Prop :=
 match r with
 |.tmp t=>forceD (s.fr t) fun x=>FrzV s F x y
 |.cell a t=>(match s.fr a with
  |.ptr id x c=>someA (s.st id) fun r=>elA r.els x fun e=>someA (partA (ty t) e c) fun v=>forceD v fun v=>FrzV s F v y
  |_=>False)
theorem nresR_eq {s:AS} {F:Rid->Prop} {r:ResultVar} {y:AV} (h:nresR ty s F r y):resR ty F s r y:=by
 cases r with
 |tmp t =>
  simp only[nresR,forceD_eq] at h;exact h
 |cell a t =>
  simp only[nresR,forceD_eq] at h;exact h
def nresL (ty:Nat->Ty) (s:AS) (F:Rid->Prop):List ResultVar->List AV->Prop
 |[],[]=>True
 |r::rs,y::ys=>nresR ty s F r y/\nresL ty s F rs ys
 |_,_=>False
theorem nresL_eq {s:AS} {F:Rid->Prop}:∀ {rs:List ResultVar} {ys:List AV},nresL ty s F rs ys->resL ty F s rs ys
 |[],[],_=>trivial
 |_::_,_::_,h=>⟨nresR_eq h.1,nresL_eq h.2⟩
 |[],_::_,h=>h.elim
 |_::_,[],h=>h.elim
def nresB (ty:Nat->Ty) (rs:List ResultVar) (res:AV) (s:AS):Prop :=
 match rs,res with
 |[r],res=>nresR ty s (fun _=>True) r res
 |rs,.tup ys=>nresL ty s (fun _=>True) rs ys
 |_,_=>False
theorem nresB_eq {s:AS}:∀ {rs:List ResultVar} {res:AV},nresB ty rs res s->resB ty (fun _=>True) rs res s
 |[r],res,h=>nresR_eq h
 |[],res,h=>by
  cases res with
  |tup ys=>exact nresL_eq (rs:=[]) (ys:=ys) h
  |_=>exact h.elim
 |r::r2::rs,res,h=>by
  cases res with
  |tup ys=>exact nresL_eq (rs:=r::r2::rs) (ys:=ys) h
  |_=>exact h.elim
def nresA (ty:Nat->Ty) (rs:List ResultVar) (res:AV) (e:AExit) (fr:List (Nat×AV)) (st:Sts) (g:Nat):Prop :=
 match e with
 |.exit _=>False
 |.normal=>nresB ty rs res (mkS fr st g)
 |.ret=>nresB ty rs res (mkS fr st g)
theorem nresA_eq {rs:List ResultVar} {res:AV} {e:AExit} {s:AS} (h:NQ (nresA ty rs res) e s):resA ty rs res e s:=by
 obtain⟨fr,st,g,rfl,h⟩:=h;cases e with
 |exit i=>exact h.elim
 |normal=>exact nresB_eq h
 |ret=>exact nresB_eq h
theorem ACalls.ofN (hty:∀ t,(ty t).ok=true->TyOk P t (ty t)) (hm:P.follows .mixedOrders=true) {f:FuncId} {fn:Func} {c:Code} {args:List AV} {res:AV} (hf:P.funcs[f]?=some fn) (hb:fn.body=some c)
  (hc:((fn.name == "runtime.NumGoroutine")==false&&codeN fn.ntmps c&&Nat.ble args.length fn.ntmps)=true)
  (h:nwp P ty fn.ntmps c (frI args 0) [] 0 (nresA ty fn.results.toList res)):ACalls P f args res:=by
 refine ACalls.of hty hm hf hb hc ?_;rw[initS_mk];exact awp_mono _ _ _ _ (fun e s=>nresA_eq) (nwp_sound c _ _ _ _ h)
end
end
section
open Go Go.RowKit
variable [Gl]
abbrev NPost:=AExit->List (Nat×AV)->Sts->Nat->Prop
structure Pc (P:Program) (N:Nat) (c:Code) (fr:List (Nat×AV)) (st:Sts) (g:Nat) (Q:NPost):Prop where
 h:∀ (cx:Cx) (m:RMap) (S:Nat->Prop) (a:Act) (w:World),Rel cx N (fun _=>False) m S (mkS fr st g) a w->c.wp P (CPost cx N (NQ Q)) a w
def thenP (R:List (Nat×AV)->Sts->Nat->Prop) (Q:NPost):NPost:=fun e fr st g=>match e with
 |.normal=>R fr st g
 |.exit i=>Q (.exit i) fr st g
 |.ret=>Q .ret fr st g
def blockP (id:Nat) (Q:NPost):NPost:=fun e fr st g=>match e with
 |.normal=>Q .normal fr st g
 |.exit i=>match Nat.beq i id with | true=>Q .normal fr st g | false=>Q (.exit i) fr st g
 |.ret=>Q .ret fr st g
def wkP {α:Type} (p:α->Prop) (inv:α->Inv) (fr:List (Nat×AV)) (st:Sts) (g:Nat):Prop :=
 ∃ x,p x/\Wk (mkS fr st g) (inv x).F (inv x).ren (inv x).fr (inv x).st (inv x).g
section
variable {P:Program} {ty:Nat->Ty} {N:Nat} {c a b:Code} {fr:List (Nat×AV)} {st:Sts} {g:Nat} {Q Q':NPost}
theorem Pc.of (hty:∀ t,(ty t).ok=true->TyOk P t (ty t)) (hm:P.follows .mixedOrders=true) (hN:codeN N c=true) (h:nwp P ty N c fr st g Q):Pc P N c fr st g Q :=
 ⟨fun _ m S a w hR=>awp_sound hty hm c _ _ hN (nwp_sound c fr st g Q h) m S a w hR⟩
theorem Pc.mono (h:Pc P N c fr st g Q) (hQ:∀ e fr st g,Q e fr st g->Q' e fr st g):Pc P N c fr st g Q':=.mk fun cx m S a w hR=>by
 refine wp_mono (h.h cx m S a w hR) ?_;rintro e a' w' ⟨ae,s',m',S',rfl,⟨fr',st',g',rfl,hq⟩,hR'⟩;exact⟨ae,_,m',S',rfl,⟨fr',st',g',rfl,hQ _ _ _ _ hq⟩,hR'⟩
theorem Pc.seq {R:List (Nat×AV)->Sts->Nat->Prop} (h1:Pc P N a fr st g (thenP R Q)) (h2:∀ fr st g,R fr st g->Pc P N b fr st g Q):Pc P N (.seq a b) fr st g Q:=.mk fun cx m S ac w hR=>by
 refine wp_seq (wp_mono (h1.h cx m S ac w hR) ?_);rintro e a' w' ⟨ae,s',m',S',rfl,⟨fr',st',g',rfl,hq⟩,hR'⟩;cases ae with
 |normal=>exact (h2 _ _ _ hq).h cx m' S' a' w' hR'
 |exit i=>exact⟨.exit i,_,m',S',rfl,⟨fr',st',g',rfl,hq⟩,hR'⟩
 |ret=>exact⟨.ret,_,m',S',rfl,⟨fr',st',g',rfl,hq⟩,hR'⟩
theorem Pc.weaken {i:Inv} (hw:Wk (mkS fr st g) i.F i.ren i.fr i.st i.g) (h:Pc P N c i.fr i.st i.g Q):Pc P N c fr st g Q:=.mk fun cx m S a w hR=>by
 obtain⟨m',S',hR'⟩:=hR.weaken hw (Nat.le_of_ble_eq_true i.pos);exact h.h cx m' S' a w hR'
theorem Pc.cut {α:Type} (p:α->Prop) (inv:α->Inv) (h1:Pc P N a fr st g (thenP (wkP p inv) Q)) (h2:∀ x,p x->Pc P N b (inv x).fr (inv x).st (inv x).g Q):Pc P N (.seq a b) fr st g Q :=
 .seq h1 fun _ _ _ ⟨x,hp,hw⟩=>.weaken hw (h2 x hp)
theorem Pc.block {id:Nat} (h:Pc P N c fr st g (blockP id Q)):Pc P N (.block id c) fr st g Q:=.mk fun cx m S a w hR=>by
 refine wp_block (wp_mono (h.h cx m S a w hR) ?_);rintro e a' w' ⟨ae,s',m',S',rfl,⟨fr',st',g',rfl,hq⟩,hR'⟩;cases ae with
 |normal=>exact⟨.normal,_,m',S',rfl,⟨fr',st',g',rfl,hq⟩,hR'⟩
 |exit i =>
  simp only[exitOf,Exit.inBlock];simp only[blockP] at hq;split at hq
  ·rename_i hb;rw[if_pos (Nat.eq_of_beq_eq_true hb)];exact⟨.normal,_,m',S',rfl,⟨fr',st',g',rfl,hq⟩,hR'⟩
  ·rename_i hb;rw[if_neg (by intro e; subst e; simp at hb)];exact⟨.exit i,_,m',S',rfl,⟨fr',st',g',rfl,hq⟩,hR'⟩
 |ret=>exact⟨.ret,_,m',S',rfl,⟨fr',st',g',rfl,hq⟩,hR'⟩
def loopP {α:Type} (p:α->Prop) (inv:α->Inv) (μ:α->Nat) (x:α) (Q:NPost):NPost:=fun e fr st g=>match e with
 |.normal=>∃ y,p y/\Wk (mkS fr st g) (inv y).F (inv y).ren (inv y).fr (inv y).st (inv y).g/\μ y < μ x
 |.exit i=>Q (.exit i) fr st g
 |.ret=>Q .ret fr st g
theorem Pc.loop {α:Type} (p:α->Prop) (inv:α->Inv) (μ:α->Nat) (x0:α) (hp0:p x0) (h0:Wk (mkS fr st g) (inv x0).F (inv x0).ren (inv x0).fr (inv x0).st (inv x0).g)
  (h:∀ x,p x->Pc P N c (inv x).fr (inv x).st (inv x).g (loopP p inv μ x Q)):Pc P N (.loop c) fr st g Q:=.mk fun cx m S a w hR=>by
 obtain⟨m0,S0,hR0⟩:=hR.weaken h0 (Nat.le_of_ble_eq_true (inv x0).pos);refine wp_loop_ghost (fun n a w=>∃ x,p x/\μ x=n/\∃ m S,Rel cx N (fun _=>False) m S (mkS (inv x).fr (inv x).st (inv x).g) a w) (μ x0) ⟨x0,hp0,rfl,m0,S0,hR0⟩ ?_;rintro n a' w' ⟨x,hp,rfl,m',S',hR'⟩;refine wp_mono ((h x hp).h cx m' S' a' w' hR') ?_;rintro e a'' w'' ⟨ae,s2,m2,S2,rfl,⟨fr',st',g',rfl,hq⟩,hR2⟩;cases ae with
 |normal =>
  obtain⟨y,hpy,hw,hlt⟩:=hq;obtain⟨m3,S3,hR3⟩:=hR2.weaken hw (Nat.le_of_ble_eq_true (inv y).pos);exact⟨μ y,hlt,y,hpy,rfl,m3,S3,hR3⟩
 |exit i=>exact⟨.exit i,_,m2,S2,rfl,⟨fr',st',g',rfl,hq⟩,hR2⟩
 |ret=>exact⟨.ret,_,m2,S2,rfl,⟨fr',st',g',rfl,hq⟩,hR2⟩
theorem Pc.cond {x:Operand} {v:Bool} (hv:(mkS fr st g).ev x=.lit (.bool v)) (h1:v=true->Pc P N a fr st g Q) (h2:v=false->Pc P N b fr st g Q):Pc P N (.cond x a b) fr st g Q:=.mk fun cx m S ac w hR =>
 wp_cond_split (hR.evBool hv) (fun q=>(h1 q).h cx m S ac w hR) fun q=>(h2 q).h cx m S ac w hR
theorem Pc.step (hty:∀ t,(ty t).ok=true->TyOk P t (ty t)) (hm:P.follows .mixedOrders=true) (hN:codeN N a=true) (h:nwp P ty N a fr st g (thenP (fun fr st g=>Pc P N b fr st g Q) Q)):Pc P N (.seq a b) fr st g Q :=
 .seq (.of hty hm hN h) fun _ _ _ h=>h
theorem ACalls.ofPc (hty:∀ t,(ty t).ok=true->TyOk P t (ty t)) (hm:P.follows .mixedOrders=true) {f:FuncId} {fn:Func} {args:List AV} {res:AV} (hf:P.funcs[f]?=some fn) (hb:fn.body=some c)
  (hc:((fn.name == "runtime.NumGoroutine")==false&&codeN fn.ntmps c&&Nat.ble args.length fn.ntmps)=true)
  (h:Pc P fn.ntmps c (frI args 0) [] 0 (nresA ty fn.results.toList res)):ACalls P f args res:=by
 refine ACalls.ofWp hty hm hf hb hc fun cx m S a w hR=>?_
 rw[initS_mk] at hR;refine wp_mono (h.h cx m S a w hR) ?_;rintro e a' w' ⟨ae,s',m',S',rfl,hq,hR'⟩;exact⟨ae,s',m',S',rfl,nresA_eq hq,hR'⟩
def Code.l:Code->Code
 |.seq a _=>a
 |.cond _ a _=>a
 |.block _ c=>c
 |.loop c=>c
 |c=>c
def Code.r:Code->Code
 |.seq _ b=>b
 |.cond _ _ b=>b
 |c=>c
def Code.at' (c:Code):List Bool->Code
 |[]=>c
 |true::l=>Code.at' (Code.r c) l
 |false::l=>Code.at' (Code.l c) l
def bodyOf (fn:Func):Code:=fn.body.getD .skip
end
end
section
open Go Go.RowKit
variable [Gl]
inductive KeepV (s:AS) (ids:List Rid):AV->AV->Prop
 |frz (x y:AV) (h:FrzV s (·∉ids) x y):KeepV s ids x y
 |own (k:Nat) (i:Rid) (n:Nat) (h:ids[k]?=some i):KeepV s ids (.own i n) (.own (0,k) n)
 |osl (k:Nat) (i:Rid) (o n:Nat) (h:ids[k]?=some i):KeepV s ids (.osl i o n) (.osl (0,k) o n)
 |ptr (k:Nat) (i:Rid) (x c:Nat) (h:ids[k]?=some i):KeepV s ids (.ptr i x c) (.ptr (0,k) x c)
 |agg (cs ds:List AV) (hl:cs.length=ds.length) (h:∀ (j:Nat) (x y:AV),cs[j]?=some x->ds[j]?=some y->KeepV s ids x y):KeepV s ids (.agg cs) (.agg ds)
def keepR (ty:Nat->Ty) (s:AS) (ids:List Rid):ResultVar->AV->Prop
 |.tmp t,y=>KeepV s ids (s.fr t) y
 |.cell a t,y=>match s.fr a with
  |.ptr id x c=>someA (s.st id) fun r=>elA r.els x fun e=>someA (partA (ty t) e c) fun v=>KeepV s ids v y
  |_=>False
def keepL (ty:Nat->Ty) (s:AS) (ids:List Rid):List ResultVar->List AV->Prop
 |[],[]=>True
 |r::rs,y::ys=>keepR ty s ids r y/\keepL ty s ids rs ys
 |_,_=>False
def keepB (ty:Nat->Ty) (rs:List ResultVar) (ids:List Rid) (res:AV) (s:AS):Prop :=
 match rs,res with
 |[r],res=>keepR ty s ids r res
 |rs,.tup ys=>keepL ty s ids rs ys
 |_,_=>False
inductive KeepRow (ids:List Rid) (r:Row):Row->Prop
 |same (h:AV.closedL r.els=true):KeepRow ids r r
 |els (ds:List AV) (hl:r.els.length=ds.length) (h:∀ (x:Nat) (e d:AV),r.els[x]?=some e->ds[x]?=some d->(∃ k i n,e=.own i n/\d=.own (0,k) n/\ids[k]?=some i)\/(e.closed=true/\d=e)):KeepRow ids r ⟨r.elem,r.k,ds⟩
def keepRows (s:AS) (ids:List Rid):List Rid->List Row->Prop
 |[],[]=>True
 |i::is,r::rs=>(∃ q,s.st i=some q/\KeepRow ids q r)/\keepRows s ids is rs
 |_,_=>False
def resNR (ty:Nat->Ty) (rs:List ResultVar) (ids:List Rid) (rows:List Row) (res:AV) (e:AExit) (s:AS):Prop :=
 match e with
 |.exit _=>False
 |_=>keepB ty rs ids res s/\keepRows s ids ids rows/\ids.Nodup
section
variable {P:Program} {ty:Nat->Ty} {cx:Cx} {N:Nat} {m:RMap} {S:Nat->Prop} {s:AS} {a:Act} {w:World} {ids:List Rid} {inf:Nat->RInfo}
theorem KeepV.sound (hR:Rel cx N (fun _=>False) m S s a w) (hinf:∀ k i,ids[k]?=some i->m i=some (inf k)) {x y:AV} {v:Value} (h:KeepV s ids x y) (hv:Rep m S w x v):Rep (m0 inf ids.length) (Sfz m S s (·∉ids)) w y v:=by
 induction h generalizing v with
 |frz _ _ h=>exact .sh _ _ (frz_sound hR h hv)
 |own k i n h =>
  obtain⟨r,q1,rfl⟩:=hv.own_inv;rw[hinf k i h] at q1;cases q1;exact .own _ _ _ (m0_some (List.getElem?_eq_some_iff.1 h).1)
 |osl k i o n h =>
  obtain⟨r,cap,q1,rfl,q2⟩:=hv.osl_inv;rw[hinf k i h] at q1;cases q1;exact .osl _ _ _ _ _ (m0_some (List.getElem?_eq_some_iff.1 h).1) q2
 |ptr k i x c h =>
  obtain⟨r,q1,rfl⟩:=hv.ptr_inv;rw[hinf k i h] at q1;cases q1;exact .ptr _ _ _ _ (m0_some (List.getElem?_eq_some_iff.1 h).1)
 |agg cs ds hl h ih =>
  obtain⟨vs,rfl,hl',hr⟩:=hv.agg_inv;refine .agg ds vs (by omega) fun j y u hy hu=>?_
  have hj:j<cs.length:=by
   have:=(List.getElem?_eq_some_iff.1 hy).1;omega
  exact ih j cs[j] y (by simp[hj]) hy (hr j cs[j] u (by simp[hj]) hu)
theorem keepR_sound (hty:∀ t,(ty t).ok=true->TyOk P t (ty t)) (hR:Rel cx N (fun _=>False) m S s a w) (hinf:∀ k i,ids[k]?=some i->m i=some (inf k)) {r:ResultVar} {y:AV} (h:keepR ty s ids r y) :
  ∃ v,((match r with | .tmp t=>pure (a.tmps.getD t undef) | .cell p t=>do loadVar t (<- asAddr (a.tmps.getD p undef)):Sem Value).run P w)=.ok v w/\Rep (m0 inf ids.length) (Sfz m S s (·∉ids)) w y v:=by
 cases r with
 |tmp t=>exact⟨_,rfl,h.sound hR hinf (hR.fr t)⟩
 |cell p t =>
  simp only[keepR] at h;have hp:=hR.fr p;split at h
  ·rename_i id x c hx;rw[hx] at hp;obtain⟨inf',hm,hv⟩:=hp.ptr_inv;obtain⟨r,hr,h⟩:=someA_iff h;obtain⟨e,he,h⟩:=elA_iff h;obtain⟨v,hpa,h⟩:=someA_iff h;obtain⟨q1,q2,q3⟩:=(hR.row id r hr).cellsAt hm he;obtain⟨u,hrun,hu⟩:=run_load_part (P:=P) (hty t (partA_ok hpa)) hpa q3;refine⟨u,?_,h.sound hR hinf hu⟩;simp only[hv];simpa [asAddr,Instr.loadAt,Instr.sureAddr] using hrun
  ·exact h.elim
theorem keepL_sound (hty:∀ t,(ty t).ok=true->TyOk P t (ty t)) (hR:Rel cx N (fun _=>False) m S s a w) (hinf:∀ k i,ids[k]?=some i->m i=some (inf k)):∀ {rs:List ResultVar} {ys:List AV},keepL ty s ids rs ys ->
  ∃ vs:List Value,((rs.mapM fun | .tmp t=>pure (a.tmps.getD t undef) | .cell p t=>do loadVar t (<- asAddr (a.tmps.getD p undef)):Sem (List Value)).run P w)=.ok vs w/\ys.length=vs.length/\vs.length=rs.length /\
   ∀ (j:Nat) (y:AV) (u:Value),ys[j]?=some y->vs[j]?=some u->Rep (m0 inf ids.length) (Sfz m S s (·∉ids)) w y u
 |[],[],_=>⟨[],rfl,rfl,rfl,by simp⟩
 |r::rs,y::ys,h=>by
  obtain⟨v,h1,h2⟩:=keepR_sound hty hR hinf h.1;obtain⟨vs,g1,g2,g3,g4⟩:=keepL_sound hty hR hinf h.2;refine⟨v::vs,?_,by simp[g2],by simp[g3],?_⟩
  ·simp only[List.mapM_cons,Sem.run_bind];rw[h1];simp only[Result.andThen_ok,g1,Sem.run_pure]
  ·intro j y' u hy hu;cases j with
   |zero=>simp at hy hu; subst hy hu; exact h2
   |succ j=>exact g4 j y' u (by simpa using hy) (by simpa using hu)
 |[],_::_,h=>h.elim
 |_::_,[],h=>h.elim
theorem keepB_sound (hty:∀ t,(ty t).ok=true->TyOk P t (ty t)) (hR:Rel cx N (fun _=>False) m S s a w) (hinf:∀ k i,ids[k]?=some i->m i=some (inf k)) {fn:Func} {res:AV} (hq:keepB ty fn.results.toList ids res s) :
  ∃ v,(results fn a.tmps).run P w=.ok v w/\Rep (m0 inf ids.length) (Sfz m S s (·∉ids)) w res v:=by
 unfold keepB at hq;split at hq
 ·rename_i r hrs;obtain⟨v,q1,q2⟩:=keepR_sound hty hR hinf hq;refine⟨v,?_,q2⟩;rw[run_results (vs:=[v])]
  ·simp
  ·rw[hrs];simp only[List.mapM_cons,List.mapM_nil,Sem.run_bind];erw [q1];rfl
 ·rename_i ys hnot;obtain⟨vs,g1,g2,g3,g4⟩:=keepL_sound hty hR hinf hq;refine⟨.tuple vs.toArray,?_,.tup ys vs.toArray (by simpa using g2) fun j y u h1 h2=>g4 j y u h1 (by simpa using h2)⟩;rw[run_results g1];have:¬ vs.toArray.size=1:=by
   intro e;have e1:fn.results.toList.length=1:=by rw[<- g3]; simpa using e
   cases hl:fn.results.toList with
   |nil=>rw[hl] at e1; cases e1
   |cons r rest =>
    cases rest with
    |nil=>exact hnot r hl
    |cons _ _=>rw[hl] at e1; simp at e1
  rw[dif_neg this]
 ·exact hq.elim
theorem keepRows_get:∀ {is:List Rid} {rows:List Row},keepRows s ids is rows->is.length=rows.length/\∀ (k:Nat) (i:Rid) (r:Row),is[k]?=some i->rows[k]?=some r->∃ q,s.st i=some q/\KeepRow ids q r
 |[],[],_=>⟨rfl,by simp⟩
 |i::is,r::rs,h=>⟨by simp[(keepRows_get h.2).1],fun k j q hj hq=>by
   cases k with
   |zero=>simp at hj hq; subst hj hq; exact h.1
   |succ k=>exact (keepRows_get h.2).2 k j q (by simpa using hj) (by simpa using hq)⟩
 |[],_::_,h=>h.elim
 |_::_,[],h=>h.elim
theorem ACallsN.ofWp (hty:∀ t,(ty t).ok=true->TyOk P t (ty t)) (hm:P.follows .mixedOrders=true) {f:FuncId} {fn:Func} {c:Code} {args:List AV} {rows:List Row} {res:AV} (hf:P.funcs[f]?=some fn) (hb:fn.body=some c)
  (hc:((fn.name == "runtime.NumGoroutine")==false&&codeN fn.ntmps c&&Nat.ble args.length fn.ntmps)=true)
  (h:∀ (cx:Cx) (m:RMap) (S:Nat->Prop) (a:Act) (w:World),Rel cx fn.ntmps (fun _=>False) m S (initS args) a w->c.wp P (CPost cx fn.ntmps fun e s=>∃ ids,resNR ty fn.results.toList ids rows res e s) a w):ACallsN P f args rows res:=by
 simp only[Bool.and_eq_true,beq_iff_eq] at hc;obtain⟨⟨h1,h2⟩,h3⟩:=hc;refine⟨⟨fn,hf,h1,by rw[hb]; rfl⟩,fun S w vs hS hG hargs=>?_⟩;refine calls_of_wp hf hb (wp_mono (h _ _ S _ w (init_rel hS hG hargs (Nat.le_of_ble_eq_true h3))) ?_);rintro e a' w' ⟨ae,s,m,S',rfl,⟨ids,hq⟩,hR⟩;have main:(keepB ty fn.results.toList ids res s/\keepRows s ids ids rows/\ids.Nodup)->bodyPost P fn (fun (e:Ending) (w':World)=>∃ (v:Value) (S':Nat->Prop) (inf:Nat->RInfo),e=.returned v/\Below w.heap.size w w'/\(∀ b,S b->S' b)/\(∀ b,S' b->S b\/w.heap.size<=b)/\(∀ b,S' b->b<w'.heap.size) /\
   Rep (m0 inf rows.length) S' w' res v/\(∀ (k:Nat) (r:Row),rows[k]?=some r->RowOk (fun b=>w.heap.size<=b) (m0 inf rows.length) S' w' (0,k) r)/\(∀ k l:Nat,k<rows.length->l<rows.length->(inf k).b=(inf l).b->k=l)) .ret a' w':=by
  rintro⟨hq,hrows,hnd⟩;obtain⟨hil,hrow⟩:=keepRows_get hrows;obtain⟨inf,hinf⟩:∃ inf:Nat->RInfo,∀ k i,ids[k]?=some i->m i=some (inf k):=by
   refine⟨fun k=>((ids[k]?).bind m).getD ⟨0,0,0⟩,fun k i hk=>?_⟩;have hlt:k<rows.length:=by
    have:=(List.getElem?_eq_some_iff.1 hk).1;omega
   obtain⟨q,hq,_⟩:=hrow k i rows[k] hk (by simp[hlt]);obtain⟨inf,c,h1,_⟩:=hR.row i q hq;simp[hk,h1]
  obtain⟨v,hv,hr⟩:=keepB_sound hty hR hinf hq;obtain⟨f1,f2,f3,f4⟩:=sfz_facts (F:=(·∉ids)) hR;have idk:∀ k,k<rows.length->∃ i r,ids[k]?=some i/\rows[k]?=some r:=fun k hk=>⟨ids[k],rows[k],by simp[hil,hk],by simp[hk]⟩
  rw[hil] at hr;refine⟨hR.defers,v,hv,v,Sfz m S' s (·∉ids),inf,rfl,hR.below.to_below,fun b hb=>f1 b (hR.s0 b hb),f2,f3,hr,?_,?_⟩
  ·intro k r' hk;have hlt:k<rows.length:=(List.getElem?_eq_some_iff.1 hk).1;obtain⟨i,_,hi,_⟩:=idk k hlt;obtain⟨q,q1,q2⟩:=hrow k i r' hi hk;obtain⟨inf',c,k1,k2,k3,k4,k5,k6,k7,k8,k9⟩:=hR.row i q q1;rw[hinf k i hi] at k1;cases k1;have hns:¬ Sfz m S' s (·∉ids) (inf k).b:=by
    rintro (h5 | ⟨j,x,p,hj,h5,h6,h7⟩)
    ·exact k4 h5
    ·have:=hR.inj j i p q x _ h5 q1 h6 (hinf k i hi) h7;subst this;exact hj (List.mem_of_getElem? hi)
   cases q2 with
   |same hcl =>
    refine⟨inf k,c,m0_some hlt,k2,k3,hns,k5,k6,k7,k8,fun x e he=>⟨(k9 x e he).1,fun j y hy=>?_⟩⟩;obtain⟨u,z1,z2⟩:=(k9 x e he).2 j y hy;exact⟨u,z1,.sh _ _ ((z2.closed (cells_closed (closedL_get hcl he) hy)).mono f1 fun _ _=>rfl)⟩
   |els ds hl hels =>
    refine⟨inf k,c,m0_some hlt,k2,k3,hns,k5,k6,by show ds.length<=_; rw[<- hl]; exact k7,k8,fun x d hd=>?_⟩;have hx:x<q.els.length:=by
     have:=(List.getElem?_eq_some_iff.1 hd).1;simp only at this;omega
    have he:q.els[x]?=some q.els[x]:=by simp[hx]
    rcases hels x _ d he hd with ⟨k',i',n',e1,rfl,e3⟩ | ⟨e1,rfl⟩
    ·rw[e1] at he;obtain⟨o1,o2⟩:=k9 x _ he;refine⟨o1,fun j y hy=>?_⟩;have hj:j=0:=by
      have:=(List.getElem?_eq_some_iff.1 hy).1;simp only[AV.cells,List.length_singleton] at this;omega
     subst hj;simp only[AV.cells,List.getElem?_cons_zero,Option.some.injEq] at hy;subst hy;obtain⟨u,z1,z2⟩:=o2 0 _ rfl;refine⟨u,z1,?_⟩;have:=(KeepV.own k' i' n' e3).sound hR hinf z2;rwa [hil] at this
    ·obtain⟨o1,o2⟩:=k9 x _ he;refine⟨o1,fun j y hy=>?_⟩;obtain⟨u,z1,z2⟩:=o2 j y hy;exact⟨u,z1,.sh _ _ ((z2.closed (cells_closed e1 hy)).mono f1 fun _ _=>rfl)⟩
  ·intro k l hk hl hb';obtain⟨i,r,g1,g2⟩:=idk k hk;obtain⟨j,r',g3,g4⟩:=idk l hl;obtain⟨q,q1,_⟩:=hrow k i r g1 g2;obtain⟨q',q2,_⟩:=hrow l j r' g3 g4;have:=hR.inj i j q q' _ _ q1 q2 (hinf k i g1) (hinf l j g3) hb';subst this;exact (List.getElem?_inj (by omega:k<ids.length) hnd).1 (g1.trans g3.symm)
 cases ae with
 |normal=>exact main hq
 |ret=>exact main hq
 |exit i=>exact hq.elim
theorem ACallsN.ofPc (hty:∀ t,(ty t).ok=true->TyOk P t (ty t)) (hm:P.follows .mixedOrders=true) {f:FuncId} {fn:Func} {args:List AV} {rows:List Row} {res:AV} {c:Code} (hf:P.funcs[f]?=some fn) (hb:fn.body=some c)
  (hc:((fn.name == "runtime.NumGoroutine")==false&&codeN fn.ntmps c&&Nat.ble args.length fn.ntmps)=true)
  (h:Pc P fn.ntmps c (frI args 0) [] 0 (fun e fr st g=>∃ ids,resNR ty fn.results.toList ids rows res e (mkS fr st g))):ACallsN P f args rows res:=by
 refine ACallsN.ofWp hty hm hf hb hc fun cx m S a w hR=>?_
 rw[initS_mk] at hR;refine wp_mono (h.h cx m S a w hR) ?_;rintro e a' w' ⟨ae,s',m',S',rfl,⟨fr,st,g,rfl,hq⟩,hR'⟩;exact⟨ae,_,m',S',rfl,hq,hR'⟩
end
end
section
variable [Gl]
theorem x_R {s : AS} {F : List Rid} {ρ : Ren} {g : Nat} {x y : AV} (e : Le x y := by exact .refl _) (h : okV ρ g y = true := by exact rfl) : WkV s F ρ g x y := .inl ⟨e, h⟩
theorem x_S {s : AS} {ρ : Ren} {g : Nat} {i : Rid} {r : Row} (h : stR s ρ i = some r := by exact rfl) (hl : okL ρ g r.els = true := by exact rfl) (hg : Nat.ble (i.1 + 1) g = true := by exact rfl) : WkRow s [] ρ g i r ∧ sigR s ρ i ∉ ([] : List Rid) ∧ i.1 < g := ⟨.same h hl, List.not_mem_nil, Nat.le_of_ble_eq_true hg⟩
theorem x_N {i : Rid} : i ∉ ([] : List Rid) := List.not_mem_nil
theorem x_E {s : AS} {F : List Rid} {ρ : Ren} {g : Nat} {n m : Int} (h : n = m) (hk : okV ρ g (AV.lit (.int .i64 m)) = true := by exact rfl) : WkV s F ρ g (.lit (.int .i64 n)) (.lit (.int .i64 m)) := .inl ⟨.of_eq (by rw [h]), hk⟩
theorem x_L {a b : Nat} (h : Nat.ble a b = true := by exact rfl) : a ≤ b := Nat.le_of_ble_eq_true h
end
end Go.Proofs.YtjdkdcmpifapeaaGreatDoor.Abs
