/- Operations on memory: moves, variables, loads, stores, addresses. -/
import Derived.Test.YtjdkdcmpifapeaaGreatDoorMa
import Derived.Laws.BytesString
set_option linter.unusedVariables false
set_option linter.unusedSectionVars false
set_option linter.unusedSimpArgs false
namespace Go.Proofs.YtjdkdcmpifapeaaGreatDoor.Abs
section
open Go Go.RowKit
variable [Gl]
theorem splice_get {α:Type} (l v:List α) (o p:Nat) (h:o+v.length<=l.length) :
  (l.take o++v++l.drop (o+v.length))[p]?=if p<o then l[p]? else if p<o+v.length then v[p-o]? else l[p]?:=by
 by_cases h1:p<o
 ·rw[if_pos h1,List.append_assoc,List.getElem?_append_left (by simp; omega),List.getElem?_take_of_lt h1]
 ·rw[if_neg h1,List.append_assoc,List.getElem?_append_right (by simp; omega)];have e:p-(l.take o).length=p-o:=by simp; omega
  rw[e];by_cases h2:p<o+v.length
  ·rw[if_pos h2,List.getElem?_append_left (by omega)]
  ·rw[if_neg h2,List.getElem?_append_right (by omega),List.getElem?_drop];congr 1;omega
section
variable {P:Program} {ty:Nat->Ty} {cx:Cx} {N:Nat} {D:Nat->Prop} {m:RMap} {S:Nat->Prop} {s:AS} {a:Act} {w:World} {i:Nat} {o:Oper} {K:Eff->Prop} {Q:Exit->Act->World->Prop} {dr:Bool} {pre:Nat->Bool}
theorem Rep.rptr_inv {e:AV} {c:Nat} {u:Value} (h:Rep m S w (.rptr e c) u):∃ b off,S b/\u=.pointer (some ⟨b,off+c,none⟩)/\e.cells.all AV.oneCell=true /\
  ∀ (j:Nat) (y:AV),e.cells[j]?=some y->∃ v,w.cell? ⟨b,off+j,none⟩=some v/\Rep m S w y v:=by
 cases h with | sh _ _ h=>cases h with | rptr _ _ b off us hb h1 hc hr=>exact⟨b,off,hb,rfl,h1,fun j y hy=>⟨us j,hc j y hy,.sh _ _ (hr j y hy)⟩⟩
theorem sound_move {x:Operand} (ho:o.op=.move x\/o.op=.assign x) (hR:Rel cx N D m S s a w) (hd:∀ d,o.dst=some d->d<N)
  (h:forceA (s.ev x) fun v=>K { v }):o.wp P a w (OpPost cx N D s i o.dst K) Q:=by
 rw[forceA_eq] at h;refine sound_val hR hd ?_ (hR.ev x) h;rcases ho with ho | ho <;> simp[execOp,ho]
theorem Rel.evBool {c:Operand} {b:Bool} (hR:Rel cx N D m S s a w) (h:s.ev c=.lit (.bool b)):a.eval c=.bool b:=by
 have:=hR.ev c;rw[h] at this;exact this.lit_inv
theorem Rel.evInt {c:Operand} {k:IntKind} {n:Int} (hR:Rel cx N D m S s a w) (h:s.ev c=.lit (.int k n)):a.eval c=.int k n:=by
 have:=hR.ev c;rw[h] at this;exact this.lit_inv
theorem sound_pick {c x y:Operand} (ho:o.op=.pick c x y) (hR:Rel cx N D m S s a w) (hd:∀ d,o.dst=some d->d<N)
  (h:act P ty dr pre i s o.op K):o.wp P a w (OpPost cx N D s i o.dst K) Q:=by
 rw[ho] at h;simp only[act] at h;split at h
 ·rename_i b hb;have hc:=hR.evBool hb;have ht:=h.t;have hf:=h.f;cases b with
  |true =>
   have:=ht rfl;rw[forceA_eq] at this;exact sound_val hR hd (by simp[execOp,ho,hc,asBool]) (hR.ev x) this
  |false =>
   have:=hf rfl;rw[forceA_eq] at this;exact sound_val hR hd (by simp[execOp,ho,hc,asBool]) (hR.ev y) this
 ·exact h.elim
theorem sound_newVar {t k:Nat} {x:AV} {u:Value} (hR:Rel cx N D m S s a w) (hd:∀ d,o.dst=some d->d<N) (hD:¬ D i)
  (hrun:(execOp a.eval o).run P w=.ok (.value (.pointer (some ⟨w.heap.size,0,none⟩))) (w.alloc (.cells u.cells t)))
  (hu:Rep m S w x u) (hk:elB k x=true)
  (hK:K { v:=.ptr (s.gen,i) 0 0,new:=some ⟨t,k,[x]⟩ }):o.wp P a w (OpPost cx N D s i o.dst K) Q:=by
 unfold Oper.wp;rw[hrun];obtain⟨h1,h2,h3,h4⟩:=hu.cellsAt hk;refine⟨_,mset m (s.gen,i) ⟨w.heap.size,1,k⟩,S,hK,?_⟩;refine hR.new (cap:=1) (r:=⟨t,k,[x]⟩) (c:=u.cells) hd hD (fun _ _ h=>by cases h) ((Bel.refl _ _).alloc _) (fun q hq=>heap_alloc_old w _ q hq) (heap_alloc_new w _) (by simp[h1]) (by simp) (by simp[maxLen]) ?_ ?_
 ·intro y e he;cases y with
  |zero =>
   simp at he;subst he;refine⟨hk,fun j z hz=>?_⟩;obtain⟨u',q1,q2⟩:=h3 j z hz;exact⟨u',by simpa using q1,q2⟩
  |succ y=>simp at he
 ·have:=Rep.ptr (m:=mset m (s.gen,i) ⟨w.heap.size,1,k⟩) (S:=S) (w:=w.alloc (.cells u.cells t)) (s.gen,i) 0 0 ⟨w.heap.size,1,k⟩ (mset_self _ _ _);simpa using this
theorem sound_alloc (hty:∀ t,(ty t).ok=true->TyOk P t (ty t)) {t:TypeId} (ho:o.op=.alloc t) (hR:Rel cx N D m S s a w) (hd:∀ d,o.dst=some d->d<N) (hD:¬ D i)
  (h:act P ty dr pre i s o.op K):o.wp P a w (OpPost cx N D s i o.dst K) Q:=by
 rw[ho] at h;simp only[act] at h;obtain⟨hb,hK⟩:=trueA_iff h;simp only[Bool.and_eq_true] at hb;have hT:=hty t hb.1;refine sound_newVar (u:=(ty t).zero) hR hd hD ?_ (.sh _ _ (ofVal_closed _)) hb.2 hK;simp[execOp,ho,Instr.alloc,run_zero hT,newVar,newRow]
theorem sound_box (hty:∀ t,(ty t).ok=true->TyOk P t (ty t)) {t:TypeId} {x:Operand} (ho:o.op=.box t x) (hR:Rel cx N D m S s a w) (hd:∀ d,o.dst=some d->d<N) (hD:¬ D i)
  (h:act P ty dr pre i s o.op K):o.wp P a w (OpPost cx N D s i o.dst K) Q:=by
 rw[ho] at h;simp only[act] at h;obtain⟨hb,hK⟩:=trueA_iff h;rw[forceA_eq] at hK;simp only[Bool.and_eq_true] at hb;have hT:=hty t hb.1;refine sound_newVar (u:=a.eval x) hR hd hD ?_ (hR.ev x) hb.2 hK;simp[execOp,ho,Instr.box,newVar,newRow]
theorem RowOk.cellsAt {base:Nat->Prop} {id:Rid} {r:Row} {inf:RInfo} {x:Nat} {e:AV} (h:RowOk base m S w id r) (hi:m id=some inf) (he:r.els[x]?=some e) :
  elB r.k e=true/\inf.k=r.k/\∀ (j:Nat) (y:AV),e.cells[j]?=some y->∃ u,w.cell? ⟨inf.b,x*inf.k+j,none⟩=some u/\Rep m S w y u:=by
 obtain⟨inf',c,h1,h2,h3,h4,h5,h6,h7,h8,h9⟩:=h;rw[hi] at h1;cases h1;refine⟨(h9 x e he).1,h2,fun j y hy=>?_⟩;obtain⟨u,q1,q2⟩:=(h9 x e he).2 j y hy;exact⟨u,by rw[cell_of_row w inf.b _ c r.elem (0,0) h5,h2]; exact q1,q2⟩
theorem partA_ok {T:Ty} {e:AV} {c:Nat} {v:AV} (h:partA T e c=some v):T.ok=true:=by
 unfold partA at h;split at h
 ·cases h
 ·assumption
theorem sound_load (hty:∀ t,(ty t).ok=true->TyOk P t (ty t)) {t:TypeId} {p:Operand} (ho:o.op=.load t p) (hR:Rel cx N D m S s a w) (hd:∀ d,o.dst=some d->d<N)
  (h:act P ty dr pre i s o.op K):o.wp P a w (OpPost cx N D s i o.dst K) Q:=by
 rw[ho] at h;simp only[act] at h;have hp:=hR.ev p;split at h
 ·rename_i id x c hx;rw[hx] at hp;obtain⟨inf,hm,hv⟩:=hp.ptr_inv;obtain⟨r,hr,_,h⟩:=rowA_iff h;obtain⟨e,he,h⟩:=elA_iff h;obtain⟨v,hpa,h⟩:=someA_iff h;rw[forceA_eq] at h;obtain⟨q1,q2,q3⟩:=(hR.row id r hr).cellsAt hm he;obtain⟨u,hrun,hu⟩:=run_load_part (P:=P) (hty t (partA_ok hpa)) hpa q3;refine sound_val hR hd ?_ hu h;simp only[execOp,ho,hv,Sem.run_bind,hrun,Result.andThen_ok,Sem.run_pure]
 ·rename_i e c hx;rw[hx] at hp;obtain⟨v,hpa,h⟩:=someA_iff h;rw[forceA_eq] at h;obtain⟨b,off,hb,hev,h1,hc⟩:=hp.rptr_inv;obtain⟨u,hrun,hu⟩:=run_load_part (P:=P) (m:=m) (S:=S) (hty t (partA_ok hpa)) hpa hc;refine sound_val hR hd ?_ hu h;simp only[execOp,ho,hev,Sem.run_bind,hrun,Result.andThen_ok,Sem.run_pure]
 ·exact h.elim
theorem elB_length {k:Nat} {x:AV} (h:elB k x=true):x.cells.length=k:=by
 simp only[elB,Bool.and_eq_true] at h;exact Nat.eq_of_beq_eq_true h.1
theorem elB_all {k:Nat} {x:AV} (h:elB k x=true):∀ y∈x.cells,y.oneCell=true:=by
 simp only[elB,Bool.and_eq_true,List.all_eq_true] at h;exact h.2
theorem elB_mk {k:Nat} {x:AV} (h:x.cells.length=k) (h2:∀ y∈x.cells,y.oneCell=true):elB k x=true:=by
 simp only[elB,Bool.and_eq_true,List.all_eq_true];exact⟨by subst h; simp,h2⟩
theorem setA_cells {e v e2:AV} {c k:Nat} (h:setA e c v=some e2) (he:elB k e=true) (hv:∀ y∈v.cells,y.oneCell=true) :
  elB k e2=true/\c+v.cells.length<=k/\∀ j,e2.cells[j]?=if j<c then e.cells[j]? else if j<c+v.cells.length then v.cells[j-c]? else e.cells[j]?:=by
 have hl:=elB_length he;unfold setA at h;split at h
 ·rename_i hb;simp only[Bool.and_eq_true] at hb;have e1:=Nat.eq_of_beq_eq_true hb.1;have e2':=Nat.eq_of_beq_eq_true hb.2;subst e1;cases h;refine⟨elB_mk (by omega) hv,by omega,fun j=>?_⟩;simp only[Nat.not_lt_zero,if_false,Nat.zero_add,Nat.sub_zero];by_cases hj:j<v.cells.length
  ·rw[if_pos hj]
  ·rw[if_neg hj,List.getElem?_eq_none (by omega),List.getElem?_eq_none (by omega)]
 ·split at h
  ·rename_i cs _;split at h
   ·rename_i hb;have hb:=Nat.le_of_ble_eq_true hb;cases h;have hl':cs.length=k:=hl;generalize v.cells=vc at *
    have hc:(AV.agg (cs.take c++vc++cs.drop (c+vc.length))).cells=cs.take c++vc++cs.drop (c+vc.length):=rfl;refine⟨elB_mk ?_ ?_,by omega,fun j=>by rw[hc]; exact splice_get cs vc c j hb⟩
    ·rw[hc];simp only[List.length_append,List.length_take,List.length_drop];omega
    ·intro y hy;rw[hc] at hy;simp only[List.append_assoc,List.mem_append] at hy;rcases hy with hy | hy | hy
     ·exact elB_all he y (List.mem_of_mem_take hy)
     ·exact hv y hy
     ·exact elB_all he y (List.mem_of_mem_drop hy)
   ·cases h
  ·cases h
theorem sound_store (hty:∀ t,(ty t).ok=true->TyOk P t (ty t)) {t:TypeId} {p v:Operand} (ho:o.op=.store t p v) (hR:Rel cx N D m S s a w) (hd:∀ d,o.dst=some d->d<N)
  (h:act P ty dr pre i s o.op K):o.wp P a w (OpPost cx N D s i o.dst K) Q:=by
 rw[ho] at h;simp only[act] at h;have hp:=hR.ev p;split at h
 case h_2=>exact h.elim
 rename_i id x c hx;rw[hx] at hp;obtain⟨inf,hm,hpv⟩:=hp.ptr_inv;obtain⟨r,hr,_,h⟩:=rowA_iff h;obtain⟨hb,h⟩:=trueA_iff h;obtain⟨e,he,h⟩:=elA_iff h;rw[forceA_eq] at h;obtain⟨e2,hs,h⟩:=someA_iff h;simp only[Bool.and_eq_true] at hb;have hT:=hty t hb.1;have hv:=hR.ev v;obtain⟨v1,v2,v3,v4⟩:=hv.cellsAt hb.2;have hrow:=hR.row id r hr;obtain⟨inf',cur,g1,g2,g3,g4,g5,g6,g7,g8,g9⟩:=hrow;rw[hm] at g1;cases g1;obtain⟨s1,s2,s3⟩:=setA_cells hs (g9 x e he).1 (elB_all hb.2);have hx_lt:x<r.els.length:=(List.getElem?_eq_some_iff.1 he).1;have hxk:x*r.k+r.k<=cur.size:=by
  rw[g6];have:(x+1)*r.k<=inf.cap*r.k:=Nat.mul_le_mul_right _ (by omega);rw[Nat.add_mul,Nat.one_mul] at this;exact this
 have hlen:(a.eval v).cells.toList.length=(s.ev v).cells.length:=by simp[v1,v2]
 have hfit:x*r.k+c+(a.eval v).cells.toList.length<=cur.toList.length:=by
  rw[hlen]; simp; omega
 have hst:=run_storeCells_at (P:=P) inf.b (x*r.k+c) r.elem (a.eval v).cells.toList 0 cur w g5 (by simpa using hfit) v4;simp only[Nat.add_zero] at hst;unfold Oper.wp;have hrun:(execOp a.eval o).run P w=.ok .skip (w.setRow inf.b (cur.toList.take (x*r.k+c)++(a.eval v).cells.toList++cur.toList.drop (x*r.k+c+(a.eval v).cells.toList.length)).toArray):=by
  simp only[execOp,ho,hpv,Instr.storeAt,Instr.sureAddr,pure_bind,storeVar,Sem.run_bind,run_size hT,Result.andThen_ok,v1,g2];simp[hst]
 rw[hrun];have hgf:∀ p,(cur.toList.take (x*r.k+c)++(a.eval v).cells.toList++cur.toList.drop (x*r.k+c+(a.eval v).cells.toList.length)).toArray[p]? =
   if p<x*r.k+c then cur[p]? else if p<x*r.k+c+(s.ev v).cells.length then (a.eval v).cells[p-(x*r.k+c)]? else cur[p]?:=by
  intro p;rw[List.getElem?_toArray,splice_get _ _ _ _ hfit,hlen];simp
 refine⟨_,m,S,h,?_⟩;refine hR.set (inf:=inf) (c:=cur) (r':=⟨r.elem,r.k,r.els.set x e2⟩) (v:=undef) hd hr hm g5 rfl rfl (by simp) ?_ ?_ (fun q hq=>setRow_other w inf.b q _ hq) (setRow_heap w inf.b cur _ r.elem (0,0) g5) ?_ (.any _)
 ·simp only[List.size_toArray,List.length_append,List.length_take,List.length_drop,Array.length_toList] at hfit ⊢;omega
 ·refine⟨rfl,rfl,rfl,by simp,fun q hq hn=>setRow_other w inf.b q _ (fun e=>hn (e▸g3))⟩
 ·intro y e' he';simp only[List.getElem?_set] at he';by_cases hxy:x=y
  ·subst hxy;simp[hx_lt] at he';subst he';refine⟨s1,fun j z hz=>?_⟩;have hjk:j<r.k:=by
    have:=(List.getElem?_eq_some_iff.1 hz).1;rw[elB_length s1] at this;exact this
   rw[hgf];rw[s3 j] at hz;by_cases hj1:j<c
   ·rw[if_pos hj1] at hz;rw[if_pos (by omega)];exact (g9 x e he).2 j z hz
   ·rw[if_neg hj1] at hz;rw[if_neg (by omega)];by_cases hj2:j<c+(s.ev v).cells.length
    ·rw[if_pos hj2] at hz;rw[if_pos (by omega)];obtain⟨u,q1,q2⟩:=v3 _ z hz;exact⟨u,by rw[<- q1]; congr 1; omega,q2⟩
    ·rw[if_neg hj2] at hz;rw[if_neg (by omega)];exact (g9 x e he).2 j z hz
  ·rw[if_neg hxy] at he';refine⟨(g9 y e' he').1,fun j z hz=>?_⟩;have hjk:j<r.k:=by
    have:=(List.getElem?_eq_some_iff.1 hz).1;rw[elB_length (g9 y e' he').1] at this;exact this
   rw[hgf];have hout:y*r.k+j<x*r.k+c\/¬ (y*r.k+j<x*r.k+c)/\¬ (y*r.k+j<x*r.k+c+(s.ev v).cells.length):=by
    rcases Nat.lt_or_gt_of_ne hxy with hlt | hlt
    ·right;have:(x+1)*r.k<=y*r.k:=Nat.mul_le_mul_right _ hlt;rw[Nat.add_mul,Nat.one_mul] at this;omega
    ·left;have:(y+1)*r.k<=x*r.k:=Nat.mul_le_mul_right _ hlt;rw[Nat.add_mul,Nat.one_mul] at this;omega
   rcases hout with ho | ⟨ho1,ho2⟩
   ·rw[if_pos ho]; exact (g9 y e' he').2 j z hz
   ·rw[if_neg ho1,if_neg ho2]; exact (g9 y e' he').2 j z hz
end
end
section
open Go Go.RowKit
variable [Gl]
section
variable {P:Program} {ty:Nat->Ty} {cx:Cx} {N:Nat} {D:Nat->Prop} {m:RMap} {S:Nat->Prop} {s:AS} {a:Act} {w:World} {i:Nat} {o:Oper} {K:Eff->Prop} {Q:Exit->Act->World->Prop} {dr:Bool} {pre:Nat->Bool}
theorem sound_nilCheck {x:Operand} (ho:o.op=.nilCheck x) (hR:Rel cx N D m S s a w) (hd:∀ d,o.dst=some d->d<N)
  (h:act P ty dr pre i s o.op K):o.wp P a w (OpPost cx N D s i o.dst K) Q:=by
 rw[ho] at h;simp only[act] at h;have hx:=hR.ev x;split at h
 ·rename_i id y c e;rw[e] at hx;obtain⟨r,_,hv⟩:=hx.ptr_inv;rw[hv] at hx;exact sound_val hR hd (by simp[execOp,ho,hv]) hx h
 ·rename_i y c e;rw[e] at hx;obtain⟨b,off,_,hv,_⟩:=hx.rptr_inv;rw[hv] at hx;exact sound_val hR hd (by simp[execOp,ho,hv]) hx h
 ·exact h.elim
theorem sound_binOp (hty:∀ t,(ty t).ok=true->TyOk P t (ty t)) {op:BinOp} {t t2:TypeId} {x y:Operand} (ho:o.op=.binOp op t x y t2) (hR:Rel cx N D m S s a w) (hd:∀ d,o.dst=some d->d<N)
  (h:act P ty dr pre i s o.op K):o.wp P a w (OpPost cx N D s i o.dst K) Q:=by
 rw[ho] at h;simp only[act] at h;obtain⟨hb,h⟩:=trueA_iff h;obtain⟨z,vz,h1,h2,h3⟩:=binA_sound (hty t hb) h (hR.ev x) (hR.ev y) x y;refine sound_val hR hd ?_ h3 h1;simp only[execOp,ho];rw[Sem.run_bind,h2];rfl
theorem sound_unOp {op:UnOp} {t:TypeId} {x:Operand} (ho:o.op=.unOp op t x) (hR:Rel cx N D m S s a w) (hd:∀ d,o.dst=some d->d<N)
  (h:act P ty dr pre i s o.op K):o.wp P a w (OpPost cx N D s i o.dst K) Q:=by
 rw[ho] at h;simp only[act] at h;obtain⟨z,vz,h1,h2,h3⟩:=unA_sound (P:=P) h (hR.ev x);refine sound_val hR hd ?_ h3 h1;simp only[execOp,ho];rw[Sem.run_bind,h2];rfl
theorem mk_int {d:TypeDesc} {T:Ty} {k:IntKind} (h:MkOk d T.d) (e:T.d=.int k):d=.int k:=by rw[e] at h; exact h
theorem mk_str {d:TypeDesc} {T:Ty} (h:MkOk d T.d) (e:T.d=.str):d=.string:=by rw[e] at h; exact h
theorem mk_slice {d:TypeDesc} {T:Ty} {t:TypeId} (h:MkOk d T.d) (e:T.d=.slice t):d=.slice t:=by rw[e] at h; exact h
theorem mk_array {d:TypeDesc} {T:Ty} {n:Nat} {t:TypeId} (h:MkOk d T.d) (e:T.d=.array n t):d=.array n t:=by rw[e] at h; exact h
theorem mk_struct {d:TypeDesc} {T:Ty} {fs:List (Nat×TypeId)} (h:MkOk d T.d) (e:T.d=.struct fs):∃ gs,d=.struct gs/\fs=gs.toList.map fun g=>(g.offset,g.type):=by rw[e] at h; exact h
theorem sound_convert (hty:∀ t,(ty t).ok=true->TyOk P t (ty t)) {t t2:TypeId} {x:Operand} (ho:o.op=.convert t t2 x) (hR:Rel cx N D m S s a w) (hd:∀ d,o.dst=some d->d<N)
  (h:act P ty dr pre i s o.op K):o.wp P a w (OpPost cx N D s i o.dst K) Q:=by
 rw[ho] at h;simp only[act] at h;obtain⟨hb,h⟩:=trueA_iff h;simp only[Bool.and_eq_true] at hb;obtain⟨d1,q1,_,q3⟩:=run_und (hty t hb.1) w;obtain⟨d2,r1,_,r3⟩:=run_und (hty t2 hb.2) w;have hx:=hR.ev x;split at h
 ·rename_i k k' n e1 e2;rw[e2] at hx;have hv:=hx.lit_inv;have:=mk_int r3 e1;subst this;refine sound_val hR hd ?_ (.sh _ _ (.lit _)) h;simp only[execOp,ho,hv];simp[convert,q1,r1,Conv.intToInt]
 ·rename_i b e1 e2;rw[e2] at hx;have hv:=hx.lit_inv;have:=mk_str r3 e1;subst this;refine sound_val hR hd ?_ (.sh _ _ (.lit _)) h;simp only[execOp,ho,hv];simp[convert,q1,r1]
 ·rename_i id n e1 e2;cases dr with
  |true=>exact h.elim
  |false =>
   simp only at h;split at h
   ·rename_i e e3;obtain⟨hb2,h⟩:=trueA_iff h;obtain⟨d3,u1,_,u3⟩:=run_und (hty e hb2) w;split at h
    ·rename_i e4;obtain⟨r,hr,_,ns,⟨hk,hels,hn⟩,h⟩:=rowA_iff h;rw[e2] at hx;obtain⟨inf,hm,hv⟩:=hx.own_inv;have a1:=mk_str r3 e1;have a2:=mk_slice q3 e3;have a3:=mk_int u3 e4;subst a1 a2 a3;obtain⟨inf',c,k1,k2,k3,k4,k5,k6,k7,k8,k9⟩:=hR.row id r hr;rw[hm] at k1;cases k1;have cell:∀ o,w.cell? ⟨inf.b,o,none⟩=c[o]?:=fun o=>by simp[World.cell?,k5]
     have hadd:∀ (o j:Nat),(⟨inf.b,o,none⟩:Addr).add j=⟨inf.b,o+j,none⟩:=fun o j=>by unfold Addr.add; split <;> simp_all
     have hl:(loadCells ⟨inf.b,0,none⟩ n).run P w=.ok (ns.map (Value.int .u8)).toArray w:=by
      have hlen:n=(ns.map (Value.int .u8)).length:=by rw[<- hn,hels]; simp
      rw[hlen];refine run_loadCells_list w _ _ fun j v hj=>?_
      rw[hadd,Nat.zero_add,cell];have hj2:r.els[j]?=some (AV.lit v):=by
       rw[hels];rw[List.getElem?_map] at hj ⊢;cases hq:ns[j]? with
       |none=>rw[hq] at hj; cases hj
       |some y=>rw[hq] at hj; cases hj; rfl
      obtain⟨_,k10⟩:=k9 j _ hj2;obtain⟨u,w1,w2⟩:=k10 0 (.lit v) rfl;rw[hk,Nat.mul_one,Nat.add_zero] at w1;rw[w1,w2.lit_inv]
     refine sound_val hR hd ?_ (.sh _ _ (.lit _)) h;simp only[execOp,ho];rw[hv];have hrun:=(run_bytesToString w ⟨inf.b,0,none⟩ n inf.cap ns hl)
     simp only[Sem.run_bind];have hcv:(convert t t2 (.slice (some ⟨inf.b,0,none⟩) n inf.cap)).run P w=.ok (.string (ns.foldl (fun r n=>r.push (UInt8.ofNat n.toNat)) ByteArray.empty)) w:=by
      simp[convert,q1,r1,u1,hrun]
     rw[hcv];rfl
    ·exact h.elim
   ·exact h.elim
 ·exact h.elim
theorem sound_makeInterface (hty:∀ t,(ty t).ok=true->TyOk P t (ty t)) {t:TypeId} {x:Operand} (ho:o.op=.makeInterface t x) (hR:Rel cx N D m S s a w) (hd:∀ d,o.dst=some d->d<N)
  (h:act P ty dr pre i s o.op K):o.wp P a w (OpPost cx N D s i o.dst K) Q:=by
 rw[ho] at h;simp only[act] at h;obtain⟨hb,h⟩:=trueA_iff h;obtain⟨d1,q1,_,q3⟩:=run_und (hty t hb) w;have hx:=hR.ev x;split at h
 ·rename_i k v e1 e2;rw[e2] at hx;have hv:=hx.lit_inv;have:=mk_int q3 e1;subst this;refine sound_val hR hd ?_ (.sh _ _ (.lit _)) h;simp only[execOp,ho,hv];simp[Instr.makeInterface,q1]
 ·exact h.elim
theorem sound_makeFunc {fn:Fn} {first captured:Array Operand} (ho:o.op=.makeFunc fn first captured) (hR:Rel cx N D m S s a w) (hd:∀ d,o.dst=some d->d<N)
  (h:act P ty dr pre i s o.op K):o.wp P a w (OpPost cx N D s i o.dst K) Q:=by
 rw[ho] at h;simp only[act] at h;split at h
 ·rename_i f e1 e2;have e1:first=#[]:=by simpa using e1
  have e2:captured=#[]:=by simpa using e2
  subst e1 e2;refine sound_val hR hd ?_ (.sh _ _ (.lit _)) h;simp only[execOp,ho];simp[Instr.makeFunc]
 ·rename_i f e1 _;have e1:first=#[]:=by simpa using e1
  subst e1;cases dr with
  |true=>exact h.elim
  |false =>
   obtain⟨F,as,hF,hfr,hK⟩:=h;have hs:=frzL_sound hR hfr (hR.evl captured.toList);refine Oper.wp_mono (fun a' w' h=>OpPost.fz h) (sound_val (x:=.clo f as) (v:=.func (.func f) #[] (captured.map a.eval)) hR.freeze hd ?_ ?_ ⟨rfl,hK⟩)
   ·simp only[execOp,ho];simp[Instr.makeFunc]
   ·obtain⟨h1,h2⟩:=hs;refine .sh _ _ (.clo f as _ (by simpa using h1) fun j x u hx hu=>h2 j x u hx ?_);rw[Array.getElem?_map] at hu;simpa using hu
 ·exact h.elim
theorem sound_extract {x:Operand} {j:Nat} (ho:o.op=.extract x j) (hR:Rel cx N D m S s a w) (hd:∀ d,o.dst=some d->d<N)
  (h:act P ty dr pre i s o.op K):o.wp P a w (OpPost cx N D s i o.dst K) Q:=by
 rw[ho] at h;simp only[act] at h;have hx:=hR.ev x;split at h
 ·rename_i vs e;rw[e] at hx;obtain⟨us,hv,hl,hr⟩:=hx.tup_inv;obtain⟨v,hj,h⟩:=someA_iff h;rw[forceA_eq] at h;have hlt:j<us.size:=by
   have:=(List.getElem?_eq_some_iff.1 hj).1;omega
  have hu:us[j]?=some us[j]:=by simp[hlt]
  refine sound_val hR hd ?_ (hr j v us[j] hj hu) h;simp only[execOp,ho,hv,Instr.extract,hu];rfl
 ·exact h.elim
theorem run_part {t:Nat} {T:Ty} {cs:List AV} {vs:Array Value} {x:AV} {c:Nat} (hT:TyOk P t T) (hp:partA T (.agg cs) c=some x) (hl:cs.length=vs.size)
  (hr:∀ (j:Nat) (y:AV) (u:Value),cs[j]?=some y->vs[j]?=some u->Rep m S w y u) :
  ∃ v,(part t vs c).run P w=.ok v w/\Rep m S w x v:=by
 unfold partA at hp;simp only[part,Sem.run_bind,run_isAgg hT,Result.andThen_ok];split at hp
 ·cases hp
 split at hp
 ·rename_i hb;simp only[Bool.and_eq_true,AV.cells] at hb;obtain⟨⟨h1,h2⟩,h3⟩:=hb;have e1:=Nat.eq_of_beq_eq_true h1;have e2:=Nat.eq_of_beq_eq_true h2;simp only[Option.some.injEq] at hp;subst hp e1;refine⟨.agg vs,?_,.agg _ _ hl hr⟩;have e3:vs.extract 0 T.size=vs:=by
   rw[<- e2,hl];simp
  simp only[h3,if_true,Sem.run_bind,run_size hT,Result.andThen_ok,Nat.zero_add,e3];rfl
 ·split at hp
  ·rename_i hagg;split at hp
   ·rename_i hle;have hle':=Nat.le_of_ble_eq_true hle;simp only[Option.some.injEq,AV.cells] at hp hle';subst hp;rw[hagg];refine⟨.agg (vs.extract c (c+T.size)),?_,.agg _ _ ?_ ?_⟩
    ·simp[run_size hT]
    ·simp; omega
    ·intro j y u g1 g2;have hj:j<T.size:=by
      have:=(List.getElem?_eq_some_iff.1 g1).1;simp at this;omega
     rw[List.getElem?_take_of_lt hj,List.getElem?_drop] at g1;refine hr (c+j) y u g1 ?_;rw[Array.getElem?_extract] at g2;split at g2
     ·exact g2
     ·cases g2
   ·cases hp
  ·rename_i hagg;rw[hagg];simp only[AV.cells] at hp;have hlt:c<vs.size:=by
    have:=(List.getElem?_eq_some_iff.1 hp).1;omega
   have hu:vs[c]?=some vs[c]:=by simp[hlt]
   exact⟨vs[c],by simp[hu],hr c x _ hp hu⟩
theorem sound_field (hty:∀ t,(ty t).ok=true->TyOk P t (ty t)) {t:TypeId} {x:Operand} {f:Nat} (ho:o.op=.field t x f) (hR:Rel cx N D m S s a w) (hd:∀ d,o.dst=some d->d<N)
  (h:act P ty dr pre i s o.op K):o.wp P a w (OpPost cx N D s i o.dst K) Q:=by
 rw[ho] at h;simp only[act] at h;obtain⟨hb,h⟩:=trueA_iff h;obtain⟨d1,q1,_,q3⟩:=run_und (hty t hb) w;have hx:=hR.ev x;split at h
 ·rename_i fs e1;obtain⟨gs,rfl,rfl⟩:=mk_struct q3 e1;obtain⟨fo,hf,h⟩:=someA_iff h;split at h
  ·rename_i cs e2;rw[e2] at hx;obtain⟨vs,hv,hl,hr⟩:=hx.agg_inv;simp only[List.getElem?_map,Array.getElem?_toList,Option.map_eq_some_iff] at hf;obtain⟨g,hg,rfl⟩:=hf;obtain⟨v,hp,hK⟩:=someA_iff h;obtain⟨u,hrun,hu⟩:=run_part (P:=P) (w:=w) (hty _ (partA_ok hp)) hp hl hr;refine sound_val hR hd ?_ hu hK;simp only[execOp,ho,hv];simp[Instr.field,q1,hg,asAgg,hrun]
  ·exact h.elim
 ·exact h.elim
theorem sound_fieldAddr (hty:∀ t,(ty t).ok=true->TyOk P t (ty t)) {t:TypeId} {x:Operand} {f:Nat} (ho:o.op=.fieldAddr t x f) (hR:Rel cx N D m S s a w) (hd:∀ d,o.dst=some d->d<N)
  (h:act P ty dr pre i s o.op K):o.wp P a w (OpPost cx N D s i o.dst K) Q:=by
 rw[ho] at h;simp only[act] at h;obtain⟨hb,h⟩:=trueA_iff h;obtain⟨d1,q1,_,q3⟩:=run_und (hty t hb) w;have hx:=hR.ev x;have hadd:∀ (b o j:Nat),(⟨b,o,none⟩:Addr).add j=⟨b,o+j,none⟩:=fun b o j=>by unfold Addr.add; split <;> simp_all
 split at h
 ·rename_i fs e1;obtain⟨gs,rfl,rfl⟩:=mk_struct q3 e1;obtain⟨fo,hf,h⟩:=someA_iff h;obtain⟨hb2,h⟩:=trueA_iff h;simp only[Bool.and_eq_true] at hb2;have hsz:(ty fo.2).size≠0:=by
   have:=Nat.le_of_ble_eq_true hb2.2;omega
  simp only[List.getElem?_map,Array.getElem?_toList,Option.map_eq_some_iff] at hf;obtain⟨g,hg,rfl⟩:=hf;have hs:=run_size (hty _ hb2.1) w;split at h
  ·rename_i id y c e2;rw[e2] at hx;obtain⟨r,hm,hv⟩:=hx.ptr_inv;refine sound_val (v:=.pointer (some ⟨r.b,y*r.k+(c+g.offset),none⟩)) hR hd ?_ (.ptr _ _ _ _ hm) h;simp only[execOp,ho,hv];simp[Instr.fieldAt,q1,hg,Instr.sureAddr,fieldPlace,hs,hsz,hadd,Nat.add_assoc]
  ·rename_i y c e2;rw[e2] at hx;cases hx with | sh _ _ hx =>
   cases hev:a.eval x <;> rw[hev] at hx <;> try (cases hx; done)
   cases hx with
   |rptr _ _ b off us hb h1 hc hr =>
    refine sound_val (v:=.pointer (some ⟨b,off+(c+g.offset),none⟩)) hR hd ?_ (.sh _ _ (.rptr _ _ b off us hb h1 hc hr)) h;simp only[execOp,ho,hev];simp[Instr.fieldAt,q1,hg,Instr.sureAddr,fieldPlace,hs,hsz,hadd,Nat.add_assoc]
  ·exact h.elim
 ·exact h.elim
end
end
section
open Go Go.RowKit
variable [Gl]
theorem add_off (b o j:Nat):(⟨b,o,none⟩:Addr).add j=⟨b,o+j,none⟩:=by unfold Addr.add; split <;> simp_all
section
variable {P:Program} {ty:Nat->Ty} {cx:Cx} {N:Nat} {D:Nat->Prop} {m:RMap} {S:Nat->Prop} {s:AS} {a:Act} {w:World} {i:Nat} {o:Oper} {K:Eff->Prop} {Q:Exit->Act->World->Prop} {dr:Bool} {pre:Nat->Bool}
def SlAt (S:Nat->Prop) (w:World) (es:List AV) (b off k:Nat):Prop :=
 S b/\(∀ (i:Nat) (x:AV),es[i]?=some x->elB k x=true)/\∃ us:Nat->Nat->Value,
  (∀ (i:Nat) (x:AV) (j:Nat) (y:AV),es[i]?=some x->x.cells[j]?=some y->w.cell? ⟨b,off+(i*k+j),none⟩=some (us i j)) /\
  ∀ (i:Nat) (x:AV) (j:Nat) (y:AV),es[i]?=some x->x.cells[j]?=some y->SRep S w y (us i j)
theorem Rep.sl_inv {es:List AV} {v:Value} (h:Rep m S w (.sl es) v):(∃ oa:Option Addr,v=.slice oa 0 0/\es=[])\/∃ b off cap k,v=.slice (some ⟨b,off,none⟩) es.length cap/\es.length<=cap/\SlAt S w es b off k:=by
 cases h with | sh _ _ h =>
  cases h with
  |slnil=>exact .inl ⟨_,rfl,rfl⟩
  |sle a=>exact .inl ⟨_,rfl,rfl⟩
  |sl _ b off n cap k us hn hcap hb hk hc hr=>subst hn; exact .inr ⟨b,off,cap,k,rfl,hcap,hb,hk,us,hc,hr⟩
theorem Rep.sln_inv {es:List AV} {v:Value} (h:Rep m S w (.sln es) v):(∃ oa:Option Addr,v=.slice oa 0 0/\es=[])\/∃ b off cap k,v=.slice (some ⟨b,off,none⟩) es.length cap/\es.length<=cap/\SlAt S w es b off k:=by
 cases h with | sh _ _ h =>
  cases h with
  |sln _ b off n cap k us hn hcap hb hk hc hr=>subst hn; exact .inr ⟨b,off,cap,k,rfl,hcap,hb,hk,us,hc,hr⟩
  |slne a=>exact .inl ⟨_,rfl,rfl⟩
theorem SlAt.ptr {es:List AV} {b off k n:Nat} {v:AV} (h:SlAt S w es b off k) (hv:es[n]?=some v):SRep S w (.rptr v 0) (.pointer (some ⟨b,off+n*k,none⟩))/\v.cells.length=k:=by
 obtain⟨hb,hk,us,hc,hr⟩:=h;have he:=hk n v hv;refine⟨?_,elB_length he⟩;have:=SRep.rptr (S:=S) (w:=w) v 0 b (off+n*k) (us n) hb (by simp only[List.all_eq_true]; exact elB_all he) (fun j y hy=>by rw[Nat.add_assoc]; exact hc n v j y hv hy) (fun j y hy=>hr n v j y hv hy);simpa using this
theorem SlAt.sub {es:List AV} {b off k l h:Nat} (hs:SlAt S w es b off k):SlAt S w ((es.take h).drop l) b (off+l*k) k:=by
 obtain⟨hb,hk,us,hc,hr⟩:=hs;have get:∀ (i:Nat) (x:AV),((es.take h).drop l)[i]?=some x->es[l+i]?=some x:=by
  intro i x hx;rw[List.getElem?_drop,List.getElem?_take] at hx;split at hx
  ·exact hx
  ·cases hx
 refine⟨hb,fun i x hx=>hk _ x (get i x hx),fun i j=>us (l+i) j,fun i x j y hx hy=>?_,fun i x j y hx hy=>hr _ x j y (get i x hx) hy⟩;have:=hc (l+i) x j y (get i x hx) hy;rw[<- this];congr 2;rw[Nat.add_mul];omega
theorem SlAt.rep {es:List AV} {b off k cap:Nat} (h:SlAt S w es b off k) (hc:es.length<=cap):SRep S w (.sl es) (.slice (some ⟨b,off,none⟩) es.length cap):=by
 obtain⟨hb,hk,us,hc',hr⟩:=h;exact .sl es b off _ cap k us rfl hc hb hk hc' hr
theorem sound_indexAddr (hty:∀ t,(ty t).ok=true->TyOk P t (ty t)) {t:TypeId} {p x:Operand} (ho:o.op=.indexAddr t p x) (hR:Rel cx N D m S s a w) (hd:∀ d,o.dst=some d->d<N)
  (h:act P ty dr pre i s o.op K):o.wp P a w (OpPost cx N D s i o.dst K) Q:=by
 rw[ho] at h;simp only[act] at h;obtain⟨hb,h⟩:=trueA_iff h;obtain⟨d1,q1,_,q3⟩:=run_und (hty t hb) w;have hp:=hR.ev p;split at h
 case h_2=>exact h.elim
 rename_i k n e1;have hx:=hR.evInt e1;have shared:∀ {es:List AV} {e:TypeId} {pv:Value} {v:AV},a.eval p=pv->(ty t).d=.slice e->(∃ b off cap k,pv=.slice (some ⟨b,off,none⟩) es.length cap/\es.length<=cap/\SlAt S w es b off k) ->
   (0<=n/\es[n.toNat]?=some v/\v.cells.length=(ty e).size/\(ty e).ok=true)->K { v:=.rptr v 0 }->o.wp P a w (OpPost cx N D s i o.dst K) Q:=by
  intro es e pv v he hd' hs hn hK;obtain⟨b,off,cap,k',rfl,hcap,hs⟩:=hs;obtain⟨n0,n1,n2,n3⟩:=hn;have:=mk_slice q3 hd';subst this;obtain⟨hr,hl⟩:=hs.ptr n1;have hlt:n.toNat<es.length:=(List.getElem?_eq_some_iff.1 n1).1;refine sound_val (v:=.pointer (some ⟨b,off+n.toNat*k',none⟩)) hR hd ?_ (.sh _ _ hr) hK;simp only[execOp,ho,he,hx];have c1:0<=n/\n<(es.length:Int):=⟨n0,by omega⟩
  rw[n2] at hl;simp[Instr.indexAt,asIntOf,q1,c1,run_size (hty e n3),add_off,hl]
 split at h
 ·rename_i e es e2 e3;obtain⟨v,hv,hK⟩:=h;rw[e3] at hp;rcases hp.sl_inv with ⟨_,_,rfl⟩ | hs
  ·simp at hv
  ·exact shared rfl e2 hs hv hK
 ·rename_i e es e2 e3;obtain⟨v,hv,hK⟩:=h;rw[e3] at hp;rcases hp.sln_inv with ⟨_,_,rfl⟩ | hs
  ·simp at hv
  ·exact shared rfl e2 hs hv hK
 ·rename_i e id mm e2 e3;rw[e3] at hp;obtain⟨inf,hm,hv⟩:=hp.own_inv;obtain⟨r,hr,_,⟨hk,hok⟩,⟨n0,n1⟩,hK⟩:=rowA_iff h;have:=mk_slice q3 e2;subst this;obtain⟨inf',c,g1,g2,_⟩:=hR.row id r hr;rw[hm] at g1;cases g1;refine sound_val (v:=.pointer (some ⟨inf.b,n.toNat*inf.k+0,none⟩)) hR hd ?_ (.ptr _ _ _ _ hm) hK;simp only[execOp,ho,hv,hx];simp[Instr.indexAt,asIntOf,q1,n0,n1,run_size (hty e hok),add_off,g2,hk]
 ·rename_i e id off mm e2 e3;rw[e3] at hp;obtain⟨inf,cap,hm,hv,hcap⟩:=hp.osl_inv;obtain⟨r,hr,_,⟨hk,hok⟩,⟨n0,n1⟩,hK⟩:=rowA_iff h;have:=mk_slice q3 e2;subst this;obtain⟨inf',c,g1,g2,_⟩:=hR.row id r hr;rw[hm] at g1;cases g1;refine sound_val (v:=.pointer (some ⟨inf.b,(off+n.toNat)*inf.k+0,none⟩)) hR hd ?_ (.ptr _ _ _ _ hm) hK;simp only[execOp,ho,hv,hx];simp[Instr.indexAt,asIntOf,q1,n0,n1,run_size (hty e hok),add_off,g2,hk,Nat.add_mul]
 ·rename_i mm e id y c e2 e3;obtain⟨⟨n0,n1,n2⟩,hK⟩:=h;rw[e3] at hp;obtain⟨r,hm,hv⟩:=hp.ptr_inv;have:=mk_array q3 e2;subst this;refine sound_val (v:=.pointer (some ⟨r.b,y*r.k+(c+n.toNat*(ty e).size),none⟩)) hR hd ?_ (.ptr _ _ _ _ hm) hK;simp only[execOp,ho,hv,hx];simp[Instr.indexAt,asIntOf,Instr.sureAddr,q1,n0,n1,run_size (hty e n2),add_off,Nat.add_assoc]
 ·rename_i mm e v c e2 e3;obtain⟨⟨n0,n1,n2⟩,hK⟩:=h;rw[e3] at hp;have:=mk_array q3 e2;subst this;cases hp with | sh _ _ hp =>
  cases hev:a.eval p <;> rw[hev] at hp <;> try (cases hp; done)
  cases hp with
  |rptr _ _ b off us hb h1 hc hr =>
   refine sound_val (v:=.pointer (some ⟨b,off+(c+n.toNat*(ty e).size),none⟩)) hR hd ?_ (.sh _ _ (.rptr _ _ b off us hb h1 hc hr)) hK;simp only[execOp,ho,hev,hx];simp[Instr.indexAt,asIntOf,Instr.sureAddr,q1,n0,n1,run_size (hty e n2),add_off,Nat.add_assoc]
 ·exact h.elim
theorem sound_index (hty:∀ t,(ty t).ok=true->TyOk P t (ty t)) {t:TypeId} {p x:Operand} (ho:o.op=.index t p x) (hR:Rel cx N D m S s a w) (hd:∀ d,o.dst=some d->d<N)
  (h:act P ty dr pre i s o.op K):o.wp P a w (OpPost cx N D s i o.dst K) Q:=by
 rw[ho] at h;simp only[act] at h;obtain⟨hb,h⟩:=trueA_iff h;obtain⟨d1,q1,_,q3⟩:=run_und (hty t hb) w;have hp:=hR.ev p;split at h
 case h_2=>exact h.elim
 rename_i k n e1;have hx:=hR.evInt e1;split at h
 ·rename_i mm e cs e2 e3;obtain⟨⟨n0,n1⟩,h⟩:=h;rw[e3] at hp;obtain⟨vs,hv,hl,hr⟩:=hp.agg_inv;have:=mk_array q3 e2;subst this;obtain⟨v,hpa,hK⟩:=someA_iff h;rw[forceA_eq] at hK;have hT:=hty e (partA_ok hpa);obtain⟨u,hrun,hu⟩:=run_part (P:=P) (w:=w) hT hpa hl hr;refine sound_val hR hd ?_ hu hK;simp only[execOp,ho,hv,hx];simp[Instr.index,asIntOf,q1,n0,n1,run_size hT,hrun]
 ·rename_i b e2 e3;obtain⟨u,⟨n0,n1⟩,hK⟩:=h;rw[e3] at hp;have hv:=hp.lit_inv;have:=mk_str q3 e2;subst this;refine sound_val hR hd ?_ (.sh _ _ (.lit _)) hK;simp only[execOp,ho,hv,hx];simp[Instr.index,asIntOf,q1,n0,n1]
 ·exact h.elim
def OptV (a:Act) (x:Option Operand) (d n:Int):Prop:=(x=none/\n=d)\/∃ y k,x=some y/\a.eval y=.int k n
theorem optA_ok {x:Option Operand} {d:Int} {K:Int->Prop} (hR:Rel cx N D m S s a w) (h:optA s x d K):∃ n,OptV a x d n/\K n:=by
 rcases optA_iff h with ⟨rfl,h⟩ | ⟨y,k,n,rfl,e,h⟩
 ·exact⟨d,.inl ⟨rfl,rfl⟩,h⟩
 ·exact⟨n,.inr ⟨y,k,rfl,hR.evInt e⟩,h⟩
theorem run_bound {k:IntKind} {n:Int} {y:Nat} {c:BoundsCode} (h0:0<=n) (h1:n<=y):(Instr.sliceBound (.int k n) y c).run P w=.ok n.toNat w:=by
 simp[Instr.sliceBound,asIntOf,h0,h1]
theorem run_bounds {lo hi mx:Option Operand} {l h mm:Int} {len cap:Nat} {b:Bool} (h1:OptV a lo 0 l) (h2:OptV a hi len h) (h3:OptV a mx len mm) (h0:0<=l) (hlh:l<=h) (hhm:h<=mm) (hml:mm<=len) (hlc:len<=cap) (hmx:mx.isSome=true->hi.isSome=true) :
  ∃ mc:Nat,(Instr.sliceBounds b len cap (lo.map a.eval) (hi.map a.eval) (mx.map a.eval)).run P w=.ok (l.toNat,h.toNat,mc) w/\h.toNat<=mc/\mc<=cap:=by
 rcases h3 with ⟨rfl,rfl⟩ | ⟨y3,k3,rfl,e3⟩
 ·rcases h2 with ⟨rfl,rfl⟩ | ⟨y2,k2,rfl,e2⟩
  ·rcases h1 with ⟨rfl,rfl⟩ | ⟨y1,k1,rfl,e1⟩
   ·exact⟨cap,by simp[Instr.sliceBounds],by omega,Nat.le_refl _⟩
   ·refine⟨cap,?_,by omega,Nat.le_refl _⟩;simp only[Instr.sliceBounds,Option.map,e1,Sem.run_bind,Sem.run_pure,Result.andThen_ok];rw[run_bound h0 hlh];simp
  ·rcases h1 with ⟨rfl,rfl⟩ | ⟨y1,k1,rfl,e1⟩
   ·refine⟨cap,?_,by omega,Nat.le_refl _⟩;simp only[Instr.sliceBounds,Option.map,e2,Sem.run_bind,Sem.run_pure,Result.andThen_ok];rw[run_bound (by omega) (by omega)];simp
   ·refine⟨cap,?_,by omega,Nat.le_refl _⟩;simp only[Instr.sliceBounds,Option.map,e1,e2,Sem.run_bind,Sem.run_pure,Result.andThen_ok];rw[run_bound (n:=h) (by omega) (by omega)];simp only[Result.andThen_ok];rw[run_bound h0 (by omega)];simp
 ·rcases h2 with ⟨rfl,rfl⟩ | ⟨y2,k2,rfl,e2⟩
  ·simp at hmx
  ·rcases h1 with ⟨rfl,rfl⟩ | ⟨y1,k1,rfl,e1⟩
   ·refine⟨mm.toNat,?_,by omega,by omega⟩;simp only[Instr.sliceBounds,Option.map,e2,e3,Sem.run_bind,Sem.run_pure,Result.andThen_ok];rw[run_bound (n:=mm) (by omega) (by omega)];simp only[Result.andThen_ok];rw[run_bound (n:=h) (by omega) (by omega)];simp
   ·refine⟨mm.toNat,?_,by omega,by omega⟩;simp only[Instr.sliceBounds,Option.map,e1,e2,e3,Sem.run_bind,Sem.run_pure,Result.andThen_ok];rw[run_bound (n:=mm) (by omega) (by omega)];simp only[Result.andThen_ok];rw[run_bound (n:=h) (by omega) (by omega)];simp only[Result.andThen_ok];rw[run_bound (n:=l) h0 (by omega)];simp
end
end
section
open Go Go.RowKit
variable [Gl]
section
variable {P:Program} {ty:Nat->Ty} {cx:Cx} {N:Nat} {D:Nat->Prop} {m:RMap} {S:Nat->Prop} {s:AS} {a:Act} {w:World} {i:Nat} {o:Oper} {K:Eff->Prop} {Q:Exit->Act->World->Prop} {dr:Bool} {pre:Nat->Bool}
theorem sliceA_sound (hty:∀ t,(ty t).ok=true->TyOk P t (ty t)) {t e:TypeId} {x:Operand} {lo hi mx:Option Operand} {es:List AV} (ho:o.op=.slice t x lo hi mx) (hR:Rel cx N D m S s a w) (hd:∀ d,o.dst=some d->d<N)
  (ht:(ty t).ok=true) (he:(ty e).ok=true) (e2:(ty t).d=.slice e) (hsz:0<(ty e).size)
  (hp:(∃ oa:Option Addr,a.eval x=.slice oa 0 0/\es=[])\/∃ b off cap k,a.eval x=.slice (some ⟨b,off,none⟩) es.length cap/\es.length<=cap/\SlAt S w es b off k)
  (h:sliceA (ty e).size es s lo hi mx K):o.wp P a w (OpPost cx N D s i o.dst K) Q:=by
 obtain⟨d1,q1,_,q3⟩:=run_und (hty t ht) w;have:=mk_slice q3 e2;subst this;obtain⟨hmx,h⟩:=trueA_iff h;obtain⟨l,hl,h⟩:=optA_ok hR h;obtain⟨hh,hhi,h⟩:=optA_ok hR h;obtain⟨mm,hm,⟨h0,h1,h2,h3,h4⟩,hK⟩:=optA_ok hR h;have hmx':mx.isSome=true->hi.isSome=true:=by
  intro q;cases mx <;> simp_all
 rcases hp with ⟨oa,hv,rfl⟩ | ⟨b,off,cap,k,hv,hcap,hs⟩
 ·obtain⟨mc,hrun,hmc,hmc2⟩:=run_bounds (P:=P) (w:=w) (cap:=0) (b:=true) hl hhi hm h0 h1 h2 h3 (by simp) hmx';simp only[List.length_nil] at hrun h3;have z1:l.toNat=0:=by omega
  have z2:hh.toNat=0:=by omega
  have hmc0:mc=0:=by omega
  cases oa with
  |none =>
   refine sound_val (v:=.slice none 0 0) hR hd ?_ (.sh _ _ (by simpa using SRep.slnil)) hK;simp only[execOp,ho,hv];simp[Instr.sliceAt,Instr.slice,q1,hrun,run_size (hty e he),z1,z2,hmc0]
  |some ad =>
   refine sound_val (v:=.slice (some ad) 0 0) hR hd ?_ (.sh _ _ (by simpa using SRep.sle ad)) hK;simp only[execOp,ho,hv];simp[Instr.sliceAt,Instr.slice,q1,hrun,run_size (hty e he),z1,z2,hmc0]
 ·obtain⟨mc,hrun,hmc,_⟩:=run_bounds (P:=P) (w:=w) (cap:=cap) (b:=true) hl hhi hm h0 h1 h2 h3 hcap hmx';have hlen:((es.take hh.toNat).drop l.toNat).length=hh.toNat-l.toNat:=by simp; omega
  refine sound_val (v:=.slice (some (if mc=l.toNat then ⟨b,off,none⟩ else (⟨b,off,none⟩:Addr).add (l.toNat*(ty e).size))) (hh.toNat-l.toNat) (mc-l.toNat)) hR hd ?_ (.sh _ _ ?_) hK
  ·simp only[execOp,ho,hv];by_cases hc:mc=l.toNat
   ·simp[Instr.sliceAt,Instr.slice,q1,hrun,run_size (hty e he),hc]
   ·simp[Instr.sliceAt,Instr.slice,q1,hrun,run_size (hty e he),hc]
  ·by_cases hz:hh.toNat=l.toNat
   ·have e0:(es.take hh.toNat).drop l.toNat=[]:=List.eq_nil_of_length_eq_zero (by omega);rw[e0,hz,Nat.sub_self];have:∀ (ad:Nat) (c:Nat),SRep S w (.sl []) (.slice (some ⟨b,ad,none⟩) 0 c):=fun ad c=>.sl [] b ad 0 c 0 (fun _ _=>default) rfl (Nat.zero_le _) hs.1 (by simp) (by simp) (by simp)
    split
    ·exact this _ _
    ·rw[add_off]; exact this _ _
   ·rw[if_neg (by omega),add_off];have hk:(ty e).size=k:=by
     have hne:es≠[]:=by
      intro q;subst q;simp at h3;omega
     obtain⟨v,hv0⟩:=List.exists_mem_of_ne_nil _ hne;cases hes:es with
     |nil=>exact absurd hes hne
     |cons v0 rest =>
      have g1:=h4 v0 (by rw[hes]; rfl);have g2:=elB_length (hs.2.1 0 v0 (by rw[hes]; rfl));omega
    rw[hk];have:=(hs.sub (l:=l.toNat) (h:=hh.toNat)).rep (cap:=mc-l.toNat) (by rw[hlen]; omega);rwa [hlen] at this
theorem sound_slice (hty:∀ t,(ty t).ok=true->TyOk P t (ty t)) {t:TypeId} {x:Operand} {lo hi mx:Option Operand} (ho:o.op=.slice t x lo hi mx) (hR:Rel cx N D m S s a w) (hd:∀ d,o.dst=some d->d<N)
  (h:act P ty dr pre i s o.op K):o.wp P a w (OpPost cx N D s i o.dst K) Q:=by
 rw[ho] at h;simp only[act] at h;have hp:=hR.ev x;split at h
 ·rename_i b e2 e3;rw[e3] at hp;have hv:=hp.lit_inv;obtain⟨ht,h⟩:=trueA_iff h;obtain⟨d1,q1,_,q3⟩:=run_und (hty t ht) w;have:=mk_str q3 e2;subst this;obtain⟨l,hl,h⟩:=optA_ok hR h;obtain⟨hh,hhi,h⟩:=optA_ok hR h;split at h
  ·obtain⟨⟨h0,h1,h2⟩,hK⟩:=h;obtain⟨mc,hrun,hmc,_⟩:=run_bounds (P:=P) (w:=w) (mx:=none) (cap:=b.size) (b:=false) hl hhi (.inl ⟨rfl,rfl⟩) h0 h1 h2 (by omega) (Nat.le_refl _) (by simp);refine sound_val hR hd ?_ (.sh _ _ (.lit _)) hK;simp only[execOp,ho,hv];simp only[Option.map_none] at hrun;simp[Instr.sliceAt,Instr.slice,q1,hrun]
  ·exact h.elim
 ·rename_i e es e2 e3;obtain⟨hb,h⟩:=trueA_iff h;simp only[Bool.and_eq_true] at hb;rw[e3] at hp;exact sliceA_sound hty ho hR hd hb.1.1 hb.1.2 e2 (Nat.le_of_ble_eq_true hb.2) hp.sl_inv h
 ·rename_i e es e2 e3;obtain⟨hb,h⟩:=trueA_iff h;simp only[Bool.and_eq_true] at hb;rw[e3] at hp;exact sliceA_sound hty ho hR hd hb.1.1 hb.1.2 e2 (Nat.le_of_ble_eq_true hb.2) hp.sln_inv h
 ·rename_i e e2 e3;obtain⟨hb,h⟩:=trueA_iff h;simp only[Bool.and_eq_true] at hb;rw[e3] at hp;exact sliceA_sound hty ho hR hd hb.1.1 hb.1.2 e2 (Nat.le_of_ble_eq_true hb.2) (.inl ⟨none,hp.lit_inv,rfl⟩) h
 ·rename_i e id n e2 e3;change trueA _ _ at h;have hq:=trueA_iff h;clear h;obtain⟨hb,h⟩:=hq;simp only[Bool.and_eq_true] at hb;obtain⟨⟨⟨ht,he⟩,hz⟩,hmx⟩:=hb;have hmx:mx=none:=by
   cases mx with
   |none=>rfl
   |some y=>simp at hmx
  subst hmx;rw[e3] at hp;obtain⟨inf,hm,hv⟩:=hp.own_inv;obtain⟨r,hr,_,h⟩:=rowA_iff h;obtain⟨l,hl,h⟩:=optA_ok hR h;obtain⟨hh,hhi,h⟩:=optA_ok hR h;obtain⟨⟨hk,hn,h0,h1,h2⟩,hK⟩:=h;obtain⟨d1,q1,_,q3⟩:=run_und (hty t ht) w;have:=mk_slice q3 e2;subst this;obtain⟨inf',c,g1,g2,g3,g4,g5,g6,g7,g8,g9⟩:=hR.row id r hr;rw[hm] at g1;cases g1;obtain⟨mc,hrun,hmc,hmc2⟩:=run_bounds (P:=P) (w:=w) (mx:=none) (cap:=inf.cap) (b:=true) hl hhi (.inl ⟨rfl,rfl⟩) h0 (by omega) h2 (by omega) (by omega) (by simp);refine sound_val (v:=.slice (some ⟨inf.b,l.toNat*inf.k,none⟩) (hh-l).toNat (mc-l.toNat)) hR hd ?_ (.osl _ _ _ _ _ hm (by omega)) hK;simp only[execOp,ho,hv];have hne:¬ mc=l.toNat:=by omega
  have e4:(hh-l).toNat=hh.toNat-l.toNat:=by omega
  have e5:inf.k=(ty e).size:=by omega
  simp only[Option.map_none] at hrun;simp[Instr.sliceAt,Instr.slice,q1,hrun,run_size (hty e he),hne,e4,e5,add_off]
 ·exact h.elim
def RepCs (m:RMap) (S:Nat->Prop) (w:World) (xs:List AV) (vs:List Value):Prop :=
 xs.length=vs.length/\∀ (j:Nat) (x:AV) (u:Value),xs[j]?=some x->vs[j]?=some u->Rep m S w x u
theorem fold_set (off:Nat):∀ (vs:List Value) (k:Nat) (cells:Array Value),off+k+vs.length<=cells.size ->
  ((vs.zipIdx k).foldl (fun cs (p:Value×Nat)=>cs.setIfInBounds (off+p.2) p.1) cells).toList=cells.toList.take (off+k)++vs++cells.toList.drop (off+k+vs.length)
 |[],k,cells,h=>by simp
 |v::rest,k,cells,h=>by
  simp only[List.zipIdx_cons,List.foldl_cons];rw[fold_set off rest (k+1) (cells.setIfInBounds (off+k) v) (by simp at h ⊢; omega)];have e:=list_seg_step cells.toList (off+k) v rest (by simp at h ⊢; omega);simpa [Array.toList_setIfInBounds,Nat.add_assoc] using e
theorem RepCs.splice {xs ys:List AV} {vs us:List Value} {off:Nat} (h:RepCs m S w xs vs) (g:RepCs m S w ys us) (hf:off+ys.length<=xs.length) :
  RepCs m S w (xs.take off++ys++xs.drop (off+ys.length)) (vs.take off++us++vs.drop (off+us.length)):=by
 obtain⟨h1,h2⟩:=h;obtain⟨g1,g2⟩:=g;refine⟨by simp; omega,fun j x u hx hu=>?_⟩;rw[splice_get xs ys off j hf] at hx;rw[splice_get vs us off j (by omega)] at hu;by_cases c1:j<off
 ·rw[if_pos c1] at hx hu; exact h2 j x u hx hu
 ·rw[if_neg c1] at hx hu;by_cases c2:j<off+ys.length
  ·rw[if_pos c2] at hx; rw[if_pos (by omega)] at hu; exact g2 _ x u hx hu
  ·rw[if_neg c2] at hx; rw[if_neg (by omega)] at hu; exact h2 j x u hx hu
theorem Rep.cs {k:Nat} {x:AV} {v:Value} (h:Rep m S w x v) (hk:elB k x=true):RepCs m S w x.cells v.cells.toList/\v.cells.size=k/\x.cells.length=k:=by
 obtain⟨h1,h2,h3,h4⟩:=h.cellsAt hk;refine⟨⟨by simp; omega,fun j y u hy hu=>?_⟩,h1,h2⟩;obtain⟨u',q1,q2⟩:=h3 j y hy;simp only[Array.getElem?_toList] at hu;rw[q1] at hu;cases hu;exact q2
theorem fill_sound {place:Nat->Option (Nat×Nat)} (hR:Rel cx N D m S s a w):∀ (parts:List (Nat×Operand)) (xs:List AV) (vs:Array Value) (cs:List AV),RepCs m S w xs vs.toList->buildA place s xs parts=some cs ->
  ∃ us:Array Value,Instr.fill place vs (parts.map fun p=>(p.1,a.eval p.2))=some us/\RepCs m S w cs us.toList
 |[],xs,vs,cs,h,hb=>by
  simp only[buildA,Option.some.injEq] at hb;subst hb;exact⟨vs,rfl,h⟩
 |(i,x)::rest,xs,vs,cs,h,hb=>by
  simp only[buildA] at hb;split at hb
  ·cases hb
  ·rename_i off size hp;split at hb
   ·rename_i hc;simp only[Bool.and_eq_true] at hc;obtain⟨hel,hle⟩:=hc;have hle:=Nat.le_of_ble_eq_true hle;obtain⟨q1,q2,q3⟩:=(hR.ev x).cs hel;have hsz:xs.length=vs.size:=by simpa using h.1
    have hf:=fold_set off (a.eval x).cells.toList 0 vs (by simp[q2]; omega);have hsp:=h.splice (off:=off) q1 (by omega);simp only[Nat.add_zero] at hf;obtain⟨us,g1,g2⟩:=fill_sound hR rest _ ((a.eval x).cells.zipIdx.foldl (fun cs (p:Value×Nat)=>cs.setIfInBounds (off+p.2) p.1) vs) cs (by
     rw[<- Array.foldl_toList,Array.toList_zipIdx,hf];rw[q3] at hsp;simpa using hsp) hb
    refine⟨us,?_,g2⟩;simp only[List.map_cons,Instr.fill,hp];rw[if_neg (by simp[q2]; omega)];exact g1
   ·cases hb
theorem run_places:∀ (gs:List Field),(∀ g∈gs,∃ T,TyOk P g.type T)->∃ szs:List (Nat×Nat),
  (gs.mapM fun f=>do pure (f.offset,<- sizeOf f.type):Sem (List (Nat×Nat))).run P w=.ok szs w/\∀ (j:Nat),szs[j]?=(gs[j]?).map fun g=>(g.offset,P.cellsOf g.type)
 |[],_=>⟨[],rfl,by simp⟩
 |g::gs,h=>by
  obtain⟨szs,h1,h2⟩:=run_places gs fun g hg=>h g (by simp[hg])
  obtain⟨T,hT⟩:=h g (by simp);have hs:=run_size hT w;obtain⟨i,d,g1,g2,g3,_⟩:=hT;refine⟨(g.offset,T.size)::szs,?_,fun j=>?_⟩
  ·simp only[List.mapM_cons,Sem.run_bind,hs,h1,Result.andThen_ok,Sem.run_pure]
  ·cases j with
   |zero=>simp[Program.cellsOf,g1,g3]
   |succ j=>simpa using h2 j
theorem cellsOf_ok {t:Nat} {T:Ty} (h:TyOk P t T):P.cellsOf t=T.size:=by
 obtain⟨i,d,g1,g2,g3,_⟩:=h;simp[Program.cellsOf,g1,g3]
theorem sound_build (hty:∀ t,(ty t).ok=true->TyOk P t (ty t)) {t:TypeId} {parts:Array (Nat×Operand)} (ho:o.op=.build t parts) (hR:Rel cx N D m S s a w) (hd:∀ d,o.dst=some d->d<N)
  (h:act P ty dr pre i s o.op K):o.wp P a w (OpPost cx N D s i o.dst K) Q:=by
 rw[ho] at h;simp only[act] at h;obtain⟨hb,h⟩:=trueA_iff h;simp only[Bool.and_eq_true] at hb;obtain⟨d1,q1,_,q3⟩:=run_und (hty t hb.1) w;have hz:RepCs m S w (AV.ofVal (ty t).zero).cells (ty t).zero.cells.toList:=((Rep.sh _ _ (ofVal_closed (ty t).zero):Rep m S w _ _).cs hb.2).1;have hparts:(parts.map fun p=>(p.1,a.eval p.2)).toList=parts.toList.map fun p=>(p.1,a.eval p.2):=by simp
 split at h
 ·rename_i fs e2;obtain⟨hfs,h⟩:=trueA_iff h;simp only[List.all_eq_true] at hfs;obtain⟨gs,rfl,rfl⟩:=mk_struct q3 e2;obtain⟨cs,hcs,hK⟩:=someA_iff h;obtain⟨us,hf,hu⟩:=fill_sound hR _ _ _ _ hz hcs;obtain⟨szs,hr,hsz⟩:=run_places (P:=P) (w:=w) gs.toList (fun g hg=>⟨_,hty _ (hfs (g.offset,g.type) (List.mem_map.2 ⟨g,hg,rfl⟩))⟩);have hplace:(fun (i:Nat)=>szs.toArray[i]?)=fun (i:Nat)=>((gs.toList.map fun (g:Field)=>(g.offset,g.type))[i]?).map fun (f:Nat×TypeId)=>(f.1,(ty f.2).size):=by
   funext i;simp only[List.getElem?_toArray,hsz i,List.getElem?_map];cases hg:gs.toList[i]? with
   |none=>rfl
   |some g=>simp[cellsOf_ok (hty _ (hfs (g.offset,g.type) (List.mem_map.2 ⟨g,List.mem_of_getElem? hg,rfl⟩)))]
  refine sound_val (v:=.agg us) hR hd ?_ (.agg _ _ (by simpa using hu.1) fun j x u h1 h2=>hu.2 j x u h1 (by simpa using h2)) hK;simp only[execOp,ho];have hmap:(gs.mapM fun f=>do pure (f.offset,<- sizeOf f.type):Sem (Array (Nat×Nat))).run P w=.ok szs.toArray w:=by
   rw[Array.mapM_eq_mapM_toList,Sem.run_map,hr];rfl
  simp only[Instr.build,Sem.run_bind,run_zero (hty t hb.1),Result.andThen_ok,q1,hmap,hplace,hparts,hf,Sem.run_pure]
 ·rename_i n e e2;obtain⟨he,h⟩:=trueA_iff h;have:=mk_array q3 e2;subst this;obtain⟨cs,hcs,hK⟩:=someA_iff h;obtain⟨us,hf,hu⟩:=fill_sound hR _ _ _ _ hz hcs;refine sound_val (v:=.agg us) hR hd ?_ (.agg _ _ (by simpa using hu.1) fun j x u h1 h2=>hu.2 j x u h1 (by simpa using h2)) hK;simp only[execOp,ho];simp only[Instr.build,Sem.run_bind,run_zero (hty t hb.1),Result.andThen_ok,q1,run_size (hty e he),hparts,hf,Sem.run_pure]
 ·exact h.elim
end
end
section
open Go Go.RowKit
variable [Gl]
section
variable {P:Program} {ty:Nat->Ty} {cx:Cx} {N:Nat} {D:Nat->Prop} {m:RMap} {S:Nat->Prop} {s:AS} {a:Act} {w:World} {i:Nat} {o:Oper} {K:Eff->Prop} {Q:Exit->Act->World->Prop} {dr:Bool} {pre:Nat->Bool}
def ElsIn (m:RMap) (S:Nat->Prop) (w:World) (k:Nat) (els:List AV) (c:Array Value):Prop :=
 ∀ (x:Nat) (e:AV),els[x]?=some e->elB k e=true/\∀ (j:Nat) (y:AV),e.cells[j]?=some y->∃ u,c[x*k+j]?=some u/\Rep m S w y u
theorem madeCells_get {z:Array Value} {k n x j:Nat} (hz:z.size=k) (hx:x<n) (hj:j<k):(madeCells z (n*k))[x*k+j]?=z[j]?:=by
 have hlt:x*k+j<n*k:=by
  have:(x+1)*k<=n*k:=Nat.mul_le_mul_right _ hx;rw[Nat.add_mul,Nat.one_mul] at this;omega
 have hmod:(x*k+j)%k=j:=by
  rw[Nat.mul_comm,Nat.mul_add_mod];exact Nat.mod_eq_of_lt hj
 have hzj:j<z.size:=by omega
 simp only[madeCells,Array.getElem?_map,Array.getElem?_range,hlt,if_true,Option.map_some,hz,hmod];simp[hzj]
theorem els_made {z:Value} {k n:Nat} (hk:elB k (AV.ofVal z)=true):ElsIn m S w k (List.replicate n (AV.ofVal z)) (madeCells z.cells (n*k)):=by
 intro x e he;rw[List.getElem?_replicate] at he;split at he
 ·rename_i hx;cases he;refine⟨hk,fun j y hy=>?_⟩;obtain⟨h1,h2,h3,_⟩:=(Rep.sh _ _ (ofVal_closed z):Rep m S w _ _).cellsAt hk;obtain⟨u,q1,q2⟩:=h3 j y hy;have hj:j<k:=by
   have:=(List.getElem?_eq_some_iff.1 hy).1;omega
  exact⟨u,by rw[madeCells_get h1 hx hj]; exact q1,q2⟩
 ·cases he
theorem ElsIn.set {k x:Nat} {els:List AV} {c:Array Value} {e:AV} {v:Value} (h:ElsIn m S w k els c) (hv:Rep m S w e v) (he:elB k e=true) (hx:x<els.length) (hf:x*k+k<=c.size) :
  ElsIn m S w k (els.set x e) (c.toList.take (x*k)++v.cells.toList++c.toList.drop (x*k+v.cells.toList.length)).toArray:=by
 obtain⟨v1,v2,v3,v4⟩:=hv.cellsAt he;have hlen:v.cells.toList.length=k:=by simp[v1]
 have hgf:∀ p,(c.toList.take (x*k)++v.cells.toList++c.toList.drop (x*k+v.cells.toList.length)).toArray[p]? =
   if p<x*k then c[p]? else if p<x*k+k then v.cells[p-x*k]? else c[p]?:=by
  intro p;rw[List.getElem?_toArray,splice_get _ _ _ _ (by simp only[hlen,Array.length_toList]; exact hf),hlen];simp
 intro y e' he';rw[List.getElem?_set] at he';by_cases hxy:x=y
 ·subst hxy;simp[hx] at he';subst he';refine⟨he,fun j z hz=>?_⟩;have hjk:j<k:=by
   have:=(List.getElem?_eq_some_iff.1 hz).1;omega
  obtain⟨u,q1,q2⟩:=v3 j z hz;exact⟨u,by rw[hgf,if_neg (by omega),if_pos (by omega),<- q1]; congr 1; omega,q2⟩
 ·rw[if_neg hxy] at he';refine⟨(h y e' he').1,fun j z hz=>?_⟩;have hjk:j<k:=by
   have:=(List.getElem?_eq_some_iff.1 hz).1;rw[elB_length (h y e' he').1] at this;exact this
  rw[hgf];have hout:y*k+j<x*k\/¬ (y*k+j<x*k)/\¬ (y*k+j<x*k+k):=by
   rcases Nat.lt_or_gt_of_ne hxy with hlt | hlt
   ·right;have:(x+1)*k<=y*k:=Nat.mul_le_mul_right _ hlt;rw[Nat.add_mul,Nat.one_mul] at this;omega
   ·left;have:(y+1)*k<=x*k:=Nat.mul_le_mul_right _ hlt;rw[Nat.add_mul,Nat.one_mul] at this;omega
  rcases hout with ho | ⟨ho1,ho2⟩
  ·rw[if_pos ho]; exact (h y e' he').2 j z hz
  ·rw[if_neg ho1,if_neg ho2]; exact (h y e' he').2 j z hz
theorem fillEls_sound {k:Nat} (hR:Rel cx N D m S s a w):∀ (parts:List (Nat×Operand)) (els els':List AV) (c:Array Value),ElsIn m S w k els c->c.size=els.length*k ->
  buildEls k els (parts.map fun p=>(p.1,s.ev p.2))=some els' ->
  ∃ c':Array Value,Instr.fill (fun i=>some (i*k,k)) c (parts.map fun p=>(p.1,a.eval p.2))=some c'/\ElsIn m S w k els' c'/\c'.size=c.size/\els'.length=els.length
 |[],els,els',c,h,hs,hb=>by
  simp only[List.map_nil,buildEls,Option.some.injEq] at hb;subst hb;exact⟨c,rfl,h,rfl,rfl⟩
 |(i,x)::rest,els,els',c,h,hs,hb=>by
  simp only[List.map_cons,buildEls] at hb;split at hb
  ·rename_i hc;simp only[Bool.and_eq_true] at hc;obtain⟨hel,hle⟩:=hc;have hle:i<els.length:=Nat.le_of_ble_eq_true hle;obtain⟨q1,q2,q3⟩:=(hR.ev x).cs hel;have hfit:i*k+k<=c.size:=by
    rw[hs];have:(i+1)*k<=els.length*k:=Nat.mul_le_mul_right _ hle;rwa [Nat.add_mul,Nat.one_mul] at this
   have hf:=fold_set (i*k) (a.eval x).cells.toList 0 c (by simp[q2]; omega);simp only[Nat.add_zero] at hf;have hset:=h.set (hR.ev x) hel hle hfit;have hfa:(a.eval x).cells.zipIdx.foldl (fun cs (p:Value×Nat)=>cs.setIfInBounds (i*k+p.2) p.1) c=(c.toList.take (i*k)++(a.eval x).cells.toList++c.toList.drop (i*k+(a.eval x).cells.toList.length)).toArray:=by
    rw[<- Array.foldl_toList,Array.toList_zipIdx];apply Array.ext';rw[hf]
   rw[<- hfa] at hset;have hsz:((a.eval x).cells.zipIdx.foldl (fun cs (p:Value×Nat)=>cs.setIfInBounds (i*k+p.2) p.1) c).size=c.size:=by
    rw[hfa];simp[q2];omega
   obtain⟨c',g1,g2,g3,g4⟩:=fillEls_sound hR rest _ els' _ hset (by rw[hsz]; simpa using hs) hb;refine⟨c',?_,g2,by omega,by simpa using g4⟩;simp only[List.map_cons,Instr.fill];rw[if_neg (by simp[q2]; omega)];exact g1
  ·cases hb
theorem sound_makeSlice (hty:∀ t,(ty t).ok=true->TyOk P t (ty t)) {t:TypeId} {l c:Operand} (ho:o.op=.makeSlice t l c) (hR:Rel cx N D m S s a w) (hd:∀ d,o.dst=some d->d<N) (hD:¬ D i)
  (h:act P ty dr pre i s o.op K):o.wp P a w (OpPost cx N D s i o.dst K) Q:=by
 rw[ho] at h;simp only[act] at h;split at h
 case h_2=>exact h.elim
 rename_i e k1 n k2 n2 e1 e2 e3;have hl:=hR.evInt e2;have hc:=hR.evInt e3;obtain⟨hb,⟨h0,rfl,hn⟩,hK⟩:=trueA_iff h;simp only[Bool.and_eq_true] at hb;obtain⟨⟨⟨⟨b1,b2⟩,b3⟩,b4⟩,b5⟩:=hb;obtain⟨d1,_,q2,q3⟩:=run_und (hty t b1) w;have:=mk_slice q3 e1;subst this;obtain⟨inf,d2,g1,g2,g3,g4,g5,g6⟩:=hty e b2;have hby:=Nat.le_of_ble_eq_true b4;have hbytes:(inf.bytes:Int)*n<=281474976710656:=by
  rw[g4];have:((ty e).bytes:Int)*n<=128*n:=Int.mul_le_mul_of_nonneg_right (by omega) h0;simp only[lenLim] at hn;omega
 have hrun:=run_make (P:=P) w t e inf (ty e).zero q2 g1 g5 k1 k2 n n h0 (Int.le_refl _) hbytes (by simp only[lenLim] at hn; omega);unfold Oper.wp;have hx:(execOp a.eval o).run P w=.ok (.value (.slice (some ⟨w.heap.size,0,none⟩) n.toNat n.toNat)) (w.alloc (.cells (madeCells (ty e).zero.cells (n.toNat*(ty e).size)) e)):=by
  simp only[execOp,ho,hl,hc,Sem.run_bind];rw[hrun,g3];rfl
 rw[hx];refine⟨_,mset m (s.gen,i) ⟨w.heap.size,n.toNat,(ty e).size⟩,S,hK,?_⟩;refine hR.new (cap:=n.toNat) (r:=⟨e,(ty e).size,List.replicate n.toNat (AV.ofVal (ty e).zero)⟩) hd hD (fun _ _ h=>by cases h) ((Bel.refl _ _).alloc _) (fun q hq=>heap_alloc_old w _ q hq) (heap_alloc_new w _) (size_madeCells _ _) (by simp) (by simp only[lenLim,maxLen] at hn ⊢; omega) (els_made b3) ?_;exact .own _ _ _ (mset_self _ _ _)
theorem sound_buildSlice (hty:∀ t,(ty t).ok=true->TyOk P t (ty t)) {t:TypeId} {n:Nat} {parts:Array (Nat×Operand)} (ho:o.op=.buildSlice t n parts) (hR:Rel cx N D m S s a w) (hd:∀ d,o.dst=some d->d<N) (hD:¬ D i)
  (h:act P ty dr pre i s o.op K):o.wp P a w (OpPost cx N D s i o.dst K) Q:=by
 rw[ho] at h;simp only[act] at h;split at h
 case h_2=>exact h.elim
 rename_i e e1;obtain⟨hb,h⟩:=trueA_iff h;simp only[Bool.and_eq_true] at hb;obtain⟨⟨⟨⟨b1,b2⟩,b3⟩,b4⟩,b5⟩:=hb;obtain⟨els,hels,hK⟩:=someA_iff h;obtain⟨d1,q1,_,q3⟩:=run_und (hty t b1) w;have:=mk_slice q3 e1;subst this;have hle:=Nat.le_of_ble_eq_true b4;have hpos:0<(ty e).size:=Nat.le_of_ble_eq_true b5;have hz:=(Rep.sh _ _ (ofVal_closed (ty e).zero):Rep m S w _ _).cellsAt b3;obtain⟨c',f1,f2,f3,f4⟩:=fillEls_sound hR parts.toList _ els (madeCells (ty e).zero.cells (n*(ty e).size)) (els_made b3) (by simp[size_madeCells]) hels;have hparts:(parts.map fun p=>(p.1,a.eval p.2)).toList=parts.toList.map fun p=>(p.1,a.eval p.2):=by simp
 unfold Oper.wp;have hx:(execOp a.eval o).run P w=.ok (.value (.slice (some ⟨w.heap.size,0,none⟩) n n)) (w.alloc (.cells c' e)):=by
  simp only[execOp,ho,Instr.buildSlice,Sem.run_bind,q1,Result.andThen_ok,run_size (hty e b2)];rw[if_neg (by omega)];by_cases h0:n*(ty e).size=0
  ·have hz0:madeCells (ty e).zero.cells (n*(ty e).size)=(Array.range (n*(ty e).size)).map fun x=>(#[]:Array Value)[x%(#[]:Array Value).size]!:=by
    simp[h0,madeCells,Array.range_zero']
   rw[hz0] at f1;rw[if_pos h0];simp only[pure_bind,hparts];rw[f1];simp[newRow]
  ·have hz0:madeCells (ty e).zero.cells (n*(ty e).size)=(Array.range (n*(ty e).size)).map fun x=>(ty e).zero.cells[x%(ty e).zero.cells.size]!:=rfl
   rw[hz0] at f1;rw[if_neg h0];simp only[bind_assoc,pure_bind,Sem.run_bind,run_zero (hty e b2),Result.andThen_ok,hparts];rw[f1];simp[newRow]
 rw[hx];simp only[List.length_replicate] at f4;have hnn:n<=n*(ty e).size:=by
  have:n*1<=n*(ty e).size:=Nat.mul_le_mul_left _ hpos;omega
 cases hdr:(dr&&AV.closedL els) with
 |true =>
  rw[hdr] at hK;have hcl:AV.closedL els=true:=by
   simp only[Bool.and_eq_true] at hdr;exact hdr.2
  have hold:∀ q,q<w.heap.size->(w.alloc (.cells c' e)).heap[q]?=w.heap[q]?:=fun q hq=>heap_alloc_old w _ q hq
  have hnew:(w.alloc (.cells c' e)).heap[w.heap.size]?=some (.cells c' e (0,0)):=heap_alloc_new w _;have hSw:∀ b,S b->(w.alloc (.cells c' e)).heap[b]?=w.heap[b]?:=fun b hb=>hold b (hR.sh b hb)
  refine⟨_,m,fun x=>S x\/x=w.heap.size,hK,?_⟩;refine hR.step (s':=s) hd rfl rfl (fun _ _ h=>h) (fun _ h=>.inl h) hSw (.sh _ _ ?_) ?_ hR.inj (fun _ _ h=>.inl h) ?_ (hR.below.trans ((Bel.refl _ _).alloc _)) ?_
  ·refine .sl els w.heap.size 0 n n (ty e).size (fun x j=>(c'[x*(ty e).size+j]?).getD undef) f4 (Nat.le_refl _) (.inr rfl) (fun x v hv=>(f2 x v hv).1) ?_ ?_
   ·intro x v j y hv hy;obtain⟨u,q1,q2⟩:=(f2 x v hv).2 j y hy;rw[Nat.zero_add,cell_of_row (w.alloc (.cells c' e)) w.heap.size _ c' e (0,0) hnew,q1];rfl
   ·intro x v j y hv hy;obtain⟨u,q1,q2⟩:=(f2 x v hv).2 j y hy;rw[q1];exact (q2.closed (cells_closed (closedL_get hcl hv) hy)).mono (fun _ h=>.inl h) hSw
  ·intro j q hq;refine (hR.row j q hq).mono (fun _ _ h=>h) (fun _ h=>.inl h) hSw fun inf hi=>⟨hold _ ((hR.row j q hq).lt hi),fun h'=>?_⟩
   rcases h' with h1 | h1
   ·exact h1
   ·have:=(hR.row j q hq).lt hi;omega
  ·rintro x (hx | rfl)
   ·have:=hR.sh x hx;have:=(Array.getElem?_eq_some_iff.1 hnew).1;omega
   ·exact (Array.getElem?_eq_some_iff.1 hnew).1
  ·rintro b (h | rfl)
   ·exact .inl h
   ·exact .inr (hR.baseLe _ (Nat.le_refl _))
 |false =>
 rw[hdr] at hK;refine⟨_,mset m (s.gen,i) ⟨w.heap.size,n,(ty e).size⟩,S,hK,?_⟩;refine hR.new (cap:=n) (r:=⟨e,(ty e).size,els⟩) hd hD (fun _ _ h=>by cases h) ((Bel.refl _ _).alloc _) (fun q hq=>heap_alloc_old w _ q hq) (heap_alloc_new w _) (by rw[f3,size_madeCells]) (by simp only; omega) ?_ f2 ?_
 ·have:n*1<=n*(ty e).size:=Nat.mul_le_mul_left _ hpos;simp only[maxLen];omega
 ·exact .own _ _ _ (mset_self _ _ _)
theorem run_len_slice {t e:TypeId} {al:Option Addr} {n c:Nat} {ts:List TypeId} {ty0:TypeId} (h:(underlying t).run P w=.ok (.slice e) w) :
  (Builtin.len_ (t::ts).toArray ty0 #[.slice al n c]).run P w=.ok (.int .i64 n) w:=by
 simp[Builtin.len_,h,goInt]
theorem sound_len (hty:∀ t,(ty t).ok=true->TyOk P t (ty t)) {c:Call} (ho:o.op=.call c) (hc:c.callee=.builtin .len) (hR:Rel cx N D m S s a w) (hd:∀ d,o.dst=some d->d<N)
  (h:callA P ty dr pre i s c K):o.wp P a w (OpPost cx N D s i o.dst K) Q:=by
 unfold callA at h;rw[hc] at h;simp only at h;split at h
 case h_2=>exact h.elim
 rename_i x t ts e1 e2;obtain⟨ht,h⟩:=trueA_iff h;obtain⟨d1,q1,_,q3⟩:=run_und (hty t ht) w;have hp:=hR.ev x;have hargs:c.args=#[x]:=by
  apply Array.ext';simpa using e1
 have htys:c.argTypes=(t::ts).toArray:=by
  apply Array.ext';simpa using e2
 have fin:∀ {v:Value} {n:Int},a.eval x=v->(Builtin.len_ (t::ts).toArray o.type #[v]).run P w=.ok (.int .i64 n) w->K { v:=.lit (.int .i64 n) }->o.wp P a w (OpPost cx N D s i o.dst K) Q:=by
  intro v n hv hrun hK;refine sound_val hR hd ?_ (.sh _ _ (.lit _)) hK;simp only[execOp,ho,resolve,hc,hargs,htys];simp[invoke,builtin,hv,hrun]
 split at h
 ·rename_i es e e3 e4;rw[e3] at hp;have:=mk_slice q3 e4;subst this;rcases hp.sl_inv with ⟨oa,hv,rfl⟩ | ⟨b,off,cap,k,hv,_⟩
  ·exact fin hv (run_len_slice (n:=0) q1) h
  ·exact fin hv (run_len_slice q1) h
 ·rename_i es e e3 e4;rw[e3] at hp;have:=mk_slice q3 e4;subst this;rcases hp.sln_inv with ⟨oa,hv,rfl⟩ | ⟨b,off,cap,k,hv,_⟩
  ·exact fin hv (run_len_slice (n:=0) q1) h
  ·exact fin hv (run_len_slice q1) h
 ·rename_i id n e e3 e4;rw[e3] at hp;have:=mk_slice q3 e4;subst this;obtain⟨r,_,hv⟩:=hp.own_inv;exact fin hv (run_len_slice q1) h
 ·rename_i id off n e e3 e4;rw[e3] at hp;have:=mk_slice q3 e4;subst this;obtain⟨r,cap,_,hv,_⟩:=hp.osl_inv;exact fin hv (run_len_slice q1) h
 ·rename_i al n cap e e3 e4;rw[e3] at hp;have:=mk_slice q3 e4;subst this;exact fin hp.lit_inv (run_len_slice q1) h
 ·rename_i b e3 e4;rw[e3] at hp;have:=mk_str q3 e4;subst this;exact fin hp.lit_inv (by simp[Builtin.len_,q1,goInt]) h
 ·exact h.elim
theorem sound_min {c:Call} (ho:o.op=.call c) (hc:c.callee=.builtin .min) (hR:Rel cx N D m S s a w) (hd:∀ d,o.dst=some d->d<N)
  (h:callA P ty dr pre i s c K):o.wp P a w (OpPost cx N D s i o.dst K) Q:=by
 unfold callA at h;rw[hc] at h;simp only at h;split at h
 case h_2=>exact h.elim
 rename_i x y e1;have hargs:c.args=#[x,y]:=by
  apply Array.ext';simpa using e1
 split at h
 ·rename_i k p k' q e3 e4;refine sound_val hR hd ?_ (.sh _ _ (.lit _)) h;simp only[execOp,ho,resolve,hc,hargs];simp[invoke,builtin,Builtin.min_,Builtin.min2,hR.evInt e3,hR.evInt e4]
 ·exact h.elim
theorem sound_max {c:Call} (ho:o.op=.call c) (hc:c.callee=.builtin .max) (hR:Rel cx N D m S s a w) (hd:∀ d,o.dst=some d->d<N)
  (h:callA P ty dr pre i s c K):o.wp P a w (OpPost cx N D s i o.dst K) Q:=by
 unfold callA at h;rw[hc] at h;simp only at h;split at h
 case h_2=>exact h.elim
 rename_i x y e1;have hargs:c.args=#[x,y]:=by
  apply Array.ext';simpa using e1
 split at h
 ·rename_i k p k' q e3 e4;refine sound_val hR hd ?_ (.sh _ _ (.lit _)) h;simp only[execOp,ho,resolve,hc,hargs];simp[invoke,builtin,Builtin.max_,Builtin.max2,hR.evInt e3,hR.evInt e4]
 ·exact h.elim
end
end
section
open Go Go.RowKit
variable [Gl]
section
variable {P:Program} {ty:Nat->Ty} {cx:Cx} {N:Nat} {D:Nat->Prop} {m:RMap} {S:Nat->Prop} {s:AS} {a:Act} {w:World} {i:Nat} {o:Oper} {K:Eff->Prop} {Q:Exit->Act->World->Prop} {dr:Bool} {pre:Nat->Bool}
def Flat (m:RMap) (S:Nat->Prop) (w:World) (k:Nat) (es:List AV) (ad:Addr) (news:List Value):Prop :=
 news.length=es.length*k/\(∀ (p:Nat) (u:Value),news[p]?=some u->w.cell? (ad.add p)=some u)/\(∀ u∈news,u.oneCell'=true) /\
  ∀ (x:Nat) (e:AV),es[x]?=some e->elB k e=true/\∀ (j:Nat) (y:AV),e.cells[j]?=some y->∃ u,news[x*k+j]?=some u/\Rep m S w y u
theorem divmod {p k:Nat}:p/k*k+p%k=p:=by
 rw[Nat.mul_comm]; exact Nat.div_add_mod p k
theorem SlAt.flat {es:List AV} {b off k:Nat} (h:SlAt S w es b off k) (hk:0<k):∃ news,Flat m S w k es ⟨b,off,none⟩ news:=by
 obtain⟨hb,he,us,hc,hr⟩:=h;refine⟨(List.range (es.length*k)).map fun p=>us (p/k) (p%k),by simp,?_,?_,?_⟩
 ·intro p u hu;simp only[List.getElem?_map,Option.map_eq_some_iff] at hu;obtain⟨q,hq,rfl⟩:=hu;obtain⟨hlt,hq⟩:=List.getElem?_eq_some_iff.1 hq;simp at hlt hq;subst hq;have hx:p/k<es.length:=(Nat.div_lt_iff_lt_mul hk).2 hlt;have hl:=elB_length (he (p/k) es[p/k] (by simp[hx]));have hj:p%k<es[p/k].cells.length:=by rw[hl]; exact Nat.mod_lt _ hk
  have:=hc (p/k) es[p/k] (p%k) es[p/k].cells[p%k] (by simp[hx]) (by simp[hj]);rw[add_off,<- this,divmod]
 ·intro u hu;simp only[List.mem_map,List.mem_range] at hu;obtain⟨p,hlt,rfl⟩:=hu;have hx:p/k<es.length:=(Nat.div_lt_iff_lt_mul hk).2 hlt;have hl:=elB_length (he (p/k) es[p/k] (by simp[hx]));have hj:p%k<es[p/k].cells.length:=by rw[hl]; exact Nat.mod_lt _ hk
  have h1:=hr (p/k) es[p/k] (p%k) es[p/k].cells[p%k] (by simp[hx]) (by simp[hj]);exact (Rep.sh (m:=fun _=>none) _ _ h1).oneCell (elB_all (he (p/k) es[p/k] (by simp[hx])) _ (List.getElem_mem hj))
 ·intro x e hxe;refine⟨he x e hxe,fun j y hy=>?_⟩;have hx:=(List.getElem?_eq_some_iff.1 hxe).1;have hj:j<k:=by
   have:=(List.getElem?_eq_some_iff.1 hy).1;rw[elB_length (he x e hxe)] at this;exact this
  have hlt:x*k+j<es.length*k:=by
   have:(x+1)*k<=es.length*k:=Nat.mul_le_mul_right _ hx;rw[Nat.add_mul,Nat.one_mul] at this;omega
  have d1:(x*k+j)/k=x:=by
   rw[Nat.mul_comm,Nat.mul_add_div hk,Nat.div_eq_of_lt hj]; omega
  have d2:(x*k+j)%k=j:=by
   rw[Nat.mul_comm,Nat.mul_add_mod]; exact Nat.mod_eq_of_lt hj
  refine⟨us x j,?_,.sh _ _ (hr x e j y hxe hy)⟩;simp[hlt,d1,d2]
theorem RowOk.flat {base:Nat->Prop} {id:Rid} {r:Row} {inf:RInfo} (h:RowOk base m S w id r) (hi:m id=some inf) (hk:0<r.k) :
  ∃ cur,w.heap[inf.b]?=some (.cells cur r.elem (0,0))/\cur.size=inf.cap*r.k/\r.els.length<=inf.cap/\inf.cap<=maxLen/\Flat m S w r.k r.els ⟨inf.b,0,none⟩ (cur.toList.take (r.els.length*r.k)):=by
 obtain⟨inf',c,h1,h2,h3,h4,h5,h6,h7,h8,h9⟩:=h;rw[hi] at h1;cases h1;have hle:r.els.length*r.k<=c.size:=by rw[h6]; exact Nat.mul_le_mul_right _ h7
 refine⟨c,h5,h6,h7,h8,by simp; omega,?_,?_,?_⟩
 ·intro p u hu;rw[List.getElem?_take] at hu;split at hu
  ·rw[add_off,Nat.zero_add,cell_of_row w inf.b _ c r.elem (0,0) h5];simpa using hu
  ·cases hu
 ·intro u hu;obtain⟨p,hp,rfl⟩:=List.mem_iff_getElem.1 hu;have hlt:p<r.els.length*r.k:=by simp at hp; omega
  have hx:p/r.k<r.els.length:=(Nat.div_lt_iff_lt_mul hk).2 hlt;obtain⟨e1,e2⟩:=h9 (p/r.k) r.els[p/r.k] (by simp[hx]);have hj:p%r.k<r.els[p/r.k].cells.length:=by rw[elB_length e1]; exact Nat.mod_lt _ hk
  obtain⟨u,q1,q2⟩:=e2 (p%r.k) r.els[p/r.k].cells[p%r.k] (by simp[hj]);rw[divmod] at q1;have:=q2.oneCell (elB_all e1 _ (List.getElem_mem hj));have hpc:p<c.size:=by omega
  simp[hpc] at q1;subst q1;simpa using this
 ·intro x e hxe;refine⟨(h9 x e hxe).1,fun j y hy=>?_⟩;have hx:=(List.getElem?_eq_some_iff.1 hxe).1;have hj:j<r.k:=by
   have:=(List.getElem?_eq_some_iff.1 hy).1;rw[elB_length (h9 x e hxe).1] at this;exact this
  have hlt:x*r.k+j<r.els.length*r.k:=by
   have:(x+1)*r.k<=r.els.length*r.k:=Nat.mul_le_mul_right _ hx;rw[Nat.add_mul,Nat.one_mul] at this;omega
  obtain⟨u,q1,q2⟩:=(h9 x e hxe).2 j y hy;exact⟨u,by rw[List.getElem?_take_of_lt hlt]; simpa using q1,q2⟩
theorem run_append {c:Call} {x y:Operand} {t:TypeId} (ho:o.op=.call c) (hc:c.callee=.builtin .append) (ha:c.args=#[x,y]) (ht:c.argTypes=#[t,t]) :
  (execOp a.eval o).run P w=((Builtin.append_ #[t,t] o.type #[a.eval x,a.eval y]).run P w).andThen fun v w'=>.ok (.value v) w':=by
 simp only[execOp,ho,resolve,hc,ha,ht];simp[invoke,builtin]
theorem append_nil {c:Call} {x y:Operand} {t e:TypeId} {T:Ty} {ys:List AV} {ad:Addr} {cc:Nat} {news:List Value} (ho:o.op=.call c) (hc:c.callee=.builtin .append) (ha:c.args=#[x,y]) (ht:c.argTypes=#[t,t])
  (hR:Rel cx N D m S s a w) (hd:∀ d,o.dst=some d->d<N) (hD:¬ D i) (hu:P.underlying t=some (.slice e)) (hT:TyOk P e T) (hby:T.bytes<=128)
  (hz:T.zero.cells.size=T.size)
  (hx:a.eval x=.slice none 0 0) (hy:a.eval y=.slice (some ad) ys.length cc) (hf:Flat m S w T.size ys ad news) (h0:0<ys.length) (hl:ys.length<=lenLim)
  (hK:K { v:=.own (s.gen,i) ys.length,new:=some ⟨e,T.size,ys⟩ }):o.wp P a w (OpPost cx N D s i o.dst K) Q:=by
 obtain⟨inf,d,g1,g2,g3,g4,g5,g6⟩:=hT;obtain⟨f1,f2,f3,f4⟩:=hf;have hlim:ys.length<=1099511627776:=hl;have hbn:ys.length*inf.bytes<=281474976710656:=by
  have:ys.length*inf.bytes<=ys.length*128:=Nat.mul_le_mul_left _ (by omega);omega
 have hrun:=run_append_nil (P:=P) w t o.type e inf T.zero hu g1 g5 ad ys.length cc news (by rw[f1,g3]) f2 h0 (by omega) hbn;unfold Oper.wp;rw[run_append ho hc ha ht,hx,hy,hrun];have hge:=grownCap_ge w ys.length 0 e;have hcm:=grownCap_le_maxLen w ys.length 0 e (by simp only[maxLen]; omega);generalize grownCap w ys.length 0 e=cap at *
 refine⟨_,mset m (s.gen,i) ⟨w.heap.size,cap,T.size⟩,S,hK,?_⟩;refine hR.new (cap:=cap) (c:=news.toArray++Builtin.zeroCells T.zero.cells (cap-ys.length)) (r:=⟨e,T.size,ys⟩) (w':=w.drew.alloc (.cells (news.toArray++Builtin.zeroCells T.zero.cells (cap-ys.length)) e)) hd hD (fun _ _ h=>by cases h) ((Bel.refl _ _).drew.alloc _) (fun q hq=>heap_alloc_old w.drew _ q hq) (heap_alloc_new w.drew _) ?_ hge hcm ?_ ?_
 ·simp only[Array.size_append,List.size_toArray,size_zeroCells,f1,hz];rw[<- Nat.add_mul];congr 1;omega
 ·intro z ez hez;obtain⟨q1,q2⟩:=f4 z ez hez;refine⟨q1,fun j yy hyy=>?_⟩;obtain⟨u,r1,r2⟩:=q2 j yy hyy;have hlt:=(List.getElem?_eq_some_iff.1 r1).1;exact⟨u,by rw[Array.getElem?_append_left (by simpa using hlt)]; simpa using r1,r2⟩
 ·exact .own _ _ _ (mset_self _ _ _)
theorem append_own {c:Call} {x y:Operand} {t e:TypeId} {T:Ty} {ys:List AV} {ad:Addr} {cc n:Nat} {news:List Value} {id:Rid} {r:Row} (ho:o.op=.call c) (hc:c.callee=.builtin .append) (ha:c.args=#[x,y]) (ht:c.argTypes=#[t,t])
  (hR:Rel cx N D m S s a w) (hd:∀ d,o.dst=some d->d<N) (hD:¬ D i) (hu:P.underlying t=some (.slice e)) (hT:TyOk P e T) (hby:T.bytes<=128)
  (hz:T.zero.cells.size=T.size) (hpos:0<T.size)
  (hx:s.ev x=.own id n) (hrow:s.st id=some r) (hlen:r.els.length=n) (hel:r.elem=e) (hk:r.k=T.size)
  (hy:a.eval y=.slice (some ad) ys.length cc) (hf:Flat m S w T.size ys ad news) (hl:n+ys.length<=lenLim)
  (hK:K { v:=.own (s.gen,i) (n+ys.length),new:=some ⟨e,T.size,r.els++ys⟩,up:=some (id,none) }):o.wp P a w (OpPost cx N D s i o.dst K) Q:=by
 obtain⟨inf,d,g1,g2,g3,g4,g5,g6⟩:=hT;obtain⟨f1,f2,f3,f4⟩:=hf;have hp:=hR.ev x;rw[hx] at hp;obtain⟨ri,hm,hv⟩:=hp.own_inv;have hrok:=hR.row id r hrow;obtain⟨cur,c1,c2,c3,c4,o1,o2,o3,o4⟩:=hrok.flat hm (by rw[hk]; exact hpos);have hik:ri.k=r.k:=by
  obtain⟨inf',_,h1,h2,_⟩:=hrok;rw[hm] at h1;cases h1;exact h2
 obtain⟨re,rk,rels⟩:=r;simp only at *
 subst hel hlen hk;have hlim:rels.length+ys.length<=1099511627776:=hl;have hbn:(rels.length+ys.length)*inf.bytes<=140737488355328:=by
  have:(rels.length+ys.length)*inf.bytes<=(rels.length+ys.length)*128:=Nat.mul_le_mul_left _ (by omega);omega
 unfold Oper.wp;rw[run_append ho hc ha ht,hv,hy];have hsz:rels.length*T.size<=cur.size:=by rw[c2]; exact Nat.mul_le_mul_right _ c3
 -- the elements,in any array that begins with these cells
 have elsIn:∀ (arr:Array Value),(∀ (p:Nat),p<rels.length*T.size->arr[p]?=cur[p]?)->(∀ (p:Nat) (u:Value),news[p]?=some u->arr[rels.length*T.size+p]?=some u) ->
   ∀ (z:Nat) (ez:AV),(rels++ys)[z]?=some ez->elB T.size ez=true/\∀ (j:Nat) (yy:AV),ez.cells[j]?=some yy->∃ u,arr[z*T.size+j]?=some u/\Rep m S w yy u:=by
  intro arr h1 h2 z ez hez;by_cases hlt:z<rels.length
  ·rw[List.getElem?_append_left hlt] at hez;obtain⟨q1,q2⟩:=o4 z ez hez;refine⟨q1,fun j yy hyy=>?_⟩;obtain⟨u,r1,r2⟩:=q2 j yy hyy;have hlt2:=(List.getElem?_eq_some_iff.1 r1).1;have hlt3:z*T.size+j<rels.length*T.size:=by simp at hlt2; omega
   rw[List.getElem?_take_of_lt hlt3] at r1;exact⟨u,by rw[h1 _ hlt3]; simpa using r1,r2⟩
  ·rw[List.getElem?_append_right (by omega)] at hez;obtain⟨q1,q2⟩:=f4 _ ez hez;refine⟨q1,fun j yy hyy=>?_⟩;obtain⟨u,r1,r2⟩:=q2 j yy hyy;have e1:z*T.size+j=rels.length*T.size+((z-rels.length)*T.size+j):=by
    rw[<- Nat.add_assoc,<- Nat.add_mul];congr 2;omega
   exact⟨u,by rw[e1]; exact h2 _ u r1,r2⟩
 by_cases hroom:rels.length+ys.length<=ri.cap
 ·have hfit:rels.length*inf.size+news.length<=cur.size:=by
   rw[f1,g3,<- Nat.add_mul,c2];exact Nat.mul_le_mul_right _ hroom
  have hrun:=run_append_room (P:=P) w t o.type re inf hu g1 ri.b rels.length ri.cap cur c1 ad ys.length cc news (by rw[f1,g3]) f2 f3 hroom hfit;rw[g3] at hrun hfit;rw[hrun];refine⟨_,mset m (s.gen,i) ri,S,hK,?_⟩;refine hR.renew (inf:=ri) (c:=cur) (c':=(cur.toList.take (rels.length*T.size)++news++cur.toList.drop (rels.length*T.size+news.length)).toArray) (r':=⟨re,T.size,rels++ys⟩) hd hD hrow hm c1 rfl rfl (by simpa using hroom) ?_ ?_ (fun q hq=>setRow_other w ri.b q _ hq) (setRow_heap w ri.b cur _ re (0,0) c1) ?_ ?_
  ·simp only[List.size_toArray,List.length_append,List.length_take,List.length_drop,Array.length_toList];omega
  ·obtain⟨inf',_,h1,_,h3,_⟩:=hrok;rw[hm] at h1;cases h1;exact⟨rfl,rfl,rfl,by simp,fun q hq hn=>setRow_other w ri.b q _ (fun e=>hn (e▸h3))⟩
  ·intro z ez hez;refine elsIn _ ?_ ?_ z ez hez
   ·intro p hp;rw[List.getElem?_toArray,splice_get _ _ _ _ (by simpa using hfit),if_pos hp];simp
   ·intro p u hu;have hlt:=(List.getElem?_eq_some_iff.1 hu).1;rw[List.getElem?_toArray,splice_get _ _ _ _ (by simpa using hfit),if_neg (by omega),if_pos (by omega)];rw[<- hu];congr 1;omega
  ·exact .own _ _ _ (mset_self _ _ _)
 ·have hgrow:=run_append_grow (P:=P) w t o.type re inf T.zero hu g1 g5 ⟨ri.b,0,none⟩ rels.length ri.cap (cur.toList.take (rels.length*T.size)) (by rw[o1,g3]) o2 ad ys.length cc news (by rw[f1,g3]) f2 (by omega) (by omega) (growslice_fits (by omega) hbn);rw[hgrow];have hge:=grownCap_ge w (rels.length+ys.length) ri.cap re;have hcm:=grownCap_le_maxLen w (rels.length+ys.length) ri.cap re (by simp only[maxLen]; omega);generalize grownCap w (rels.length+ys.length) ri.cap re=cap at *
  have e0:((cur.toList.take (rels.length*T.size)).toArray++news.toArray++Builtin.zeroCells T.zero.cells (cap-(rels.length+ys.length))).size=cap*T.size:=by
   simp only[Array.size_append,List.size_toArray,size_zeroCells,f1,hz,o1];rw[<- Nat.add_mul,<- Nat.add_mul];congr 1;omega
  refine⟨_,mset m (s.gen,i) ⟨w.heap.size,cap,T.size⟩,S,hK,?_⟩;refine hR.new (cap:=cap) (c:=(cur.toList.take (rels.length*T.size)).toArray++news.toArray++Builtin.zeroCells T.zero.cells (cap-(rels.length+ys.length))) (r:=⟨re,T.size,rels++ys⟩) (w':=w.drew.alloc _) hd hD (fun _ _ h=>by cases h; rfl) ((Bel.refl _ _).drew.alloc _) (fun q hq=>heap_alloc_old w.drew _ q hq) (heap_alloc_new w.drew _) e0 (by simpa using hge) hcm ?_ ?_
  ·intro z ez hez;refine elsIn _ ?_ ?_ z ez hez
   ·intro p hp;rw[Array.append_assoc,Array.getElem?_append_left (by simp[o1]; omega),List.getElem?_toArray,List.getElem?_take_of_lt hp];simp
   ·intro p u hu;have hlt:=(List.getElem?_eq_some_iff.1 hu).1;have hs1:(cur.toList.take (rels.length*T.size)).toArray.size=rels.length*T.size:=by simp[o1]
    rw[Array.append_assoc,Array.getElem?_append_right (by omega),Array.getElem?_append_left (by simp only[List.size_toArray] at hs1 ⊢; omega),List.getElem?_toArray,<- hu];congr 1;omega
  ·exact .own _ _ _ (mset_self _ _ _)
theorem append_none {c:Call} {x y:Operand} {t e:TypeId} {T:Ty} {id:Rid} {n:Nat} {r:Row} (ho:o.op=.call c) (hc:c.callee=.builtin .append) (ha:c.args=#[x,y]) (ht:c.argTypes=#[t,t])
  (hR:Rel cx N D m S s a w) (hd:∀ d,o.dst=some d->d<N) (hD:¬ D i) (hu:P.underlying t=some (.slice e)) (hT:TyOk P e T)
  (hx:s.ev x=.own id n) (hrow:s.st id=some r) (hlen:r.els.length=n) (hel:r.elem=e) (hk:r.k=T.size)
  (hy:a.eval y=.slice none 0 0)
  (hK:K { v:=.own (s.gen,i) (n+0),new:=some ⟨e,T.size,r.els++[]⟩,up:=some (id,none) }):o.wp P a w (OpPost cx N D s i o.dst K) Q:=by
 obtain⟨inf,d,g1,g2,g3,g4,g5,g6⟩:=hT;have hp:=hR.ev x;rw[hx] at hp;obtain⟨ri,hm,hv⟩:=hp.own_inv;have hrok:=hR.row id r hrow;obtain⟨inf',cur,h1,h2,h3,h4,h5,h6,h7,h8,h9⟩:=hrok;rw[hm] at h1;cases h1;subst hel;unfold Oper.wp;have hle:n<=ri.cap:=by omega
 have hrun:(Builtin.append_ #[t,t] o.type #[.slice (some ⟨ri.b,0,none⟩) n ri.cap,.slice none 0 0]).run P w=.ok (.slice (some ⟨ri.b,0,none⟩) n ri.cap) w:=by
  simp[Builtin.append_,run_underlying hu,sizeOf,typeInfo,g1,Builtin.lenOf,hle,run_firstCells_none,storeCells]
 rw[run_append ho hc ha ht,hv,hy,hrun];refine⟨_,mset m (s.gen,i) ri,S,hK,?_⟩;refine hR.renew (inf:=ri) (c:=cur) (c':=cur) (r':=⟨r.elem,T.size,r.els++[]⟩) (w':=w) hd hD hrow hm h5 rfl hk.symm (by simpa using h7) rfl (Bel.refl _ _) (fun _ _=>rfl) h5 (by simpa using h9) ?_;exact .own _ _ _ (mset_self _ _ _)
theorem append_nn {c:Call} {x y:Operand} {t e:TypeId} {T:Ty} {oa:Option Addr} {cc:Nat} (ho:o.op=.call c) (hc:c.callee=.builtin .append) (ha:c.args=#[x,y]) (ht:c.argTypes=#[t,t])
  (hR:Rel cx N D m S s a w) (hd:∀ d,o.dst=some d->d<N) (hu:P.underlying t=some (.slice e)) (hT:TyOk P e T)
  (hx:a.eval x=.slice none 0 0) (hy:a.eval y=.slice oa 0 cc) (hK:K { v:=.lit (.slice none 0 0) }):o.wp P a w (OpPost cx N D s i o.dst K) Q:=by
 obtain⟨inf,d,g1,g2,g3,g4,g5,g6⟩:=hT;have hrun:(Builtin.append_ #[t,t] o.type #[.slice none 0 0,.slice oa 0 cc]).run P w=.ok (.slice none 0 0) w:=by
  cases oa with
  |none=>simp[Builtin.append_,run_underlying hu,sizeOf,typeInfo,g1,Builtin.lenOf,run_firstCells_none,storeCells]
  |some ad =>
   have hf:=run_firstCells_some (P:=P) (w:=w) inf.size 0 ad 0 cc [] (by simp) (by simp);simp[Builtin.append_,run_underlying hu,sizeOf,typeInfo,g1,Builtin.lenOf,hf,storeCells]
 refine sound_val (v:=.slice none 0 0) hR hd ?_ (.sh _ _ (.lit _)) hK;rw[run_append ho hc ha ht,hx,hy,hrun];rfl
theorem sound_append (hty:∀ t,(ty t).ok=true->TyOk P t (ty t)) {c:Call} (ho:o.op=.call c) (hc:c.callee=.builtin .append) (hR:Rel cx N D m S s a w) (hd:∀ d,o.dst=some d->d<N) (hD:¬ D i)
  (h:callA P ty dr pre i s c K):o.wp P a w (OpPost cx N D s i o.dst K) Q:=by
 unfold callA at h;rw[hc] at h;simp only at h;split at h
 case h_2=>exact h.elim
 rename_i x y t t2 e1 e2;split at h
 case h_2=>exact h.elim
 rename_i e e3;obtain⟨hb,hh⟩:=trueA_iff h;clear h;simp only[Bool.and_eq_true] at hb;obtain⟨⟨⟨⟨b1,b2⟩,b3⟩,b4⟩,b5⟩:=hb;have:=Nat.eq_of_beq_eq_true b1;subst this;have h:=hh;clear hh;have ha:c.args=#[x,y]:=by
  apply Array.ext';simpa using e1
 have ht:c.argTypes=#[t,t]:=by
  apply Array.ext';simpa using e2
 obtain⟨d1,_,q2,q3⟩:=run_und (hty t b2) w;have:=mk_slice q3 e3;subst this;have hT:=hty e b3;have hby:=Nat.le_of_ble_eq_true b4;have hzs:(ty e).zero.cells.size=(ty e).size:=((Rep.sh _ _ (ofVal_closed (ty e).zero):Rep m S w _ _).cellsAt b5).1;have hpx:=hR.ev x;have hpy:=hR.ev y;have fin:∀ {ys:List AV},((∃ oa:Option Addr,a.eval y=.slice oa 0 0/\ys=[])\/∃ b off cap k,a.eval y=.slice (some ⟨b,off,none⟩) ys.length cap/\ys.length<=cap/\SlAt S w ys b off k)->0<(ty e).size ->
   appA s pre i e (ty e).size (s.ev x) ys (∀ v∈ys,elB (ty e).size v=true) K->o.wp P a w (OpPost cx N D s i o.dst K) Q:=by
  intro ys hyv hp0 h;have kEq:∀ {b off k:Nat},SlAt S w ys b off k->(∀ v∈ys,elB (ty e).size v=true)->ys≠[]->k=(ty e).size:=by
   intro b off k hs hall hne;cases hys':ys with
   |nil=>exact absurd hys' hne
   |cons v0 rest =>
    have g1:=elB_length (hall v0 (by rw[hys']; simp));have g2:=elB_length (hs.2.1 0 v0 (by rw[hys']; rfl));omega
  unfold appA at h;split at h
  ·rename_i ex;rw[ex] at hpx;cases ys with
   |nil =>
    rcases hyv with ⟨oa,hv2,_⟩ | ⟨b,off,cap,k,hv2,hcap,hs⟩
    ·exact append_nn ho hc ha ht hR hd q2 hT hpx.lit_inv hv2 h
    ·exact append_nn ho hc ha ht hR hd q2 hT hpx.lit_inv hv2 h
   |cons y0 l0 =>
   obtain⟨⟨h0,hl,hall⟩,hK⟩:=h;rcases hyv with ⟨_,_,hno⟩ | ⟨b,off,cap,k,hv2,hcap,hs⟩
   ·cases hno
   ·have:=kEq hs hall (List.cons_ne_nil _ _);subst this;obtain⟨news,hfl⟩:=hs.flat (m:=m) hp0;exact append_nil ho hc ha ht hR hd hD q2 hT hby hzs hpx.lit_inv hv2 hfl h0 hl hK
  ·rename_i id n ex;obtain⟨r,hr,_,⟨w1,w2,w3,w4,hall⟩,hK⟩:=rowA_iff h;rcases hyv with ⟨oa,hv2,rfl⟩ | ⟨b,off,cap,k,hv2,hcap,hs⟩
   ·cases oa with
    |none=>exact append_none ho hc ha ht hR hd hD q2 hT ex hr w1 w2 w3 hv2 hK
    |some ad =>
     have hfl:Flat m S w (ty e).size [] ad []:=⟨by simp,by simp,by simp,by simp⟩
     exact append_own ho hc ha ht hR hd hD q2 hT hby hzs hp0 ex hr w1 w2 w3 hv2 hfl w4 hK
   ·by_cases hne:ys=[]
    ·subst hne;have hfl:Flat m S w (ty e).size [] ⟨b,off,none⟩ []:=⟨by simp,by simp,by simp,by simp⟩
     exact append_own ho hc ha ht hR hd hD q2 hT hby hzs hp0 ex hr w1 w2 w3 hv2 hfl w4 hK
    ·have:=kEq hs hall hne;subst this;obtain⟨news,hfl⟩:=hs.flat (m:=m) hp0;exact append_own ho hc ha ht hR hd hD q2 hT hby hzs hp0 ex hr w1 w2 w3 hv2 hfl w4 hK
  ·exact h.elim
 split at h
 ·rename_i j m2 ey;rw[ey] at hpy;obtain⟨r2,hr2,_,hq⟩:=rowA_iff h;clear h;obtain⟨hb2,hq2⟩:=trueA_iff hq;clear hq;simp only[Bool.and_eq_true] at hb2;obtain⟨⟨p1,p2⟩,p3⟩:=hb2;have p1:=Nat.eq_of_beq_eq_true p1;have p2:=Nat.eq_of_beq_eq_true p2;have p3:0<(ty e).size:=Nat.le_of_ble_eq_true p3;subst p1;obtain⟨inf2,hm2,hv2⟩:=hpy.own_inv;obtain⟨cur2,k1,k2,k3,k4,hfl⟩:=(hR.row j r2 hr2).flat hm2 (by omega);rw[p2] at hfl;unfold appA at hq2;split at hq2
  ·rename_i ex;rw[ex] at hpx;obtain⟨re2,rk2,rels2⟩:=r2;cases rels2 with
   |nil=>exact append_nn ho hc ha ht hR hd q2 hT hpx.lit_inv hv2 hq2
   |cons y0 l0 =>
   obtain⟨⟨h0,hl,_⟩,hK⟩:=hq2;exact append_nil ho hc ha ht hR hd hD q2 hT hby hzs hpx.lit_inv hv2 hfl h0 hl hK
  ·rename_i id n ex;obtain⟨r,hr,_,⟨w1,w2,w3,w4,_⟩,hK⟩:=rowA_iff hq2;exact append_own ho hc ha ht hR hd hD q2 hT hby hzs p3 ex hr w1 w2 w3 hv2 hfl w4 hK
  ·exact hq2.elim
 ·rename_i ys ey;rw[ey] at hpy;obtain⟨hp0,h⟩:=trueA_iff h;exact fin hpy.sl_inv (Nat.le_of_ble_eq_true hp0) h
 ·rename_i ys ey;rw[ey] at hpy;obtain⟨hp0,h⟩:=trueA_iff h;exact fin hpy.sln_inv (Nat.le_of_ble_eq_true hp0) h
 ·rename_i ey;rw[ey] at hpy;obtain⟨hp0,h⟩:=trueA_iff h;exact fin (.inl ⟨none,hpy.lit_inv,rfl⟩) (Nat.le_of_ble_eq_true hp0) h
 ·exact h.elim
end
end
section
open Go Go.RowKit
variable [Gl]
section
variable {P:Program} {ty:Nat->Ty} {cx:Cx} {N:Nat} {D:Nat->Prop} {m:RMap} {S:Nat->Prop} {s:AS} {a:Act} {w:World} {i:Nat} {o:Oper} {K:Eff->Prop} {Q:Exit->Act->World->Prop} {dr:Bool} {pre:Nat->Bool}
theorem run_call {c:Call} {f:Operand} {n:FuncId} {fn:Func} {caps:Array Value} (ho:o.op=.call c) (hc:c.callee=.value f) (hf:a.eval f=.func (.func n) #[] caps) (h1:P.funcs[n]?=some fn)
  (h2:(fn.name == "runtime.NumGoroutine")=false) (h3:fn.body.isNone=false) :
  (execOp a.eval o).run P w=.ok (.enter n (c.args.toList.map a.eval++caps.toList).toArray) w:=by
 simp only[execOp,ho,resolve,hc,hf];have e:(#[]++c.args.map a.eval++caps:Array Value)=(c.args.toList.map a.eval++caps.toList).toArray:=by
  apply Array.ext';simp
 have h2':¬ fn.name = "runtime.NumGoroutine":=by simpa using h2
 have h3':¬ fn.body=none:=by intro e; rw[e] at h3; cases h3
 have e2:c.args.map a.eval++caps=(c.args.toList.map a.eval++caps.toList).toArray:=by
  apply Array.ext';simp
 simp[Deferred.ofValue,invoke,callFunc,h1,h2',h3',e2]
theorem sound_calls {n:FuncId} {as:List AV} {vs:List Value} {res:AV} (hR:Rel cx N D m S s a w) (hd:∀ d,o.dst=some d->d<N)
  (hrun:∀ fn,P.funcs[n]?=some fn->(fn.name == "runtime.NumGoroutine")=false->fn.body.isNone=false->(execOp a.eval o).run P w=.ok (.enter n vs.toArray) w)
  (hargs:SRepL S w as vs) (hcall:ACalls P n as res) (hK:K { v:=res }):o.wp P a w (OpPost cx N D s i o.dst K) Q:=by
 obtain⟨⟨fn,g1,g2,g3⟩,hcalls⟩:=hcall;unfold Oper.wp;rw[hrun fn g1 g2 g3];refine Calls.mono (hcalls S w _ hR.sh hR.gok hargs) ?_;rintro e w' ⟨v,S',rfl,hb,hS,hS1,hS2,hr⟩;have hold:∀ k,k<w.heap.size->w'.heap[k]?=w.heap[k]?:=fun k hk=>hb.block k hk
 have hSw:∀ b,S b->w'.heap[b]?=w.heap[b]?:=fun b hb'=>hold b (hR.sh b hb')
 refine⟨{ v:=res },m,S',hK,?_⟩;refine hR.step (s':=s) hd rfl rfl (fun _ _ h=>h) hS hSw (.sh _ _ hr) ?_ hR.inj (fun _ _ h=>.inl h) hS2 (hR.below.trans (Bel.of_below hb)) (fun b hb'=>?_)
 ·intro j q hq;refine (hR.row j q hq).mono (fun _ _ h=>h) hS hSw fun inf hi=>⟨hold _ ((hR.row j q hq).lt hi),fun h'=>?_⟩
  rcases hS1 _ h' with h1 | h1
  ·exact h1
  ·have:=(hR.row j q hq).lt hi;omega
 ·rcases hS1 b hb' with h1 | h1
  ·exact .inl h1
  ·exact .inr (hR.baseLe _ h1)
theorem sound_callsO {n:FuncId} {as:List AV} {vs:List Value} {r:Row} (hR:Rel cx N D m S s a w) (hd:∀ d,o.dst=some d->d<N) (hD:¬ D i)
  (hrun:∀ fn,P.funcs[n]?=some fn->(fn.name == "runtime.NumGoroutine")=false->fn.body.isNone=false->(execOp a.eval o).run P w=.ok (.enter n vs.toArray) w)
  (hargs:SRepL S w as vs) (hcall:ACallsO P n as r) (hK:K { v:=.own (s.gen,i) r.els.length,new:=some r }):o.wp P a w (OpPost cx N D s i o.dst K) Q:=by
 obtain⟨⟨fn,g1,g2,g3⟩,hcalls⟩:=hcall;unfold Oper.wp;rw[hrun fn g1 g2 g3];refine Calls.mono (hcalls S w _ hR.sh hR.gok hargs) ?_;rintro e w' ⟨b,cap,S',c',rfl,hb,hS,hS1,hS2,q1,q2,q3,q4,q5,q6,q7⟩;have hold:∀ k,k<w.heap.size->w'.heap[k]?=w.heap[k]?:=fun k hk=>hb.block k hk
 have hSw:∀ b,S b->w'.heap[b]?=w.heap[b]?:=fun b hb'=>hold b (hR.sh b hb')
 have hf:=hR.fresh hD;have hsub:=mset_sub (inf:=⟨b,cap,r.k⟩) hf;have hms:∀ j z,mset m (s.gen,i) ⟨b,cap,r.k⟩ j=some z->j≠(s.gen,i)->m j=some z:=by
  intro j z h e;unfold mset at h;rwa [if_neg e] at h
 have hst:∀ j q,upd s.st (s.gen,i) (some r) j=some q->(j=(s.gen,i)/\q=r)\/(j≠(s.gen,i)/\s.st j=some q):=by
  intro j q h;unfold upd at h;by_cases e:j=(s.gen,i)
  ·rw[if_pos e] at h; cases h; exact .inl ⟨e,rfl⟩
  ·rw[if_neg e] at h; exact .inr ⟨e,h⟩
 refine⟨_,mset m (s.gen,i) ⟨b,cap,r.k⟩,S',hK,?_⟩;have key:Rel cx N (fun n=>D n\/n=i) (mset m (s.gen,i) ⟨b,cap,r.k⟩) S' (AS.put { s with st:=upd s.st (s.gen,i) (some r) } o.dst (.own (s.gen,i) r.els.length)) (a.put o.dst (.slice (some ⟨b,0,none⟩) r.els.length cap)) w':=by
  refine hR.step (w':=w') (i:=i) (s':={ s with st:=upd s.st (s.gen,i) (some r) }) hd rfl rfl hsub hS hSw (.own _ _ _ (mset_self _ _ _)) ?_ ?_ ?_ hS2 (hR.below.trans (Bel.of_below hb)) (fun b' hb'=>?_)
  ·intro j q hq;rcases hst j q hq with ⟨rfl,rfl⟩ | ⟨e,hq⟩
   ·exact⟨⟨b,cap,q.k⟩,c',mset_self _ _ _,rfl,hR.baseLe _ q2,q1,q3,q4,q5,q6,fun x e he=>⟨(q7 x e he).1,fun j y hy=>by
     obtain⟨u,z1,z2⟩:=(q7 x e he).2 j y hy;exact⟨u,z1,.sh _ _ z2⟩⟩⟩
   ·refine (hR.row j q hq).mono hsub hS hSw fun inf hi=>⟨hold _ ((hR.row j q hq).lt hi),fun h'=>?_⟩
    rcases hS1 _ h' with h1 | h1
    ·exact h1
    ·have:=(hR.row j q hq).lt hi;omega
  ·intro j1 j2 p1 p2 z1 z2 h1 h2 h3 h4 h5;rcases hst j1 p1 h1 with ⟨e1,rfl⟩ | ⟨e1,g1⟩
   ·rcases hst j2 p2 h2 with ⟨e2,_⟩ | ⟨e2,g2⟩
    ·rw[e1,e2]
    ·rw[e1,mset_self] at h3;cases h3;have:=(hR.row j2 p2 g2).lt (hms j2 z2 h4 e2);simp only at h5;omega
   ·rcases hst j2 p2 h2 with ⟨e2,rfl⟩ | ⟨e2,g2⟩
    ·rw[e2,mset_self] at h4;cases h4;have:=(hR.row j1 p1 g1).lt (hms j1 z1 h3 e1);simp only at h5;omega
    ·exact hR.inj j1 j2 p1 p2 z1 z2 g1 g2 (hms _ _ h3 e1) (hms _ _ h4 e2) h5
  ·intro j z hz;by_cases e:j=(s.gen,i)
   ·exact .inr e
   ·exact .inl (hms j z hz e)
  ·rcases hS1 b' hb' with h1 | h1
   ·exact .inl h1
   ·exact .inr (hR.baseLe _ h1)
 exact key
theorem mrows_get:∀ {ids:List Rid} {rows:List Row},mrows s ids rows->ids.length=rows.length/\∀ (k:Nat) (i:Rid) (r:Row),ids[k]?=some i->rows[k]?=some r->s.st i=some r/\AV.closedL r.els=true
 |[],[],_=>⟨rfl,by simp⟩
 |i::is,r::rs,h=>⟨by simp[(mrows_get h.2).1],fun k j q hj hq=>by
   cases k with
   |zero=>simp at hj hq; subst hj hq; exact h.1
   |succ k=>exact (mrows_get h.2).2 k j q (by simpa using hj) (by simpa using hq)⟩
 |[],_::_,h=>h.elim
 |_::_,[],h=>h.elim
theorem margL_get {ids:List Rid}:∀ {xs ys:List AV},margL ids xs ys->xs.length=ys.length/\∀ (j:Nat) (x y:AV),xs[j]?=some x->ys[j]?=some y->MArg ids x y
 |[],[],_=>⟨rfl,by simp⟩
 |x::xs,y::ys,h=>⟨by simp[(margL_get h.2).1],fun j a b ha hb=>by
   cases j with
   |zero=>simp at ha hb; subst ha hb; exact h.1
   |succ j=>exact (margL_get h.2).2 j a b (by simpa using ha) (by simpa using hb)⟩
 |[],_::_,h=>h.elim
 |_::_,[],h=>h.elim
theorem setF_get {st:Rid->Option Row}:∀ {ids:List Rid} {rows:List Row} {i:Rid} {r:Row},ids.Nodup->setF st (ids.zip rows) i=some r ->
  (∃ k:Nat,ids[k]?=some i/\rows[k]?=some r)\/st i=some r/\∀ k:Nat,ids[k]?=some i->rows[k]?=none
 |[],rows,i,r,_,h=>.inr ⟨h,by simp⟩
 |j::ids,[],i,r,_,h=>.inr ⟨h,by simp⟩
 |j::ids,q::rows,i,r,hnd,h=>by
  simp only[List.zip_cons_cons,setF,upd] at h;by_cases e:i=j
  ·rw[if_pos e] at h;cases h;exact .inl ⟨0,by simp[e],rfl⟩
  ·rw[if_neg e] at h;rcases setF_get (List.nodup_cons.1 hnd).2 h with ⟨k,h1,h2⟩ | ⟨h1,h2⟩
   ·exact .inl ⟨k+1,by simpa using h1,by simpa using h2⟩
   ·refine .inr ⟨h1,fun k hk=>?_⟩;cases k with
    |zero=>simp at hk; exact absurd hk.symm e
    |succ k=>simpa using h2 k (by simpa using hk)
theorem m0_some {inf:Nat->RInfo} {n k:Nat} (h:k<n):m0 inf n (0,k)=some (inf k):=by
 have h2:Nat.blt k n=true:=Nat.ble_eq_true_of_le h;show (match Nat.beq 0 0&&Nat.blt k n with | true=>some (inf k) | false=>none)=some (inf k);rw[h2];rfl
theorem sound_callM {n:FuncId} {ids:List Rid} {xs as:List AV} {rows rows':List Row} {vs:List Value} {res:AV} (hR:Rel cx N D m S s a w) (hd:∀ d,o.dst=some d->d<N)
  (hrun:∀ fn,P.funcs[n]?=some fn->(fn.name == "runtime.NumGoroutine")=false->fn.body.isNone=false->(execOp a.eval o).run P w=.ok (.enter n vs.toArray) w)
  (hargs:RepL m S w xs vs) (hx:margL ids xs as) (hr:mrows s ids rows) (hnd:ids.Nodup) (hcall:ACallsM P n as rows res rows') (hK:K { v:=res,mt:=ids.zip rows' }):o.wp P a w (OpPost cx N D s i o.dst K) Q:=by
 obtain⟨⟨fn,g1,g2,g3⟩,hrl,hcalls⟩:=hcall;obtain⟨hil,hrow⟩:=mrows_get hr;obtain⟨inf,hinf⟩:∃ inf:Nat->RInfo,∀ k i,ids[k]?=some i->m i=some (inf k):=by
  refine⟨fun k=>((ids[k]?).bind m).getD ⟨0,0,0⟩,fun k i hk=>?_⟩;have hlt:k<rows.length:=by
   have:=(List.getElem?_eq_some_iff.1 hk).1;omega
  obtain⟨inf,c,h1,_⟩:=hR.row i rows[k] (hrow k i rows[k] hk (by simp[hlt])).1;simp[hk,h1]
 have idk:∀ k,k<rows.length->∃ i r,ids[k]?=some i/\rows[k]?=some r:=fun k hk=>⟨ids[k],rows[k],by simp[hil,hk],by simp[hk]⟩
 have hrows:∀ (k:Nat) (r:Row),rows[k]?=some r->RowOk (fun _=>True) (m0 inf rows.length) S w (0,k) r:=by
  intro k r hk;have hlt:k<rows.length:=(List.getElem?_eq_some_iff.1 hk).1;obtain⟨i,_,hi,_⟩:=idk k hlt;obtain⟨h1,h2⟩:=hrow k i r hi hk;obtain⟨inf',c,k1,k2,k3,k4,k5,k6,k7,k8,k9⟩:=hR.row i r h1;rw[hinf k i hi] at k1;cases k1;refine⟨inf k,c,m0_some hlt,k2,trivial,k4,k5,k6,k7,k8,fun x e he=>⟨(k9 x e he).1,fun j y hy=>?_⟩⟩;obtain⟨u,q1,q2⟩:=(k9 x e he).2 j y hy;exact⟨u,q1,.sh _ _ (q2.closed (cells_closed (closedL_get h2 he) hy))⟩
 have hdist:∀ k l:Nat,k<rows.length->l<rows.length->(inf k).b=(inf l).b->k=l:=by
  intro k l hk hl hb;obtain⟨i,r,h1,h2⟩:=idk k hk;obtain⟨j,q,h3,h4⟩:=idk l hl;have:=hR.inj i j r q _ _ (hrow k i r h1 h2).1 (hrow l j q h3 h4).1 (hinf k i h1) (hinf l j h3) hb;subst this;exact (List.getElem?_inj (by omega:k<ids.length) hnd).1 (h1.trans h3.symm)
 obtain⟨hxl,hxs⟩:=margL_get hx;obtain⟨hal,has⟩:=hargs;have hargs':as.length=vs.length/\∀ (j:Nat) (x:AV) (u:Value),as[j]?=some x->vs[j]?=some u->Rep (m0 inf rows.length) S w x u:=by
  refine⟨by omega,fun j y u hy hu=>?_⟩;have hj:j<xs.length:=by
   have:=(List.getElem?_eq_some_iff.1 hy).1;omega
  have hv:=has j xs[j] u (by simp[hj]) hu;have hm:=hxs j xs[j] y (by simp[hj]) hy;generalize xs[j]=x at hv hm;cases hm with
  |sh _ _ h hl=>exact .sh _ _ ((hv.closed h).le hl)
  |own k i n h =>
   obtain⟨r,q1,rfl⟩:=hv.own_inv;rw[hinf k i h] at q1;cases q1;exact .own _ _ _ (m0_some (by have:=(List.getElem?_eq_some_iff.1 h).1; omega))
  |osl k i off n h =>
   obtain⟨r,cap,q1,rfl,q2⟩:=hv.osl_inv;rw[hinf k i h] at q1;cases q1;exact .osl _ _ _ _ _ (m0_some (by have:=(List.getElem?_eq_some_iff.1 h).1; omega)) q2
 unfold Oper.wp;rw[hrun fn g1 g2 g3];refine Calls.mono (hcalls S w vs inf hR.sh hR.gok hrows hdist hargs') ?_;rintro e w' ⟨v,S',rfl,hb,hS,hS1,hS2,hres,hrows'⟩;have hown:∀ k,k<rows.length->cx.wr (inf k).b/\¬ S (inf k).b/\(inf k).b<w.heap.size:=by
  intro k hk;obtain⟨i,r,h1,h2⟩:=idk k hk;have hro:=hR.row i r (hrow k i r h1 h2).1;have hlt:=hro.lt (hinf k i h1);obtain⟨inf',c,k1,k2,k3,k4,_⟩:=hro;rw[hinf k i h1] at k1;cases k1;exact⟨k3,k4,hlt⟩
 have hSw:∀ b,S b->w'.heap[b]?=w.heap[b]?:=fun b hb'=>hb.block b (hR.sh b hb') (by
  rintro (h1 | ⟨k,hk,rfl⟩)
  ·have:=hR.sh b hb';omega
  ·exact (hown k hk).2.1 hb')
 have hbel:Bel cx.wr cx.w0 w':=hR.below.trans (hb.mono (by
  rintro b _ (h1 | ⟨k,hk,rfl⟩)
  ·exact hR.baseLe b h1
  ·exact (hown k hk).1))
 refine⟨{ v:=res,mt:=ids.zip rows' },m,S',hK,?_⟩;have hga:genAfter s.gen (ids.zip rows')=s.gen:=by
  cases ids with
  |nil=>rfl
  |cons j t=>cases rows' with
   |nil=>rfl
   |cons r rs =>
    show (match Nat.beq j.1 (s.gen+1) with | true=>s.gen+2 | false=>s.gen)=s.gen;have hj:j.1<=s.gen:=by
     rcases hR.dom j _ (hinf 0 j rfl) with h1 | ⟨h1,_⟩ <;> omega
    cases hb:Nat.beq j.1 (s.gen+1) with
    |true =>
     have:=Nat.eq_of_beq_eq_true hb;omega
    |false=>rfl
 show Rel cx N _ m S' (AS.put { s with st:=setF s.st (ids.zip rows'),gen:=genAfter s.gen (ids.zip rows') } o.dst res) (a.put o.dst v) w';rw[hga];refine hR.step (w':=w') (i:=i) (s':={ s with st:=setF s.st (ids.zip rows') }) hd rfl rfl (fun _ _ h=>h) hS hSw (.sh _ _ hres) ?_ ?_ (fun _ _ h=>.inl h) hS2 hbel ?_
 ·intro j q hq;rcases setF_get hnd hq with ⟨k,h1,h2⟩ | ⟨h1,h2⟩
  ·obtain⟨hcl,inf',c,k1,k2,_,k4,k5,k6,k7,k8,k9⟩:=hrows' k q h2;have hk:k<rows.length:=by
    have:=(List.getElem?_eq_some_iff.1 h2).1;omega
   rw[m0_some hk] at k1;cases k1;refine⟨inf k,c,hinf k j h1,k2,(hown k hk).1,k4,k5,k6,k7,k8,fun x e he=>⟨(k9 x e he).1,fun l y hy=>?_⟩⟩;obtain⟨u,q1,q2⟩:=(k9 x e he).2 l y hy;exact⟨u,q1,.sh _ _ (q2.closed (cells_closed (closedL_get hcl he) hy))⟩
  ·refine (hR.row j q h1).mono (fun _ _ h=>h) hS hSw fun inf2 hi=>⟨hb.block _ ((hR.row j q h1).lt hi) ?_,fun h'=>?_⟩
   ·rintro (h3 | ⟨k,hk,h3⟩)
    ·have:=(hR.row j q h1).lt hi;omega
    ·obtain⟨i',r,g4,g5⟩:=idk k hk;have:=hR.inj i' j r q _ _ (hrow k i' r g4 g5).1 h1 (hinf k i' g4) hi h3;subst this;have:=h2 k g4;rw[List.getElem?_eq_none_iff] at this;omega
   ·rcases hS1 _ h' with h3 | h3
    ·exact h3
    ·have:=(hR.row j q h1).lt hi;omega
 ·intro j1 j2 p1 p2 z1 z2 q1 q2 q3 q4 q5;have aux:∀ j p,setF s.st (ids.zip rows') j=some p->∃ p',s.st j=some p':=by
   intro j p hp;rcases setF_get hnd hp with ⟨k,h1,h2⟩ | ⟨h1,_⟩
   ·have hk:k<rows.length:=by
     have:=(List.getElem?_eq_some_iff.1 h2).1;omega
    exact⟨rows[k],(hrow k j rows[k] h1 (by simp[hk])).1⟩
   ·exact⟨p,h1⟩
  obtain⟨r1,hr1⟩:=aux j1 p1 q1;obtain⟨r2,hr2⟩:=aux j2 p2 q2;exact hR.inj j1 j2 r1 r2 z1 z2 hr1 hr2 q3 q4 q5
 ·intro b hb';rcases hS1 b hb' with h1 | h1
  ·exact .inl h1
  ·exact .inr (hR.baseLe b h1)
theorem mvL_len (g:Nat):∀ xs:List AV,(AV.mvL g xs).length=xs.length
 |[]=>rfl
 |x::xs=>by simp[AV.mvL,mvL_len g xs]
theorem mvL_get (g:Nat):∀ {xs:List AV} {j:Nat} {y:AV},(AV.mvL g xs)[j]?=some y->∃ x,xs[j]?=some x/\y=x.mv g
 |[],j,y,h=>by simp[AV.mvL] at h
 |x::xs,0,y,h=>by simp[AV.mvL] at h; exact⟨x,rfl,h.symm⟩
 |x::xs,j+1,y,h=>by
  simp only[AV.mvL,List.getElem?_cons_succ] at h;obtain⟨z,h1,h2⟩:=mvL_get g h;exact⟨z,by simpa using h1,h2⟩
theorem mv_cells (g:Nat) (x:AV):(x.mv g).cells=AV.mvL g x.cells:=by
 cases x <;> rfl
theorem mv_one (g:Nat) (x:AV):(x.mv g).oneCell=x.oneCell:=by
 cases x <;> rfl
theorem mvL_one (g:Nat):∀ xs:List AV,(AV.mvL g xs).all AV.oneCell=xs.all AV.oneCell
 |[]=>rfl
 |x::xs=>by simp only[AV.mvL,List.all_cons,mv_one,mvL_one g xs]
theorem mv_elB (g k:Nat) (x:AV):elB k (x.mv g)=elB k x:=by
 unfold elB;rw[mv_cells,mvL_len,mvL_one]
theorem SRep.mv {S:Nat->Prop} {w:World} {g:Nat} {x:AV} {v:Value} (h:SRep S w x v):SRep S w (x.mv g) v:=by
 induction h with
 |lit v=>exact .lit v
 |agg cs vs hl _ ih =>
  refine .agg _ vs ((mvL_len g cs).trans hl) fun j x u hx hu=>?_
  obtain⟨z,h1,rfl⟩:=mvL_get g hx;exact ih j z u h1 hu
 |tup cs vs hl _ ih =>
  refine .tup _ vs ((mvL_len g cs).trans hl) fun j x u hx hu=>?_
  obtain⟨z,h1,rfl⟩:=mvL_get g hx;exact ih j z u h1 hu
 |slnil=>exact .slnil
 |sle a=>exact .sle a
 |slne a=>exact .slne a
 |sl es b off n cap k us hn hcap hb hk hc hr _=>exact .sl es b off n cap k us hn hcap hb hk hc hr
 |sln es b off n cap k us hn hcap hb hk hc hr _=>exact .sln es b off n cap k us hn hcap hb hk hc hr
 |rptr e c b off us hb h1 hc hr _=>exact .rptr e c b off us hb h1 hc hr
 |clo f cs vs hl hr _=>exact .clo f cs vs hl hr
theorem m0_inv2 {inf:Nat->RInfo} {n:Nat} {i:Rid} {r:RInfo} (h:m0 inf n i=some r):i.1=0/\i.2<n/\inf i.2=r:=by
 unfold m0 at h;split at h
 ·rename_i hb;cases h;simp only[Bool.and_eq_true] at hb;exact⟨Nat.eq_of_beq_eq_true hb.1,Nat.le_of_ble_eq_true hb.2,rfl⟩
 ·cases h
theorem Rep.mv {inf:Nat->RInfo} {n g:Nat} {m':RMap} {S:Nat->Prop} {w:World} (h0:∀ k,k<n->m' (g,k)=some (inf k)) {x:AV} {v:Value} (h:Rep (m0 inf n) S w x v):Rep m' S w (x.mv g) v:=by
 induction h with
 |any v=>exact .any v
 |sh x v h=>exact .sh _ _ h.mv
 |own i n r h =>
  obtain⟨h1,h2,rfl⟩:=m0_inv2 h;exact .own _ _ _ (h0 _ h2)
 |osl i off n cap r h hcap =>
  obtain⟨h1,h2,rfl⟩:=m0_inv2 h;exact .osl _ _ _ _ _ (h0 _ h2) hcap
 |ptr i x c r h =>
  obtain⟨h1,h2,rfl⟩:=m0_inv2 h;exact .ptr _ _ _ _ (h0 _ h2)
 |agg cs vs hl _ ih =>
  refine .agg _ vs ((mvL_len g cs).trans hl) fun j x u hx hu=>?_
  obtain⟨z,h1,rfl⟩:=mvL_get g hx;exact ih j z u h1 hu
 |tup cs vs hl _ ih =>
  refine .tup _ vs ((mvL_len g cs).trans hl) fun j x u hx hu=>?_
  obtain⟨z,h1,rfl⟩:=mvL_get g hx;exact ih j z u h1 hu
theorem nmt_get {st:Rid->Option Row} {g:Nat}:∀ {rows:List Row} {k0:Nat} {j:Rid} {q:Row},setF st (nmt g k0 rows) j=some q->(∃ k r,j=(g,k0+k)/\rows[k]?=some r/\q=⟨r.elem,r.k,AV.mvL g r.els⟩)\/st j=some q
 |[],k0,j,q,h=>.inr h
 |r::rs,k0,j,q,h=>by
  simp only[nmt,setF,upd] at h;by_cases e:j=(g,k0)
  ·rw[if_pos e] at h;cases h;exact .inl ⟨0,r,e,rfl,rfl⟩
  ·rw[if_neg e] at h;rcases nmt_get h with ⟨k,r',h1,h2,h3⟩ | h1
   ·exact .inl ⟨k+1,r',by rw[h1]; congr 1; omega,by simpa using h2,h3⟩
   ·exact .inr h1
theorem genAfter_ge (g k:Nat) (rows:List Row):g<=genAfter g (nmt (g+1) k rows)/\(rows≠[]->genAfter g (nmt (g+1) k rows)=g+2):=by
 cases rows with
 |nil=>exact⟨Nat.le_refl _,fun h=>absurd rfl h⟩
 |cons r rs =>
  have:genAfter g (nmt (g+1) k (r::rs))=g+2:=by
   show (match Nat.beq (g+1) (g+1) with | true=>g+2 | false=>g)=g+2;rw[Nat.beq_refl]
  exact⟨by omega,fun _=>this⟩
def msetN (m:RMap) (g n:Nat) (inf:Nat->RInfo):RMap:=fun j=>if j.1=g/\j.2<n then some (inf j.2) else m j
theorem sound_callN {n:FuncId} {as:List AV} {vs:List Value} {rows:List Row} {res:AV} (hR:Rel cx N D m S s a w) (hd:∀ d,o.dst=some d->d<N)
  (hrun:∀ fn,P.funcs[n]?=some fn->(fn.name == "runtime.NumGoroutine")=false->fn.body.isNone=false->(execOp a.eval o).run P w=.ok (.enter n vs.toArray) w)
  (hargs:SRepL S w as vs) (hcall:ACallsN P n as rows res) (hK:K { v:=res.mv (s.gen+1),mt:=nmt (s.gen+1) 0 rows }):o.wp P a w (OpPost cx N D s i o.dst K) Q:=by
 obtain⟨⟨fn,g1,g2,g3⟩,hcalls⟩:=hcall;unfold Oper.wp;rw[hrun fn g1 g2 g3];refine Calls.mono (hcalls S w _ hR.sh hR.gok hargs) ?_;rintro e w' ⟨v,S',inf,rfl,hb,hS,hS1,hS2,hres,hrows,hinj⟩;have hold:∀ k,k<w.heap.size->w'.heap[k]?=w.heap[k]?:=fun k hk=>hb.block k hk
 have hSw:∀ b,S b->w'.heap[b]?=w.heap[b]?:=fun b hb'=>hold b (hR.sh b hb')
 have hle:∀ j x,m j=some x->j.1<=s.gen:=fun j x h=>by
  rcases hR.dom j x h with h1 | ⟨h1,_⟩ <;> omega
 obtain⟨m',hm'⟩:∃ m',msetN m (s.gen+1) rows.length inf=m':=⟨_,rfl⟩
 have hnew:∀ k,k<rows.length->m' (s.gen+1,k)=some (inf k):=fun k hk=>by
  rw[<- hm'];unfold msetN;rw[if_pos ⟨rfl,hk⟩]
 have hinv:∀ j x,m' j=some x->(j.1=s.gen+1/\j.2<rows.length/\inf j.2=x)\/m j=some x:=fun j x h=>by
  rw[<- hm'] at h;unfold msetN at h;split at h
  ·rename_i hc;exact .inl ⟨hc.1,hc.2,Option.some.inj h⟩
  ·exact .inr h
 have hsub:∀ j x,m j=some x->m' j=some x:=fun j x h=>by
  rw[<- hm'];unfold msetN;rw[if_neg (by
   rintro⟨h1,_⟩;have:=hle j x h;omega)]
  exact h
 have hx:Rep m' S' w' (res.mv (s.gen+1)) v:=hres.mv hnew;have hlt:∀ j q,s.st j=some q->∀ x,m j=some x->x.b<w.heap.size:=fun j q hq x hx=>(hR.row j q hq).lt hx
 have hbase:∀ k,k<rows.length->w.heap.size<=(inf k).b:=fun k hk=>by
  obtain⟨inf',c,k1,k2,k3,_⟩:=hrows k rows[k] (by simp[hk]);rw[m0_some hk] at k1;cases k1;exact k3
 refine⟨_,m',S',hK,?_⟩;show Rel cx N (fun n=>D n\/n=i) m' S' (AS.put { s with st:=setF s.st (nmt (s.gen+1) 0 rows),gen:=genAfter s.gen (nmt (s.gen+1) 0 rows) } o.dst (res.mv (s.gen+1))) (a.put o.dst v) w';have frS:∀ t,Rep m' S' w' (s.fr t) (a.tmps.getD t undef):=fun t=>(hR.fr t).mono hsub hS hSw
 refine { defers:=?_,size:=?_,fr:=?_,row:=?_,inj:=?_,dom:=?_,sh:=hS2,below:=hR.below.trans (Bel.of_below hb),base:=hR.base,s0:=fun b hb'=>hS b (hR.s0 b hb'),s1:=?_,gok:=hR.gok.mono hS hSw,mb:=fun j r hi=>⟨(hR.mb j r hi).1,hsub _ _ (hR.mb j r hi).2⟩ }
 ·rw[put_defers];exact hR.defers
 ·rw[put_size];exact hR.size
 ·intro t;generalize hdst:o.dst=dst at *
  cases dst with
  |none=>exact frS t
  |some d =>
   have hd':d<a.tmps.size:=by rw[hR.size]; exact hd d rfl
   rw[put_fr,getD_put a d v t hd'];by_cases ht:t=d
   ·rw[if_pos ht,if_pos ht]; exact hx
   ·rw[if_neg ht,if_neg ht]; exact frS t
 ·rw[put_st];intro j q hq;rcases nmt_get hq with ⟨k,r,rfl,h2,rfl⟩ | h1
  ·obtain⟨inf',c,k1,k2,k3,k4,k5,k6,k7,k8,k9⟩:=hrows k r h2;have hk:k<rows.length:=(List.getElem?_eq_some_iff.1 h2).1;rw[m0_some hk] at k1;cases k1;rw[Nat.zero_add];refine⟨inf k,c,hnew k hk,k2,hR.baseLe _ k3,k4,k5,k6,by rw[mvL_len]; exact k7,k8,fun x e he=>?_⟩;obtain⟨e0,he0,rfl⟩:=mvL_get _ he;refine⟨by rw[mv_elB]; exact (k9 x e0 he0).1,fun l y hy=>?_⟩;rw[mv_cells] at hy;obtain⟨y0,hy0,rfl⟩:=mvL_get _ hy;obtain⟨u,q1,q2⟩:=(k9 x e0 he0).2 l y0 hy0;exact⟨u,q1,q2.mv hnew⟩
  ·refine (hR.row j q h1).mono hsub hS hSw fun inf hi=>⟨hold _ ((hR.row j q h1).lt hi),fun h'=>?_⟩
   rcases hS1 _ h' with h3 | h3
   ·exact h3
   ·have:=(hR.row j q h1).lt hi;omega
 ·rw[put_st];intro j1 j2 p1 p2 z1 z2 q1 q2 q3 q4 q5;have side:∀ j p z,setF s.st (nmt (s.gen+1) 0 rows) j=some p->m' j=some z->(∃ k,j=(s.gen+1,k)/\k<rows.length/\inf k=z)\/(s.st j=some p/\m j=some z):=fun j p z h1 h2=>by
   rcases nmt_get h1 with ⟨k,r,rfl,h3,_⟩ | h3
   ·have hk:k<rows.length:=(List.getElem?_eq_some_iff.1 h3).1;rw[Nat.zero_add] at h2 ⊢;rw[hnew k hk] at h2;exact .inl ⟨k,rfl,hk,Option.some.inj h2⟩
   ·rcases hinv j z h2 with ⟨h4,_,_⟩ | h4
    ·obtain⟨inf',_,k1,_⟩:=hR.row j p h3;have:=hle j _ k1;omega
    ·exact .inr ⟨h3,h4⟩
  rcases side j1 p1 z1 q1 q3 with ⟨k,rfl,hk,rfl⟩ | ⟨h1,h2⟩
  ·rcases side j2 p2 z2 q2 q4 with ⟨l,rfl,hl,rfl⟩ | ⟨h3,h4⟩
   ·rw[hinj k l hk hl q5]
   ·have:=hlt j2 p2 h3 z2 h4;have:=hbase k hk;omega
  ·rcases side j2 p2 z2 q2 q4 with ⟨l,rfl,hl,rfl⟩ | ⟨h3,h4⟩
   ·have:=hlt j1 p1 h1 z1 h2;have:=hbase l hl;omega
   ·exact hR.inj j1 j2 p1 p2 z1 z2 h1 h3 h2 h4 q5
 ·intro j x hx;rw[put_gen];show j.1<genAfter s.gen (nmt (s.gen+1) 0 rows)\/(j.1=genAfter s.gen (nmt (s.gen+1) 0 rows)/\_);obtain⟨ga,gb⟩:=genAfter_ge s.gen 0 rows;rcases hinv j x hx with ⟨h1,h2,_⟩ | h1
  ·have:rows≠[]:=by
    rintro rfl;simp at h2
   rw[gb this];left;omega
  ·rcases hR.dom j x h1 with h2 | ⟨h2,h3⟩
   ·left;omega
   ·by_cases hr:rows=[]
    ·subst hr;exact .inr ⟨h2,.inl h3⟩
    ·rw[gb hr];left;omega
 ·intro b hb';rcases hS1 b hb' with h1 | h1
  ·exact hR.s1 b h1
  ·exact .inr (hR.baseLe _ h1)
theorem setF_same:∀ {ids:List Rid} {rows:List Row},mrows s ids rows->setF s.st (ids.zip rows)=s.st
 |[],[],_=>rfl
 |i::is,r::rs,h=>by
  funext j;show upd (setF s.st (is.zip rs)) i (some r) j=s.st j;rw[setF_same h.2];unfold upd;split
  ·rename_i e;rw[e];exact h.1.1.symm
  ·rfl
 |[],_::_,h=>h.elim
 |_::_,[],h=>h.elim
theorem sound_callF {n:FuncId} {xs:List AV} {vs:List Value} (hR:Rel cx N D m S s a w) (hd:∀ d,o.dst=some d->d<N) (hD:¬ D i)
  (hrun:∀ fn,P.funcs[n]?=some fn->(fn.name == "runtime.NumGoroutine")=false->fn.body.isNone=false->(execOp a.eval o).run P w=.ok (.enter n vs.toArray) w)
  (hargs:RepL m S w xs vs) (h:CallF P dr i s n xs K):o.wp P a w (OpPost cx N D s i o.dst K) Q:=by
 obtain⟨h⟩:=h;cases dr with
 |true =>
  rcases h with h | ⟨ids,as,rows,res,⟨h1,h2,h3,_⟩,hcall,hK⟩
  case inr =>
   refine Oper.wp_mono (fun a' w' h=>?_) (sound_callM (i:=i) (K:=fun e=>e={ v:=res,mt:=ids.zip rows }) hR hd hrun hargs h1 h2 h3 hcall rfl);obtain⟨e,m',S',rfl,hq⟩:=h;refine⟨_,m',S',(trueA_iff hK).2,?_⟩;have ea:s.app i o.dst { v:=res,mt:=ids.zip rows }=s.app i o.dst { v:=res }:=by
    have hga:genAfter s.gen (ids.zip rows)=s.gen:=by
     cases ids with
     |nil=>rfl
     |cons j l =>
      cases rows with
      |nil=>rfl
      |cons r q =>
       obtain⟨inf,c,k1,_⟩:=hR.row j r h2.1.1;have hdom:j.1<=s.gen:=by
        rcases hR.dom j _ k1 with h | ⟨h,_⟩ <;> omega
       have hne:Nat.beq j.1 (s.gen+1)=false:=by
        cases hb:Nat.beq j.1 (s.gen+1) with
        |false=>rfl
        |true =>
         have:=Nat.eq_of_beq_eq_true hb;omega
       show (match Nat.beq j.1 (s.gen+1) with | true=>s.gen+2 | false=>s.gen)=s.gen;rw[hne]
    have hst:setF s.st (ids.zip rows)=s.st:=setF_same h2;show AS.put { s with st:=setF s.st (ids.zip rows),gen:=genAfter s.gen (ids.zip rows) } o.dst res=AS.put { s with st:=s.st,gen:=s.gen } o.dst res;rw[hga,hst]
   rw[ea] at hq;exact hq
  obtain⟨hcl,h⟩:=trueA_iff h;have hargs:=hargs.closed hcl;rcases h with ⟨as,res,hle,hcall,hK⟩ | ⟨as,r,hle,hcall,hK⟩
  ·exact sound_calls hR hd hrun (hargs.le hle) hcall (trueA_iff hK).2
  ·exact sound_callsO hR hd hD hrun (hargs.le hle) hcall hK
 |false =>
  rcases h with ⟨F,hF,h⟩ | ⟨ids,as,rows,res,rows',⟨h1,h2,h3⟩,hcall,hK⟩
  case inr=>exact sound_callM hR hd hrun hargs h1 h2 h3 hcall (trueA_iff hK).2
  rcases h with ⟨as,res,hle,hcall,hK⟩ | ⟨as,r,hle,hcall,hK⟩ | ⟨as,rows,res,hle,hcall,hK⟩
  case inr.inr=>exact Oper.wp_mono (fun a' w' h=>OpPost.fz h) (sound_callN hR.freeze hd hrun (frzL_sound hR hle hargs) hcall ⟨rfl,hK⟩)
  ·exact Oper.wp_mono (fun a' w' h=>OpPost.fz h) (sound_calls hR.freeze hd hrun (frzL_sound hR hle hargs) hcall ⟨rfl,(trueA_iff hK).2⟩)
  ·exact Oper.wp_mono (fun a' w' h=>OpPost.fz h) (sound_callsO hR.freeze hd hD hrun (frzL_sound hR hle hargs) hcall ⟨rfl,hK⟩)
theorem sound_call {c:Call} {f:Operand} (ho:o.op=.call c) (hc:c.callee=.value f) (hR:Rel cx N D m S s a w) (hd:∀ d,o.dst=some d->d<N) (hD:¬ D i)
  (h:callA P ty dr pre i s c K):o.wp P a w (OpPost cx N D s i o.dst K) Q:=by
 unfold callA at h;rw[hc] at h;simp only at h;have hp:=hR.ev f;split at h
 ·rename_i n first captured e1
  rw[e1] at hp;have hv:=hp.lit_inv;split at h
  case h_2=>exact h.elim
  rename_i e2 e3;have e2:first=#[]:=by simpa using e2
  have e3:captured=#[]:=by simpa using e3
  subst e2 e3;exact sound_callF hR hd hD (fun fn g1 g2 g3=>run_call ho hc hv g1 g2 g3) (by simpa using hR.evl c.args.toList) h
 ·rename_i n caps e1;rw[e1] at hp;generalize hv:a.eval f=v at hp;cases hp with | sh _ _ hp=>cases hp with | clo _ _ vs hl hr =>
   refine sound_callF (vs:=c.args.toList.map a.eval++vs.toList) hR hd hD (fun fn g1 g2 g3=>run_call ho hc hv g1 g2 g3) (.append (hR.evl c.args.toList) ⟨by simpa using hl,fun j x u h1 h2=>.sh _ _ (hr j x u h1 (by simpa using h2))⟩) h
 ·exact h.elim
theorem act_sound (hty:∀ t,(ty t).ok=true->TyOk P t (ty t)) (hR:Rel cx N D m S s a w) (hd:∀ d,o.dst=some d->d<N) (hD:¬ D i)
  (h:act P ty dr pre i s o.op K):o.wp P a w (OpPost cx N D s i o.dst K) Q:=by
 cases hop:o.op with
 |move x=>exact sound_move (.inl hop) hR hd (by rw[hop] at h; exact h)
 |assign x=>exact sound_move (.inr hop) hR hd (by rw[hop] at h; exact h)
 |pick c x y=>exact sound_pick hop hR hd h
 |alloc t=>exact sound_alloc hty hop hR hd hD h
 |box t x=>exact sound_box hty hop hR hd hD h
 |build t ps=>exact sound_build hty hop hR hd h
 |buildSlice t n ps=>exact sound_buildSlice hty hop hR hd hD h
 |load t p=>exact sound_load hty hop hR hd h
 |store t p v=>exact sound_store hty hop hR hd h
 |nilCheck x=>exact sound_nilCheck hop hR hd h
 |binOp op t x y t2=>exact sound_binOp hty hop hR hd h
 |unOp op t x=>exact sound_unOp hop hR hd h
 |convert t t2 x=>exact sound_convert hty hop hR hd h
 |makeInterface t x=>exact sound_makeInterface hty hop hR hd h
 |makeFunc fn f c=>exact sound_makeFunc hop hR hd h
 |makeSlice t l c=>exact sound_makeSlice hty hop hR hd hD h
 |slice t x l hh mx=>exact sound_slice hty hop hR hd h
 |fieldAddr t x f=>exact sound_fieldAddr hty hop hR hd h
 |field t x f=>exact sound_field hty hop hR hd h
 |indexAddr t p x=>exact sound_indexAddr hty hop hR hd h
 |index t p x=>exact sound_index hty hop hR hd h
 |extract x j=>exact sound_extract hop hR hd h
 |call c =>
  rw[hop] at h;simp only[act] at h;cases hc:c.callee with
  |value f=>exact sound_call hop hc hR hd hD h
  |invoke r n=>unfold callA at h; rw[hc] at h; exact h.elim
  |builtin b =>
   cases b with
   |len=>exact sound_len hty hop hc hR hd h
   |min=>exact sound_min hop hc hR hd h
   |max=>exact sound_max hop hc hR hd h
   |append=>exact sound_append hty hop hc hR hd hD h
   |_=>unfold callA at h; rw[hc] at h; exact h.elim
 |_=>rw[hop] at h; exact h.elim
end
end
end Go.Proofs.YtjdkdcmpifapeaaGreatDoor.Abs
