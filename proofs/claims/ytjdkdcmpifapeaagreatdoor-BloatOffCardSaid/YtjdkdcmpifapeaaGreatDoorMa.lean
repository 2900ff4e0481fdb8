/- Abstract values and abstract states for the walk: definitions alone. -/
import Derived.Below
import Derived.Laws.MakeOwn
import Derived.Laws.Cells
import Derived.Laws.Entries
import Derived.Laws.OwnMore
import Derived.Tactics
import Derived.Deep.Quiet
set_option linter.unusedVariables false
set_option linter.unusedSectionVars false
set_option linter.unusedSimpArgs false
namespace Go.Proofs.YtjdkdcmpifapeaaGreatDoor.Abs
section
open Go Go.RowKit
abbrev Rid:=Nat×Nat
inductive AV where
 |lit (v:Value)
 |sl (es:List AV)
 |sln (es:List AV)
 |agg (cs:List AV)
 |tup (vs:List AV)
 |own (i:Rid) (n:Nat)
 |osl (i:Rid) (off n:Nat)
 |ptr (i:Rid) (x c:Nat)
 |rptr (e:AV) (c:Nat)
 |clo (f:Nat) (cs:List AV)
 |any
instance:Inhabited AV:=⟨.any⟩
def AV.cells:AV->List AV
 |.agg cs=>cs
 |v=>[v]
mutual
def AV.closed:AV->Bool
 |.lit _=>true
 |.sl _=>true
 |.sln _=>true
 |.rptr _ _=>true
 |.clo _ _=>true
 |.agg cs=>AV.closedL cs
 |.tup vs=>AV.closedL vs
 |.own _ _=>false
 |.osl _ _ _=>false
 |.ptr _ _ _=>false
 |.any=>false
def AV.closedL:List AV->Bool
 |[]=>true
 |x::xs=>x.closed&&AV.closedL xs
end
mutual
def AV.lt (g:Nat):AV->Bool
 |.lit _=>true
 |.sl _=>true
 |.sln _=>true
 |.rptr _ _=>true
 |.clo _ _=>true
 |.agg cs=>AV.ltL g cs
 |.tup vs=>AV.ltL g vs
 |.own i _=>Nat.blt i.1 g
 |.osl i _ _=>Nat.blt i.1 g
 |.ptr i _ _=>Nat.blt i.1 g
 |.any=>true
def AV.ltL (g:Nat):List AV->Bool
 |[]=>true
 |x::xs=>x.lt g&&AV.ltL g xs
end
def AV.oneCell:AV->Bool
 |.lit v=>v.oneCell'
 |.sl _=>true
 |.sln _=>true
 |.own _ _=>true
 |.osl _ _ _=>true
 |.ptr _ _ _=>true
 |.rptr _ _=>true
 |.clo _ _=>true
 |_=>false
structure Row where
 elem:TypeId
 k:Nat
 els:List AV
structure AS where
 fr:Nat->AV
 st:Rid->Option Row
 gen:Nat
inductive Mk where
 |int (k:IntKind)
 |bool
 |str
 |slice (e:TypeId)
 |struct (fs:List (Nat×TypeId))
 |array (n:Nat) (e:TypeId)
 |other
structure Ty where
 size:Nat
 bytes:Nat
 zero:Value
 d:Mk
 ok:Bool
def MkOk (d:TypeDesc):Mk->Prop
 |.int k=>d=.int k
 |.bool=>d=.bool
 |.str=>d=.string
 |.slice e=>d=.slice e
 |.struct fs=>∃ gs,d=.struct gs/\fs=gs.toList.map fun g=>(g.offset,g.type)
 |.array n e=>d=.array n e
 |.other=>(match d with | .struct _=>False | .array _ _=>False | _=>True)
def TyOk (P:Program) (t:Nat) (T:Ty):Prop :=
 ∃ i d,P.info? t=some i/\P.underlying t=some d/\i.size=T.size/\i.bytes=T.bytes/\i.zero=some T.zero/\MkOk d T.d
def Mk.agg:Mk->Bool
 |.struct _=>true
 |.array _ _=>true
 |_=>false
def AV.ofVal:Value->AV
 |.agg cs=>.agg (cs.toList.map .lit)
 |v=>.lit v
class Gl where
 gl:Nat->AV
def AS.ev [Gl] (s:AS):Operand->AV
 |.tmp t=>s.fr t
 |.const v=>AV.ofVal v
 |.func f=>.lit (.func (.func f) #[] #[])
 |.global g=>Gl.gl g
def upd {α:Type} [DecidableEq α] {β:Type} (f:α->β) (a:α) (b:β):α->β:=fun x=>if x=a then b else f x
def AS.put (s:AS) (d:Option Nat) (v:AV):AS :=
 match d with
 |some d=>{ s with fr:=fun t=>match Nat.beq t d with | true=>v | false=>s.fr t }
 |none=>s
structure Eff where
 v:AV
 new:Option Row:=none
 up:Option (Rid×Option Row):=none
 fz:List Rid:=[]
 mt:List (Rid×Row):=[]
def dropF (st:Rid->Option Row):List Rid->Rid->Option Row
 |[]=>st
 |j::F=>upd (dropF st F) j none
def setF (st:Rid->Option Row):List (Rid×Row)->Rid->Option Row
 |[]=>st
 |(j,r)::l=>upd (setF st l) j (some r)
def genAfter (g:Nat):List (Rid×Row)->Nat
 |[]=>g
 |(j,_)::_=>match Nat.beq j.1 (g+1) with | true=>g+2 | false=>g
def AS.app (s:AS) (i:Nat) (d:Option Nat) (e:Eff):AS :=
 let st0:=setF (dropF s.st e.fz) e.mt
 let st1:=match e.up with | some (j,r)=>upd st0 j r | none=>st0
 let st2:=match e.new with | some r=>upd st1 (s.gen,i) (some r) | none=>st1
 { s with st:=st2,gen:=genAfter s.gen e.mt }.put d e.v
def Br (b:Bool) (X Y:Prop):Prop :=
 match b with
 |true=>X
 |false=>Y
theorem Br.mk {b:Bool} {X Y:Prop} (t:b=true->X) (f:b=false->Y):Br b X Y:=by
 cases b with
 |true=>exact t rfl
 |false=>exact f rfl
theorem Br.t {b:Bool} {X Y:Prop} (h:Br b X Y) (hb:b=true):X:=by subst hb; exact h
theorem Br.f {b:Bool} {X Y:Prop} (h:Br b X Y) (hb:b=false):Y:=by subst hb; exact h
def intBin (op:BinOp) (k:IntKind) (a b:Int):Option Value :=
 match op with
 |.add=>some (.int k (k.wrap (a+b)))
 |.sub=>some (.int k (k.wrap (a-b)))
 |.mul=>some (.int k (k.wrap (a*b)))
 |.and=>some (.int k (k.wrap (BitVec.ofInt k.bits a &&& BitVec.ofInt k.bits b).toNat))
 |.or=>some (.int k (k.wrap (BitVec.ofInt k.bits a ||| BitVec.ofInt k.bits b).toNat))
 |.xor=>some (.int k (k.wrap (BitVec.ofInt k.bits a ^^^ BitVec.ofInt k.bits b).toNat))
 |.eql=>some (.bool (a==b))
 |.neq=>some (.bool (a !=b))
 |.lss=>some (.bool (decide (a<b)))
 |.leq=>some (.bool (decide (a<=b)))
 |.gtr=>some (.bool (decide (a > b)))
 |.geq=>some (.bool (decide (a ≥ b)))
 |_=>none
def ikEq:IntKind->IntKind->Bool
 |.i8,.i8=>true
 |.i16,.i16=>true
 |.i32,.i32=>true
 |.i64,.i64=>true
 |.u8,.u8=>true
 |.u16,.u16=>true
 |.u32,.u32=>true
 |.u64,.u64=>true
 |_,_=>false
def binA (m:Mk) (op:BinOp) (x y:AV) (K:AV->Prop):Prop :=
 match op,x,y with
 |.shl,.lit (.int k a),.lit (.int _ b)=>(match b with | .ofNat b=>K (.lit (.int k (k.wrap (a*2^(min b k.bits))))) | .negSucc _=>False)
 |.shr,.lit (.int k a),.lit (.int _ b)=>(match b with | .ofNat b=>K (.lit (.int k (a.fdiv (2^(min b k.bits))))) | .negSucc _=>False)
 |.quo,.lit (.int k a),.lit (.int k' b)=>match ikEq k k' with | true=>Br (b==0) False (K (.lit (.int k (k.wrap (a.tdiv b))))) | false=>False
 |.rem,.lit (.int k a),.lit (.int k' b)=>match ikEq k k' with | true=>Br (b==0) False (K (.lit (.int k (a.tmod b)))) | false=>False
 |op,.lit (.int k a),.lit (.int k' b) =>
  match ikEq k k' with
  |true=>match intBin op k a b with
   |some v=>K (.lit v)
   |none=>False
  |false=>False
 |.eql,.lit (.string a),.lit (.string b)=>K (.lit (.bool (a.toList==b.toList)))
 |.neq,.lit (.string a),.lit (.string b)=>K (.lit (.bool (!(a.toList==b.toList))))
 |.add,.lit (.string a),.lit (.string b)=>a.size+b.size<=9223372036854775807/\K (.lit (.string (a++b)))
 |.eql,.lit (.bool a),.lit (.bool b)=>(match m with | .bool=>True | _=>False)/\K (.lit (.bool (a==b)))
 |.neq,.lit (.bool a),.lit (.bool b)=>(match m with | .bool=>True | _=>False)/\K (.lit (.bool (!(a==b))))
 |.eql,.lit (.slice none _ _),.lit (.slice none _ _)=>(match m with | .slice _=>True | _=>False)/\K (.lit (.bool true))
 |.neq,.lit (.slice none _ _),.lit (.slice none _ _)=>(match m with | .slice _=>True | _=>False)/\K (.lit (.bool false))
 |.eql,.sln _,.lit (.slice none _ _)=>(match m with | .slice _=>True | _=>False)/\K (.lit (.bool false))
 |.neq,.sln _,.lit (.slice none _ _)=>(match m with | .slice _=>True | _=>False)/\K (.lit (.bool true))
 |_,_,_=>False
def unA (op:UnOp) (x:AV) (K:AV->Prop):Prop :=
 match op,x with
 |.neg,.lit (.int k n)=>K (.lit (.int k (k.wrap (0-n))))
 |.not,.lit (.bool b)=>K (.lit (.bool !b))
 |.xor,.lit (.int k n)=>K (.lit (.int k (k.wrap (BitVec.ofInt k.bits (if k.signed then -1 else k.max) ^^^ BitVec.ofInt k.bits n).toNat)))
 |_,_=>False
def partA (t:Ty) (e:AV) (c:Nat):Option AV :=
 match t.ok with
 |false=>none
 |true =>
 match Nat.beq c 0&&Nat.beq e.cells.length t.size&&(match e with | .agg _=>t.d.agg | _=>!t.d.agg) with
 |true=>some e
 |false =>
  match t.d.agg with
  |true=>match Nat.ble (c+t.size) e.cells.length with
   |true=>some (.agg ((e.cells.drop c).take t.size))
   |false=>none
  |false=>e.cells[c]?
def setA (e:AV) (c:Nat) (v:AV):Option AV :=
 match Nat.beq c 0&&Nat.beq e.cells.length v.cells.length with
 |true=>some v
 |false =>
  match e with
  |.agg cs=>match Nat.ble (c+v.cells.length) cs.length with
   |true=>some (.agg (cs.take c++v.cells++cs.drop (c+v.cells.length)))
   |false=>none
  |_=>none
end
section
open Go Go.RowKit
def elB (k:Nat) (e:AV):Bool:=Nat.beq e.cells.length k&&e.cells.all AV.oneCell
inductive SRep (S:Nat->Prop) (w:World):AV->Value->Prop
 |lit (v:Value):SRep S w (.lit v) v
 |agg (cs:List AV) (vs:Array Value) (hl:cs.length=vs.size)
   (h:∀ (j:Nat) (x:AV) (u:Value),cs[j]?=some x->vs[j]?=some u->SRep S w x u):SRep S w (.agg cs) (.agg vs)
 |tup (cs:List AV) (vs:Array Value) (hl:cs.length=vs.size)
   (h:∀ (j:Nat) (x:AV) (u:Value),cs[j]?=some x->vs[j]?=some u->SRep S w x u):SRep S w (.tup cs) (.tuple vs)
 |slnil:SRep S w (.sl []) (.slice none 0 0)
 |sle (a:Addr):SRep S w (.sl []) (.slice (some a) 0 0)
 |slne (a:Addr):SRep S w (.sln []) (.slice (some a) 0 0)
 |sl (es:List AV) (b off n cap k:Nat) (us:Nat->Nat->Value) (hn:es.length=n) (hcap:n<=cap) (hb:S b) (hk:∀ (i:Nat) (x:AV),es[i]?=some x->elB k x=true)
   (hc:∀ (i:Nat) (x:AV) (j:Nat) (y:AV),es[i]?=some x->x.cells[j]?=some y->w.cell? ⟨b,off+(i*k+j),none⟩=some (us i j))
   (hr:∀ (i:Nat) (x:AV) (j:Nat) (y:AV),es[i]?=some x->x.cells[j]?=some y->SRep S w y (us i j)):SRep S w (.sl es) (.slice (some ⟨b,off,none⟩) n cap)
 |sln (es:List AV) (b off n cap k:Nat) (us:Nat->Nat->Value) (hn:es.length=n) (hcap:n<=cap) (hb:S b) (hk:∀ (i:Nat) (x:AV),es[i]?=some x->elB k x=true)
   (hc:∀ (i:Nat) (x:AV) (j:Nat) (y:AV),es[i]?=some x->x.cells[j]?=some y->w.cell? ⟨b,off+(i*k+j),none⟩=some (us i j))
   (hr:∀ (i:Nat) (x:AV) (j:Nat) (y:AV),es[i]?=some x->x.cells[j]?=some y->SRep S w y (us i j)):SRep S w (.sln es) (.slice (some ⟨b,off,none⟩) n cap)
 |rptr (e:AV) (c b off:Nat) (us:Nat->Value) (hb:S b) (h1:e.cells.all AV.oneCell=true)
   (hc:∀ (j:Nat) (y:AV),e.cells[j]?=some y->w.cell? ⟨b,off+j,none⟩=some (us j))
   (hr:∀ (j:Nat) (y:AV),e.cells[j]?=some y->SRep S w y (us j)):SRep S w (.rptr e c) (.pointer (some ⟨b,off+c,none⟩))
 |clo (f:Nat) (cs:List AV) (vs:Array Value) (hl:cs.length=vs.size)
   (h:∀ (j:Nat) (x:AV) (u:Value),cs[j]?=some x->vs[j]?=some u->SRep S w x u):SRep S w (.clo f cs) (.func (.func f) #[] vs)
theorem SRep.mono {S S':Nat->Prop} {w w':World} (hS:∀ b,S b->S' b) (hw:∀ b,S b->w'.heap[b]?=w.heap[b]?) {x:AV} {v:Value} (h:SRep S w x v):SRep S' w' x v:=by
 induction h with
 |lit v=>exact .lit v
 |agg cs vs hl _ ih=>exact .agg cs vs hl ih
 |tup cs vs hl _ ih=>exact .tup cs vs hl ih
 |slnil=>exact .slnil
 |sle a=>exact .sle a
 |slne a=>exact .slne a
 |sl es b off n cap k us hn hcap hb hk hc _ ih =>
  exact .sl es b off n cap k us hn hcap (hS b hb) hk (fun i x j y h1 h2=>(World.cell?_of_block (w:=w) (hw b hb)).trans (hc i x j y h1 h2)) ih
 |sln es b off n cap k us hn hcap hb hk hc _ ih =>
  exact .sln es b off n cap k us hn hcap (hS b hb) hk (fun i x j y h1 h2=>(World.cell?_of_block (w:=w) (hw b hb)).trans (hc i x j y h1 h2)) ih
 |rptr e c b off us hb h1 hc _ ih =>
  exact .rptr e c b off us (hS b hb) h1 (fun j y h2=>(World.cell?_of_block (w:=w) (hw b hb)).trans (hc j y h2)) ih
 |clo f cs vs hl _ ih=>exact .clo f cs vs hl ih
inductive Le:AV->AV->Prop
 |refl (x:AV):Le x x
 |nil:Le (.lit (.slice none 0 0)) (.sl [])
 |sln (es:List AV):Le (.sln es) (.sl es)
 |agg (cs ds:List AV) (hl:cs.length=ds.length) (h:∀ (j:Nat) (x y:AV),cs[j]?=some x->ds[j]?=some y->Le x y):Le (.agg cs) (.agg ds)
 |tup (cs ds:List AV) (hl:cs.length=ds.length) (h:∀ (j:Nat) (x y:AV),cs[j]?=some x->ds[j]?=some y->Le x y):Le (.tup cs) (.tup ds)
theorem Le.of_eq {x y:AV} (h:x=y):Le x y:=h▸.refl x
def leL:List AV->List AV->Prop
 |[],[]=>True
 |x::xs,y::ys=>Le x y/\leL xs ys
 |_,_=>False
theorem leL_get:∀ {xs ys:List AV},leL xs ys->xs.length=ys.length/\∀ (j:Nat) (x y:AV),xs[j]?=some x->ys[j]?=some y->Le x y
 |[],[],_=>⟨rfl,by simp⟩
 |x::xs,y::ys,h=>⟨by simp[(leL_get h.2).1],fun j a b ha hb=>by
   cases j with
   |zero=>simp at ha hb; subst ha hb; exact h.1
   |succ j=>exact (leL_get h.2).2 j a b (by simpa using ha) (by simpa using hb)⟩
 |[],_::_,h=>h.elim
 |_::_,[],h=>h.elim
theorem leL_refl:∀ (xs:List AV),leL xs xs
 |[]=>trivial
 |x::xs=>⟨.refl x,leL_refl xs⟩
theorem Le.ag {cs ds:List AV} (h:leL cs ds):Le (.agg cs) (.agg ds):=.agg cs ds (leL_get h).1 (leL_get h).2
theorem SRep.le {S:Nat->Prop} {w:World} {x y:AV} {v:Value} (h:Le x y) (hv:SRep S w x v):SRep S w y v:=by
 induction h generalizing v with
 |refl x=>exact hv
 |nil=>cases hv; exact .slnil
 |sln es =>
  cases hv with
  |sln _ b off n cap k us hn hcap hb hk hc hr=>exact .sl es b off n cap k us hn hcap hb hk hc hr
  |slne a=>exact .sle a
 |agg cs ds hl h ih =>
  cases hv with
  |agg _ vs hl' hr =>
   exact .agg ds vs (by omega) fun j y u hy hu=>by
    have hj:j<cs.length:=by
     have:=(List.getElem?_eq_some_iff.1 hy).1;omega
    exact ih j cs[j] y (by simp[hj]) hy (hr j cs[j] u (by simp[hj]) hu)
 |tup cs ds hl h ih =>
  cases hv with
  |tup _ vs hl' hr =>
   exact .tup ds vs (by omega) fun j y u hy hu=>by
    have hj:j<cs.length:=by
     have:=(List.getElem?_eq_some_iff.1 hy).1;omega
    exact ih j cs[j] y (by simp[hj]) hy (hr j cs[j] u (by simp[hj]) hu)
structure RInfo where
 b:Nat
 cap:Nat
 k:Nat
abbrev RMap:=Rid->Option RInfo
inductive Rep (m:RMap) (S:Nat->Prop) (w:World):AV->Value->Prop
 |any (v:Value):Rep m S w .any v
 |sh (x:AV) (v:Value) (h:SRep S w x v):Rep m S w x v
 |own (i:Rid) (n:Nat) (r:RInfo) (h:m i=some r):Rep m S w (.own i n) (.slice (some ⟨r.b,0,none⟩) n r.cap)
 |osl (i:Rid) (off n cap:Nat) (r:RInfo) (h:m i=some r) (hcap:n<=cap):Rep m S w (.osl i off n) (.slice (some ⟨r.b,off*r.k,none⟩) n cap)
 |ptr (i:Rid) (x c:Nat) (r:RInfo) (h:m i=some r):Rep m S w (.ptr i x c) (.pointer (some ⟨r.b,x*r.k+c,none⟩))
 |agg (cs:List AV) (vs:Array Value) (hl:cs.length=vs.size)
   (h:∀ (j:Nat) (x:AV) (u:Value),cs[j]?=some x->vs[j]?=some u->Rep m S w x u):Rep m S w (.agg cs) (.agg vs)
 |tup (cs:List AV) (vs:Array Value) (hl:cs.length=vs.size)
   (h:∀ (j:Nat) (x:AV) (u:Value),cs[j]?=some x->vs[j]?=some u->Rep m S w x u):Rep m S w (.tup cs) (.tuple vs)
theorem Rep.mono {m m':RMap} {S S':Nat->Prop} {w w':World} (hm:∀ i r,m i=some r->m' i=some r) (hS:∀ b,S b->S' b) (hw:∀ b,S b->w'.heap[b]?=w.heap[b]?)
  {x:AV} {v:Value} (h:Rep m S w x v):Rep m' S' w' x v:=by
 induction h with
 |any v=>exact .any v
 |sh x v h=>exact .sh x v (h.mono hS hw)
 |own i n r h=>exact .own i n r (hm i r h)
 |osl i off n cap r h hcap=>exact .osl i off n cap r (hm i r h) hcap
 |ptr i x c r h=>exact .ptr i x c r (hm i r h)
 |agg cs vs hl _ ih=>exact .agg cs vs hl ih
 |tup cs vs hl _ ih=>exact .tup cs vs hl ih
theorem Rep.le {m:RMap} {S:Nat->Prop} {w:World} {x y:AV} {v:Value} (h:Le x y) (hv:Rep m S w x v):Rep m S w y v:=by
 induction h generalizing v with
 |refl x=>exact hv
 |nil=>cases hv with | sh _ _ hv=>exact .sh _ _ (hv.le .nil)
 |sln es=>cases hv with | sh _ _ hv=>exact .sh _ _ (hv.le (.sln es))
 |agg cs ds hl h ih =>
  have:∃ vs,v=.agg vs/\cs.length=vs.size/\∀ (j:Nat) (x:AV) (u:Value),cs[j]?=some x->vs[j]?=some u->Rep m S w x u:=by
   cases hv with
   |sh _ _ hv=>cases hv with | agg _ vs hl' hr=>exact⟨vs,rfl,hl',fun j x u h1 h2=>.sh _ _ (hr j x u h1 h2)⟩
   |agg _ vs hl' hr=>exact⟨vs,rfl,hl',hr⟩
  obtain⟨vs,rfl,hl',hr⟩:=this;exact .agg ds vs (by omega) fun j y u hy hu=>by
    have hj:j<cs.length:=by
     have:=(List.getElem?_eq_some_iff.1 hy).1;omega
    exact ih j cs[j] y (by simp[hj]) hy (hr j cs[j] u (by simp[hj]) hu)
 |tup cs ds hl h ih =>
  have:∃ vs,v=.tuple vs/\cs.length=vs.size/\∀ (j:Nat) (x:AV) (u:Value),cs[j]?=some x->vs[j]?=some u->Rep m S w x u:=by
   cases hv with
   |sh _ _ hv=>cases hv with | tup _ vs hl' hr=>exact⟨vs,rfl,hl',fun j x u h1 h2=>.sh _ _ (hr j x u h1 h2)⟩
   |tup _ vs hl' hr=>exact⟨vs,rfl,hl',hr⟩
  obtain⟨vs,rfl,hl',hr⟩:=this;exact .tup ds vs (by omega) fun j y u hy hu=>by
    have hj:j<cs.length:=by
     have:=(List.getElem?_eq_some_iff.1 hy).1;omega
    exact ih j cs[j] y (by simp[hj]) hy (hr j cs[j] u (by simp[hj]) hu)
def RowOk (base:Nat->Prop) (m:RMap) (S:Nat->Prop) (w:World) (i:Rid) (r:Row):Prop :=
 ∃ inf c,m i=some inf/\inf.k=r.k/\base inf.b/\¬ S inf.b/\w.heap[inf.b]?=some (.cells c r.elem (0,0))/\c.size=inf.cap*r.k/\r.els.length<=inf.cap/\inf.cap<=maxLen /\
  ∀ (x:Nat) (e:AV),r.els[x]?=some e->elB r.k e=true/\∀ (j:Nat) (y:AV),e.cells[j]?=some y->∃ u,c[x*r.k+j]?=some u/\Rep m S w y u
structure Bel (wr:Nat->Prop) (w w':World):Prop where
 os:w'.os=w.os
 tape:w'.tape=w.tape
 output:w'.output=w.output
 size:w.heap.size<=w'.heap.size
 block:∀ k,k<w.heap.size->¬ wr k->w'.heap[k]?=w.heap[k]?
theorem Bel.refl (wr:Nat->Prop) (w:World):Bel wr w w:=⟨rfl,rfl,rfl,Nat.le_refl _,fun _ _ _=>rfl⟩
theorem Bel.trans {wr:Nat->Prop} {a b c:World} (h:Bel wr a b) (k:Bel wr b c):Bel wr a c :=
 ⟨k.os.trans h.os,k.tape.trans h.tape,k.output.trans h.output,Nat.le_trans h.size k.size,fun i hi hn=>(k.block i (Nat.lt_of_lt_of_le hi h.size) hn).trans (h.block i hi hn)⟩
theorem Bel.drew {wr:Nat->Prop} {a w:World} (h:Bel wr a w):Bel wr a w.drew:=⟨h.os,h.tape,h.output,h.size,h.block⟩
theorem Bel.alloc {wr:Nat->Prop} {a w:World} (h:Bel wr a w) (o:Obj):Bel wr a (w.alloc o) :=
 h.trans ⟨rfl,rfl,rfl,by simp,fun k hk _=>Below.heap_alloc _ _ _ hk⟩
theorem Bel.setCell {wr:Nat->Prop} {a w:World} (h:Bel wr a w) {p:Addr} (hp:wr p.block) (u:Value):Bel wr a (w.setCell p u) :=
 h.trans ⟨rfl,rfl,rfl,by simp[World.setCell],fun k hk hn=>Below.heap_setCell _ _ _ _ fun e=>hn (e▸hp)⟩
theorem Bel.of_below {wr:Nat->Prop} {w w':World} (h:Below w.heap.size w w'):Bel wr w w':=⟨h.os,h.tape,h.output,h.size,fun k hk _=>h.block k hk⟩
theorem Bel.to_below {w w':World} (h:Bel (fun b=>w.heap.size<=b) w w'):Below w.heap.size w w':=⟨h.os,h.tape,h.output,h.size,fun k hk=>h.block k hk (by omega)⟩
theorem Bel.mono {wr wr':Nat->Prop} {w w':World} (h:Bel wr w w') (hs:∀ b,b<w.heap.size->wr b->wr' b):Bel wr' w w':=⟨h.os,h.tape,h.output,h.size,fun k hk hn=>h.block k hk fun q=>hn (hs k hk q)⟩
def Known (P:Program) (f:FuncId):Prop:=∃ fn,P.funcs[f]?=some fn/\(fn.name == "runtime.NumGoroutine")=false/\fn.body.isNone=false
def SRepL (S:Nat->Prop) (w:World) (xs:List AV) (vs:List Value):Prop:=xs.length=vs.length/\∀ (j:Nat) (x:AV) (u:Value),xs[j]?=some x->vs[j]?=some u->SRep S w x u
theorem SRepL.le {S:Nat->Prop} {w:World} {xs ys:List AV} {vs:List Value} (h:leL xs ys) (hv:SRepL S w xs vs):SRepL S w ys vs:=by
 obtain⟨h1,h2⟩:=leL_get h;obtain⟨g1,g2⟩:=hv;refine⟨by omega,fun j y u hy hu=>?_⟩;have hj:j<xs.length:=by
  have:=(List.getElem?_eq_some_iff.1 hy).1;omega
 exact (g2 j xs[j] u (by simp[hj]) hu).le (h2 j xs[j] y (by simp[hj]) hy)
def GOk [Gl] (S:Nat->Prop) (w:World):Prop:=∀ g,Gl.gl g=.any\/SRep S w (Gl.gl g) (.pointer (some ⟨g,0,none⟩))
theorem GOk.mono [Gl] {S S':Nat->Prop} {w w':World} (h:GOk S w) (hS:∀ b,S b->S' b) (hw:∀ b,S b->w'.heap[b]?=w.heap[b]?):GOk S' w' :=
 fun g=>(h g).imp id fun q=>q.mono hS hw
def ACalls [Gl] (P:Program) (f:FuncId) (args:List AV) (res:AV):Prop :=
 Known P f/\∀ (S:Nat->Prop) (w:World) (vs:List Value),(∀ b,S b->b<w.heap.size)->GOk S w->SRepL S w args vs ->
  Calls P f vs.toArray w fun (e:Ending) (w':World)=>∃ (v:Value) (S':Nat->Prop),e=.returned v/\Below w.heap.size w w'/\(∀ b,S b->S' b)/\(∀ b,S' b->S b\/w.heap.size<=b)/\(∀ b,S' b->b<w'.heap.size)/\SRep S' w' res v
def ACallsO [Gl] (P:Program) (f:FuncId) (args:List AV) (r:Row):Prop :=
 Known P f/\∀ (S:Nat->Prop) (w:World) (vs:List Value),(∀ b,S b->b<w.heap.size)->GOk S w->SRepL S w args vs ->
  Calls P f vs.toArray w fun (e:Ending) (w':World)=>∃ (b cap:Nat) (S':Nat->Prop) (c:Array Value),e=.returned (.slice (some ⟨b,0,none⟩) r.els.length cap)/\Below w.heap.size w w'/\(∀ b,S b->S' b)/\(∀ b,S' b->S b\/w.heap.size<=b)/\(∀ b,S' b->b<w'.heap.size) /\
   ¬ S' b/\w.heap.size<=b/\w'.heap[b]?=some (.cells c r.elem (0,0))/\c.size=cap*r.k/\r.els.length<=cap/\cap<=maxLen /\
   ∀ (x:Nat) (e:AV),r.els[x]?=some e->elB r.k e=true/\∀ (j:Nat) (y:AV),e.cells[j]?=some y->∃ u,c[x*r.k+j]?=some u/\SRep S' w' y u
def m0 (inf:Nat->RInfo) (n:Nat):RMap:=fun i=>match Nat.beq i.1 0&&Nat.blt i.2 n with | true=>some (inf i.2) | false=>none
def ACallsN [Gl] (P:Program) (f:FuncId) (args:List AV) (rows:List Row) (res:AV):Prop :=
 Known P f/\∀ (S:Nat->Prop) (w:World) (vs:List Value),(∀ b,S b->b<w.heap.size)->GOk S w->SRepL S w args vs ->
  Calls P f vs.toArray w fun (e:Ending) (w':World)=>∃ (v:Value) (S':Nat->Prop) (inf:Nat->RInfo),e=.returned v/\Below w.heap.size w w'/\(∀ b,S b->S' b)/\(∀ b,S' b->S b\/w.heap.size<=b)/\(∀ b,S' b->b<w'.heap.size) /\
   Rep (m0 inf rows.length) S' w' res v/\(∀ (k:Nat) (r:Row),rows[k]?=some r->RowOk (fun b=>w.heap.size<=b) (m0 inf rows.length) S' w' (0,k) r)/\(∀ k l:Nat,k<rows.length->l<rows.length->(inf k).b=(inf l).b->k=l)
def ACallsM [Gl] (P:Program) (f:FuncId) (args:List AV) (rows:List Row) (res:AV) (rows':List Row):Prop :=
 Known P f/\rows.length=rows'.length /\
 ∀ (S:Nat->Prop) (w:World) (vs:List Value) (inf:Nat->RInfo),(∀ b,S b->b<w.heap.size)->GOk S w ->
  (∀ (k:Nat) (r:Row),rows[k]?=some r->RowOk (fun _=>True) (m0 inf rows.length) S w (0,k) r)->(∀ k l:Nat,k<rows.length->l<rows.length->(inf k).b=(inf l).b->k=l) ->
  (args.length=vs.length/\∀ (j:Nat) (x:AV) (u:Value),args[j]?=some x->vs[j]?=some u->Rep (m0 inf rows.length) S w x u) ->
  Calls P f vs.toArray w fun (e:Ending) (w':World)=>∃ (v:Value) (S':Nat->Prop),e=.returned v/\Bel (fun b=>w.heap.size<=b\/∃ k,k<rows.length/\(inf k).b=b) w w'/\(∀ b,S b->S' b)/\(∀ b,S' b->S b\/w.heap.size<=b)/\(∀ b,S' b->b<w'.heap.size)/\SRep S' w' res v /\
   ∀ (k:Nat) (r:Row),rows'[k]?=some r->AV.closedL r.els=true/\RowOk (fun _=>True) (m0 inf rows.length) S' w' (0,k) r
end
section
open Go Go.RowKit
variable [Gl]
def forceA (v:AV) (K:AV->Prop):Prop :=
 match v with
 |.lit v=>K (.lit v)
 |.sl es=>K (.sl es)
 |.sln es=>K (.sln es)
 |.agg cs=>K (.agg cs)
 |.tup vs=>K (.tup vs)
 |.own i n=>K (.own i n)
 |.osl i o n=>K (.osl i o n)
 |.ptr i x c=>K (.ptr i x c)
 |.rptr e c=>K (.rptr e c)
 |.clo f cs=>K (.clo f cs)
 |.any=>K .any
def someA {α:Type} (o:Option α) (K:α->Prop):Prop :=
 match o with
 |some x=>K x
 |none=>False
def trueA (b:Bool) (K:Prop):Prop :=
 match b with
 |true=>K
 |false=>False
def rowA (s:AS) (pre:Nat->Bool) (id:Rid) (K:Row->Prop):Prop :=
 match s.st id with
 |some r=>(match Nat.beq id.1 s.gen with
  |true=>trueA (pre id.2) (K r)
  |false=>K r)
 |none=>False
def elA (es:List AV) (x:Nat) (K:AV->Prop):Prop :=
 match x,es with
 |0,[e]=>K e
 |x,es=>∃ e,es[x]?=some e/\K e
def lenLim:Nat:=1099511627776
def optA (s:AS) (o:Option Operand) (dflt:Int) (K:Int->Prop):Prop :=
 match o with
 |none=>K dflt
 |some x=>match s.ev x with
  |.lit (.int _ n)=>K n
  |_=>False
def sliceA (size:Nat) (es:List AV) (s:AS) (lo hi mx:Option Operand) (K:Eff->Prop):Prop :=
 trueA (mx.isNone||hi.isSome) <| optA s lo 0 fun l=>optA s hi es.length fun h=>optA s mx es.length fun m =>
  (0<=l/\l<=h/\h<=m/\m<=es.length/\∀ v,es.head?=some v->v.cells.length=size)/\K { v:=.sl ((es.take h.toNat).drop l.toNat) }
def buildEls (k:Nat) (els:List AV):List (Nat×AV)->Option (List AV)
 |[]=>some els
 |(i,v)::rest=>match elB k v&&Nat.blt i els.length with
  |true=>buildEls k (els.set i v) rest
  |false=>none
def buildA (place:Nat->Option (Nat×Nat)) (s:AS) (cells:List AV):List (Nat×Operand)->Option (List AV)
 |[]=>some cells
 |(i,x)::rest=>match place i with
  |none=>none
  |some (off,size)=>match elB size (s.ev x)&&Nat.ble (off+size) cells.length with
   |true=>buildA place s (cells.take off++(s.ev x).cells++cells.drop (off+size)) rest
   |false=>none
inductive FrzV (s:AS) (F:Rid->Prop):AV->AV->Prop
 |sh (x y:AV) (h:x.closed=true) (hl:Le x y):FrzV s F x y
 |own (i:Rid) (n:Nat) (r:Row) (es:List AV) (hF:F i) (h:s.st i=some r) (hl:r.els.length=n) (hl2:es.length=n)
   (hc:∀ (j:Nat) (x y:AV),r.els[j]?=some x->es[j]?=some y->FrzV s F x y):FrzV s F (.own i n) (.sl es)
 |ptr (i:Rid) (x c:Nat) (r:Row) (e d:AV) (hF:F i) (h:s.st i=some r) (he:r.els[x]?=some e) (hd:FrzV s F e d):FrzV s F (.ptr i x c) (.rptr d c)
 |agg (cs ds:List AV) (hl:cs.length=ds.length) (h:∀ (j:Nat) (x y:AV),cs[j]?=some x->ds[j]?=some y->FrzV s F x y):FrzV s F (.agg cs) (.agg ds)
theorem FrzV.refl {s:AS} {F:Rid->Prop} {x:AV} (h:x.closed=true):FrzV s F x x:=.sh x x h (.refl x)
theorem FrzV.own' {s:AS} {F:Rid->Prop} {i:Rid} {n:Nat} {r:Row} (hF:F i) (h:s.st i=some r) (hl:r.els.length=n) (hc:∀ e∈r.els,e.closed=true):FrzV s F (.own i n) (.sl r.els) :=
 .own i n r r.els hF h hl hl fun j x y h1 h2=>by
  rw[h1] at h2;cases h2;exact .refl (hc x (List.mem_of_getElem? h1))
def frzL (s:AS) (F:Rid->Prop):List AV->List AV->Prop
 |[],[]=>True
 |x::xs,y::ys=>FrzV s F x y/\frzL s F xs ys
 |_,_=>False
def wkF (s:AS):List Rid->Prop
 |[]=>True
 |i::l=>(∃ r,s.st i=some r)/\wkF s l
def appA (s:AS) (pre:Nat->Bool) (i:Nat) (e:TypeId) (k:Nat) (x:AV) (ys:List AV) (C:Prop) (K:Eff->Prop):Prop :=
 match x with
 |.lit (.slice none 0 0)=>match ys with
  |[]=>K { v:=.lit (.slice none 0 0) }
  |y::l=>(0<(y::l).length/\(y::l).length<=lenLim/\C)/\K { v:=.own (s.gen,i) (y::l).length,new:=some ⟨e,k,y::l⟩ }
 |.own id n=>rowA s pre id fun r=>(r.els.length=n/\r.elem=e/\r.k=k/\n+ys.length<=lenLim/\C) /\
   K { v:=.own (s.gen,i) (n+ys.length),new:=some ⟨e,k,r.els++ys⟩,up:=some (id,none) }
 |_=>False
inductive MArg (ids:List Rid):AV->AV->Prop
 |sh (x y:AV) (h:x.closed=true) (hl:Le x y):MArg ids x y
 |own (k:Nat) (i:Rid) (n:Nat) (h:ids[k]?=some i):MArg ids (.own i n) (.own (0,k) n)
 |osl (k:Nat) (i:Rid) (off n:Nat) (h:ids[k]?=some i):MArg ids (.osl i off n) (.osl (0,k) off n)
def margL (ids:List Rid):List AV->List AV->Prop
 |[],[]=>True
 |x::xs,y::ys=>MArg ids x y/\margL ids xs ys
 |_,_=>False
def mrows (s:AS):List Rid->List Row->Prop
 |[],[]=>True
 |i::is,r::rs=>(s.st i=some r/\AV.closedL r.els=true)/\mrows s is rs
 |_,_=>False
mutual
def AV.mv (g:Nat):AV->AV
 |.own i n=>.own (g,i.2) n
 |.osl i o n=>.osl (g,i.2) o n
 |.ptr i x c=>.ptr (g,i.2) x c
 |.agg cs=>.agg (AV.mvL g cs)
 |.tup cs=>.tup (AV.mvL g cs)
 |.lit v=>.lit v
 |.sl es=>.sl es
 |.sln es=>.sln es
 |.rptr e c=>.rptr e c
 |.clo f cs=>.clo f cs
 |.any=>.any
def AV.mvL (g:Nat):List AV->List AV
 |[]=>[]
 |x::xs=>x.mv g::AV.mvL g xs
end
def nmt (g:Nat):Nat->List Row->List (Rid×Row)
 |_,[]=>[]
 |k,r::rs=>((g,k),⟨r.elem,r.k,AV.mvL g r.els⟩)::nmt g (k+1) rs
def callF (P:Program) (dr:Bool) (i:Nat) (s:AS) (n:FuncId) (args:List AV) (K:Eff->Prop):Prop :=
 match dr with
 |true=>trueA (AV.closedL args)
   ((∃ as res,leL args as/\ACalls P n as res/\trueA res.closed (K { v:=res })) \/
    (∃ as r,leL args as/\ACallsO P n as r/\K { v:=.own (s.gen,i) r.els.length,new:=some r })) \/
   (∃ ids as rows res,(margL ids args as/\mrows s ids rows/\ids.Nodup/\(ids.all fun id=>!Nat.beq id.1 s.gen)=true)/\ACallsM P n as rows res rows/\trueA res.closed (K { v:=res }))
 |false=>(∃ F,wkF s F /\
   ((∃ as res,frzL s (·∈F) args as/\ACalls P n as res/\trueA res.closed (K { v:=res,fz:=F })) \/
    (∃ as r,frzL s (·∈F) args as/\ACallsO P n as r/\K { v:=.own (s.gen,i) r.els.length,new:=some r,fz:=F }) \/
    (∃ as rows res,frzL s (·∈F) args as/\ACallsN P n as rows res/\K { v:=res.mv (s.gen+1),fz:=F,mt:=nmt (s.gen+1) 0 rows }))) \/
   (∃ ids as rows res rows',(margL ids args as/\mrows s ids rows/\ids.Nodup)/\ACallsM P n as rows res rows'/\trueA res.closed (K { v:=res,mt:=ids.zip rows' }))
structure CallF (P:Program) (dr:Bool) (i:Nat) (s:AS) (n:FuncId) (args:List AV) (K:Eff->Prop):Prop where
 h:callF P dr i s n args K
def callA (P:Program) (ty:Nat->Ty) (dr:Bool) (pre:Nat->Bool) (i:Nat) (s:AS) (c:Call) (K:Eff->Prop):Prop :=
 match c.callee with
 |.value f=>(match s.ev f with
  |.lit (.func (.func n) first captured)=>match first.toList,captured.toList with
   |[],[]=>CallF P dr i s n (c.args.toList.map s.ev) K
   |_,_=>False
  |.clo n caps=>CallF P dr i s n (c.args.toList.map s.ev++caps) K
  |_=>False)
 |.builtin .len=>(match c.args.toList,c.argTypes.toList with
  |[x],t::_=>trueA (ty t).ok (match s.ev x,(ty t).d with
   |.sl es,.slice _=>K { v:=.lit (.int .i64 es.length) }
   |.sln es,.slice _=>K { v:=.lit (.int .i64 es.length) }
   |.own _ n,.slice _=>K { v:=.lit (.int .i64 n) }
   |.osl _ _ n,.slice _=>K { v:=.lit (.int .i64 n) }
   |.lit (.slice _ n _),.slice _=>K { v:=.lit (.int .i64 n) }
   |.lit (.string b),.str=>K { v:=.lit (.int .i64 b.size) }
   |_,_=>False)
  |_,_=>False)
 |.builtin .min=>(match c.args.toList with
  |[x,y]=>(match s.ev x,s.ev y with
   |.lit (.int k a),.lit (.int _ b)=>K { v:=.lit (.int k (if b<a then b else a)) }
   |_,_=>False)
  |_=>False)
 |.builtin .max=>(match c.args.toList with
  |[x,y]=>(match s.ev x,s.ev y with
   |.lit (.int k a),.lit (.int _ b)=>K { v:=.lit (.int k (if b > a then b else a)) }
   |_,_=>False)
  |_=>False)
 |.builtin .append=>(match c.args.toList,c.argTypes.toList with
  |[x,y],[t,t2]=>(match (ty t).d with
   |.slice e=>trueA (Nat.beq t t2&&(ty t).ok&&(ty e).ok&&Nat.ble (ty e).bytes 128&&elB (ty e).size (AV.ofVal (ty e).zero))
    (match s.ev y with
    |.own j m=>rowA s pre j fun r2=>trueA (Nat.beq r2.els.length m&&Nat.beq r2.k (ty e).size&&Nat.blt 0 (ty e).size) (appA s pre i e (ty e).size (s.ev x) r2.els True K)
    |.sl ys=>trueA (Nat.blt 0 (ty e).size) (appA s pre i e (ty e).size (s.ev x) ys (∀ v∈ys,elB (ty e).size v=true) K)
    |.sln ys=>trueA (Nat.blt 0 (ty e).size) (appA s pre i e (ty e).size (s.ev x) ys (∀ v∈ys,elB (ty e).size v=true) K)
    |.lit (.slice none 0 0)=>trueA (Nat.blt 0 (ty e).size) (appA s pre i e (ty e).size (s.ev x) [] (∀ v∈([]:List AV),elB (ty e).size v=true) K)
    |_=>False)
   |_=>False)
  |_,_=>False)
 |_=>False
def act (P:Program) (ty:Nat->Ty) (dr:Bool) (pre:Nat->Bool) (i:Nat) (s:AS) (op:Op) (K:Eff->Prop):Prop :=
 match op with
 |.move x=>forceA (s.ev x) fun v=>K { v }
 |.assign x=>forceA (s.ev x) fun v=>K { v }
 |.pick c a b=>(match s.ev c with
  |.lit (.bool b1)=>Br b1 (forceA (s.ev a) fun v=>K { v }) (forceA (s.ev b) fun v=>K { v })
  |_=>False)
 |.alloc t=>trueA ((ty t).ok&&elB (ty t).size (AV.ofVal (ty t).zero)) (K { v:=.ptr (s.gen,i) 0 0,new:=some ⟨t,(ty t).size,[AV.ofVal (ty t).zero]⟩ })
 |.box t x=>trueA ((ty t).ok&&elB (ty t).size (s.ev x)) (forceA (s.ev x) fun v=>K { v:=.ptr (s.gen,i) 0 0,new:=some ⟨t,(ty t).size,[v]⟩ })
 |.build t parts=>trueA ((ty t).ok&&elB (ty t).size (AV.ofVal (ty t).zero)) (match (ty t).d with
  |.struct fs=>trueA (fs.all fun f=>(ty f.2).ok)
    (someA (buildA (fun i=>(fs[i]?).map fun f=>(f.1,(ty f.2).size)) s (AV.ofVal (ty t).zero).cells parts.toList) fun cs=>K { v:=.agg cs })
  |.array _ e=>trueA (ty e).ok
    (someA (buildA (fun i=>some (i*(ty e).size,(ty e).size)) s (AV.ofVal (ty t).zero).cells parts.toList) fun cs=>K { v:=.agg cs })
  |_=>False)
 |.buildSlice t n parts=>(match (ty t).d with
  |.slice e=>trueA ((ty t).ok&&(ty e).ok&&elB (ty e).size (AV.ofVal (ty e).zero)&&Nat.ble (n*(ty e).size) 16777216&&Nat.blt 0 (ty e).size)
    (someA (buildEls (ty e).size (List.replicate n (AV.ofVal (ty e).zero)) (parts.toList.map fun p=>(p.1,s.ev p.2))) fun els =>
     match dr&&AV.closedL els with
     |true=>K { v:=.sl els }
     |false=>K { v:=.own (s.gen,i) n,new:=some ⟨e,(ty e).size,els⟩ })
  |_=>False)
 |.load t p=>(match s.ev p with
  |.ptr id x c=>rowA s pre id fun r=>elA r.els x fun e=>someA (partA (ty t) e c) fun v=>forceA v fun v=>K { v }
  |.rptr e c=>someA (partA (ty t) e c) fun v=>forceA v fun v=>K { v }
  |_=>False)
 |.store t p v=>(match s.ev p with
  |.ptr id x c=>rowA s pre id fun r=>trueA ((ty t).ok&&elB (ty t).size (s.ev v)) (elA r.els x fun e=>forceA (s.ev v) fun u=>someA (setA e c u) fun e2 =>
    K { v:=.any,up:=some (id,some ⟨r.elem,r.k,r.els.set x e2⟩) })
  |_=>False)
 |.nilCheck x=>(match s.ev x with
  |.ptr id x c=>K { v:=.ptr id x c }
  |.rptr e c=>K { v:=.rptr e c }
  |_=>False)
 |.binOp op t x y _=>trueA (ty t).ok <| binA (ty t).d op (s.ev x) (s.ev y) fun v=>K { v }
 |.unOp op _ x=>unA op (s.ev x) fun v=>K { v }
 |.convert src dst x=>trueA ((ty src).ok&&(ty dst).ok) (match (ty dst).d,s.ev x with
  |.int k,.lit (.int _ n)=>K { v:=.lit (.int k (k.wrap n)) }
  |.str,.lit (.string b)=>K { v:=.lit (.string b) }
  |.str,.own id n=>(match dr with
   |true=>False
   |false=>match (ty src).d with
    |.slice e=>trueA (ty e).ok (match (ty e).d with
     |.int .u8=>rowA s pre id fun r=>∃ ns:List Int,(r.k=1/\r.els=ns.map (fun n=>AV.lit (.int .u8 n))/\r.els.length=n)/\K { v:=.lit (.string (ns.foldl (fun r n=>r.push (UInt8.ofNat n.toNat)) ByteArray.empty)) }
     |_=>False)
    |_=>False)
  |_,_=>False)
 |.makeInterface t x=>trueA (ty t).ok (match (ty t).d,s.ev x with
  |.int _,.lit v=>K { v:=.lit (.iface t v) }
  |_,_=>False)
 |.makeFunc fn first captured=>(match fn,first.toList,captured.toList with
  |.func f,[],[]=>K { v:=.lit (.func (.func f) #[] #[]) }
  |.func f,[],caps=>(match dr with
   |true=>False
   |false=>∃ F as,wkF s F/\frzL s (·∈F) (caps.map s.ev) as/\K { v:=.clo f as,fz:=F })
  |_,_,_=>False)
 |.makeSlice t l c=>(match (ty t).d,s.ev l,s.ev c with
  |.slice e,.lit (.int _ n),.lit (.int _ m)=>trueA ((ty t).ok&&(ty e).ok&&elB (ty e).size (AV.ofVal (ty e).zero)&&Nat.ble (ty e).bytes 128&&Nat.blt 0 (ty e).size)
    ((0<=n/\n=m/\n<=(lenLim:Nat))/\K { v:=.own (s.gen,i) n.toNat,new:=some ⟨e,(ty e).size,List.replicate n.toNat (AV.ofVal (ty e).zero)⟩ })
  |_,_,_=>False)
 |.slice t x lo hi mx=>(match (ty t).d,s.ev x with
  |.str,.lit (.string b)=>trueA (ty t).ok (optA s lo 0 fun l=>optA s hi b.size fun h=>(match mx with
    |none=>(0<=l/\l<=h/\h<=b.size)/\K { v:=.lit (.string (b.extract l.toNat h.toNat)) }
    |some _=>False))
  |.slice e,.sl es=>trueA ((ty t).ok&&(ty e).ok&&Nat.blt 0 (ty e).size) (sliceA (ty e).size es s lo hi mx K)
  |.slice e,.sln es=>trueA ((ty t).ok&&(ty e).ok&&Nat.blt 0 (ty e).size) (sliceA (ty e).size es s lo hi mx K)
  |.slice e,.lit (.slice none 0 0)=>trueA ((ty t).ok&&(ty e).ok&&Nat.blt 0 (ty e).size) (sliceA (ty e).size [] s lo hi mx K)
  |.slice e,.own id n=>trueA ((ty t).ok&&(ty e).ok&&Nat.blt 0 (ty e).size&&mx.isNone) (rowA s pre id fun r=>optA s lo 0 fun l=>optA s hi n fun h =>
     (r.k=(ty e).size/\r.els.length=n/\0<=l/\l<h/\h<=n)/\K { v:=.osl id l.toNat (h-l).toNat })
  |_,_=>False)
 |.fieldAddr t p f=>trueA (ty t).ok (match (ty t).d with
  |.struct fs=>someA fs[f]? fun o=>trueA ((ty o.2).ok&&Nat.blt 0 (ty o.2).size) (match s.ev p with
   |.ptr id x c=>K { v:=.ptr id x (c+o.1) }
   |.rptr e c=>K { v:=.rptr e (c+o.1) }
   |_=>False)
  |_=>False)
 |.field t x f=>trueA (ty t).ok (match (ty t).d with
  |.struct fs=>someA fs[f]? fun o=>(match s.ev x with
   |.agg cs=>someA (partA (ty o.2) (.agg cs) o.1) fun v=>K { v }
   |_=>False)
  |_=>False)
 |.indexAddr t p x=>trueA (ty t).ok (match s.ev x with
  |.lit (.int _ n)=>(match (ty t).d,s.ev p with
   |.slice e,.sl es=>∃ v,(0<=n/\es[n.toNat]?=some v/\v.cells.length=(ty e).size/\(ty e).ok=true)/\K { v:=.rptr v 0 }
   |.slice e,.sln es=>∃ v,(0<=n/\es[n.toNat]?=some v/\v.cells.length=(ty e).size/\(ty e).ok=true)/\K { v:=.rptr v 0 }
   |.slice e,.own id m=>rowA s pre id fun r=>(r.k=(ty e).size/\(ty e).ok=true)/\(0<=n/\n<m)/\K { v:=.ptr id n.toNat 0 }
   |.slice e,.osl id off m=>rowA s pre id fun r=>(r.k=(ty e).size/\(ty e).ok=true)/\(0<=n/\n<m)/\K { v:=.ptr id (off+n.toNat) 0 }
   |.array m e,.ptr id y c=>(0<=n/\n<m/\(ty e).ok=true)/\K { v:=.ptr id y (c+n.toNat*(ty e).size) }
   |.array m e,.rptr v c=>(0<=n/\n<m/\(ty e).ok=true)/\K { v:=.rptr v (c+n.toNat*(ty e).size) }
   |_,_=>False)
  |_=>False)
 |.index t x ix=>trueA (ty t).ok (match s.ev ix with
  |.lit (.int _ n)=>(match (ty t).d,s.ev x with
   |.array m e,.agg cs=>(0<=n/\n<m)/\someA (partA (ty e) (.agg cs) (n.toNat*(ty e).size)) fun v=>forceA v fun v=>K { v }
   |.str,.lit (.string b)=>∃ u,(0<=n/\b[n.toNat]?=some u)/\K { v:=.lit (.int .u8 u.toNat) }
   |_,_=>False)
  |_=>False)
 |.extract t j=>(match s.ev t with
  |.tup vs=>someA vs[j]? fun v=>forceA v fun v=>K { v }
  |_=>False)
 |.call c=>callA P ty dr pre i s c K
 |_=>False
def down (ops:Array Oper):Nat->Nat->Nat->Bool
 |0,_,_=>false
 |f+1,j,i=>match ops[j]? with
  |some o=>o.after.toList.any (fun e=>Region.binds .any e&&Nat.beq e.on i)||o.after.toList.any (fun e=>Region.binds .any e&&down ops f e.on i)
  |none=>false
def ridOf:AV->Option Rid
 |.ptr i _ _=>some i
 |.own i _=>some i
 |.osl i _ _=>some i
 |_=>none
def ptrOp:Op->Option Nat
 |.load _ (.tmp p)=>some p
 |.store _ (.tmp p) _=>some p
 |.indexAddr _ (.tmp p) _=>some p
 |.call c=>match c.callee,c.args.toList with
  |.builtin .append,[.tmp p,_]=>some p
  |_,_=>none
 |_=>none
def cleanOp (s:AS):Op->Bool
 |.call c=>match c.args.toList with
  |[_,y]=>(ridOf (s.ev y)).isNone
  |_=>true
 |_=>true
def ridB (a b:Rid):Bool:=Nat.beq a.1 b.1&&Nat.beq a.2 b.2
theorem ridB_iff {a b:Rid}:ridB a b=true↔a=b:=by
 unfold ridB;constructor
 ·intro h;simp only[Bool.and_eq_true] at h;exact Prod.ext (Nat.eq_of_beq_eq_true h.1) (Nat.eq_of_beq_eq_true h.2)
 ·rintro rfl;simp
def findD:List Oper->Nat->Nat->Option (Nat×Op)
 |[],_,_=>none
 |o::l,k,t=>match o.dst with
  |some d=>(match Nat.beq d t with | true=>some (k,o.op) | false=>findD l (k+1) t)
  |none=>findD l (k+1) t
def ridT:AV->Option (Option Rid)
 |.ptr i _ _=>some (some i)
 |.own i _=>some (some i)
 |.osl i _ _=>some (some i)
 |.rptr _ _=>some none
 |.sl _=>some none
 |.sln _=>some none
 |.lit (.slice none _ _)=>some none
 |_=>none
def appB (ops:List Oper):Bool:=ops.any fun o=>match o.op with
 |.call c=>(match c.callee with | .builtin .append=>true | _=>false)
 |_=>false
def baseV (ty:Nat->Ty) (ops:List Oper) (s:AS):Nat->Nat->Option AV
 |0,_=>none
 |f+1,t=>match findD ops 0 t with
  |none=>some (s.fr t)
  |some (k,op)=>match op with
   |.fieldAddr t (.tmp p) fi=>(match baseV ty ops s f p with
    |some (.ptr i x c)=>(match (ty t).d with
     |.struct fs=>(match fs[fi]? with | some o=>some (.ptr i x (c+o.1)) | none=>none)
     |_=>none)
    |some (.rptr e c)=>(match (ty t).d with
     |.struct fs=>(match fs[fi]? with | some o=>some (.rptr e (c+o.1)) | none=>none)
     |_=>none)
    |_=>none)
   |.indexAddr _ (.tmp p) _=>(match baseV ty ops s f p with
    |some v=>(match ridT v with
     |some (some i)=>some (.ptr i 0 1000000)
     |some none=>some (.rptr .any 1000000)
     |none=>none)
    |none=>none)
   |.move (.tmp p)=>baseV ty ops s f p
   |.assign (.tmp p)=>baseV ty ops s f p
   |.alloc _=>some (.ptr (s.gen,k) 0 1000000)
   |.box _ _=>some (.ptr (s.gen,k) 0 1000000)
   |.buildSlice _ _ _=>(match ops.any (fun o=>match o.op with
    |.call c=>(match c.callee,c.args.toList with
     |.builtin .append,[.tmp x,_]=>Nat.beq x t
     |_,_=>false)
    |_=>false) with
    |true=>some (.own (s.gen,k) 0)
    |false=>none)
   |.load t (.tmp p)=>(match (ops.take k).any (fun o=>match o.op with | .store _ _ _=>true | _=>false)||!appB ops with
    |true=>none
    |false=>match baseV ty ops s f p with
     |some (.ptr i x c)=>(match Nat.blt c 1000000 with
      |false=>none
      |true=>(match s.st i with
       |some r=>(match r.els[x]? with | some e=>partA (ty t) e c | none=>none)
       |none=>none))
     |some (.rptr e c)=>partA (ty t) e c
     |_=>none)
   |.call c=>(match c.callee,c.args.toList with
    |.builtin .append,[x,y]=>(match (match x with | .tmp p=>baseV ty ops s f p | x=>some (s.ev x)),(match y with | .tmp p=>baseV ty ops s f p | y=>some (s.ev y)) with
     |some (.own _ _),some _=>some (.own (s.gen,k) 0)
     |some (.lit (.slice none _ _)),some (.sl (_::_))=>some (.own (s.gen,k) 0)
     |some (.lit (.slice none _ _)),some (.sln (_::_))=>some (.own (s.gen,k) 0)
     |some (.lit (.slice none _ _)),some (.sl [])=>some (.lit (.slice none 0 0))
     |some (.lit (.slice none _ _)),some (.sln [])=>some (.lit (.slice none 0 0))
     |some (.lit (.slice none _ _)),some (.lit (.slice none _ _))=>some (.lit (.slice none 0 0))
     |_,_=>none)
    |_,_=>none)
   |_=>none
def baseR (ty:Nat->Ty) (ops:List Oper) (s:AS) (f t:Nat):Option (Option Rid):=match baseV ty ops s f t with
 |some v=>ridT v
 |none=>none
def tcOf (ty:Nat->Ty) (ops:Array Oper) (s:AS) (i:Nat):Option (Option Rid) :=
 match ops[i]? with
 |some o=>(match ptrOp o.op with
  |some p=>(match o.op with
   |.call c=>(match c.args.toList with
    |[_,.tmp y]=>(match baseV ty ops.toList s 6 y with
     |some v=>(match ridT v with
      |some none=>baseR ty ops.toList s 6 p
      |_=>none)
     |none=>none)
    |_=>none)
   |_=>baseR ty ops.toList s 6 p)
  |none=>none)
 |none=>none
def ridTB:Option Rid->Option Rid->Bool
 |some a,some b=>ridB a b
 |none,none=>true
 |_,_=>false
def chk (tc:Option (Option Rid)) (s:AS) (op:Op) (K:Prop):Prop :=
 match tc with
 |none=>K
 |some id=>match ptrOp op with
  |some p=>(match ridT (s.fr p) with
   |some id'=>trueA (ridTB id id'&&cleanOp s op) K
   |none=>False)
  |none=>False
def appd (ops:Array Oper):Option Nat->Bool
 |none=>false
 |some d=>ops.toList.any fun o=>match o.op with
  |.call c=>(match c.callee,c.args.toList with
   |.builtin .append,[.tmp x,_]=>Nat.beq x d
   |_,_=>false)
  |_=>false
def drB (ops:Array Oper) (dr:Bool) (o:Oper):Bool:=match o.op with
 |.buildSlice _ _ _=>dr&&!appd ops o.dst
 |_=>dr
def stepA (P:Program) (ty:Nat->Ty) (ops:Array Oper) (tc:Nat->Option (Option Rid)) (dr:Bool) (pre:Nat->Bool) (i:Nat) (o:Oper) (s:AS) (K:AS->Prop):Prop :=
 match o.guard with
 |none=>chk (tc i) s o.op (act P ty (drB ops dr o) pre i s o.op fun e=>K (s.app i o.dst e))
 |some (j,want)=>match (ops[j]?).bind (·.dst) with
  |some d=>(match s.fr d with
   |.lit (.bool b)=>Br (b==want) (chk (tc i) s o.op (act P ty (drB ops dr o) pre i s o.op fun e=>K (s.app i o.dst e))) (K (s.put o.dst (.lit undef)))
   |.lit (.tuple _)=>K (s.put o.dst (.lit undef))
   |_=>False)
  |none=>False
def aops (P:Program) (ty:Nat->Ty) (ops:Array Oper) (tc:Nat->Option (Option Rid)) (draw:Bool):List Oper->Nat->AS->(AS->Prop)->Prop
 |[],_,s,K=>K { s with gen:=s.gen+1 }
 |o::rest,i,s,K=>stepA P ty ops tc draw (match draw with | true=>down ops ops.size i | false=>fun _=>true) i o s fun s'=>aops P ty ops tc draw rest (i+1) s' K
def muB:Op->Bool
 |.store _ _ _=>true
 |.call c=>match c.callee with | .builtin .append=>true | _=>false
 |_=>false
def accB:Op->Bool
 |.store _ _ _=>true
 |.load _ _=>true
 |.indexAddr _ _ _=>true
 |.slice _ _ _ _ _=>true
 |.call c=>match c.callee with | .builtin .append=>true | .value _=>true | _=>false
 |_=>false
def unlike:Option (Option Rid)->Option (Option Rid)->Bool
 |some a,some b=>(match a,b with
  |some a,some b=>!ridB a b
  |_,_=>true)
 |_,_=>false
def memOk (ops:Array Oper) (tc:Nat->Option (Option Rid)):Bool :=
 (List.range ops.size).all fun i=>(List.range ops.size).all fun j =>
  Nat.beq i j||(match ops[i]?,ops[j]? with
   |some a,some b=>!(muB a.op&&accB b.op)||down ops ops.size i j||down ops ops.size j i||unlike (tc i) (tc j)
   |_,_=>true)
inductive AExit where
 |normal
 |exit (id:Nat)
 |ret
abbrev Ren:=List (Rid×Rid)
def sig (s:AS):Ren->Rid->Rid
 |[],i=>i
 |(o,t)::l,i=>match ridB t i with
  |true=>(match s.st o with
   |some _=>o
   |none=>sig s l i)
  |false=>sig s l i
def isT (ρ:Ren) (i:Rid):Bool:=ρ.any fun p=>ridB p.2 i
mutual
def AV.off (ρ:Ren):AV->Bool
 |.agg cs=>AV.offL ρ cs
 |.tup vs=>AV.offL ρ vs
 |.own i _=>!isT ρ i
 |.osl i _ _=>!isT ρ i
 |.ptr i _ _=>!isT ρ i
 |_=>true
def AV.offL (ρ:Ren):List AV->Bool
 |[]=>true
 |x::xs=>x.off ρ&&AV.offL ρ xs
end
def okV (ρ:Ren) (g:Nat) (y:AV):Bool:=match ρ with
 |[]=>y.lt g
 |p::l=>y.lt g&&y.off (p::l)
def okL (ρ:Ren) (g:Nat) (ys:List AV):Bool:=match ρ with
 |[]=>AV.ltL g ys
 |p::l=>AV.ltL g ys&&AV.offL (p::l) ys
inductive RenV (s:AS) (F:List Rid) (ρ:Ren) (g:Nat):AV->AV->Prop
 |own (i:Rid) (n:Nat) (h:Nat.blt i.1 g=true):RenV s F ρ g (.own (sig s ρ i) n) (.own i n)
 |osl (i:Rid) (o n:Nat) (h:Nat.blt i.1 g=true):RenV s F ρ g (.osl (sig s ρ i) o n) (.osl i o n)
 |ptr (i:Rid) (x c:Nat) (h:Nat.blt i.1 g=true):RenV s F ρ g (.ptr (sig s ρ i) x c) (.ptr i x c)
 |le (x y:AV) (h:Le x y) (hk:okV ρ g y=true):RenV s F ρ g x y
 |frz (x y:AV) (h:FrzV s (·∈F) x y):RenV s F ρ g x y
 |agg (cs ds:List AV) (hl:cs.length=ds.length) (h:∀ (j:Nat) (x y:AV),cs[j]?=some x->ds[j]?=some y->RenV s F ρ g x y):RenV s F ρ g (.agg cs) (.agg ds)
def WkV (s:AS) (F:List Rid) (ρ:Ren) (g:Nat) (x y:AV):Prop :=
 (Le x y/\okV ρ g y=true)\/(FrzV s (·∈F) x y\/RenV s F ρ g x y)
def renL (s:AS) (F:List Rid) (ρ:Ren) (g:Nat):List AV->List AV->Prop
 |[],[]=>True
 |x::xs,y::ys=>RenV s F ρ g x y/\renL s F ρ g xs ys
 |_,_=>False
theorem renL_get {s:AS} {F:List Rid} {ρ:Ren} {g:Nat}:∀ {xs ys:List AV},renL s F ρ g xs ys->xs.length=ys.length/\∀ (j:Nat) (x y:AV),xs[j]?=some x->ys[j]?=some y->RenV s F ρ g x y
 |[],[],_=>⟨rfl,fun j x y h=>by simp at h⟩
 |x::xs,y::ys,h=>⟨by simp[(renL_get h.2).1],fun j a b ha hb=>by
  cases j with
  |zero=>simp at ha hb; subst ha hb; exact h.1
  |succ j=>exact (renL_get h.2).2 j a b (by simpa using ha) (by simpa using hb)⟩
 |[],_::_,h=>h.elim
 |_::_,[],h=>h.elim
theorem WkV.ag {s:AS} {F:List Rid} {ρ:Ren} {g:Nat} {xs ys:List AV} (h:renL s F ρ g xs ys):WkV s F ρ g (.agg xs) (.agg ys):=.inr (.inr (.agg xs ys (renL_get h).1 (renL_get h).2))
def wkFr (s:AS) (F:List Rid) (ρ:Ren) (g:Nat):List (Nat×AV)->Prop
 |[]=>True
 |(t,y)::l=>WkV s F ρ g (s.fr t) y/\wkFr s F ρ g l
def stR (s:AS) (ρ:Ren) (i:Rid):Option Row:=match ρ with
 |[]=>s.st i
 |p::l=>s.st (sig s (p::l) i)
def sigR (s:AS) (ρ:Ren) (i:Rid):Rid:=match ρ with
 |[]=>i
 |p::l=>sig s (p::l) i
inductive WkRow (s:AS) (F:List Rid) (ρ:Ren) (g:Nat) (i:Rid) (r:Row):Prop
 |same (h:stR s ρ i=some r) (hl:okL ρ g r.els=true)
 |less (els:List AV) (h:stR s ρ i=some ⟨r.elem,r.k,els⟩) (hl:els.length=r.els.length)
   (hc:∀ (j:Nat) (x y:AV),els[j]?=some x->r.els[j]?=some y->WkV s F ρ g x y)
def wkSt (s:AS) (F:List Rid) (ρ:Ren) (g:Nat):List (Rid×Row)->Prop
 |[]=>True
 |(i,r)::l=>(WkRow s F ρ g i r/\sigR s ρ i∉F/\i.1<g)/\wkSt s F ρ g l
def injB (f:Rid->Rid):List (Rid×Row)->Bool
 |[]=>true
 |(i,_)::l=>l.all (fun j=>ridB i j.1||!ridB (f i) (f j.1))&&injB f l
def wkI (s:AS) (F:List Rid) (ρ:Ren) (st:List (Rid×Row)):Prop :=
 match ρ with
 |[]=>wkF s F
 |p::l=>wkF s F/\(injB (sig s (p::l)) st&&(p::l).all fun q=>Nat.blt 0 q.2.1)=true
def asFr:List (Nat×AV)->Nat->AV
 |[],_=>.any
 |(t,y)::l,u=>match Nat.beq u t with | true=>y | false=>asFr l u
def asSt:List (Rid×Row)->Rid->Option Row
 |[],_=>none
 |(i,r)::l,u=>match Nat.beq u.1 i.1&&Nat.beq u.2 i.2 with | true=>some r | false=>asSt l u
def mkS (fr:List (Nat×AV)) (st:List (Rid×Row)) (g:Nat):AS:=⟨asFr fr,asSt st,g⟩
def Wk (s:AS) (F:List Rid) (ρ:Ren) (fr:List (Nat×AV)) (st:List (Rid×Row)) (g:Nat):Prop :=
 wkI s F ρ st/\wkFr s F ρ g fr/\wkSt s F ρ g st
structure Inv where
 F:List Rid:=[]
 ren:Ren:=[]
 fr:List (Nat×AV)
 st:List (Rid×Row):=[]
 g:Nat
 pos:Nat.blt 0 g=true:=by rfl
def awp (P:Program) (ty:Nat->Ty) (N:Nat):Code->AS->(AExit->AS->Prop)->Prop
 |.skip,s,Q=>Q .normal s
 |.label _,s,Q=>Q .normal s
 |.region _ ops draw,s,Q=>match draw with
  |true=>(Region.lexB .any ops&&memOk ops (tcOf ty ops s))=true/\aops P ty ops (tcOf ty ops s) true ops.toList 0 s (Q .normal)
  |false=>aops P ty ops (fun _=>none) false ops.toList 0 s (Q .normal)
 |.seq a b,s,Q=>awp P ty N a s fun e s'=>match e with
  |.normal=>awp P ty N b s' Q
  |.exit i=>Q (.exit i) s'
  |.ret=>Q .ret s'
 |.cond c x y,s,Q=>(match s.ev c with
  |.lit (.bool b)=>Br b (awp P ty N x s Q) (awp P ty N y s Q)
  |_=>False)
 |.block id c,s,Q=>awp P ty N c s fun e s'=>match e with
  |.normal=>Q .normal s'
  |.exit i=>match Nat.beq i id with | true=>Q .normal s' | false=>Q (.exit i) s'
  |.ret=>Q .ret s'
 |.loop c,s,Q=>∃ (α:Type) (p:α->Prop) (inv:α->Inv) (μ:α->Nat) (x0:α),p x0/\Wk s (inv x0).F (inv x0).ren (inv x0).fr (inv x0).st (inv x0).g /\
   ∀ x,p x->awp P ty N c (mkS (inv x).fr (inv x).st (inv x).g) fun e s'=>match e with
    |.normal=>∃ y,p y/\Wk s' (inv y).F (inv y).ren (inv y).fr (inv y).st (inv y).g/\μ y < μ x
    |.exit i=>Q (.exit i) s'
    |.ret=>Q .ret s'
 |.exit id,s,Q=>Q (.exit id) s
 |.ret,s,Q=>Q .ret s
 |_,_,_=>False
end
section
open Go Go.RowKit
variable [Gl]
theorem closedL_get:∀ {cs:List AV} {j:Nat} {x:AV},AV.closedL cs=true->cs[j]?=some x->x.closed=true
 |[],j,x,_,h=>by simp at h
 |c::cs,0,x,h,h2=>by simp[AV.closedL] at h h2; subst h2; exact h.1
 |c::cs,j+1,x,h,h2=>by simp[AV.closedL] at h h2; exact closedL_get h.2 h2
section
variable {m m':RMap} {S S':Nat->Prop} {w w':World}
theorem Rep.lit_inv {v u:Value} (h:Rep m S w (.lit v) u):u=v:=by
 cases h with | sh _ _ h=>cases h; rfl
theorem Rep.closed {x:AV} {v:Value} (h:Rep m S w x v) (hc:x.closed=true):SRep S w x v:=by
 induction h with
 |any v=>simp[AV.closed] at hc
 |sh x v h=>exact h
 |own i n r h=>simp[AV.closed] at hc
 |osl i off n cap r h hcap=>simp[AV.closed] at hc
 |ptr i x c r h=>simp[AV.closed] at hc
 |agg cs vs hl h ih=>exact .agg cs vs hl fun j x u h1 h2=>ih j x u h1 h2 (closedL_get (by simpa [AV.closed] using hc) h1)
 |tup cs vs hl h ih=>exact .tup cs vs hl fun j x u h1 h2=>ih j x u h1 h2 (closedL_get (by simpa [AV.closed] using hc) h1)
theorem Rep.agg_inv {cs:List AV} {u:Value} (h:Rep m S w (.agg cs) u):∃ vs,u=.agg vs/\cs.length=vs.size/\∀ (j:Nat) (x:AV) (u:Value),cs[j]?=some x->vs[j]?=some u->Rep m S w x u:=by
 cases h with
 |sh _ _ h=>cases h with | agg _ vs hl h=>exact⟨vs,rfl,hl,fun j x u h1 h2=>.sh _ _ (h j x u h1 h2)⟩
 |agg _ vs hl h=>exact⟨vs,rfl,hl,h⟩
theorem Rep.tup_inv {cs:List AV} {u:Value} (h:Rep m S w (.tup cs) u):∃ vs,u=.tuple vs/\cs.length=vs.size/\∀ (j:Nat) (x:AV) (u:Value),cs[j]?=some x->vs[j]?=some u->Rep m S w x u:=by
 cases h with
 |sh _ _ h=>cases h with | tup _ vs hl h=>exact⟨vs,rfl,hl,fun j x u h1 h2=>.sh _ _ (h j x u h1 h2)⟩
 |tup _ vs hl h=>exact⟨vs,rfl,hl,h⟩
theorem Rep.own_inv {i:Rid} {n:Nat} {u:Value} (h:Rep m S w (.own i n) u):∃ r,m i=some r/\u=.slice (some ⟨r.b,0,none⟩) n r.cap:=by
 cases h with
 |sh _ _ h=>cases h
 |own _ _ r h=>exact⟨r,h,rfl⟩
theorem Rep.osl_inv {i:Rid} {off n:Nat} {u:Value} (h:Rep m S w (.osl i off n) u):∃ r cap,m i=some r/\u=.slice (some ⟨r.b,off*r.k,none⟩) n cap/\n<=cap:=by
 cases h with
 |sh _ _ h=>cases h
 |osl _ _ _ cap r h hcap=>exact⟨r,cap,h,rfl,hcap⟩
theorem Rep.ptr_inv {i:Rid} {x c:Nat} {u:Value} (h:Rep m S w (.ptr i x c) u):∃ r,m i=some r/\u=.pointer (some ⟨r.b,x*r.k+c,none⟩):=by
 cases h with
 |sh _ _ h=>cases h
 |ptr _ _ _ r h=>exact⟨r,h,rfl⟩
theorem Rep.oneCell {x:AV} {v:Value} (h:Rep m S w x v) (h1:x.oneCell=true):v.oneCell'=true:=by
 cases h with
 |any v=>simp[AV.oneCell] at h1
 |sh _ _ h=>cases h <;> first | rfl | exact h1 | simp[AV.oneCell] at h1
 |own i n r h=>rfl
 |osl i off n cap r h hcap=>rfl
 |ptr i x c r h=>rfl
 |agg cs vs hl h=>simp[AV.oneCell] at h1
 |tup cs vs hl h=>simp[AV.oneCell] at h1
theorem cells_one {x:AV} (h:∀ cs,x≠.agg cs):x.cells=[x]:=by
 cases x <;> first | rfl | exact absurd rfl (h _)
theorem vcells_one {v:Value} (h:v.oneCell'=true):v.cells=#[v]:=by
 cases v <;> first | rfl | simp[Value.oneCell'] at h
theorem Rep.cellsAt {k:Nat} {x:AV} {v:Value} (h:Rep m S w x v) (hk:elB k x=true) :
  v.cells.size=k/\x.cells.length=k/\(∀ (j:Nat) (y:AV),x.cells[j]?=some y->∃ u,v.cells[j]?=some u/\Rep m S w y u)/\∀ u∈v.cells.toList,u.oneCell'=true:=by
 simp only[elB,Bool.and_eq_true,List.all_eq_true] at hk;obtain⟨hk,h1⟩:=hk
 replace hk:=Nat.eq_of_beq_eq_true hk
 by_cases hx:∃ cs,x=.agg cs
 ·obtain⟨cs,rfl⟩:=hx;obtain⟨vs,rfl,hl,hr⟩:=h.agg_inv;simp only[AV.cells] at hk h1;refine⟨by simp only[Value.cells]; omega,hk,?_,?_⟩
  ·intro j y hy;simp only[AV.cells] at hy;have hj:j<vs.size:=by
    have:=(List.getElem?_eq_some_iff.1 hy).1;omega
   exact⟨vs[j],by simp[Value.cells,hj],hr j y _ hy (by simp[hj])⟩
  ·intro u hu;simp only[Value.cells] at hu;obtain⟨j,hj,rfl⟩:=List.mem_iff_getElem.1 hu;have hj2:j<cs.length:=by simp at hj; omega
   exact (hr j cs[j] _ (by simp[hj2]) (by simp)).oneCell (h1 _ (List.getElem_mem hj2))
 ·have e:x.cells=[x]:=cells_one fun cs hc=>hx ⟨cs,hc⟩
  rw[e] at hk h1;have hv:=vcells_one (h.oneCell (h1 x (by simp)));rw[hv,e];simp at hk;subst hk;refine⟨rfl,rfl,?_,?_⟩
  ·intro j y hy;cases j with
   |zero=>simp at hy; subst hy; exact⟨v,rfl,h⟩
   |succ j=>simp at hy
  ·intro u hu;simp at hu;subst hu;exact h.oneCell (h1 x (by simp))
end
structure Cx where
 wr:Nat->Prop
 w0:World
 S0:Nat->Prop
 mb:RMap
structure Rel (cx:Cx) (N:Nat) (D:Nat->Prop) (m:RMap) (S:Nat->Prop) (s:AS) (a:Act) (w:World):Prop where
 defers:a.defers=[]
 size:a.tmps.size=N
 fr:∀ t,Rep m S w (s.fr t) (a.tmps.getD t undef)
 row:∀ i r,s.st i=some r->RowOk cx.wr m S w i r
 inj:∀ i j r r' x y,s.st i=some r->s.st j=some r'->m i=some x->m j=some y->x.b=y.b->i=j
 dom:∀ i x,m i=some x->i.1<s.gen\/(i.1=s.gen/\D i.2)
 sh:∀ b,S b->b<w.heap.size
 below:Bel cx.wr cx.w0 w
 base:∀ b,cx.w0.heap.size<=b->cx.wr b
 s0:∀ b,cx.S0 b->S b
 s1:∀ b,S b->cx.S0 b\/cx.wr b
 gok:GOk S w
 mb:∀ i r,cx.mb i=some r->i.1=0/\m i=some r
section
variable {cx:Cx} {N:Nat} {D D':Nat->Prop} {m m':RMap} {S S':Nat->Prop} {s:AS} {a:Act} {w w':World}
theorem Rel.ev (h:Rel cx N D m S s a w) (x:Operand):Rep m S w (s.ev x) (a.eval x):=by
 cases x with
 |tmp t=>exact h.fr t
 |const v =>
  simp only[AS.ev,Act.eval];unfold AV.ofVal;split
  ·rename_i cs;refine .sh _ _ (.agg _ _ (by simp) fun j x u h1 h2=>?_);simp only[List.getElem?_map,Array.getElem?_toList] at h1;rw[h2] at h1;simp at h1;subst h1;exact .lit u
  ·exact .sh _ _ (.lit _)
 |global g =>
  simp only[AS.ev];rcases h.gok g with h1 | h1
  ·rw[h1]; exact .any _
  ·exact .sh _ _ h1
 |func f=>exact .sh _ _ (.lit _)
theorem RowOk.mono {base:Nat->Prop} {i:Rid} {r:Row} (hm:∀ i r,m i=some r->m' i=some r) (hS:∀ b,S b->S' b) (hw:∀ b,S b->w'.heap[b]?=w.heap[b]?)
  (hb:∀ inf,m i=some inf->w'.heap[inf.b]?=w.heap[inf.b]?/\(S' inf.b->S inf.b)) (h:RowOk base m S w i r):RowOk base m' S' w' i r:=by
 obtain⟨inf,c,h1,h2,h3,h4,h5,h6,h7,h8,h9⟩:=h;refine⟨inf,c,hm _ _ h1,h2,h3,fun hs=>h4 ((hb inf h1).2 hs),(hb inf h1).1.trans h5,h6,h7,h8,fun x e he=>⟨(h9 x e he).1,fun j y hy=>?_⟩⟩;obtain⟨u,hu,hr⟩:=(h9 x e he).2 j y hy;exact⟨u,hu,hr.mono hm hS hw⟩
theorem getD_put (a:Act) (d:Nat) (v:Value) (t:Nat) (hd:d<a.tmps.size):(a.put (some d) v).tmps.getD t undef=if t=d then v else a.tmps.getD t undef:=by
 simp only[Act.put,Array.getD_eq_getD_getElem?,Array.getElem?_setIfInBounds];by_cases h:d=t
 ·subst h; simp[hd]
 ·simp[h,Ne.symm h]
theorem put_fr (s:AS) (d:Nat) (v:AV) (t:Nat):(s.put (some d) v).fr t=if t=d then v else s.fr t:=by
 simp only[AS.put];by_cases h:t=d
 ·subst h; simp
 ·rw[if_neg h];have:Nat.beq t d=false:=by
   cases hb:Nat.beq t d with
   |false=>rfl
   |true=>exact absurd (Nat.eq_of_beq_eq_true hb) h
  rw[this]
theorem put_st (s:AS) (d:Option Nat) (v:AV):(s.put d v).st=s.st:=by cases d <;> rfl
theorem put_gen (s:AS) (d:Option Nat) (v:AV):(s.put d v).gen=s.gen:=by cases d <;> rfl
theorem put_defers (a:Act) (d:Option Nat) (v:Value):(a.put d v).defers=a.defers:=by cases d <;> rfl
theorem put_size (a:Act) (d:Option Nat) (v:Value):(a.put d v).tmps.size=a.tmps.size:=by cases d <;> simp[Act.put]
theorem Rel.baseLe (h:Rel cx N D m S s a w):∀ b,w.heap.size<=b->cx.wr b:=fun b hb=>h.base b (Nat.le_trans h.below.size hb)
theorem Rel.step {i:Nat} {dst:Option Nat} {x:AV} {v:Value} {s':AS} (h:Rel cx N D m S s a w) (hd:∀ d,dst=some d->d<N)
  (hfr:s'.fr=s.fr) (hgen:s'.gen=s.gen)
  (hm:∀ i r,m i=some r->m' i=some r) (hS:∀ b,S b->S' b) (hw:∀ b,S b->w'.heap[b]?=w.heap[b]?)
  (hv:Rep m' S' w' x v)
  (hrow:∀ i r,s'.st i=some r->RowOk cx.wr m' S' w' i r)
  (hinj:∀ i j r r' x y,s'.st i=some r->s'.st j=some r'->m' i=some x->m' j=some y->x.b=y.b->i=j)
  (hdom:∀ j x,m' j=some x->m j=some x\/j=(s.gen,i))
  (hsh:∀ b,S' b->b<w'.heap.size) (hbel:Bel cx.wr cx.w0 w') (hs1:∀ b,S' b->S b\/cx.wr b) :
  Rel cx N (fun n=>D n\/n=i) m' S' (s'.put dst x) (a.put dst v) w' where
 defers:=by rw[put_defers]; exact h.defers
 size:=by rw[put_size]; exact h.size
 fr:=by
  intro t;cases dst with
  |none=>exact (hfr▸h.fr t).mono hm hS hw
  |some d =>
   have hd':d<a.tmps.size:=by rw[h.size]; exact hd d rfl
   rw[put_fr,getD_put a d v t hd'];by_cases ht:t=d
   ·rw[if_pos ht,if_pos ht]; exact hv
   ·rw[if_neg ht,if_neg ht]; exact (hfr▸h.fr t).mono hm hS hw
 row:=by rw[put_st]; exact hrow
 inj:=by rw[put_st]; exact hinj
 dom:=by
  intro j x hx;rw[put_gen,hgen];rcases hdom j x hx with h1 | rfl
  ·rcases h.dom j x h1 with h2 | ⟨h2,h3⟩
   ·exact .inl h2
   ·exact .inr ⟨h2,.inl h3⟩
  ·exact .inr ⟨rfl,.inr rfl⟩
 sh:=hsh
 below:=hbel
 base:=h.base
 s0:=fun b hb=>hS b (h.s0 b hb)
 s1:=fun b hb=>by
  rcases hs1 b hb with h1 | h1
  ·exact h.s1 b h1
  ·exact .inr h1
 gok:=h.gok.mono hS hw
 mb:=fun i r hi=>⟨(h.mb i r hi).1,hm _ _ (h.mb i r hi).2⟩
end
end
section
open Go Go.RowKit
variable [Gl]
theorem forceA_eq (v:AV) (K:AV->Prop):forceA v K=K v:=by cases v <;> rfl
theorem someA_iff {α:Type} {o:Option α} {K:α->Prop} (h:someA o K):∃ x,o=some x/\K x:=by
 cases o with
 |none=>exact h.elim
 |some x=>exact⟨x,rfl,h⟩
theorem trueA_iff {b:Bool} {K:Prop} (h:trueA b K):b=true/\K:=by
 cases b with
 |false=>exact h.elim
 |true=>exact⟨rfl,h⟩
theorem rowA_iff {s:AS} {pre:Nat->Bool} {id:Rid} {K:Row->Prop} (h:rowA s pre id K):∃ r,s.st id=some r/\(id.1=s.gen->pre id.2=true)/\K r:=by
 unfold rowA at h;split at h
 ·rename_i r hr;split at h
  ·obtain⟨h1,h2⟩:=trueA_iff h;exact⟨r,hr,fun _=>h1,h2⟩
  ·rename_i hb;refine⟨r,hr,fun e=>?_,h⟩;rw[e] at hb;simp at hb
 ·exact h.elim
theorem elA_iff {es:List AV} {x:Nat} {K:AV->Prop} (h:elA es x K):∃ e,es[x]?=some e/\K e:=by
 unfold elA at h;split at h
 ·exact⟨_,rfl,h⟩
 ·exact h
theorem optA_iff {s:AS} {o:Option Operand} {d:Int} {K:Int->Prop} (h:optA s o d K):(o=none/\K d)\/∃ x k n,o=some x/\s.ev x=.lit (.int k n)/\K n:=by
 unfold optA at h;split at h
 ·exact .inl ⟨rfl,h⟩
 ·rename_i x;split at h
  ·rename_i k n hx;exact .inr ⟨x,k,n,rfl,hx,h⟩
  ·exact h.elim
section
variable {P:Program} {cx:Cx} {N:Nat} {D:Nat->Prop} {m:RMap} {S:Nat->Prop} {s:AS} {a:Act} {w:World} {i:Nat} {o:Oper} {K:Eff->Prop} {Q:Exit->Act->World->Prop}
def OpPost (cx:Cx) (N:Nat) (D:Nat->Prop) (s:AS) (i:Nat) (dst:Option Nat) (K:Eff->Prop) (a':Act) (w':World):Prop :=
 ∃ e m' S',K e/\Rel cx N (fun n=>D n\/n=i) m' S' (s.app i dst e) a' w'
theorem sound_val {x:AV} {v:Value} (hR:Rel cx N D m S s a w) (hd:∀ d,o.dst=some d->d<N)
  (hrun:(execOp a.eval o).run P w=.ok (.value v) w) (hv:Rep m S w x v) (hK:K { v:=x }):o.wp P a w (OpPost cx N D s i o.dst K) Q:=by
 unfold Oper.wp;rw[hrun];refine⟨{ v:=x },m,S,hK,?_⟩;exact hR.step (s':=s) hd rfl rfl (fun _ _ h=>h) (fun _ h=>h) (fun _ _=>rfl) hv hR.row hR.inj (fun _ _ h=>.inl h) hR.sh hR.below (fun _ h=>.inl h)
theorem run_und {t:Nat} {T:Ty} (h:TyOk P t T) (w:World):∃ d,(underlying t).run P w=.ok d w/\P.underlying t=some d/\MkOk d T.d:=by
 obtain⟨i,d,h1,h2,h3,h4,h5,h6⟩:=h;exact⟨d,run_underlying h2 w,h2,h6⟩
theorem run_size {t:Nat} {T:Ty} (h:TyOk P t T) (w:World):(sizeOf t).run P w=.ok T.size w:=by
 obtain⟨i,d,h1,h2,h3,h4,h5,h6⟩:=h;simp[sizeOf,typeInfo,h1,h3]
theorem run_zero {t:Nat} {T:Ty} (h:TyOk P t T) (w:World):(zeroValue t).run P w=.ok T.zero w:=by
 obtain⟨i,d,h1,h2,h3,h4,h5,h6⟩:=h;simp[zeroValue,typeInfo,h1,h5]
theorem run_isAgg {t:Nat} {T:Ty} (h:TyOk P t T) (w:World):(isAgg t).run P w=.ok T.d.agg w:=by
 obtain⟨d,h1,_,h3⟩:=run_und h w;unfold isAgg;rw[Sem.run_bind,h1,Result.andThen_ok];cases hT:T.d <;> rw[hT] at h3 <;> simp only[MkOk] at h3 <;> simp only[Mk.agg]
 case int k=>subst h3; rfl
 case bool=>subst h3; rfl
 case str=>subst h3; rfl
 case slice e=>subst h3; rfl
 case struct fs=>obtain⟨gs,rfl,_⟩:=h3; rfl
 case array n e=>subst h3; rfl
 case other=>cases d <;> first | rfl | exact h3.elim
theorem ofVal_closed (v:Value):SRep S w (AV.ofVal v) v:=by
 unfold AV.ofVal;split
 ·rename_i cs;refine .agg _ _ (by simp) fun j x u h1 h2=>?_
  simp only[List.getElem?_map,Array.getElem?_toList] at h1;rw[h2] at h1;simp at h1;subst h1;exact .lit u
 ·exact .lit _
theorem run_load_part {t:Nat} {T:Ty} {e x:AV} {c b off:Nat} (hT:TyOk P t T) (hp:partA T e c=some x)
  (hc:∀ (j:Nat) (y:AV),e.cells[j]?=some y->∃ u,w.cell? ⟨b,off+j,none⟩=some u/\Rep m S w y u) :
  ∃ v,(Instr.loadAt t (.pointer (some ⟨b,off+c,none⟩))).run P w=.ok v w/\Rep m S w x v:=by
 have hadd:∀ (o j:Nat),(⟨b,o,none⟩:Addr).add j=⟨b,o+j,none⟩:=fun o j=>by unfold Addr.add; split <;> simp_all
 -- a run of cells
 have many:∀ (xs:List AV) (o:Nat),(∀ (j:Nat) (y:AV),xs[j]?=some y->∃ u,w.cell? ⟨b,o+j,none⟩=some u/\Rep m S w y u) ->
   ∃ vs:List Value,(loadCells ⟨b,o,none⟩ xs.length).run P w=.ok vs.toArray w/\xs.length=vs.length/\∀ (j:Nat) (y:AV) (u:Value),xs[j]?=some y->vs[j]?=some u->Rep m S w y u:=by
  intro xs o h;have h':∀ j,∃ u,∀ y,xs[j]?=some y->w.cell? ⟨b,o+j,none⟩=some u/\Rep m S w y u:=by
   intro j;cases hx:xs[j]? with
   |none=>exact⟨default,fun y hy=>by cases hy⟩
   |some y =>
    obtain⟨u,h1,h2⟩:=h j y hx;exact⟨u,fun y' hy=>by cases hy; exact⟨h1,h2⟩⟩
  obtain⟨us,hus⟩:=Classical.axiomOfChoice h';refine⟨(List.range xs.length).map us,?_,by simp,?_⟩
  ·exact run_loadCells w _ _ us fun j hj=>by rw[hadd]; exact (hus j xs[j] (by simp[hj])).1
  ·intro j y u h1 h2;have hj:j<xs.length:=(List.getElem?_eq_some_iff.1 h1).1;simp[hj] at h2;subst h2;exact (hus j y h1).2
 unfold partA at hp;simp only[Instr.loadAt,Instr.sureAddr,pure_bind,loadVar,Sem.run_bind,run_isAgg hT,run_size hT,Result.andThen_ok];split at hp
 ·cases hp
 split at hp
 ·rename_i hb;simp only[Bool.and_eq_true] at hb;obtain⟨⟨h1,h2⟩,h3⟩:=hb;have e1:=Nat.eq_of_beq_eq_true h1;have e2:=Nat.eq_of_beq_eq_true h2;simp only[Option.some.injEq] at hp;subst hp e1;by_cases hx:∃ cs,e=.agg cs
  ·obtain⟨cs,rfl⟩:=hx;simp only[AV.cells] at e2 hc;simp only at h3;obtain⟨vs,hr,hl,hv⟩:=many cs off hc;rw[h3];refine⟨.agg vs.toArray,?_,.agg _ _ (by simpa using hl) fun j y u q1 q2=>hv j y u q1 (by simpa using q2)⟩;simp[run_size hT,<- e2,hr]
  ·have ec:e.cells=[e]:=cells_one fun cs h=>hx ⟨cs,h⟩
   have h3':T.d.agg=false:=by
    cases e <;> first | (simpa using h3) | exact absurd ⟨_,rfl⟩ hx
   rw[h3'];obtain⟨u,q1,q2⟩:=hc 0 e (by rw[ec]; rfl);simp only[Nat.add_zero] at q1 ⊢;exact⟨u,by simp[q1],q2⟩
 ·split at hp
  ·rename_i hagg;split at hp
   ·rename_i hle;have hle':=Nat.le_of_ble_eq_true hle;simp only[Option.some.injEq] at hp;subst hp;have hlen:((e.cells.drop c).take T.size).length=T.size:=by simp; omega
    obtain⟨vs,hr,hl,hv⟩:=many ((e.cells.drop c).take T.size) (off+c) (fun j y hy=>by
     have hj:j<T.size:=by
      have:=(List.getElem?_eq_some_iff.1 hy).1;omega
     rw[List.getElem?_take_of_lt hj,List.getElem?_drop] at hy;obtain⟨u,q1,q2⟩:=hc (c+j) y hy;exact⟨u,by rw[Nat.add_assoc]; exact q1,q2⟩)
    rw[hagg];refine⟨.agg vs.toArray,?_,.agg _ _ (by simpa using hl) fun j y u q1 q2=>hv j y u q1 (by simpa using q2)⟩;rw[hlen] at hr;simp[run_size hT,hr]
   ·cases hp
  ·rename_i hagg;rw[hagg];obtain⟨u,q1,q2⟩:=hc c x hp;exact⟨u,by simp[q1],q2⟩
end
end
section
open Go Go.RowKit
variable [Gl]
def mset (m:RMap) (id:Rid) (inf:RInfo):RMap:=fun j=>if j=id then some inf else m j
section
variable {P:Program} {cx:Cx} {N:Nat} {D:Nat->Prop} {m:RMap} {S:Nat->Prop} {s:AS} {a:Act} {w w':World} {i:Nat} {dst:Option Nat}
theorem Rel.fresh (hR:Rel cx N D m S s a w) (hD:¬ D i):m (s.gen,i)=none:=by
 cases h:m (s.gen,i) with
 |none=>rfl
 |some x =>
  rcases hR.dom _ x h with h1 | ⟨_,h1⟩
  ·exact absurd h1 (Nat.lt_irrefl _)
  ·exact absurd h1 hD
theorem mset_sub {id:Rid} {inf:RInfo} (h:m id=none):∀ j r,m j=some r->mset m id inf j=some r:=by
 intro j r hj;unfold mset;by_cases e:j=id
 ·subst e; rw[h] at hj; cases hj
 ·rw[if_neg e]; exact hj
theorem mset_self (m:RMap) (id:Rid) (inf:RInfo):mset m id inf id=some inf:=by simp[mset]
theorem RowOk.lt {base:Nat->Prop} {i:Rid} {r:Row} {inf:RInfo} (h:RowOk base m S w i r) (hi:m i=some inf):inf.b<w.heap.size:=by
 obtain⟨inf',c,h1,_,_,_,h5,_⟩:=h;rw[hi] at h1;cases h1;exact (Array.getElem?_eq_some_iff.1 h5).1
def dropUp (st:Rid->Option Row):Option (Rid×Option Row)->Rid->Option Row
 |some (j,r)=>upd st j r
 |none=>st
theorem Rel.new {x:AV} {v:Value} {r:Row} {cap:Nat} {c:Array Value} {up:Option (Rid×Option Row)} (hR:Rel cx N D m S s a w) (hd:∀ d,dst=some d->d<N) (hD:¬ D i)
  (hup:∀ id q,up=some (id,q)->q=none)
  (hb:Bel cx.wr w w') (hold:∀ k,k<w.heap.size->w'.heap[k]?=w.heap[k]?) (hnew:w'.heap[w.heap.size]?=some (.cells c r.elem (0,0)))
  (hc:c.size=cap*r.k) (hl:r.els.length<=cap) (hm:cap<=maxLen)
  (hels:∀ (x:Nat) (e:AV),r.els[x]?=some e->elB r.k e=true/\∀ (j:Nat) (y:AV),e.cells[j]?=some y->∃ u,c[x*r.k+j]?=some u/\Rep m S w y u)
  (hv:Rep (mset m (s.gen,i) ⟨w.heap.size,cap,r.k⟩) S w' x v) :
  Rel cx N (fun n=>D n\/n=i) (mset m (s.gen,i) ⟨w.heap.size,cap,r.k⟩) S (s.app i dst { v:=x,new:=some r,up:=up }) (a.put dst v) w':=by
 have hf:=hR.fresh hD;have hsub:=mset_sub (inf:=⟨w.heap.size,cap,r.k⟩) hf;have hSw:∀ b,S b->w'.heap[b]?=w.heap[b]?:=fun b hb=>hold b (hR.sh b hb)
 have hst1:∀ j q,dropUp s.st up j=some q->s.st j=some q:=by
  intro j q h;unfold dropUp at h;split at h
  ·rename_i j' r';have:=hup j' r' rfl;subst this;unfold upd at h;split at h
   ·cases h
   ·exact h
  ·exact h
 have hst:∀ j q,upd (dropUp s.st up) (s.gen,i) (some r) j=some q->(j=(s.gen,i)/\q=r)\/(j≠(s.gen,i)/\s.st j=some q):=by
  intro j q h;unfold upd at h;by_cases e:j=(s.gen,i)
  ·rw[if_pos e] at h; cases h; exact .inl ⟨e,rfl⟩
  ·rw[if_neg e] at h; exact .inr ⟨e,hst1 j q h⟩
 have hms:∀ j z,mset m (s.gen,i) ⟨w.heap.size,cap,r.k⟩ j=some z->j≠(s.gen,i)->m j=some z:=by
  intro j z h e;unfold mset at h;rwa [if_neg e] at h
 have hlt:=(Array.getElem?_eq_some_iff.1 hnew).1;have key:Rel cx N (fun n=>D n\/n=i) (mset m (s.gen,i) ⟨w.heap.size,cap,r.k⟩) S (AS.put { s with st:=upd (dropUp s.st up) (s.gen,i) (some r) } dst x) (a.put dst v) w':=by
  refine hR.step (w':=w') (i:=i) (s':={ s with st:=upd (dropUp s.st up) (s.gen,i) (some r) }) hd rfl rfl hsub (fun _ h=>h) hSw hv ?_ ?_ ?_ ?_ ?_ (fun _ h=>.inl h)
  ·intro j q hq;rcases hst j q hq with ⟨rfl,rfl⟩ | ⟨e,hq⟩
   ·refine⟨⟨w.heap.size,cap,q.k⟩,c,mset_self _ _ _,rfl,hR.baseLe _ (Nat.le_refl _),fun hs=>absurd (hR.sh _ hs) (Nat.lt_irrefl _),hnew,hc,hl,hm,fun x e he=>⟨(hels x e he).1,fun j y hy=>?_⟩⟩;obtain⟨u,h1,h2⟩:=(hels x e he).2 j y hy;exact⟨u,h1,h2.mono hsub (fun _ h=>h) hSw⟩
   ·exact (hR.row j q hq).mono hsub (fun _ h=>h) hSw fun inf hi=>⟨hold _ ((hR.row j q hq).lt hi),fun h=>h⟩
  ·intro j1 j2 q1 q2 z1 z2 h1 h2 h3 h4 h5;rcases hst j1 q1 h1 with ⟨e1,rfl⟩ | ⟨e1,g1⟩
   ·rcases hst j2 q2 h2 with ⟨e2,_⟩ | ⟨e2,g2⟩
    ·rw[e1,e2]
    ·rw[e1,mset_self] at h3;cases h3;have:=(hR.row j2 q2 g2).lt (hms j2 z2 h4 e2);simp only at h5;omega
   ·rcases hst j2 q2 h2 with ⟨e2,rfl⟩ | ⟨e2,g2⟩
    ·rw[e2,mset_self] at h4;cases h4;have:=(hR.row j1 q1 g1).lt (hms j1 z1 h3 e1);simp only at h5;omega
    ·exact hR.inj j1 j2 q1 q2 z1 z2 g1 g2 (hms _ _ h3 e1) (hms _ _ h4 e2) h5
  ·intro j z hz;by_cases e:j=(s.gen,i)
   ·exact .inr e
   ·exact .inl (hms j z hz e)
  ·intro b hb;have:=hR.sh b hb;omega
  ·exact hR.below.trans hb
 have:s.app i dst { v:=x,new:=some r,up:=up }=AS.put { s with st:=upd (dropUp s.st up) (s.gen,i) (some r) } dst x:=by
  unfold AS.app dropUp;cases up with
  |none=>rfl
  |some p=>cases p; rfl
 rw[this];exact key
theorem Rel.set {r r':Row} {id:Rid} {inf:RInfo} {c c':Array Value} {v:Value} {x:AV} (hR:Rel cx N D m S s a w) (hd:∀ d,dst=some d->d<N)
  (hrow:s.st id=some r) (hinf:m id=some inf) (hc0:w.heap[inf.b]?=some (.cells c r.elem (0,0)))
  (he:r'.elem=r.elem) (hk:r'.k=r.k) (hl:r'.els.length=r.els.length) (hsz:c'.size=c.size)
  (hb:Bel cx.wr w w') (hold:∀ k,k≠inf.b->w'.heap[k]?=w.heap[k]?) (hnew:w'.heap[inf.b]?=some (.cells c' r.elem (0,0)))
  (hels:∀ (x:Nat) (e:AV),r'.els[x]?=some e->elB r.k e=true/\∀ (j:Nat) (y:AV),e.cells[j]?=some y->∃ u,c'[x*r.k+j]?=some u/\Rep m S w y u)
  (hv:Rep m S w' x v) :
  Rel cx N (fun n=>D n\/n=i) m S (s.app i dst { v:=x,up:=some (id,some r') }) (a.put dst v) w':=by
 have hro:=hR.row id r hrow;have hrowok:=hro;obtain⟨inf',c2,h1,h2,h3,h4,h5,h6,h7,h8,h9⟩:=hro;have e1:inf'=inf:=Option.some.inj (h1.symm.trans hinf);subst e1;have e2:c2=c:=by rw[hc0] at h5; injection h5 with h5; injection h5 with h5; exact h5.symm
 subst e2;have hSw:∀ b,S b->w'.heap[b]?=w.heap[b]?:=fun b hb=>hold b fun e=>h4 (e▸hb)
 refine hR.step (w':=w') (i:=i) (s':={ s with st:=upd s.st id (some r') }) hd rfl rfl (fun _ _ h=>h) (fun _ h=>h) hSw hv ?_ ?_ (fun _ _ h=>.inl h) ?_ (hR.below.trans hb) (fun _ h=>.inl h)
 ·intro j q hq;simp only[upd] at hq;by_cases e:j=id
  ·rw[if_pos e] at hq;cases hq;subst e;refine⟨inf',c',hinf,h2.trans hk.symm,h3,h4,he▸hnew,by rw[hsz,hk]; exact h6,by omega,h8,fun x e he=>⟨hk▸(hels x e he).1,fun j y hy=>?_⟩⟩;obtain⟨u,q1,q2⟩:=(hels x e he).2 j y hy;exact⟨u,by rw[hk]; exact q1,q2.mono (fun _ _ h=>h) (fun _ h=>h) hSw⟩
  ·rw[if_neg e] at hq;refine (hR.row j q hq).mono (fun _ _ h=>h) (fun _ h=>h) hSw fun inf2 hi=>⟨hold _ fun eb=>e (hR.inj j id q r inf2 inf' hq hrow hi hinf eb),fun h=>h⟩
 ·intro j1 j2 q1 q2 z1 z2 g1 g2 g3 g4 g5;have aux:∀ j q,upd s.st id (some r') j=some q->∃ q',s.st j=some q':=by
   intro j q h;unfold upd at h;by_cases e:j=id
   ·subst e; exact⟨r,hrow⟩
   ·rw[if_neg e] at h; exact⟨q,h⟩
  obtain⟨p1,hp1⟩:=aux j1 q1 g1;obtain⟨p2,hp2⟩:=aux j2 q2 g2;exact hR.inj j1 j2 p1 p2 z1 z2 hp1 hp2 g3 g4 g5
 ·intro b hb2;have h10:=hR.sh b hb2;have:=hb.size;omega
theorem Rel.renew {r r':Row} {id:Rid} {inf:RInfo} {c c':Array Value} {v:Value} {x:AV} (hR:Rel cx N D m S s a w) (hd:∀ d,dst=some d->d<N) (hD:¬ D i)
  (hrow:s.st id=some r) (hinf:m id=some inf) (hc0:w.heap[inf.b]?=some (.cells c r.elem (0,0)))
  (he:r'.elem=r.elem) (hk:r'.k=r.k) (hl:r'.els.length<=inf.cap) (hsz:c'.size=c.size)
  (hb:Bel cx.wr w w') (hold:∀ k,k≠inf.b->w'.heap[k]?=w.heap[k]?) (hnew:w'.heap[inf.b]?=some (.cells c' r.elem (0,0)))
  (hels:∀ (x:Nat) (e:AV),r'.els[x]?=some e->elB r.k e=true/\∀ (j:Nat) (y:AV),e.cells[j]?=some y->∃ u,c'[x*r.k+j]?=some u/\Rep m S w y u)
  (hv:Rep (mset m (s.gen,i) inf) S w' x v) :
  Rel cx N (fun n=>D n\/n=i) (mset m (s.gen,i) inf) S (s.app i dst { v:=x,new:=some r',up:=some (id,none) }) (a.put dst v) w':=by
 have hf:=hR.fresh hD;have hsub:=mset_sub (inf:=inf) hf;have hne:id≠(s.gen,i):=fun e=>by rw[e,hf] at hinf; cases hinf
 have hro:=hR.row id r hrow;obtain⟨inf',c2,h1,h2,h3,h4,h5,h6,h7,h8,h9⟩:=hro;have e1:inf'=inf:=Option.some.inj (h1.symm.trans hinf);subst e1;have e2:c2=c:=by rw[hc0] at h5; injection h5 with h5; injection h5 with h5; exact h5.symm
 subst e2;have hSw:∀ b,S b->w'.heap[b]?=w.heap[b]?:=fun b hb=>hold b fun e=>h4 (e▸hb)
 have hst:∀ j q,upd (upd s.st id none) (s.gen,i) (some r') j=some q->(j=(s.gen,i)/\q=r')\/(j≠(s.gen,i)/\j≠id/\s.st j=some q):=by
  intro j q h;unfold upd at h;by_cases e:j=(s.gen,i)
  ·rw[if_pos e] at h; cases h; exact .inl ⟨e,rfl⟩
  ·rw[if_neg e] at h;by_cases e2:j=id
   ·rw[if_pos e2] at h; cases h
   ·rw[if_neg e2] at h; exact .inr ⟨e,e2,h⟩
 have hms:∀ j z,mset m (s.gen,i) inf' j=some z->j≠(s.gen,i)->m j=some z:=by
  intro j z h e;unfold mset at h;rwa [if_neg e] at h
 refine hR.step (w':=w') (i:=i) (s':={ s with st:=upd (upd s.st id none) (s.gen,i) (some r') }) hd rfl rfl hsub (fun _ h=>h) hSw hv ?_ ?_ ?_ ?_ (hR.below.trans hb) (fun _ h=>.inl h)
 ·intro j q hq;rcases hst j q hq with ⟨rfl,rfl⟩ | ⟨e,e2,hq⟩
  ·refine⟨inf',c',mset_self _ _ _,h2.trans hk.symm,h3,h4,he▸hnew,by rw[hsz,hk]; exact h6,hl,h8,fun x e he=>⟨hk▸(hels x e he).1,fun j y hy=>?_⟩⟩;obtain⟨u,q1,q2⟩:=(hels x e he).2 j y hy;exact⟨u,by rw[hk]; exact q1,q2.mono hsub (fun _ h=>h) hSw⟩
  ·refine (hR.row j q hq).mono hsub (fun _ h=>h) hSw fun inf2 hi=>⟨hold _ fun eb=>e2 (hR.inj j id q r inf2 inf' hq hrow hi hinf eb),fun h=>h⟩
 ·intro j1 j2 q1 q2 z1 z2 g1 g2 g3 g4 g5;rcases hst j1 q1 g1 with ⟨e1,rfl⟩ | ⟨e1,f1,p1⟩
  ·rcases hst j2 q2 g2 with ⟨e2,_⟩ | ⟨e2,f2,p2⟩
   ·rw[e1,e2]
   ·rw[e1,mset_self] at g3;cases g3;exact absurd (hR.inj j2 id q2 r z2 inf' p2 hrow (hms _ _ g4 e2) hinf g5.symm) f2
  ·rcases hst j2 q2 g2 with ⟨e2,rfl⟩ | ⟨e2,f2,p2⟩
   ·rw[e2,mset_self] at g4;cases g4;exact absurd (hR.inj j1 id q1 r z1 inf' p1 hrow (hms _ _ g3 e1) hinf g5) f1
   ·exact hR.inj j1 j2 q1 q2 z1 z2 p1 p2 (hms _ _ g3 e1) (hms _ _ g4 e2) g5
 ·intro j z hz;by_cases e:j=(s.gen,i)
  ·exact .inr e
  ·exact .inl (hms j z hz e)
 ·intro b hb2;have h10:=hR.sh b hb2;have:=hb.size;omega
end
end
section
open Go Go.RowKit
variable [Gl]
theorem cells_closed {e:AV} {j:Nat} {y:AV} (h:e.closed=true) (hy:e.cells[j]?=some y):y.closed=true:=by
 cases e with
 |agg cs=>exact closedL_get (cs:=cs) (by simpa [AV.closed] using h) hy
 |_=>cases j <;> simp[AV.cells] at hy; subst hy; exact h
theorem Le.shape {x y:AV} (h:Le x y):(∃ cs ds,x=.agg cs/\y=.agg ds/\cs.length=ds.length/\∀ (j:Nat) (x y:AV),cs[j]?=some x->ds[j]?=some y->Le x y)\/(x.cells=[x]/\y.cells=[y]):=by
 cases h with
 |refl =>
  by_cases hx:∃ cs,x=.agg cs
  ·obtain⟨cs,rfl⟩:=hx;exact .inl ⟨cs,cs,rfl,rfl,rfl,fun j x y h1 h2=>by rw[h1] at h2; cases h2; exact .refl _⟩
  ·have:=cells_one fun cs h=>hx ⟨cs,h⟩
   exact .inr ⟨this,this⟩
 |nil=>exact .inr ⟨rfl,rfl⟩
 |sln es=>exact .inr ⟨rfl,rfl⟩
 |agg cs ds hl h=>exact .inl ⟨cs,ds,rfl,rfl,hl,h⟩
 |tup cs ds hl h=>exact .inr ⟨rfl,rfl⟩
theorem Le.one {x y:AV} (h:Le x y) (h1:x.oneCell=true):y.oneCell=true:=by
 cases h with
 |refl=>exact h1
 |nil=>rfl
 |sln es=>rfl
 |agg cs ds hl h=>simp[AV.oneCell] at h1
 |tup cs ds hl h=>simp[AV.oneCell] at h1
theorem Le.elB {x y:AV} {k:Nat} (h:Le x y) (hk:elB k x=true):Abs.elB k y=true:=by
 simp only[Abs.elB,Bool.and_eq_true,List.all_eq_true] at hk ⊢;obtain⟨hk,h1⟩:=hk;rcases h.shape with ⟨cs,ds,rfl,rfl,hl,hp⟩ | ⟨q1,q2⟩
 ·simp only[AV.cells] at hk h1 ⊢;refine⟨by rw[<- hl]; exact hk,fun y hy=>?_⟩;obtain⟨j,hj,rfl⟩:=List.mem_iff_getElem.1 hy;have hj2:j<cs.length:=by omega
  exact (hp j cs[j] ds[j] (by simp[hj2]) (by simp[hj])).one (h1 _ (List.getElem_mem hj2))
 ·rw[q1] at hk h1;rw[q2];exact⟨hk,fun z hz=>by simp at hz; subst hz; exact h.one (h1 x (by simp))⟩
theorem Le.cell {x y:AV} {j:Nat} {b:AV} (h:Le x y) (hy:y.cells[j]?=some b):∃ a,x.cells[j]?=some a/\Le a b:=by
 rcases h.shape with ⟨cs,ds,rfl,rfl,hl,hp⟩ | ⟨q1,q2⟩
 ·simp only[AV.cells] at hy ⊢;have hj:j<cs.length:=by
   have:=(List.getElem?_eq_some_iff.1 hy).1;omega
  exact⟨cs[j],by simp[hj],hp j cs[j] b (by simp[hj]) hy⟩
 ·rw[q2] at hy;rw[q1];cases j with
  |zero=>simp at hy; subst hy; exact⟨x,rfl,h⟩
  |succ j=>simp at hy
section
variable {cx:Cx} {N:Nat} {D:Nat->Prop} {m:RMap} {S S':Nat->Prop} {s:AS} {a:Act} {w:World} {F:Rid->Prop}
theorem FrzV.shape {x y:AV} (h:FrzV s F x y):(∃ cs ds,x=.agg cs/\y=.agg ds/\cs.length=ds.length/\∀ (j:Nat) (x y:AV),cs[j]?=some x->ds[j]?=some y->FrzV s F x y)\/(x.cells=[x]/\y.cells=[y]):=by
 cases h with
 |sh _ _ h hl =>
  rcases hl.shape with ⟨cs,ds,rfl,rfl,h1,h2⟩ | h1
  ·exact .inl ⟨cs,ds,rfl,rfl,h1,fun j x y q1 q2=>.sh _ _ (closedL_get (by simpa [AV.closed] using h) q1) (h2 j x y q1 q2)⟩
  ·exact .inr h1
 |own i n r es hF h hl hl2 hc=>exact .inr ⟨rfl,rfl⟩
 |ptr i x c r e d hF h he hd=>exact .inr ⟨rfl,rfl⟩
 |agg cs ds hl h=>exact .inl ⟨cs,ds,rfl,rfl,hl,h⟩
theorem FrzV.one {x y:AV} (h:FrzV s F x y) (h1:x.oneCell=true):y.oneCell=true:=by
 cases h with
 |sh _ _ h hl=>exact hl.one h1
 |own i n r es hF h hl hl2 hc=>rfl
 |ptr i x c r e d hF h he hd=>rfl
 |agg cs ds hl h=>simp[AV.oneCell] at h1
theorem FrzV.elB {x y:AV} {k:Nat} (h:FrzV s F x y) (hk:elB k x=true):Abs.elB k y=true:=by
 simp only[Abs.elB,Bool.and_eq_true,List.all_eq_true] at hk ⊢;obtain⟨hk,h1⟩:=hk;rcases h.shape with ⟨cs,ds,rfl,rfl,hl,hp⟩ | ⟨q1,q2⟩
 ·simp only[AV.cells] at hk h1 ⊢;refine⟨by rw[<- hl]; exact hk,fun y hy=>?_⟩;obtain⟨j,hj,rfl⟩:=List.mem_iff_getElem.1 hy;have hj2:j<cs.length:=by omega
  exact (hp j cs[j] ds[j] (by simp[hj2]) (by simp[hj])).one (h1 _ (List.getElem_mem hj2))
 ·rw[q1] at hk h1;rw[q2];exact⟨hk,fun z hz=>by simp at hz; subst hz; exact h.one (h1 x (by simp))⟩
theorem FrzV.cell {x y:AV} {j:Nat} {b:AV} (h:FrzV s F x y) (hy:y.cells[j]?=some b):∃ a,x.cells[j]?=some a/\FrzV s F a b:=by
 rcases h.shape with ⟨cs,ds,rfl,rfl,hl,hp⟩ | ⟨q1,q2⟩
 ·simp only[AV.cells] at hy ⊢;have hj:j<cs.length:=by
   have:=(List.getElem?_eq_some_iff.1 hy).1;omega
  exact⟨cs[j],by simp[hj],hp j cs[j] b (by simp[hj]) hy⟩
 ·rw[q2] at hy;rw[q1];cases j with
  |zero=>simp at hy; subst hy; exact⟨x,rfl,h⟩
  |succ j=>simp at hy
theorem FrzV.own2 {i:Rid} {n:Nat} {r:Row} {es:List AV} (hF:F i) (h:s.st i=some r) (hl:r.els.length=n) (hc:AV.closedL r.els=true) (he:r.els=es):FrzV s F (.own i n) (.sl es):=by
 subst he;exact .own' hF h hl fun e he=>by
  obtain⟨j,hj,rfl⟩:=List.mem_iff_getElem.1 he;exact closedL_get hc (j:=j) (by simp[hj])
def Sfz (m:RMap) (S:Nat->Prop) (s:AS) (F:Rid->Prop) (b:Nat):Prop:=S b\/∃ i inf r,F i/\s.st i=some r/\m i=some inf/\inf.b=b
theorem RowOk.elem {base:Nat->Prop} {i:Rid} {r:Row} {inf:RInfo} (h:RowOk base m S w i r) (hi:m i=some inf) {x:Nat} {e d:AV} (he:r.els[x]?=some e) (hf:FrzV s F e d)
  (ih:∀ v,Rep m S w e v->SRep S' w d v):elB r.k d=true/\∀ (j:Nat) (y:AV),d.cells[j]?=some y->∃ u,w.cell? ⟨inf.b,x*r.k+j,none⟩=some u/\SRep S' w y u:=by
 obtain⟨inf',c,h1,h2,h3,h4,h5,h6,h7,h8,h9⟩:=h;rw[hi] at h1;cases h1;obtain⟨g1,g2⟩:=h9 x e he;refine⟨hf.elB g1,?_⟩;have cell:∀ (j:Nat) (y:AV),e.cells[j]?=some y->∃ u,w.cell? ⟨inf.b,x*r.k+j,none⟩=some u/\Rep m S w y u:=by
  intro j y hy;obtain⟨u,q1,q2⟩:=g2 j y hy;exact⟨u,by rw[cell_of_row w inf.b _ c r.elem (0,0) h5]; exact q1,q2⟩
 have h':∀ j,∃ u,∀ y,e.cells[j]?=some y->w.cell? ⟨inf.b,x*r.k+j,none⟩=some u/\Rep m S w y u:=by
  intro j;cases hx:e.cells[j]? with
  |none=>exact⟨default,fun y hy=>by cases hy⟩
  |some y =>
   obtain⟨u,h1,h2⟩:=cell j y hx;exact⟨u,fun y' hy=>by cases hy; exact⟨h1,h2⟩⟩
 obtain⟨us,hus⟩:=Classical.axiomOfChoice h';rcases hf.shape with ⟨cs,ds,rfl,rfl,hl,hp⟩ | ⟨q1,q2⟩
 ·have hv:Rep m S w (.agg cs) (.agg ((List.range cs.length).map us).toArray):=by
   refine .agg cs _ (by simp) fun j y u h1 h2=>?_
   have hj:j<cs.length:=(List.getElem?_eq_some_iff.1 h1).1;simp[hj] at h2;subst h2;exact (hus j y h1).2
  have:=ih _ hv;cases this with
  |agg _ vs hl2 hr =>
   intro j y hy;have hj:j<cs.length:=by
    have:=(List.getElem?_eq_some_iff.1 hy).1;simp only[AV.cells] at this;omega
   refine⟨us j,(hus j cs[j] (by simp[AV.cells,hj])).1,hr j y _ hy ?_⟩;simp[hj]
 ·intro j y hy;rw[q2] at hy;cases j with
  |succ j=>simp at hy
  |zero =>
   simp at hy;subst hy;have:=hus 0 e (by rw[q1]; rfl);exact⟨us 0,this.1,ih _ this.2⟩
theorem frz_sound (hR:Rel cx N D m S s a w) {x y:AV} {v:Value} (h:FrzV s F x y) (hv:Rep m S w x v):SRep (Sfz m S s F) w y v:=by
 induction h generalizing v with
 |sh x y h hl=>exact ((hv.closed h).mono (fun b hb=>.inl hb) fun _ _=>rfl).le hl
 |own i n r es hF h hl hl2 hc ih =>
  obtain⟨inf,hm,rfl⟩:=hv.own_inv;have hrow:=hR.row i r h;have el:∀ (j:Nat) (d:AV),es[j]?=some d->elB r.k d=true/\∀ (l:Nat) (y:AV),d.cells[l]?=some y->∃ u,w.cell? ⟨inf.b,j*r.k+l,none⟩=some u/\SRep (Sfz m S s F) w y u:=by
   intro j d hd;have hj:j<r.els.length:=by
    have:=(List.getElem?_eq_some_iff.1 hd).1;omega
   exact hrow.elem hm (e:=r.els[j]) (by simp[hj]) (hc j r.els[j] d (by simp[hj]) hd) fun v hv=>ih j r.els[j] d (by simp[hj]) hd hv
  refine .sl es inf.b 0 n inf.cap r.k (fun x j=>(w.cell? ⟨inf.b,0+(x*r.k+j),none⟩).getD undef) hl2 ?_ (.inr ⟨i,inf,r,hF,h,hm,rfl⟩) (fun x e hx=>(el x e hx).1) ?_ ?_
  ·obtain⟨inf',c,h1,h2,h3,h4,h5,h6,h7,h8,h9⟩:=hrow;rw[hm] at h1;cases h1;omega
  ·intro x e j y hx hy;obtain⟨u,q1,q2⟩:=(el x e hx).2 j y hy;rw[Nat.zero_add,q1];rfl
  ·intro x e j y hx hy;obtain⟨u,q1,q2⟩:=(el x e hx).2 j y hy;rw[Nat.zero_add,q1];exact q2
 |ptr i x c r e d hF h he hd ih =>
  obtain⟨inf,hm,rfl⟩:=hv.ptr_inv;have hrow:=hR.row i r h;have el:=hrow.elem hm he hd fun v hv=>ih hv
  have hk:inf.k=r.k:=by
   obtain⟨inf',c,h1,h2,_⟩:=hrow;rw[hm] at h1;cases h1;exact h2
  rw[hk];refine .rptr d c inf.b (x*r.k) (fun j=>(w.cell? ⟨inf.b,x*r.k+j,none⟩).getD undef) (.inr ⟨i,inf,r,hF,h,hm,rfl⟩) ?_ ?_ ?_
  ·have:=el.1;simp only[Abs.elB,Bool.and_eq_true] at this;exact this.2
  ·intro j y hy;obtain⟨u,q1,q2⟩:=el.2 j y hy;rw[q1];rfl
  ·intro j y hy;obtain⟨u,q1,q2⟩:=el.2 j y hy;simp only[q1];exact q2
 |agg cs ds hl h ih =>
  obtain⟨vs,rfl,hl',hr⟩:=hv.agg_inv;refine .agg ds vs (by omega) fun j y u hy hu=>?_
  have hj:j<cs.length:=by
   have:=(List.getElem?_eq_some_iff.1 hy).1;omega
  exact ih j cs[j] y (by simp[hj]) hy (hr j cs[j] u (by simp[hj]) hu)
theorem sfz_facts (hR:Rel cx N D m S s a w):(∀ b,S b->Sfz m S s F b)/\(∀ b,Sfz m S s F b->cx.S0 b\/cx.wr b)/\(∀ b,Sfz m S s F b->b<w.heap.size)/\∀ b,Sfz m S s F b->S b\/cx.wr b:=by
 refine⟨fun b hb=>.inl hb,?_,?_,?_⟩
 ·rintro b (hb | ⟨i,inf,r,_,h1,h2,rfl⟩)
  ·exact hR.s1 b hb
  ·obtain⟨inf',c,k1,_,k3,_⟩:=hR.row i r h1;rw[h2] at k1;cases k1;exact .inr k3
 ·rintro b (hb | ⟨i,inf,r,_,h1,h2,rfl⟩)
  ·exact hR.sh b hb
  ·exact (hR.row i r h1).lt h2
 ·rintro b (hb | ⟨i,inf,r,_,h1,h2,rfl⟩)
  ·exact .inl hb
  ·obtain⟨inf',c,k1,_,k3,_⟩:=hR.row i r h1;rw[h2] at k1;cases k1;exact .inr k3
theorem dropF_get {st:Rid->Option Row}:∀ {F:List Rid} {j:Rid} {r:Row},dropF st F j=some r->st j=some r/\j∉F
 |[],j,r,h=>⟨h,by simp⟩
 |i::F,j,r,h=>by
  simp only[dropF,upd] at h;split at h
  ·cases h
  ·rename_i hne;obtain⟨h1,h2⟩:=dropF_get h;exact⟨h1,by simp[hne,h2]⟩
theorem Rel.freeze {F:List Rid} (hR:Rel cx N D m S s a w):Rel cx N D m (Sfz m S s (·∈F)) { s with st:=dropF s.st F } a w:=by
 obtain⟨f1,f2,f3,f4⟩:=sfz_facts (F:=(·∈F)) hR;refine⟨hR.defers,hR.size,fun t=>(hR.fr t).mono (fun _ _ h=>h) f1 fun _ _=>rfl,?_,?_,hR.dom,f3,hR.below,hR.base,fun b hb=>f1 b (hR.s0 b hb),f2,hR.gok.mono f1 fun _ _=>rfl,hR.mb⟩
 ·intro i r hr;obtain⟨h1,h2⟩:=dropF_get hr;obtain⟨inf,c,k1,k2,k3,k4,k5,k6,k7,k8,k9⟩:=hR.row i r h1;refine⟨inf,c,k1,k2,k3,?_,k5,k6,k7,k8,fun x e he=>⟨(k9 x e he).1,fun j y hy=>?_⟩⟩
  ·rintro (h5 | ⟨i',inf',r',q0,q1,q2,q3⟩)
   ·exact k4 h5
   ·have:=hR.inj i' i r' r inf' inf q1 h1 q2 k1 q3;subst this;exact h2 q0
  ·obtain⟨u,q1,q2⟩:=(k9 x e he).2 j y hy;exact⟨u,q1,q2.mono (fun _ _ h=>h) f1 fun _ _=>rfl⟩
 ·intro i j r r' x y h1 h2 h3 h4 h5;exact hR.inj i j r r' x y (dropF_get h1).1 (dropF_get h2).1 h3 h4 h5
theorem OpPost.fz {F:List Rid} {i:Nat} {dst:Option Nat} {K:Eff->Prop} (h:OpPost cx N D { s with st:=dropF s.st F } i dst (fun e=>e.fz=[]/\K { e with fz:=F }) a w):OpPost cx N D s i dst K a w:=by
 obtain⟨e,m',S',⟨he,hK⟩,hR⟩:=h;refine⟨{ e with fz:=F },m',S',hK,?_⟩;have:s.app i dst { e with fz:=F }=({ s with st:=dropF s.st F }:AS).app i dst e:=by
  rcases e with ⟨v,n,u,f,mt⟩
  simp only at he;subst he;rfl
 rw[this];exact hR
def RepL (m:RMap) (S:Nat->Prop) (w:World) (xs:List AV) (vs:List Value):Prop:=xs.length=vs.length/\∀ (j:Nat) (x:AV) (u:Value),xs[j]?=some x->vs[j]?=some u->Rep m S w x u
theorem Rel.evl (hR:Rel cx N D m S s a w) (l:List Operand):RepL m S w (l.map s.ev) (l.map a.eval):=by
 refine⟨by simp,fun j x u hx hu=>?_⟩;simp only[List.getElem?_map,Option.map_eq_some_iff] at hx hu;obtain⟨y,hy,rfl⟩:=hx;obtain⟨z,hz,rfl⟩:=hu;rw[hy] at hz;cases hz;exact hR.ev y
theorem RepL.append {xs ys:List AV} {us vs:List Value} (h:RepL m S w xs us) (g:RepL m S w ys vs):RepL m S w (xs++ys) (us++vs):=by
 obtain⟨h1,h2⟩:=h;obtain⟨g1,g2⟩:=g;refine⟨by simp[h1,g1],fun j x u hx hu=>?_⟩;rcases Nat.lt_or_ge j xs.length with hj | hj
 ·rw[List.getElem?_append_left hj] at hx;rw[List.getElem?_append_left (by omega)] at hu;exact h2 j x u hx hu
 ·rw[List.getElem?_append_right hj] at hx;rw[List.getElem?_append_right (by omega)] at hu;rw[<- h1] at hu;exact g2 _ x u hx hu
theorem SRepL.rep {xs:List AV} {vs:List Value} (h:SRepL S w xs vs):RepL m S w xs vs:=⟨h.1,fun j x u h1 h2=>.sh _ _ (h.2 j x u h1 h2)⟩
theorem RepL.closed {xs:List AV} {vs:List Value} (h:RepL m S w xs vs) (hc:AV.closedL xs=true):SRepL S w xs vs:=⟨h.1,fun j x u h1 h2=>(h.2 j x u h1 h2).closed (closedL_get hc h1)⟩
theorem frzL_get:∀ {xs ys:List AV},frzL s F xs ys->xs.length=ys.length/\∀ (j:Nat) (x y:AV),xs[j]?=some x->ys[j]?=some y->FrzV s F x y
 |[],[],_=>⟨rfl,by simp⟩
 |x::xs,y::ys,h=>⟨by simp[(frzL_get h.2).1],fun j a b ha hb=>by
   cases j with
   |zero=>simp at ha hb; subst ha hb; exact h.1
   |succ j=>exact (frzL_get h.2).2 j a b (by simpa using ha) (by simpa using hb)⟩
 |[],_::_,h=>h.elim
 |_::_,[],h=>h.elim
theorem frzL_sound (hR:Rel cx N D m S s a w) {xs ys:List AV} {vs:List Value} (h:frzL s F xs ys) (hv:RepL m S w xs vs):SRepL (Sfz m S s F) w ys vs:=by
 obtain⟨h1,h2⟩:=frzL_get h;obtain⟨g1,g2⟩:=hv;refine⟨by omega,fun j y u hy hu=>?_⟩;have hj:j<xs.length:=by
  have:=(List.getElem?_eq_some_iff.1 hy).1;omega
 exact frz_sound hR (h2 j xs[j] y (by simp[hj]) hy) (g2 j xs[j] u (by simp[hj]) hu)
end
end
section
open Go Go.RowKit
variable [Gl]
theorem ikEq_iff {k k':IntKind} (h:ikEq k k'=true):k'=k:=by
 cases k <;> cases k' <;> first | rfl | simp[ikEq] at h
section
variable {P:Program} {cx:Cx} {N:Nat} {D:Nat->Prop} {m:RMap} {S:Nat->Prop} {s:AS} {a:Act} {w:World} {i:Nat} {o:Oper} {K:Eff->Prop} {Q:Exit->Act->World->Prop}
theorem binInt_run {op:BinOp} {t:TypeId} {k:IntKind} {a b:Int} {v:Value} (h:intBin op k a b=some v) (X Y:Operand) :
  (do eqGuard op t X Y (.int k a) (.int k b); binOp op t (.int k a) (.int k b):Sem Value).run P w=.ok v w:=by
 cases op <;> simp only[intBin,Option.some.injEq,reduceCtorEq] at h <;> subst h <;> simp[eqGuard,binOp,Op.intArith,Op.intBits,Op.intCmp]
theorem equalIn_bool {t:TypeId} (n:Nat) (a b:Bool) (h:(underlying t).run P w=.ok .bool w):(Op.equalIn (n+1) t (.bool a) (.bool b)).run P w=.ok (a==b) w:=by
 rw[Op.equalIn];simp[h]
theorem equal_bool {t:TypeId} (a b:Bool) (h:(underlying t).run P w=.ok .bool w):(Op.equal t (.bool a) (.bool b)).run P w=.ok (a==b) w:=equalIn_bool 9999 a b h
theorem equalIn_nil {t e:TypeId} (n:Nat) (l c:Nat) (a:Option Addr) (l' c':Nat) (h:(underlying t).run P w=.ok (.slice e) w):(Op.equalIn (n+1) t (.slice a l c) (.slice none l' c')).run P w=.ok a.isNone w:=by
 rw[Op.equalIn];cases a <;> simp[h]
theorem equal_nil {t e:TypeId} (l c:Nat) (a:Option Addr) (l' c':Nat) (h:(underlying t).run P w=.ok (.slice e) w):(Op.equal t (.slice a l c) (.slice none l' c')).run P w=.ok a.isNone w:=equalIn_nil 9999 l c a l' c' h
theorem binA_sound {T:Ty} {op:BinOp} {t:TypeId} {x y:AV} {u v:Value} {K:AV->Prop} (hT:TyOk P t T) (h:binA T.d op x y K) (hx:Rep m S w x u) (hy:Rep m S w y v) (X Y:Operand) :
  ∃ z vz,K z/\(do eqGuard op t X Y u v; binOp op t u v:Sem Value).run P w=.ok vz w/\Rep m S w z vz:=by
 obtain⟨d,hd1,hd2,hd3⟩:=run_und hT w;have fin:∀ {z:Value},K (.lit z)->(do eqGuard op t X Y u v; binOp op t u v:Sem Value).run P w=.ok z w ->
   ∃ z vz,K z/\(do eqGuard op t X Y u v; binOp op t u v:Sem Value).run P w=.ok vz w/\Rep m S w z vz:=fun hK hr=>⟨_,_,hK,hr,.sh _ _ (.lit _)⟩
 unfold binA at h;split at h
 case h_1 k a _ b =>
  have:=hx.lit_inv; have:=hy.lit_inv; subst_vars
  cases b with
  |negSucc b=>exact h.elim
  |ofNat b=>exact fin h (by
    have:¬ ((b:Int)<0):=by omega
    simp[eqGuard,binOp,Op.shift,this])
 case h_2 k a _ b =>
  have:=hx.lit_inv; have:=hy.lit_inv; subst_vars
  cases b with
  |negSucc b=>exact h.elim
  |ofNat b=>exact fin h (by
    have:¬ ((b:Int)<0):=by omega
    simp[eqGuard,binOp,Op.shift,this])
 case h_3 k a k' b =>
  have:=hx.lit_inv; have:=hy.lit_inv; subst_vars
  split at h
  ·rename_i hk;have:=ikEq_iff hk;subst this;cases hb:b==0 with
   |true=>rw[hb] at h; exact h.elim
   |false =>
    rw[hb] at h;have hb':¬ b=0:=by simpa using hb
    exact fin h (by simp[eqGuard,binOp,Op.intDiv,hb'])
  ·exact h.elim
 case h_4 k a k' b =>
  have:=hx.lit_inv; have:=hy.lit_inv; subst_vars
  split at h
  ·rename_i hk;have:=ikEq_iff hk;subst this;cases hb:b==0 with
   |true=>rw[hb] at h; exact h.elim
   |false =>
    rw[hb] at h;have hb':¬ b=0:=by simpa using hb
    exact fin h (by simp[eqGuard,binOp,Op.intDiv,hb'])
  ·exact h.elim
 case h_5 k a k' b _ _ _ _ =>
  have:=hx.lit_inv; have:=hy.lit_inv; subst_vars
  split at h
  ·rename_i hk;have:=ikEq_iff hk;subst this;split at h
   ·rename_i z hz;exact fin h (binInt_run hz X Y)
   ·exact h.elim
  ·exact h.elim
 case h_6 a b =>
  have:=hx.lit_inv; have:=hy.lit_inv; subst_vars
  exact fin h (by simp[eqGuard,binOp,Op.stringOp])
 case h_7 a b =>
  have:=hx.lit_inv; have:=hy.lit_inv; subst_vars
  exact fin h (by simp[eqGuard,binOp,Op.stringOp])
 case h_8 a b =>
  have:=hx.lit_inv; have:=hy.lit_inv; subst_vars
  refine fin h.2 ?_;have h1:¬ (((a.size+b.size:Nat):Int) > IntKind.i64.max):=by
   have:=h.1;simp[IntKind.max,IntKind.signed,IntKind.bits];omega
  have e:binOp .add t (.string a) (.string b)=Op.stringOp .add a b:=rfl;rw[e];simp only[Op.stringOp];rw[if_neg h1];simp[eqGuard]
 case h_9 a b =>
  have:=hx.lit_inv; have:=hy.lit_inv; subst_vars
  obtain⟨h1,h2⟩:=h;cases hm:T.d <;> rw[hm] at h1 hd3 <;> first | exact h1.elim | skip
  simp only[MkOk] at hd3;subst hd3;refine fin h2 ?_;simp[eqGuard,binOp,equal_bool _ _ hd1]
 case h_10 a b =>
  have:=hx.lit_inv; have:=hy.lit_inv; subst_vars
  obtain⟨h1,h2⟩:=h;cases hm:T.d <;> rw[hm] at h1 hd3 <;> first | exact h1.elim | skip
  simp only[MkOk] at hd3;subst hd3;refine fin h2 ?_;simp[eqGuard,binOp,equal_bool _ _ hd1]
 case h_11 =>
  have:=hx.lit_inv; have:=hy.lit_inv; subst_vars
  obtain⟨h1,h2⟩:=h;cases hm:T.d <;> rw[hm] at h1 hd3 <;> first | exact h1.elim | skip
  simp only[MkOk] at hd3;subst hd3;refine fin h2 ?_;simp[eqGuard,binOp,equal_nil _ _ _ _ _ hd1]
 case h_12 =>
  have:=hx.lit_inv; have:=hy.lit_inv; subst_vars
  obtain⟨h1,h2⟩:=h;cases hm:T.d <;> rw[hm] at h1 hd3 <;> first | exact h1.elim | skip
  simp only[MkOk] at hd3;subst hd3;refine fin h2 ?_;simp[eqGuard,binOp,equal_nil _ _ _ _ _ hd1]
 case h_13 =>
  have:=hy.lit_inv;subst this;obtain⟨h1,h2⟩:=h;cases hm:T.d <;> rw[hm] at h1 hd3 <;> first | exact h1.elim | skip
  simp only[MkOk] at hd3;subst hd3;cases hx with | sh _ _ hx=>cases hx <;> (refine fin h2 ?_; simp[eqGuard,binOp,equal_nil _ _ _ _ _ hd1])
 case h_14 =>
  have:=hy.lit_inv;subst this;obtain⟨h1,h2⟩:=h;cases hm:T.d <;> rw[hm] at h1 hd3 <;> first | exact h1.elim | skip
  simp only[MkOk] at hd3;subst hd3;cases hx with | sh _ _ hx=>cases hx <;> (refine fin h2 ?_; simp[eqGuard,binOp,equal_nil _ _ _ _ _ hd1])
 case h_15=>exact h.elim
theorem unA_sound {op:UnOp} {x:AV} {u:Value} {K:AV->Prop} (h:unA op x K) (hx:Rep m S w x u) :
  ∃ z vz,K z/\(Op.unary op u).run P w=.ok vz w/\Rep m S w z vz:=by
 unfold unA at h;split at h
 ·have:=hx.lit_inv; subst this; exact⟨_,_,h,by simp[Op.unary,Op.intArith],.sh _ _ (.lit _)⟩
 ·have:=hx.lit_inv; subst this; exact⟨_,_,h,by simp[Op.unary],.sh _ _ (.lit _)⟩
 ·have:=hx.lit_inv; subst this; exact⟨_,_,h,by simp[Op.unary,Op.intBits],.sh _ _ (.lit _)⟩
 ·exact h.elim
end
end
end Go.Proofs.YtjdkdcmpifapeaaGreatDoor.Abs
