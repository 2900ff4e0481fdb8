/- Limbs: short: division by one digit (a range over slices.Backward's function). -/
import Derived.Test.YtjdkdcmpifapeaaGreatDoorMe
import Derived.Shelf.RegionOpen
import Derived.RangeFuncCalls
set_option linter.unusedVariables false
set_option linter.unusedSectionVars false
set_option linter.unusedSimpArgs false
set_option maxHeartbeats 4000000
namespace Go.Proofs.YtjdkdcmpifapeaaGreatDoor.Abs
section
open Go Go.RowKit Go.Shelf Go.Proofs.Tryz
attribute [local go_sem] Oper.semAt_some
def u32s (o:List Nat):Array Value:=(o.map fun (y:Nat)=>Value.int .u32 (y:Int)).toArray
def ShI (A:List Nat) (d s:Nat) (pre:List (At A)) (W:World):Prop :=
 ∃ (r:Nat) (o:List Nat),r<d/\o.length=A.length/\(∀ y∈o,y<B)/\Boxed W s 207 (.int .u32 (d:Int))/\Boxed W (s+1+1) 24 (.slice (some ⟨s+1,0,none⟩) A.length A.length) /\
  Boxed W (s+1+1+1) 163 (.int .u64 (r:Int))/\W.heap[s+1]?=some (.cells (u32s o) 207 (0,0)) /\
  (pre=upto (bk A) pre.length->pre.length<=A.length->val (A.drop (A.length-pre.length))=d*val (o.drop (A.length-pre.length))+r)
theorem ShI.own (A:List Nat) (d s:Nat):Own (ShI A d s):=by
 rintro pre X Y row ⟨r,o,h1,h2,h3,h4,h5,h6,h7,h8⟩ hg hrow;have key:∀ {k:Nat} {c:Array Value} {t:TypeId},X.heap[k]?=some (.cells c t (0,0))->Y.heap[k]?=some (.cells c t (0,0)):=fun hk=>(grownBy_keeps_cells hg hrow hk rfl).trans hk
 exact⟨r,o,h1,h2,h3,key h4,key h5,key h6,key h7,h8⟩
theorem row_cell {W:World} {b m:Nat} {o:List Nat} {t:TypeId} (h:W.heap[b]?=some (.cells (u32s o) t (0,0))) (hm:m<o.length):W.cell? ⟨b,m,none⟩=some (.int .u32 (o[m]:Int))/\W.frozen? ⟨b,m,none⟩=false:=by
 constructor
 ·simp[World.cell?,h,u32s,hm]
 ·simp[World.frozen?,h]
theorem row_set {W:World} {b m:Nat} {o:List Nat} {t:TypeId} (v:Nat) (h:W.heap[b]?=some (.cells (u32s o) t (0,0))):(W.setCell ⟨b,m,none⟩ (.int .u32 (v:Int))).heap[b]?=some (.cells (u32s (o.set m v)) t (0,0)):=by
 obtain⟨hlt,hk⟩:=Array.getElem?_eq_some_iff.1 h;show (W.heap.modify b _)[b]?=_;rw[Array.getElem?_eq_getElem (by rw[Array.size_modify]; exact hlt),Array.getElem_modify_self,hk];simp[u32s,List.map_set]
theorem made_u32 (n:Nat):madeCells (Value.int .u32 0).cells (n*1)=u32s (List.replicate n 0):=by
 apply Array.ext
 ·simp[madeCells,u32s]
 ·intro i h1 h2;simp[madeCells,u32s,Value.cells,Nat.mod_one]
theorem short_step {A o:List Nat} {d r m q:Nat} (hm:m<A.length) (ho:o.length=A.length) (h:val (A.drop (m+1))=d*val (o.drop (m+1))+r) (hq:q=(r*B+A[m])/d) :
  val (A.drop m)=d*val ((o.set m q).drop m)+(r*B+A[m])%d:=by
 have e1:A.drop m=A[m]::A.drop (m+1):=List.drop_eq_getElem_cons hm;have e2:(o.set m q).drop m=q::o.drop (m+1):=by
  rw[List.drop_eq_getElem_cons (by simp; omega),List.getElem_set_self,List.drop_set_of_lt (by omega)]
 rw[e1,e2];simp only[val];rw[h,Nat.mul_add,Nat.mul_add];have h3:=Nat.div_add_mod (r*B+A[m]) d;rw[hq];have h4:B*(d*val (o.drop (m+1)))=d*(B*val (o.drop (m+1))):=by ac_rfl
 rw[h4,Nat.mul_comm B r];omega
theorem or64' {r y:Nat} (hr:r<4294967296) (hy:y<4294967296):bits BinOp.or IntKind.u64 (IntKind.u64.wrap ((r:Int)*4294967296)) (IntKind.u64.wrap (y:Int))=((r*4294967296+y:Nat):Int):=by
 have b:∀ z:Nat,z<18446744073709551616->(BitVec.ofInt IntKind.u64.bits (z:Int)).toNat=z:=fun z hz=>by
  show (BitVec.ofInt 64 (z:Int)).toNat=z;rw[BitVec.ofInt_natCast,BitVec.toNat_ofNat];exact Nat.mod_eq_of_lt hz
 have h:r*4294967296 ||| y=r*4294967296+y:=by
  rw[Nat.mul_comm];exact (Nat.two_pow_add_eq_or_of_lt (i:=32) hy r).symm
 have e1:IntKind.u64.wrap ((r:Int)*4294967296)=((r*4294967296:Nat):Int):=by
  rw[show ((r:Int)*4294967296)=((r*4294967296:Nat):Int) by simp,wU,Nat.mod_eq_of_lt (by omega)]
 have e2:IntKind.u64.wrap (y:Int)=(y:Int):=by rw[wU,Nat.mod_eq_of_lt (by omega)]
 rw[e1,e2];show IntKind.u64.wrap (((BitVec.ofInt IntKind.u64.bits ((r*4294967296:Nat):Int) ||| BitVec.ofInt IntKind.u64.bits (y:Int)).toNat:Nat):Int)=_;rw[BitVec.toNat_or,b _ (by omega),b _ (by omega),h,wU,Nat.mod_eq_of_lt (by omega)]
theorem wU_small {d:Nat} (h:d<B):IntKind.u64.wrap (d:Int)=(d:Int):=by
 rw[wU,Nat.mod_eq_of_lt (Nat.lt_trans h (by decide))]
theorem heap_set {W:World} {a:Addr} {v:Value} {k:Nat} {o:Obj} (h:k≠a.block) (hk:W.heap[k]?=some o):(W.setCell a v).heap[k]?=some o:=(Below.heap_setCell _ _ _ _ h).trans hk
theorem qdig {t d:Nat} (ht:t<d*B) (hd:0<d) (hdB:d<B):IntKind.u64.wrap ((t:Int)/(d:Int))%4294967296=((t/d:Nat):Int):=by
 have h1:t/d<B:=(Nat.div_lt_iff_lt_mul hd).2 (by rw[Nat.mul_comm]; exact ht);have e:(t:Int)/(d:Int)=((t/d:Nat):Int):=rfl;rw[e,wU_small h1];have h2:t/d<4294967296:=h1;exact Int.emod_eq_of_lt (Int.natCast_nonneg _) (by omega)
theorem short_round {A o:List Nat} {d r m s t:Nat} {pre:List (At A)} {x:At A} {w W:World} {bd:Nat} (hAB:∀ x∈A,x<B) (hd0:0<d) (hdB:d<B) (hr:r<d) (hol:o.length=A.length) (hoB:∀ y∈o,y<B)
  (c0:Boxed W s 207 (.int .u32 (d:Int))) (c2:Boxed W (s+1+1) 24 (.slice (some ⟨s+1,0,none⟩) A.length A.length)) (c3:Boxed W (s+1+1+1) 163 (.int .u64 (r:Int)))
  (c1:W.heap[s+1]?=some (.cells (u32s o) 207 (0,0))) (hval:pre=upto (bk A) pre.length->pre.length<=A.length->val (A.drop (A.length-pre.length))=d*val (o.drop (A.length-pre.length))+r)
  (hmx:x.1=m) (hm:m<A.length) (ht:r*4294967296+gd A m=t) (hB:Below s w W) :
  KeepsFrom bd W ((((W.setCell ⟨s+1+1+1,0,none⟩ (.int .u64 (t:Int))).setCell ⟨s+1,m,none⟩ (.int .u32 (IntKind.u64.wrap ((t:Int)/(d:Int))%4294967296))).setCell ⟨s+1+1+1,0,none⟩ (.int .u64 ((t:Int)%(d:Int)))).drew) /\
  KeepQ (fun k=>k<s\/k=s+1+1+1+1) W ((((W.setCell ⟨s+1+1+1,0,none⟩ (.int .u64 (t:Int))).setCell ⟨s+1,m,none⟩ (.int .u32 (IntKind.u64.wrap ((t:Int)/(d:Int))%4294967296))).setCell ⟨s+1+1+1,0,none⟩ (.int .u64 ((t:Int)%(d:Int)))).drew) /\
  ShI A d s (pre++[x]) ((((W.setCell ⟨s+1+1+1,0,none⟩ (.int .u64 (t:Int))).setCell ⟨s+1,m,none⟩ (.int .u32 (IntKind.u64.wrap ((t:Int)/(d:Int))%4294967296))).setCell ⟨s+1+1+1,0,none⟩ (.int .u64 ((t:Int)%(d:Int)))).drew) /\
  Below s w ((((W.setCell ⟨s+1+1+1,0,none⟩ (.int .u64 (t:Int))).setCell ⟨s+1,m,none⟩ (.int .u32 (IntKind.u64.wrap ((t:Int)/(d:Int))%4294967296))).setCell ⟨s+1+1+1,0,none⟩ (.int .u64 ((t:Int)%(d:Int)))).drew):=by
 have hg:gd A m<B:=gd_lt hAB;have htB:t<d*B:=by
  have h1:(r+1)*B<=d*B:=Nat.mul_le_mul_right _ hr;rw[Nat.add_mul,Nat.one_mul] at h1;unfold B at h1 hg ⊢;omega
 rw[qdig htB hd0 hdB,<- Int.natCast_emod];have hq:t/d<B:=(Nat.div_lt_iff_lt_mul hd0).2 (by rw[Nat.mul_comm]; exact htB);refine⟨?_,?_,?_,?_⟩
 ·exact ((((KeepsOthers.setCell _ _ _).trans (KeepsOthers.setCell _ _ _)).trans (KeepsOthers.setCell _ _ _)).trans (KeepsOthers.drew _)).from _
 ·refine⟨fun k hk=>?_⟩;show (((W.setCell _ _).setCell _ _).setCell _ _).heap[k]?=_;rw[Below.heap_setCell _ _ _ _ (show k≠s+1+1+1 by omega),Below.heap_setCell _ _ _ _ (show k≠s+1 by omega),Below.heap_setCell _ _ _ _ (show k≠s+1+1+1 by omega)]
 ·refine⟨t%d,o.set m (t/d),Nat.mod_lt _ hd0,by simp[hol],lt_set hoB hq,?_,?_,?_,?_,?_⟩
  ·exact heap_set (show s≠s+1+1+1 by omega) (heap_set (show s≠s+1 by omega) (heap_set (show s≠s+1+1+1 by omega) c0))
  ·exact heap_set (show s+1+1≠s+1+1+1 by omega) (heap_set (show s+1+1≠s+1 by omega) (heap_set (show s+1+1≠s+1+1+1 by omega) c2))
  ·have h1:Boxed (W.setCell ⟨s+1+1+1,0,none⟩ (.int .u64 (t:Int))) (s+1+1+1) 163 (.int .u64 (t:Int)):=c3.set _;have h2:Boxed ((W.setCell ⟨s+1+1+1,0,none⟩ (.int .u64 (t:Int))).setCell ⟨s+1,m,none⟩ (.int .u32 ((t/d:Nat):Int))) (s+1+1+1) 163 (.int .u64 (t:Int)):=heap_set (show s+1+1+1≠s+1 by omega) h1;exact h2.set _
  ·exact heap_set (show s+1≠s+1+1+1 by omega) (row_set (t/d) (heap_set (show s+1≠s+1+1+1 by omega) c1))
  ·intro h1 h2;have hl:(pre++[x]).length=pre.length+1:=by simp
   rw[hl] at h1 h2 ⊢;rw[upto_succ] at h1;obtain⟨h3,h4⟩:=List.append_inj' h1 rfl;have h5:=hval h3 (by omega);have h6:x=bk A pre.length:=by simpa using h4
   have h7:m=A.length-1-pre.length:=by rw[<- hmx,h6]; rfl
   have h8:A.length-(pre.length+1)=m:=by omega
   have h9:A.length-pre.length=m+1:=by omega
   rw[h8];rw[h9] at h5;have hgm:gd A m=A[m]:=gd_eq hm;have hte:t=r*B+A[m]:=by rw[<- hgm]; exact ht.symm
   have:=short_step hm hol h5 (q:=t/d) (by rw[hte]);rwa [<- hte] at this
 ·exact (((hB.setCell (p:=⟨s+1+1+1,0,none⟩) (by show s<=s+1+1+1; omega) _).setCell (p:=⟨s+1,m,none⟩) (by show s<=s+1; omega) _).setCell (p:=⟨s+1+1+1,0,none⟩) (by show s<=s+1+1+1; omega) _).drew
theorem u32s_rep {S:Nat->Prop} {W:World} {b:Nat} {o:List Nat} {t:TypeId} (hb:S b) (h:W.heap[b]?=some (.cells (u32s o) t (0,0))):SRep S W (lst o) (.slice (some ⟨b,0,none⟩) o.length o.length):=by
 refine .sl (o.map dg) b 0 o.length o.length 1 (fun i _=>.int .u32 (gd o i:Int)) (by simp) (Nat.le_refl _) hb ?_ ?_ ?_
 ·intro i x hx;rw[List.getElem?_map] at hx;cases hq:o[i]? with
  |none=>rw[hq] at hx; cases hx
  |some y=>rw[hq] at hx; cases hx; rfl
 ·intro i x j y hx hy;rw[List.getElem?_map] at hx;cases hq:o[i]? with
  |none=>rw[hq] at hx; cases hx
  |some z =>
   rw[hq] at hx;cases hx;have hi:i<o.length:=(List.getElem?_eq_some_iff.1 hq).1;rcases j with _ | j
   ·rw[Nat.zero_add,Nat.mul_one,Nat.add_zero,gd_eq hi];exact (row_cell h hi).1
   ·cases j <;> cases hy
 ·intro i x j y hx hy;rw[List.getElem?_map] at hx;cases hq:o[i]? with
  |none=>rw[hq] at hx; cases hx
  |some z =>
   rw[hq] at hx;cases hx;have hi:i<o.length:=(List.getElem?_eq_some_iff.1 hq).1;have he:o[i]=z:=(List.getElem?_eq_some_iff.1 hq).2;rcases j with _ | j
   ·cases hy;rw[gd_eq hi,he];exact .lit _
   ·cases j <;> cases hy
set_option maxRecDepth 100000 in
set_option maxHeartbeats 4000000 in
theorem short_in (F:Fence) (hF:∀ (m:Nat) (args:Array Value) (w:World) (post:Ending->World->Prop),Calls prog 183 args w post->CallsIn F m prog 183 args w post) (n:Nat) (h4:F.fn 239) (h6:F.fn 181) (h8:F.fn 238) (h10:F.fn 183) (hro:F.round=none) (hn:3<=n) (a:Option Addr) (cap:Nat) (A:List Nat) (hAB:∀ x∈A,x<B)
  (d:Nat) (hd0:0<d) (hdB:d<B) (hreach:A.length<=100000) (w:World) (hI:Dg (· < w.heap.size) w (.slice a A.length cap) A)
  (S:Nat->Prop) (hS:∀ b,S b->b<w.heap.size) (hG:GOk S w) :
  CallsIn F n prog 239 #[.slice a A.length cap,.int .u32 (d:Int)] w fun e W'=>∃ (v:Value) (S':Nat->Prop),e=.returned (.tuple #[v,.int .u32 ((val A%d:Nat):Int)])/\Below w.heap.size w W'/\(∀ b,S b->S' b)/\(∀ b,S' b->S b\/w.heap.size<=b)/\(∀ b,S' b->b<W'.heap.size)/\SRep S' W' (nat (val A/d)) v:=by
 have h1:1<=n:=by omega
 have hmk:(Instr.makeSlice 24 (.int .i64 (A.length:Int)) (.int .i64 (A.length:Int))).run prog (w.alloc (.cells #[.int .u32 (d:Int)] 207)) =
   .ok (.slice (some ⟨w.heap.size+1,0,none⟩) A.length A.length) ((w.alloc (.cells #[.int .u32 (d:Int)] 207)).alloc (.cells (u32s (List.replicate A.length 0)) 207)):=by
  obtain⟨i,hi,hz0,hz1,hz2⟩:=info_parts (show (prog.info? 207).map (fun i=>(i.zero,i.size,i.bytes))=some (some (.int .u32 0),1,4) by kernel_rfl);rw[run_makeSlice _ 24 207 i (.int .u32 0) underlying24 hi hz0 .i64 .i64 _ _ (by omega) (by omega) (by rw[hz1]; omega) (by rw[hz2]; omega) (by omega)];rw[Int.toNat_natCast,hz1,made_u32,World.size_alloc]
 obtain⟨u0,hu0⟩:∃ u0,u32s (List.replicate A.length 0)=u0:=⟨_,rfl⟩
 rw[hu0] at hmk;refine callsIn_of_wp_marks func239 rfl h4 ?_ hro;simp only[ntmps239,List.size_toArray,List.length_cons,List.length_nil,Nat.reduceAdd,Nat.reduceSub,Array.replicate_succ,Array.replicate_zero,List.push_toArray,List.append_toArray,List.nil_append,List.cons_append]
 gi_wp2_with (gi_at_call 181; refine (backward_in F (n-1) h6 hro _ _ _ _).mono ?_; rintro e w' ⟨rfl,rfl⟩)
 have b0:=Boxed.new w 207 (.int .u32 (d:Int));obtain⟨w1,hw1⟩:∃ w1,w.alloc (.cells #[.int .u32 (d:Int)] 207)=w1:=⟨_,rfl⟩
 have s1:w1.heap.size=w.heap.size+1:=by rw[<- hw1]; simp
 have b1:(w1.alloc (.cells u0 207)).heap[w.heap.size+1]?=some (.cells u0 207 (0,0)):=by rw[<- s1]; exact World.alloc_heap_new w1 _
 rw[hw1] at b0 ⊢;obtain⟨w2,hw2⟩:∃ w2,w1.alloc (.cells u0 207)=w2:=⟨_,rfl⟩
 have s2:w2.heap.size=w.heap.size+1+1:=by rw[<- hw2]; simp[s1]
 have b0':Boxed w2 w.heap.size 207 (.int .u32 (d:Int)):=by rw[<- hw2]; exact b0.alloc _
 have b2:=Boxed.new w2 24 (.slice (some ⟨w.heap.size+1,0,none⟩) A.length A.length);rw[s2] at b2;rw[hw2] at b1 ⊢;obtain⟨w3,hw3⟩:∃ w3,w2.alloc (.cells #[.slice (some ⟨w.heap.size+1,0,none⟩) A.length A.length] 24)=w3:=⟨_,rfl⟩
 have s3:w3.heap.size=w.heap.size+1+1+1:=by rw[<- hw3]; simp[s2]
 have g3:∀ {k:Nat} {c:Array Value} {t:TypeId},w2.heap[k]?=some (.cells c t (0,0))->w3.heap[k]?=some (.cells c t (0,0)):=fun {k c t} hk=>by
  rw[<- hw3]; exact (Below.heap_alloc _ _ _ (Array.getElem?_eq_some_iff.1 hk).1).trans hk
 have b3:=Boxed.new w3 163 (.int .u64 ((0:Nat):Int));rw[s3] at b3;rw[hw3] at b2 ⊢;have e0:(Obj.cells #[Value.int IntKind.u64 0] 163)=Obj.cells #[.int .u64 ((0:Nat):Int)] 163:=rfl;rw[e0];obtain⟨w4,hw4⟩:∃ w4,w3.alloc (.cells #[.int .u64 ((0:Nat):Int)] 163)=w4:=⟨_,rfl⟩
 have s4:w4.heap.size=w.heap.size+1+1+1+1:=by rw[<- hw4]; simp[s3]
 have g4:∀ {k:Nat} {c:Array Value} {t:TypeId},w3.heap[k]?=some (.cells c t (0,0))->w4.heap[k]?=some (.cells c t (0,0)):=fun {k c t} hk=>by
  rw[<- hw4]; exact (Below.heap_alloc _ _ _ (Array.getElem?_eq_some_iff.1 hk).1).trans hk
 have b4:=Boxed.new w4 24 (.slice a A.length cap);rw[s4] at b4;rw[hw4] at b3 ⊢;obtain⟨W0,hW0⟩:∃ W0,w4.alloc (.cells #[.slice a A.length cap] 24)=W0:=⟨_,rfl⟩
 have s5:W0.heap.size=w.heap.size+5:=by rw[<- hW0]; simp[s4]
 have g5:∀ {k:Nat} {c:Array Value} {t:TypeId},w4.heap[k]?=some (.cells c t (0,0))->W0.heap[k]?=some (.cells c t (0,0)):=fun {k c t} hk=>by
  rw[<- hW0]; exact (Below.heap_alloc _ _ _ (Array.getElem?_eq_some_iff.1 hk).1).trans hk
 rw[hW0] at b4 ⊢;have hB0:Below w.heap.size w W0:=by
  rw[<- hW0,<- hw4,<- hw3,<- hw2,<- hw1];exact (((((Below.refl _ w).alloc (Nat.le_refl _) _).alloc (by simp) _).alloc (by simp; omega) _).alloc (by simp; omega) _).alloc (by simp; omega) _
 have hk0:KeepQ (· < w.heap.size) w W0:=.of_below hB0 fun _ h=>h
 have hIA:=(hI.keep hk0).mono (q':=fun k=>k<w.heap.size\/k=w.heap.size+1+1+1+1) fun k hk=>.inl hk
 have hI0:ShI A d w.heap.size [] W0:=⟨0,List.replicate A.length 0,hd0,by simp,fun y hy=>by rw[(List.mem_replicate.1 hy).2]; exact Bpos,g5 (g4 (g3 b0')),g5 (g4 b2),g5 b3,by rw[hu0]; exact g5 (g4 (g3 b1)),fun _ _=>by
  rw[show A.length-([]:List (At A)).length=A.length from rfl,List.drop_eq_nil_of_le (Nat.le_refl _),List.drop_eq_nil_of_le (by simp)];simp[val]⟩
 clear hw1 hw2 hw3 hw4 hW0 b0 b0' b1 b2 b3 hmk hu0 g3 g4 g5 e0;refine wpIn_rangeFunc_ownG hro h1 (gf:=238) (lb:=#[.pointer (some ⟨w.heap.size+1+1+1+1,0,none⟩)]) rfl h8 (enters_of func238 (by kernel_rfl) rfl)
  (back_stops F (n-1) h8 hro (by omega) (w.heap.size+1+1+1+1) (fun k=>k<w.heap.size\/k=w.heap.size+1+1+1+1) _ A (by omega) W0 (.inr rfl) (fun k hk=>by omega) b4.cell hIA) KeepQ.trans (keepQ_b (fun k hk=>by omega)) (Below.refl _ _) (fun _=>rfl)
  (fun pre W=>ShI A d w.heap.size pre W/\Below w.heap.size w W)
  (fun cd pre W=>False)
  (OwnFrom.and (Own.from (ShI.own A d w.heap.size) _) (ownFrom_below (Nat.le_refl _) (by omega)))
  (fun _ _ _ _ _ hs _ _=>hs)
  ⟨hI0,hB0⟩
  (fun x=>{ tmps:=#[.slice a A.length cap,.int .u32 (d:Int),undef,.pointer (some ⟨w.heap.size,0,none⟩),.slice none 0 0,.int .u32 0,
   .pointer (some ⟨w.heap.size+1+1,0,none⟩),.pointer (some ⟨w.heap.size+1+1+1,0,none⟩),.int .i64 (x.1:Int),.int .u32 (gd A x.1:Int),.slice a A.length cap,.int .i64 (A.length:Int),.slice (some ⟨w.heap.size+1,0,none⟩) A.length A.length,
   .slice a A.length cap,.func (.func 238) #[] #[.pointer (some ⟨w.heap.size+1+1+1+1,0,none⟩)],.int .i64 (x.1:Int),.int .u32 (gd A x.1:Int),
   undef,undef,undef,undef,undef,undef,undef,undef,undef,undef,undef,undef,undef,undef,undef,undef,undef,undef,undef,undef,undef],defers:=[] }) ?assign ?body ?done ?stop
 case assign =>
  intro l x W K hK
  gi_wp2
  exact hK
 case body =>
  rintro l pre x W ⟨⟨r,o,hr,hol,hoB,c0,c2,c3,c1,hval⟩,hB⟩ hlt;have hmlt:x.1<A.length:=by
   rcases x.2 with h | h
   ·rw[h] at hlt; exact absurd hlt (Nat.not_lt_zero _)
   ·exact h
  obtain⟨m,hmx⟩:∃ m,x.1=m:=⟨_,rfl⟩
  dsimp only;rw[hmx] at hmlt ⊢;have k0:=c0.cell;have k2:=c2.cell;have k3:=c3.cell;have f3:=c3.frozen;obtain⟨k1',f1⟩:=row_cell c1 (m:=m) (by omega);obtain⟨ov,k1⟩:∃ ov:Nat,W.cell? ⟨w.heap.size+1,m,none⟩=some (.int .u32 (ov:Int)):=⟨_,k1'⟩
  clear k1';have hgB:gd A m<B:=gd_lt hAB;obtain⟨y,hy⟩:∃ y,gd A m=y:=⟨_,rfl⟩
  rw[hy] at hgB ⊢;have hmi:(m:Int)<A.length:=by omega
  have hyB:y<4294967296:=hgB;have hrB:r<4294967296:=Nat.lt_trans hr hdB;obtain⟨t,Ht⟩:∃ t,∃ z,z=t/\r*4294967296+y=z:=⟨_,_,rfl,rfl⟩
  have htb:t<18446744073709551616:=by
   obtain⟨z,rfl,h⟩:=Ht;omega
  have hor:bits BinOp.or IntKind.u64 (IntKind.u64.wrap ((r:Int)*4294967296)) (IntKind.u64.wrap (y:Int))=(t:Int):=by
   obtain⟨z,rfl,h⟩:=Ht;rw[<- h];exact or64' hrB hyB
  have hmo:prog.follows .mixedOrders=true:=hm;have hd1:(0:Int)<d:=by omega
  have hdz:((d:Int)==0)=false:=by rw[beq_eq_false_iff_ne]; omega
  have hdw:IntKind.u64.wrap (d:Int)=(d:Int):=wU_small hdB;have hend:=short_round (bd:=W0.heap.size) hAB hd0 hdB hr hol hoB c0 c2 c3 c1 hval hmx hmlt (t:=t) (by obtain⟨z,rfl,h⟩:=Ht; rw[hy]; exact h) hB;obtain⟨e1,e2,e3,e4⟩:=hend;clear htb hyB hrB hgB hI hIA hI0 hB0 hk0 b4 hAB hoB hval hy Ht hB s1 s2 s3 s4 c0 c1 c2 c3 hreach hlt hol hd0 hr hmx
  gi_wp2
  gi_region_with_o (fail)
  all_goals
   gi_wp2
   exact⟨e1,e2,e3,e4⟩
 case done =>
  rintro D ys W hD rfl ⟨⟨r,o,hr,hol,hoB,c0,c2,c3,c1,hval⟩,hB⟩ hK;have hv:val A=d*val o+r:=by
   have hl:(upto (bk A) A.length).length=A.length:=by simp[upto]
   rw[hl] at hval;have:=hval rfl (Nat.le_refl _);rw[Nat.sub_self] at this;simpa using this
  have hq:val A/d=val o:=by
   rw[hv,Nat.mul_add_div hd0,Nat.div_eq_of_lt hr,Nat.add_zero]
  have hmod:val A%d=r:=by
   rw[hv,Nat.mul_add_mod,Nat.mod_eq_of_lt hr]
  have hmo:prog.follows .mixedOrders=true:=hm;have k2:W.drew.cell? ⟨w.heap.size+1+1,0,none⟩=some (.slice (some ⟨w.heap.size+1,0,none⟩) A.length A.length):=c2.cell;have k3:W.drew.cell? ⟨w.heap.size+1+1+1,0,none⟩=some (.int .u64 (r:Int)):=c3.cell;have hWs:w.heap.size+5<=W.heap.size:=by
   have:=(Array.getElem?_eq_some_iff.1 hK).1;omega
  have hcall:∀ m,CallsIn F m prog 183 #[.slice (some ⟨w.heap.size+1,0,none⟩) A.length A.length] W.drew fun e W'=>∃ (v:Value) (S':Nat->Prop),e=.returned v/\Below W.heap.size W W'/\(∀ b,S b->S' b)/\(∀ b,S' b->S b\/b=w.heap.size+1\/W.heap.size<=b)/\(∀ b,S' b->b<W'.heap.size)/\SRep S' W' (nat (val o)) v /\
    W'.cell? ⟨w.heap.size+1+1+1,0,none⟩=some (.int .u64 (r:Int))/\W'.heap[D]?=some (.deferred (some [])):=by
   intro m;have hT:=(c_trim o hoB (by omega)).2 (fun k=>S k\/k=w.heap.size+1) W.drew [.slice (some ⟨w.heap.size+1,0,none⟩) A.length A.length] (by
     rintro b (hb | rfl)
     ·have:=hS b hb;show b<W.heap.size;omega
     ·show w.heap.size+1<W.heap.size;omega) (hG.mono (fun b hb=>.inl hb) fun b hb=>hB.block b (hS b hb)) (by
     refine⟨rfl,fun j x u h1 h2=>?_⟩;rcases j with _ | j
     ·cases h1;cases h2;rw[<- hol];exact u32s_rep (.inr rfl) c1
     ·cases h1)
   refine hF m _ _ _ (hT.mono ?_);rintro e W' ⟨v,S',rfl,q1,q2,q3,q4,q5⟩;have kb:∀ k,k<W.heap.size->W'.heap[k]?=W.heap[k]?:=fun k hk=>q1.block k hk
   refine⟨v,S',rfl,⟨q1.os,q1.tape,q1.output,q1.size,kb⟩,fun b hb=>q2 b (.inl hb),fun b hb=>?_,q4,q5,?_,(kb D (Array.getElem?_eq_some_iff.1 hK).1).trans hK⟩
   ·rcases q3 b hb with (h | h) | h
    ·exact .inl h
    ·exact .inr (.inl h)
    ·exact .inr (.inr h)
   ·exact (World.cell?_of_block (w:=W) (kb (w.heap.size+1+1+1) (by omega))).trans c3.cell
  gi_wp2
  gi_region_with_o (gi_at_call 183; refine (hcall _).mono ?_; rintro e w' ⟨v,S',rfl,hB',t1,t2,t3,t4,k3',hK'⟩)
  all_goals
   gi_wp2
   have hwr:IntKind.u32.wrap (r:Int)=(r:Int):=by
    have:r<4294967296:=Nat.lt_trans hr hdB;rw[w32,Nat.mod_eq_of_lt this]
   rw[hwr];have hDlt:=(Array.getElem?_eq_some_iff.1 hK).1;refine⟨by simp,.inl ⟨_,_,rfl,run_takeDeferred hK',?_⟩⟩;refine⟨.tuple #[v,.int .u32 (r:Int)],?_,v,S',by rw[hmod],(hB.trans ⟨hB'.os,hB'.tape,hB'.output,hB'.size,fun k hk=>hB'.block k (by omega)⟩).trans (belowK_b (w:=w) (Nat.le_refl _) w' D _ _ (by omega) hK' rfl rfl),t1,fun b hb=>?_,fun b hb=>?_,?_⟩
   ·simp[results,f239,go_sem]
   ·rcases t2 b hb with h | h | h
    ·exact .inl h
    ·exact .inr (by omega)
    ·exact .inr (by omega)
   ·have:=t3 b hb;simpa [World.putObj] using this
   ·rw[hq];refine t4.mono (fun b hb=>hb) fun b hb=>World.putObj_heap_other fun e=>?_
    subst e;rcases t2 b hb with h | h | h
    ·have:=hS b h;omega
    ·omega
    ·omega
 case stop =>
  rintro D c pre W _ _ h _;exact h.elim
theorem c_short (a d:Nat) (ha:a<Big) (hd0:0<d) (hdB:d<B):ACalls prog 239 [nat a,dg d] (.tup [nat (a/d),dg (a%d)]):=by
 have hA:=len_fit ha;refine⟨⟨_,func239,by decide,rfl⟩,fun S w vs hS hG hargs=>?_⟩;obtain⟨hn,hr⟩:=hargs
 match vs,hn with
 |[v0,v1],_ =>
  have h0:SRep S w (lst (digs a)) v0:=hr 0 _ v0 rfl rfl;have h1:SRep S w (dg d) v1:=hr 1 _ v1 rfl rfl;obtain⟨a0,cap0,rfl,d0⟩:=h0.dgs;have e1:v1=.int .u32 (d:Int):=by cases h1; rfl
  subst e1;have hT:=short_in Fence.wide (fun m args w post h=>(callsIn_wide (n:=m)).2 h) 3 trivial trivial trivial trivial rfl (by omega) a0 cap0 (digs a) (fun x=>digs_lt) d hd0 hdB (by omega) w (d0.mono hS) S hS hG;rw[val_digs] at hT;refine ((callsIn_wide (n:=3)).1 hT).mono ?_;rintro e W ⟨v,S',rfl,hB,t1,t2,t3,t4⟩;refine⟨_,S',rfl,hB,t1,t2,t3,.tup _ _ rfl fun j x u hx hu=>?_⟩;rcases j with _ | _ | j
  ·cases hx; cases hu; exact t4
  ·cases hx; cases hu; exact .lit _
  ·cases hx
end
end Go.Proofs.YtjdkdcmpifapeaaGreatDoor.Abs
