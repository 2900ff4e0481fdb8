/- What comes in: numbers, ratios, lists of ratios. -/
import Derived.Test.YtjdkdcmpifapeaaGreatDoorMd
import Derived.Test.YtjdkdcmpifapeaaGreatDoorMm
import Derived.Test.YtjdkdcmpifapeaaGreatDoorMe
import Derived.Test.YtjdkdcmpifapeaaGreatDoorCards
import Derived.Test.YtjdkdcmpifapeaaGreatDoorTie
import Derived.ProofKit
import Derived.OpenShut
import Derived.Deep.DeepHandedRow
import Derived.Lib.LaidTab
set_option linter.unusedVariables false
set_option linter.unusedSectionVars false
set_option linter.unusedSimpArgs false
set_option maxHeartbeats 4000000
namespace Go.Proofs.YtjdkdcmpifapeaaGreatDoor.Abs
section
open Go Go.RowKit Go.Proofs.Tryz
def RawB (x:RawQ):Prop:=x.2.1.length<=9223372036854775807/\x.2.2.length<=9223372036854775807/\(∀ y∈x.2.1,y<B)/\∀ y∈x.2.2,y<B
theorem rd_int {n:Nat} {cv:List AV} (h:RdC prog (n+1) 3 cv):∃ i:Int,cv=[i64 i]/\-9223372036854775808<=i/\i<=9223372036854775807:=by
 obtain⟨i,rfl,hw⟩:=rdc_int underlying3 h;simp only[Lit.wf,Bool.and_eq_true,decide_eq_true_eq] at hw;exact⟨i,rfl,hw.1,hw.2⟩
theorem rd_u32 {n:Nat} {cv:List AV} (h:RdC prog (n+1) 207 cv):∃ x:Nat,cv=[dg x]/\x<B:=by
 obtain⟨i,rfl,hw⟩:=rdc_int underlying207 h;simp only[Lit.wf,Bool.and_eq_true,decide_eq_true_eq] at hw;have h1:(0:Int)<=i:=hw.1;have h2:i<=4294967295:=hw.2;refine⟨i.toNat,?_,by unfold B; omega⟩;unfold dg;rw[Int.toNat_of_nonneg h1]
theorem rd_list {α:Type} {n:Nat} {e:TypeId} {enc:α->AV} {ok:α->Prop} (hR:∀ cv,RdC prog n e cv->∃ x:α,mkV prog e cv=enc x/\ok x) (ess:List (List AV)) (h:∀ ds∈ess,RdC prog n e ds):∃ l:List α,ess.map (mkV prog e)=l.map enc/\l.length=ess.length/\∀ x∈l,ok x:=by
 induction ess with
 |nil=>exact⟨[],rfl,rfl,by simp⟩
 |cons ds ess ih =>
  obtain⟨x,h1,h2⟩:=hR ds (h ds (by simp));obtain⟨l,h3,h4,h5⟩:=ih fun ds' hd=>h ds' (by simp[hd])
  exact⟨x::l,by simp[h1,h3],by simp[h4],fun y hy=>by
   rcases List.mem_cons.1 hy with rfl | hy
   ·exact h2
   ·exact h5 y hy⟩
theorem rd_nat {n:Nat} {cv:List AV} (h:RdC prog (n+2) 24 cv):∃ l:List Nat,cv=[lst l]/\l.length<=9223372036854775807/\∀ x∈l,x<B:=by
 obtain⟨ess,rfl,h1,h2⟩:=rdc_slice underlying24 h;obtain⟨l,h3,h4,h5⟩:=rd_list (enc:=dg) (ok:=fun x=>x<B) (fun cv h=>by
  obtain⟨x,rfl,hx⟩:=rd_u32 h;exact⟨x,mkV_one (isAgg_int underlying207) _,hx⟩) ess h2
 exact⟨l,by rw[h3]; rfl,by rw[h4]; exact h1,h5⟩
theorem rd_whole {n:Nat} {cv:List AV} (h:RdC prog (n+3) 26 cv):∃ (m:Bool) (l:List Nat),cv=[boo m,lst l]/\l.length<=9223372036854775807/\∀ x∈l,x<B:=by
 obtain⟨d1,r1,rfl,h1,d2,r2,rfl,h2,rfl⟩:=rdc_struct underlying26 h;obtain⟨m,rfl⟩:=rdc_bool underlying4 h1;obtain⟨l,rfl,h3,h4⟩:=rd_nat h2;exact⟨m,l,rfl,h3,h4⟩
theorem rd_rat {n:Nat} {cv:List AV} (h:RdC prog (n+4) 28 cv):∃ x:RawQ,mkV prog 28 cv=rawv x/\cv=[boo x.1,lst x.2.1,lst x.2.2]/\RawB x:=by
 obtain⟨d1,r1,rfl,h1,d2,r2,rfl,h2,rfl⟩:=rdc_struct underlying28 h;obtain⟨m,a,rfl,h3,h4⟩:=rd_whole h1;obtain⟨b,rfl,h5,h6⟩:=rd_nat h2;exact⟨(m,a,b),mkV_agg (isAgg_struct underlying28) _,rfl,h3,h5,h4,h6⟩
theorem rd_rats {n:Nat} {cv:List AV} (h:RdC prog (n+5) 22 cv):∃ l:List RawQ,cv=[.sl (l.map rawv)]/\l.length<=9223372036854775807/\∀ x∈l,RawB x:=by
 obtain⟨ess,rfl,h1,h2⟩:=rdc_slice underlying22 h;obtain⟨l,h3,h4,h5⟩:=rd_list (enc:=rawv) (ok:=RawB) (fun cv h=>by
  obtain⟨x,hx,_,hb⟩:=rd_rat h;exact⟨x,hx,hb⟩) ess h2
 exact⟨l,by rw[h3],by rw[h4]; exact h1,h5⟩
theorem ag_rats:isAgg prog 22=false:=isAgg_slice underlying22
theorem raw_q {x:RawQ} (hd1:∀ y∈x.2.1,y<B) (hd2:∀ y∈x.2.2,y<B) (h:rawCheck x=0):∃ a:FQ,rawQ a=x:=by
 obtain⟨m,n,d⟩:=x;have h:qCheckG (Nat.gcd (val n) (val d)) m n d=0:=h;unfold qCheckG at h;split at h
 ·rename_i h1;exact absurd h h1
 ·rename_i h1;split at h
  ·cases h
  ·rename_i h2;split at h
   ·rename_i h3;exact absurd h h3
   ·rename_i h3;split at h
    ·cases h
    ·rename_i h4;have h1:checkN n=0:=by simpa using h1
     have h3:checkN d=0:=by simpa using h3
     obtain⟨c1,l1⟩:=checkN_can h1 hd1;obtain⟨c2,l2⟩:=checkN_can h3 hd2;have hd0:val d≠0:=fun e=>h4 (.inl (by rw[<- digs_val c2,e,digs_zero]))
     have hg:Nat.gcd (val n) (val d)=1:=by
      apply Classical.byContradiction;intro e;exact h4 (.inr e)
     have b1:val n<Big:=lt_Big.2 (by rw[digs_val c1]; exact l1);have b2:val d<Big:=lt_Big.2 (by rw[digs_val c2]; exact l2);cases m with
     |false =>
      refine⟨⟨⟨(val n:Int),val d,hd0,hg⟩,b1,b2⟩,?_⟩;show (decide ((val n:Int)<0),digs (val n),digs (val d))=_;rw[digs_val c1,digs_val c2,decide_eq_false (by omega)]
     |true =>
      have hn0:val n≠0:=fun e=>h2 ⟨rfl,by rw[<- digs_val c1,e,digs_zero]⟩
      refine⟨⟨⟨-(val n:Int),val d,hd0,by rw[Int.natAbs_neg]; exact hg⟩,by show (-(val n:Int)).natAbs<Big; rw[Int.natAbs_neg]; exact b1,b2⟩,?_⟩;show (decide (-(val n:Int)<0),digs (-(val n:Int)).natAbs,digs (val d))=_;rw[Int.natAbs_neg,Int.natAbs_natCast,digs_val c1,digs_val c2,decide_eq_true (by omega)]
def sm (k:Nat) (a:FQ):Prop:=(digs a.q.num.natAbs).length<=k/\(digs a.q.den).length<=k
end
section
open Go Go.RowKit Go.Proofs.Tryz
attribute [local irreducible] zMul zAdd zLeft zRight fitZ qMake zDiv dMake dLevel dRound dNear dAdd dMul dRatio dCmp dMin dMax dAbs dLess qCmp sOut qAdd qMul sAdd sMul sNear
theorem runE_rel {α β:Type} {f:α->Except Nat β} {R:α->β->Prop}:∀ {l:List α},(∀ x∈l,∃ r,f x=.ok r/\R x r)->∃ rs,runE f l=.ok rs/\rs.length=l.length/\∀ (i:Nat) (x:α) (r:β),l[i]?=some x->rs[i]?=some r->R x r
 |[],_=>⟨[],rfl,rfl,by simp⟩
 |x::l,h=>by
  obtain⟨r,h1,h2⟩:=h x (by simp);obtain⟨rs,h3,h4,h5⟩:=runE_rel fun y hy=>h y (List.mem_cons_of_mem _ hy)
  refine⟨r::rs,by simp only[runE,h1,h3],by simp[h4],fun i y s hy hs=>?_⟩;cases i with
  |zero=>simp at hy hs; subst hy hs; exact h2
  |succ i=>exact h5 i y s (by simpa using hy) (by simpa using hs)
def qs (l:List FQ):List Rat:=l.map FQ.q
theorem qs_len (l:List FQ):(qs l).length=l.length:=by simp[qs]
def SzL (l:List FQ) (j k:Nat):Prop:=∀ x∈l,Sz x.q j k
theorem SzL.mono {l:List FQ} {j k j' k':Nat} (h:SzL l j k) (hj:j<=j') (hk:k<=k'):SzL l j' k':=fun x hx=>(h x hx).mono hj hk
theorem digs_pow {n k:Nat} (h:(digs n).length<=k):n<2^(32*k):=by
 rw[<- B_pow];exact length_digs_le.1 h
theorem sm_sz {k:Nat} {a:FQ} (h:sm k a):Sz a.q (32*k) (32*k):=⟨digs_pow h.1,digs_pow h.2⟩
theorem vEach_rel {op:FQ->FQ->Except Nat FQ} {a b:List FQ} {g:Rat->Rat->Rat} {j k j' k' p q:Nat} (hab:a.length=b.length) (ha:SzL a j k) (hb:SzL b j' k')
  (h:∀ x y:FQ,Sz x.q j k->Sz y.q j' k'->∃ r,op x y=.ok r/\r.q=g x.q y.q/\Sz r.q p q):∃ r,vEach op a b=.ok r/\r.length=a.length/\qs r=List.zipWith g (qs a) (qs b)/\SzL r p q:=by
 unfold vEach;rw[if_neg (by simpa using hab)];obtain⟨r,h1,h2,h3⟩:=runE_rel (f:=fun p:FQ×FQ=>op p.1 p.2) (R:=fun p0 r=>r.q=g p0.1.q p0.2.q/\Sz r.q p q) (l:=a.zip b) (fun p hp=>by
  have:=List.of_mem_zip hp;obtain⟨r,e1,e2,e3⟩:=h p.1 p.2 (ha _ this.1) (hb _ this.2);exact⟨r,e1,e2,e3⟩)
 rw[zip_len hab] at h2;refine⟨r,h1,h2,?_,fun x hx=>?_⟩
 ·apply List.ext_getElem?;intro i;by_cases hi:i<a.length
  ·have hib:i<b.length:=by omega
   have hir:i<r.length:=by omega
   have:=(h3 i (a[i],b[i]) r[i] (by rw[List.getElem?_eq_getElem (by rw[zip_len hab]; exact hi),zip_get hi hab]) (by simp[hir])).1;rw[List.getElem?_eq_getElem (by rw[qs_len]; exact hir),List.getElem?_eq_getElem (by simp[qs_len]; omega)];simp[qs,this]
  ·rw[List.getElem?_eq_none (by rw[qs_len]; omega),List.getElem?_eq_none (by simp[qs_len]; omega)]
 ·obtain⟨i,hi,rfl⟩:=List.mem_iff_getElem.1 hx;have hia:i<a.length:=by omega
  exact (h3 i (a[i],b[i]'(by omega)) r[i] (by rw[List.getElem?_eq_getElem (by rw[zip_len hab]; exact hia),zip_get hia hab]) (by simp[hi])).2
theorem vAdd_ok {a b:List FQ} {j k j' k' t:Nat} (hab:a.length=b.length) (ha:SzL a j k) (hb:SzL b j' k') (h1:j+k'<=t) (h2:j'+k<=t) (ht:t+1<=16384) (h3:k+k'<=16384) :
  ∃ r,vEach qAdd a b=.ok r/\r.length=a.length/\qs r=List.zipWith (·+·) (qs a) (qs b)/\SzL r (t+1) (k+k') :=
 vEach_rel hab ha hb fun x y hx hy=>qAdd_ok hx hy h1 h2 ht h3
theorem vMul_ok {a b:List FQ} {j k j' k':Nat} (hab:a.length=b.length) (ha:SzL a j k) (hb:SzL b j' k') (h1:j+j'<=16384) (h3:k+k'<=16384) :
  ∃ r,vEach qMul a b=.ok r/\r.length=a.length/\qs r=List.zipWith (·*·) (qs a) (qs b)/\SzL r (j+j') (k+k') :=
 vEach_rel hab ha hb fun x y hx hy=>qMul_ok hx hy h1 h3
theorem vScale_ok {a:List FQ} {c:FQ} {j k j' k':Nat} (ha:SzL a j k) (hc:Sz c.q j' k') (h1:j+j'<=16384) (h3:k+k'<=16384) :
  ∃ r,vScale a c=.ok r/\r.length=a.length/\qs r=(qs a).map (·*c.q)/\SzL r (j+j') (k+k'):=by
 obtain⟨r,h4,h5,h6,h7⟩:=vEach_rel (op:=fun x _=>qMul x c) (g:=fun x _=>x*c.q) (p:=j+j') (q:=k+k') rfl ha ha fun x y hx hy=>qMul_ok hx hc h1 h3
 refine⟨r,h4,h5,?_,h7⟩;rw[h6];generalize qs a=l
 induction l with
 |nil=>rfl
 |cons x l ih=>simp[ih]
def sumQ:List Rat->Rat
 |[]=>0
 |x::l=>x+sumQ l
theorem qSum_acc {m:Nat}:∀ (l:List FQ) (acc:FQ) (n:Nat),Sz acc.q ((m+1)*n+1) (m*n+1)->SzL l m m->(m+1)*(n+l.length)+1<=16384 ->
  ∃ r,foldE qAdd acc l=.ok r/\r.q=acc.q+sumQ (qs l)/\Sz r.q ((m+1)*(n+l.length)+1) (m*(n+l.length)+1)
 |[],acc,n,h1,_,_=>⟨acc,rfl,by show acc.q=acc.q+0; rw[Rat.add_zero],h1⟩
 |x::l,acc,n,h1,h2,h3=>by
  have e1:(m+1)*(n+1)=(m+1)*n+(m+1):=by rw[Nat.mul_add,Nat.mul_one]
  have e2:m*(n+1)=m*n+m:=by rw[Nat.mul_add,Nat.mul_one]
  have e3:(m+1)*n=m*n+n:=by rw[Nat.add_mul,Nat.one_mul]
  have e4:n+(x::l).length=(n+1)+l.length:=by simp; omega
  rw[e4] at h3 ⊢;have e5:(m+1)*(n+1)<=(m+1)*(n+1+l.length):=Nat.mul_le_mul_left _ (by omega);obtain⟨r,r1,r2,r3⟩:=qAdd_ok h1 (h2 x (by simp)) (t:=(m+1)*n+m+1) (by omega) (by omega) (by omega) (by omega);obtain⟨s,s1,s2,s3⟩:=qSum_acc l r (n+1) (r3.mono (by omega) (by omega)) (fun y hy=>h2 y (by simp[hy])) h3;refine⟨s,by simp only[foldE,r1,s1],?_,s3⟩;rw[s2,r2];show acc.q+x.q+sumQ (qs l)=acc.q+(x.q+sumQ (qs l))
  rw[Rat.add_assoc]
theorem qSum_ok {m:Nat} {l:List FQ} (h:SzL l m m) (hl:(m+1)*l.length+1<=16384):∃ r,qSum l=.ok r/\r.q=sumQ (qs l)/\Sz r.q ((m+1)*l.length+1) (m*l.length+1):=by
 obtain⟨r,h1,h2,h3⟩:=qSum_acc (m:=m) l q0 0 ⟨by show 0<_; exact Nat.pow_pos (by decide),by show 1<2^(m*0+1); rw[Nat.mul_zero]; decide⟩ h (by rw[Nat.zero_add]; exact hl);rw[Nat.zero_add] at h3;exact⟨r,h1,by rw[h2]; exact Rat.zero_add _,h3⟩
def dotR (x y:List Rat):Rat:=sumQ (List.zipWith (·*·) x y)
theorem vDot_ok {a b:List FQ} {j k j' k' m:Nat} (hab:a.length=b.length) (ha:SzL a j k) (hb:SzL b j' k') (h1:j+j'<=m) (h3:k+k'<=m) (hm:m<=16384) (hl:(m+1)*a.length+1<=16384) :
  ∃ r,vDot a b=.ok r/\r.q=dotR (qs a) (qs b)/\Sz r.q ((m+1)*a.length+1) (m*a.length+1):=by
 obtain⟨p,p1,p2,p3,p4⟩:=vMul_ok hab ha hb (by omega) (by omega);obtain⟨r,r1,r2,r3⟩:=qSum_ok (m:=m) (p4.mono h1 h3) (by rw[p2]; exact hl);rw[p2] at r3;refine⟨r,by simp only[vDot,bnd,p1,r1],?_,r3⟩;rw[r2,p3];rfl
theorem vNear_ok {l:List FQ} {j k:Nat} {bits:Int} (hb:bitsOk bits=true) (hl:SzL l j k) (h:bits.toNat+k+2<=16384) (hj:j<=16384) :
  ∃ r,vNear l bits=.ok r/\r.length=l.length/\∀ (i:Nat) (x:FQ) (s:FS),l[i]?=some x->r[i]?=some s->SGr (j+2) (bits.toNat+k) s/\In x.q s :=
 runE_rel (f:=fun a=>sNear a bits) (R:=fun x s=>SGr (j+2) (bits.toNat+k) s/\In x.q s) fun x hx=>by
  obtain⟨r,h1,h2,h3⟩:=sNear_ok hb (hl x hx) h hj;exact⟨r,h1,h2,h3⟩
theorem sz_one:Sz (qOf 1 1).q 1 1:=by
 have h1:(qOf 1 1).q=1:=by kernel_rfl
 rw[h1];exact⟨by decide,by decide⟩
theorem sz_zero:Sz q0.q 1 1:=⟨by decide,by decide⟩
theorem clampN_in {n:Int} (h0:0<=n) (h1:n<=16):(clampN n:Int)=n:=by
 rw[<- clamp_c];unfold clampI;dsimp only;rw[if_neg (by omega),if_neg (by omega)]
theorem vUnit_len (n a:Int):(vUnit n a).length=clampN n:=by unfold vUnit; split <;> simp
theorem vUnit_sz (n a:Int):SzL (vUnit n a) 1 1:=by
 intro x hx;unfold vUnit at hx;split at hx
 ·rcases List.mem_or_eq_of_mem_set hx with hx | rfl
  ·rw[(List.mem_replicate.1 hx).2]; exact sz_zero
  ·exact sz_one
 ·rw[(List.mem_replicate.1 hx).2]; exact sz_zero
end
section
open Go Go.RowKit Go.ChangeShapes Go.WideShapes Go.ChangeAt Go.Proofs.Tryz
theorem ownK:ownKnob prog.godebug=none:=by kernel_rfl
theorem laidOutP:laidOutB prog=true:=by kernel_rfl
theorem gDb:prog.globalNamed "math/bits.deBruijn32tab"=some 0:=by kernel_rfl
theorem gDbT:(prog.globals[0]?).map (·.type)=some 358:=by kernel_rfl
theorem cDb:prog.cellsOf 358=32:=by kernel_rfl
theorem cU8:prog.cellsOf 5=1:=by kernel_rfl
def dbInts:List Int:=[0,1,28,2,29,14,24,3,30,22,20,15,25,17,4,8,31,27,13,23,21,19,16,7,26,12,18,6,11,5,10,9]
theorem gok_of_tab {W:World} (h:Lib.TabIs prog W "math/bits.deBruijn32tab" .u8 dbInts):GOk (fun b=>b<W.heap.size) W:=by
 intro g;show (match Nat.beq g 0 with | true=>AV.rptr dbTab 0 | false=>.any)=.any\/SRep _ W (match Nat.beq g 0 with | true=>AV.rptr dbTab 0 | false=>.any) _;cases hb:Nat.beq g 0 with
 |false=>exact .inl rfl
 |true =>
  have:=Nat.eq_of_beq_eq_true hb;subst this;refine .inr ?_;have hcell:=fun i hi=>h.cell gDb i hi
  refine .rptr dbTab 0 _ 0 (fun j=>.int .u8 (dbInts.getD j 0)) ?_ rfl (fun j y hy=>?_) (fun j y hy=>?_)
  ·have:=hcell 0 (by decide);unfold World.cell? at this;split at this
   ·rename_i hh;exact (Array.getElem?_eq_some_iff.1 hh).1
   ·cases this
  ·have hj:j<32:=(List.getElem?_eq_some_iff.1 hy).1;rw[Nat.zero_add];exact hcell j hj
  ·have hj:j<32:=(List.getElem?_eq_some_iff.1 hy).1;have e:dbTab.cells[j]?=some (.lit (.int .u8 (dbInts.getD j 0))):=by
    have:=(by decide +kernel:∀ j<32,(([0,1,28,2,29,14,24,3,30,22,20,15,25,17,4,8,31,27,13,23,21,19,16,7,26,12,18,6,11,5,10,9]:List Nat)[j]?.map fun (n:Nat)=>(n:Int))=some (dbInts.getD j 0)) j hj;show ((([0,1,28,2,29,14,24,3,30,22,20,15,25,17,4,8,31,27,13,23,21,19,16,7,26,12,18,6,11,5,10,9]:List Nat).map fun (n:Nat)=>AV.lit (.int .u8 (n:Int)))[j]?)=_;rw[List.getElem?_map];cases hq:([0,1,28,2,29,14,24,3,30,22,20,15,25,17,4,8,31,27,13,23,21,19,16,7,26,12,18,6,11,5,10,9]:List Nat)[j]? with
    |none=>rw[hq] at this; cases this
    |some n =>
     rw[hq] at this;simp only[Option.map_some,Option.some.injEq] at this ⊢;rw[this]
   rw[e] at hy;cases hy;exact .lit _
def litV:DataW Unit->Value
 |.lit (.int k n)=>.int k n
 |_=>.bool false
def flatV:DataW Unit->List Value
 |.agg ds=>ds.flatMap fun d=>match d with
  |.agg es=>es.map litV
  |d=>[litV d]
 |_=>[]
def layV (l:List Value):Obj->Obj
 |.cells _ t frozen=>.cells l.toArray t frozen
 |o=>o
noncomputable def laidWorld (os:Os):World :=
 { World.holding prog os ⟨#[],#[],[]⟩ with heap:=(((World.holding prog os ⟨#[],#[],[]⟩).heap.modify 0 (layV (flatV Rows.laid_math_bits_deBruijn32tab))).modify 2 (layV (flatV Rows.laid_unicode_utf8_acceptRanges))).modify 1 (layV (flatV Rows.laid_unicode_utf8_first)) }
end
end Go.Proofs.YtjdkdcmpifapeaaGreatDoor.Abs
