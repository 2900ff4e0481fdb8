/- Spans that hold sequences in the end: lists and tables of them. -/
import Derived.Test.YtjdkdcmpifapeaaGreatDoorMs
import Derived.Test.YtjdkdcmpifapeaaGreatDoorMr
import Derived.KernelRfl
import Derived.Test.YtjdkdcmpifapeaaGreatDoorMl
set_option linter.unusedVariables false
set_option linter.unusedSectionVars false
set_option linter.unusedSimpArgs false
set_option maxHeartbeats 4000000
namespace Go.Proofs.YtjdkdcmpifapeaaGreatDoor.Abs
section
open Go Go.RowKit Go.Proofs.Tryz
attribute [local irreducible] zMul zAdd zLeft zRight fitZ qMake zDiv dMake dLevel dRound dNear dAdd dMul dRatio dCmp dMin dMax dAbs dLess qCmp sOut qAdd qMul sAdd sMul sNear qSum sSize vEach vDot vNear qSgn qAbs vScale
inductive HL (K L:Nat):List FS->List (Nat->Rat)->Prop
 |nil:HL K L [] []
 |cons {s:FS} {x:Nat->Rat} {l:List FS} {m:List (Nat->Rat)} (h1:SGr K L s) (h2:Lim x s) (h:HL K L l m):HL K L (s::l) (x::m)
theorem HL.len {K L:Nat} {l:List FS} {m:List (Nat->Rat)} (h:HL K L l m):l.length=m.length:=by
 induction h with
 |nil=>rfl
 |cons _ _ _ ih=>simp[ih]
theorem HL.of {K L:Nat}:∀ {l:List FS} {m:List (Nat->Rat)},l.length=m.length->(∀ (i:Nat) (s:FS) (x:Nat->Rat),l[i]?=some s->m[i]?=some x->SGr K L s/\Lim x s)->HL K L l m
 |[],[],_,_=>.nil
 |s::l,x::m,h,g=>.cons (g 0 s x rfl rfl).1 (g 0 s x rfl rfl).2 (HL.of (by simpa using h) fun i s' x' h1 h2=>g (i+1) s' x' (by simpa using h1) (by simpa using h2))
 |[],_::_,h,_=>by cases h
 |_::_,[],h,_=>by cases h
def ats (F:List (Nat->Rat)) (N:Nat):List Rat:=F.map fun f=>f N
theorem inner_accL {bits:Int} (hb:bitsOk bits=true) {K L K' L':Nat} (h:K+L+(K'+L')+1<=16384):∀ {a b:List FS} {F G:List (Nat->Rat)},HL K L a F->HL K' L' b G->a.length=b.length->∀ (acc:FS) (v:Nat->Rat) (k:Nat),SGr k (L+L') acc->Lim v acc->K+K'+1<=k->k+2*a.length+(L+L')+1<=16384 ->
  ∃ r,foldE (innerStep bits) acc (a.zip b)=.ok r/\SGr (k+2*a.length) (L+L') r/\Lim (fun N=>v N+dotR (ats F N) (ats G N)) r:=by
 intro a b F G ha
 induction ha generalizing b G with
 |nil =>
  intro hb' hab acc v k g1 g2 g3 g4;cases hb' with
  |nil=>exact⟨acc,rfl,g1,by
    have:(fun N=>v N+dotR (ats [] N) (ats [] N))=v:=funext fun N=>by show v N+0=v N; rw[Rat.add_zero]
    rw[this];exact g2⟩
  |cons _ _ _=>cases hab
 |cons g1 g2 _ ih =>
  intro hb' hab acc v k k1 k2 k3 k4;cases hb' with
  |nil=>cases hab
  |cons m1 m2 hb' =>
   simp only[List.length_cons] at k4 ⊢;obtain⟨p,p1,p2,p3⟩:=sMul_ok hb g1 m1 h;obtain⟨s,s1,s2,s3,s4⟩:=sAdd_ok hb k1 (p2.mono k3 (Nat.le_refl _)) (by omega);obtain⟨r,r1,r2,r3⟩:=ih hb' (by simpa using hab) s _ (k+2) s2 (Lim.add k2 (Lim.mul g2 m2 p3) s3 s4) (by omega) (by omega);refine⟨r,by simp only[List.zip_cons_cons,foldE,innerStep,bnd,p1,s1]; exact r1,r2.mono (by omega) (Nat.le_refl _),?_⟩;have e:∀ (x y:Nat->Rat) (F G:List (Nat->Rat)),(fun N=>v N+x N*y N+dotR (ats F N) (ats G N))=fun N=>v N+dotR (ats (x::F) N) (ats (y::G) N):=fun x y F G=>funext fun N=>by
    show _=v N+(x N*y N+dotR (ats F N) (ats G N))
    rw[Rat.add_assoc]
   rw[<- e];exact r3
theorem Lim.s0:Lim (fun _=>0) s0:=Lim.of_in In.s0
theorem inner_L {bits:Int} (hb:bitsOk bits=true) {K L K' L':Nat} {a b:List FS} {F G:List (Nat->Rat)} (ha:HL K L a F) (hb':HL K' L' b G) (hab:a.length=b.length) (h:K+K'+1+2*a.length+(L+L')+1<=16384) :
  ∃ r,vInner bits a b=.ok r/\SGr (K+K'+1+2*a.length) (L+L') r/\Lim (fun N=>dotR (ats F N) (ats G N)) r:=by
 unfold vInner;rw[if_neg (by simpa using hab)];obtain⟨r,r1,r2,r3⟩:=inner_accL hb (by omega) ha hb' hab s0 (fun _=>0) (K+K'+1) (.s0 _ _) Lim.s0 (Nat.le_refl _) h;refine⟨r,r1,r2,?_⟩;have e:(fun N=>0+dotR (ats F N) (ats G N))=fun N=>dotR (ats F N) (ats G N):=funext fun N=>Rat.zero_add _
 rw[e] at r3;exact r3
def HTL (n K L:Nat) (p:List (List FS)) (f:Nat->Nat->Nat->Rat):Prop:=SqG n p/\∀ i j,i<n->j<n->SGr K L ((p.getD i []).getD j s0)/\Lim (fun N=>f N i j) ((p.getD i []).getD j s0)
theorem HTL.mono {n K L K' L':Nat} {p:List (List FS)} {f:Nat->Nat->Nat->Rat} (h:HTL n K L p f) (hK:K<=K') (hL:L<=L'):HTL n K' L' p f:=⟨h.1,fun i j hi hj=>⟨(h.2 i j hi hj).1.mono hK hL,(h.2 i j hi hj).2⟩⟩
theorem HTL.congr {n K L:Nat} {p:List (List FS)} {f g:Nat->Nat->Nat->Rat} (h:HTL n K L p f) (e:∀ i j,i<n->j<n->Nul fun N=>g N i j-f N i j):HTL n K L p g:=⟨h.1,fun i j hi hj=>⟨(h.2 i j hi hj).1,(h.2 i j hi hj).2.nul (e i j hi hj)⟩⟩
theorem HTL.row {n K L:Nat} {p:List (List FS)} {f:Nat->Nat->Nat->Rat} (h:HTL n K L p f) {i:Nat} (hi:i<n):HL K L (p.getD i []) ((List.range n).map fun k N=>f N i k):=by
 refine .of (by rw[h.1.row hi]; simp) fun k s x hs hx=>?_
 have hk:k<n:=by
  have:=(List.getElem?_eq_some_iff.1 hs).1;rw[h.1.row hi] at this;exact this
 rw[get_ne (d:=s0) (by rw[h.1.row hi]; exact hk)] at hs;rw[List.getElem?_map,List.getElem?_range hk] at hx;cases hs;cases hx;exact h.2 i k hi hk
theorem HTL.col {n K L:Nat} {p:List (List FS)} {f:Nat->Nat->Nat->Rat} (h:HTL n K L p f) {j:Nat} (hj:j<n):HL K L (colV s0 p j) ((List.range n).map fun k N=>f N k j):=by
 refine .of (by simp[colV,h.1.1]) fun k s x hs hx=>?_
 have hk:k<n:=by
  have:=(List.getElem?_eq_some_iff.1 hs).1;simpa [colV,h.1.1] using this
 unfold colV at hs;rw[List.getElem?_map,get_ne (d:=[]) (by rw[h.1.1]; exact hk)] at hs;rw[List.getElem?_map,List.getElem?_range hk] at hx;cases hs;cases hx;exact h.2 k j hk hj
theorem dot_ats {n:Nat} (f g:Nat->Nat->Rat) (N:Nat):dotR (ats ((List.range n).map fun k N=>f N k) N) (ats ((List.range n).map fun k N=>g N k) N)=SS n fun k=>f N k*g N k:=by
 have e:∀ f:Nat->Nat->Rat,ats ((List.range n).map fun k N=>f N k) N=(List.range n).map (f N):=fun f=>by unfold ats; rw[List.map_map]; rfl
 rw[e,e,dotR_SS (by simp),List.length_map,List.length_range];refine SS_congr fun k hk=>?_
 simp[List.getD,hk]
theorem times_L {n K L K' L':Nat} {bits:Int} {p q:List (List FS)} {f g:Nat->Nat->Nat->Rat} (hbo:bitsOk bits=true) (hp:HTL n K L p f) (hq:HTL n K' L' q g) (h:K+K'+1+2*n+(L+L')+1<=16384) :
  ∃ m,mTimes bits p q=.ok m/\HTL n (K+K'+1+2*n) (L+L') m (fun N=>mm n (f N) (g N)):=by
 obtain⟨rp,cp⟩:=hp.1.rect;obtain⟨rq,cq⟩:=hq.1.rect;unfold mTimes mMulG;rw[if_pos rq,if_pos ⟨rp,cp.trans hq.1.1.symm⟩];unfold turnV;rw[cq];have key:∀ i,i<n->∃ r,mRow (fun r c=>vInner bits r c) ((List.range n).map (colV s0 q)) (p.getD i [])=.ok r/\(r.length=n/\∀ j,j<n->SGr (K+K'+1+2*n) (L+L') (r.getD j s0)/\Lim (fun N=>mm n (f N) (g N) i j) (r.getD j s0)):=by
  intro i hi;have hpl:=hp.1.row hi;have one:∀ j,j<n->∃ y,vInner bits (p.getD i []) (colV s0 q j)=.ok y/\SGr (K+K'+1+2*n) (L+L') y/\Lim (fun N=>mm n (f N) (g N) i j) y:=fun j hj=>by
   obtain⟨y,y1,y2,y3⟩:=inner_L hbo (hp.row hi) (hq.col hj) (by rw[hpl]; simp[colV,hq.1.1]) (by rw[hpl]; exact h);rw[hpl] at y2;refine⟨y,y1,y2,?_⟩;have e:(fun N=>dotR (ats ((List.range n).map fun k N=>f N i k) N) (ats ((List.range n).map fun k N=>g N k j) N))=fun N=>mm n (f N) (g N) i j:=funext fun N=>dot_ats (fun N k=>f N i k) (fun N k=>g N k j) N
   rw[e] at y3;exact y3
  unfold mRow;obtain⟨r,r1,r2,r3⟩:=runE_rel (f:=fun c=>vInner bits (p.getD i []) c) (l:=(List.range n).map (colV s0 q)) (R:=fun c y=>vInner bits (p.getD i []) c=.ok y) (by
   intro c hc;obtain⟨j,hj,rfl⟩:=List.mem_map.1 hc;obtain⟨y,y1,_⟩:=one j (List.mem_range.1 hj);exact⟨y,y1,y1⟩)
  have hrl:r.length=n:=by rw[r2]; simp
  refine⟨r,r1,hrl,fun j hj=>?_⟩;have h1:=r3 j (colV s0 q j) _ (by simp[hj]) (get_ne (d:=s0) (by rw[hrl]; exact hj));obtain⟨y,y1,y2⟩:=one j hj;rw[y1] at h1;cases h1;exact y2
 obtain⟨m,m1,m2,m3⟩:=runE_rel (f:=mRow (fun r c=>vInner bits r c) ((List.range n).map (colV s0 q))) (l:=p) (R:=fun x r=>mRow (fun r c=>vInner bits r c) ((List.range n).map (colV s0 q)) x=.ok r) (by
  intro x hx;obtain⟨i,hi,rfl⟩:=mem_getD (d:=[]) hx;obtain⟨r,r1,_⟩:=key i (by rw[<- hp.1.1]; exact hi);exact⟨r,r1,r1⟩)
 have hml:m.length=n:=by rw[m2]; exact hp.1.1
 have hm:∀ i,i<n->(m.getD i []).length=n/\∀ j,j<n->SGr (K+K'+1+2*n) (L+L') ((m.getD i []).getD j s0)/\Lim (fun N=>mm n (f N) (g N) i j) ((m.getD i []).getD j s0):=fun i hi=>by
  have h1:=m3 i _ _ (get_ne (d:=[]) (by rw[hp.1.1]; exact hi)) (get_ne (d:=[]) (by rw[hml]; exact hi));obtain⟨r,r1,r2⟩:=key i hi;rw[r1] at h1;have h2:=Except.ok.inj h1;rw[<- h2];exact r2
 refine⟨m,m1,⟨hml,fun r hr=>?_⟩,fun i j hi hj=>(hm i hi).2 j hj⟩;obtain⟨i,hi,rfl⟩:=mem_getD (d:=[]) hr;exact (hm i (by omega)).1
theorem vplus_L {bits:Int} (hb:bitsOk bits=true) {K L:Nat} (h:K+L+1<=16384):∀ {a b:List FS} {F G:List (Nat->Rat)},HL K L a F->HL K L b G->a.length=b.length->∃ r,vPlus bits a b=.ok r/\HL (K+2) L r (List.zipWith (fun x y N=>x N+y N) F G):=by
 intro a b F G ha hb' hab;unfold vPlus;rw[if_neg (by simpa using hab)]
 induction ha generalizing b G with
 |nil =>
  cases hb' with
  |nil=>exact⟨[],rfl,.nil⟩
  |cons _ _ _=>cases hab
 |cons g1 g2 _ ih =>
  cases hb' with
  |nil=>cases hab
  |cons k1 k2 hb' =>
   obtain⟨r,r1,r2⟩:=ih hb' (by simpa using hab);obtain⟨s,s1,s2,s3,s4⟩:=sAdd_ok hb g1 k1 h;exact⟨s::r,by simp only[List.zip_cons_cons,runE,s1,r1],.cons s2 (Lim.add g2 k2 s3 s4) r2⟩
theorem vtimes_L {bits:Int} (hb:bitsOk bits=true) {K L K' L':Nat} {c:FS} {u:Nat->Rat} (hc:SGr K' L' c) (hu:Lim u c) (h:K+L+(K'+L')+1<=16384):∀ {a:List FS} {F:List (Nat->Rat)},HL K L a F->∃ r,vTimes a c bits=.ok r/\HL (K+K'+1) (L+L') r (F.map fun x N=>x N*u N):=by
 intro a F ha;unfold vTimes
 induction ha with
 |nil=>exact⟨[],rfl,.nil⟩
 |cons g1 g2 _ ih =>
  obtain⟨r,r1,r2⟩:=ih;obtain⟨p,p1,p2,p3⟩:=sMul_ok hb g1 hc h;exact⟨p::r,by simp only[runE,p1,r1],.cons p2 (Lim.mul g2 hu p3) r2⟩
theorem HL.at {K L:Nat} {l:List FS} {m:List (Nat->Rat)} (h:HL K L l m):∀ {i:Nat} {x:Nat->Rat},m[i]?=some x->SGr K L (l.getD i s0)/\Lim x (l.getD i s0):=by
 induction h with
 |nil=>intro i x h; simp at h
 |cons h1 h2 _ ih =>
  intro i x hx;cases i with
  |zero=>simp at hx; subst hx; exact⟨h1,h2⟩
  |succ i=>exact ih (by simpa using hx)
theorem plus_L {n K L:Nat} {bits:Int} {p q:List (List FS)} {f g:Nat->Nat->Nat->Rat} (hbo:bitsOk bits=true) (hp:HTL n K L p f) (hq:HTL n K L q g) (h:K+L+1<=16384) :
  ∃ m,mPlus bits p q=.ok m/\HTL n (K+2) L m (fun N i j=>f N i j+g N i j):=by
 unfold mPlus;rw[if_neg (by rw[hp.1.1,hq.1.1]; simp)];have hz:∀ i,i<n->(p.zip q)[i]?=some (p.getD i [],q.getD i []):=fun i hi=>by
  have h1:i<p.length:=by rw[hp.1.1]; exact hi
  have h2:i<q.length:=by rw[hq.1.1]; exact hi
  simp[List.getD,List.getElem?_zip_eq_some,h1,h2]
 have hzl:(p.zip q).length=n:=by rw[List.length_zip,hp.1.1,hq.1.1]; exact Nat.min_self n
 have one:∀ i,i<n->∃ r,vPlus bits (p.getD i []) (q.getD i [])=.ok r/\HL (K+2) L r (List.zipWith (fun x y N=>x N+y N) ((List.range n).map fun k N=>f N i k) ((List.range n).map fun k N=>g N i k)):=fun i hi=>vplus_L hbo h (hp.row hi) (hq.row hi) (by rw[hp.1.row hi,hq.1.row hi])
 obtain⟨m,m1,m2,m3⟩:=runE_rel (f:=fun z:List FS×List FS=>vPlus bits z.1 z.2) (l:=p.zip q) (R:=fun z r=>vPlus bits z.1 z.2=.ok r) (by
  intro z hzm;obtain⟨i,hi,e⟩:=List.mem_iff_getElem.1 hzm;have e1:z=(p.getD i [],q.getD i []):=by
   have:=hz i (by omega);rw[List.getElem?_eq_getElem hi,e] at this;exact Option.some.inj this
  subst e1;obtain⟨r,r1,_⟩:=one i (by omega);exact⟨r,r1,r1⟩)
 have hml:m.length=n:=by rw[m2]; exact hzl
 have hm:∀ i,i<n->HL (K+2) L (m.getD i []) (List.zipWith (fun x y N=>x N+y N) ((List.range n).map fun k N=>f N i k) ((List.range n).map fun k N=>g N i k)):=fun i hi=>by
  have h1:=m3 i _ _ (hz i hi) (get_ne (d:=[]) (by rw[hml]; exact hi));obtain⟨r,r1,r2⟩:=one i hi;simp only at h1;rw[r1] at h1;have h2:=Except.ok.inj h1;rw[<- h2];exact r2
 refine⟨m,m1,⟨hml,fun r hr=>?_⟩,fun i j hi hj=>?_⟩
 ·obtain⟨i,hi,rfl⟩:=mem_getD (d:=[]) hr;rw[(hm i (by omega)).len];simp
 ·exact (hm i hi).at (by simp[List.getElem?_zipWith,hj])
def mScaled (bits:Int) (p:List (List FS)) (c:FS):Except Nat (List (List FS)):=runE (fun r=>vTimes r c bits) p
theorem scaled_L {n K L K' L':Nat} {bits:Int} {p:List (List FS)} {c:FS} {f:Nat->Nat->Nat->Rat} {u:Nat->Rat} (hbo:bitsOk bits=true) (hp:HTL n K L p f) (hc:SGr K' L' c) (hu:Lim u c) (h:K+L+(K'+L')+1<=16384) :
  ∃ m,mScaled bits p c=.ok m/\HTL n (K+K'+1) (L+L') m (fun N i j=>f N i j*u N):=by
 unfold mScaled;have one:∀ i,i<n->∃ r,vTimes (p.getD i []) c bits=.ok r/\HL (K+K'+1) (L+L') r (((List.range n).map fun k N=>f N i k).map fun x N=>x N*u N):=fun i hi=>vtimes_L hbo hc hu h (hp.row hi)
 obtain⟨m,m1,m2,m3⟩:=runE_rel (f:=fun r=>vTimes r c bits) (l:=p) (R:=fun x r=>vTimes x c bits=.ok r) (by
  intro x hx;obtain⟨i,hi,rfl⟩:=mem_getD (d:=[]) hx;obtain⟨r,r1,_⟩:=one i (by rw[<- hp.1.1]; exact hi);exact⟨r,r1,r1⟩)
 have hml:m.length=n:=by rw[m2]; exact hp.1.1
 have hm:∀ i,i<n->HL (K+K'+1) (L+L') (m.getD i []) (((List.range n).map fun k N=>f N i k).map fun x N=>x N*u N):=fun i hi=>by
  have h1:=m3 i _ _ (get_ne (d:=[]) (by rw[hp.1.1]; exact hi)) (get_ne (d:=[]) (by rw[hml]; exact hi));obtain⟨r,r1,r2⟩:=one i hi;rw[r1] at h1;have h2:=Except.ok.inj h1;rw[<- h2];exact r2
 refine⟨m,m1,⟨hml,fun r hr=>?_⟩,fun i j hi hj=>?_⟩
 ·obtain⟨i,hi,rfl⟩:=mem_getD (d:=[]) hr;rw[(hm i (by omega)).len];simp
 ·exact (hm i hi).at (by simp[hj])
def MB (bits:Int) (s:FS):Prop:=s.lo.man.natAbs<=2^bits.toNat/\s.hi.man.natAbs<=2^bits.toNat
theorem sOut_ok2 {lo hi:FD} {K L:Nat} {bits:Int} (hb:bitsOk bits=true) (hl:Gr K L lo) (hh:Gr K L hi) (hL:L<=65536) (hK:K+1<=65536) :
  ∃ r,sOut lo hi bits=.ok r/\SGr (K+1) L r/\r.lo.v<=lo.v/\hi.v<=r.hi.v/\MB bits r/\absQ (r.lo.v-lo.v)<=absQ lo.v*2^(1-bits)/\absQ (r.hi.v-hi.v)<=absQ hi.v*2^(1-bits):=by
 obtain⟨l,l1,l2,l3,_,l5,l6⟩:=dRound_ok false hb hl hL hK;obtain⟨u,u1,u2,_,u3,u5,u6⟩:=dRound_ok true hb hh hL hK;exact⟨⟨l,u⟩,by with_unfolding_all (simp only[sOut,bnd,l1,u1]),⟨l2,u2⟩,l3 rfl,u3 rfl,⟨l6,u6⟩,l5,u5⟩
theorem sAdd_ok2 {a b:FS} {K L:Nat} {bits:Int} (hb:bitsOk bits=true) (ha:SGr K L a) (hb2:SGr K L b) (h:K+L+1<=16384) :
  ∃ r,sAdd a b bits=.ok r/\SGr (K+2) L r/\r.lo.v<=a.lo.v+b.lo.v/\a.hi.v+b.hi.v<=r.hi.v/\MB bits r/\absQ (r.lo.v-(a.lo.v+b.lo.v))<=absQ (a.lo.v+b.lo.v)*2^(1-bits)/\absQ (r.hi.v-(a.hi.v+b.hi.v))<=absQ (a.hi.v+b.hi.v)*2^(1-bits):=by
 obtain⟨l,l1,l2,l3⟩:=dAdd_ok ha.1 hb2.1 h;obtain⟨u,u1,u2,u3⟩:=dAdd_ok ha.2 hb2.2 h;obtain⟨r,r1,r2,r3,r4,r5,r6,r7⟩:=sOut_ok2 hb l3 u3 (by omega) (by omega);rw[l2] at r3 r6;rw[u2] at r4 r7;exact⟨r,by simp only[sAdd,bnd,l1,u1,r1],r2,r3,r4,r5,r6,r7⟩
def MBT (n:Nat) (bits:Int) (m:List (List FS)):Prop:=∀ i j,i<n->j<n->MB bits ((m.getD i []).getD j s0)
theorem vplus_get {bits:Int}:∀ {a b r:List FS} {k:Nat},runE (fun p:FS×FS=>sAdd p.1 p.2 bits) (a.zip b)=.ok r->k<(a.zip b).length->sAdd (a.getD k s0) (b.getD k s0) bits=.ok (r.getD k s0)
 |[],b,r,k,_,hk=>by simp at hk
 |x::a,[],r,k,_,hk=>by simp at hk
 |x::a,y::b,r,k,h,hk=>by
  simp only[List.zip_cons_cons,runE] at h;cases hs:sAdd x y bits with
  |error e=>rw[hs] at h; cases h
  |ok s =>
   rw[hs] at h;cases hr:runE (fun p:FS×FS=>sAdd p.1 p.2 bits) (a.zip b) with
   |error e=>rw[hr] at h; cases h
   |ok t =>
    rw[hr] at h;cases h;cases k with
    |zero=>exact hs
    |succ k =>
     show sAdd (a.getD k s0) (b.getD k s0) bits=.ok (t.getD k s0);exact vplus_get hr (by simpa using hk)
theorem plus_get {n:Nat} {bits:Int} {p q m:List (List FS)} (hp:SqG n p) (hq:SqG n q) (hm:mPlus bits p q=.ok m) {i j:Nat} (hi:i<n) (hj:j<n):sAdd ((p.getD i []).getD j s0) ((q.getD i []).getD j s0) bits=.ok ((m.getD i []).getD j s0):=by
 unfold mPlus at hm;rw[if_neg (by rw[hp.1,hq.1]; simp)] at hm;have hz:(p.zip q)[i]?=some (p.getD i [],q.getD i []):=by
  have h1:i<p.length:=by rw[hp.1]; exact hi
  have h2:i<q.length:=by rw[hq.1]; exact hi
  simp[List.getD,List.getElem?_zip_eq_some,h1,h2]
 have hrow:∀ {l:List (List FS×List FS)} {m:List (List FS)} {i:Nat} {z:List FS×List FS},runE (fun z:List FS×List FS=>vPlus bits z.1 z.2) l=.ok m->l[i]?=some z->vPlus bits z.1 z.2=.ok (m.getD i []):=by
  intro l
  induction l with
  |nil=>intro m i z _ h; simp at h
  |cons w l ih =>
   intro m i z hm hz;simp only[runE] at hm;cases hs:vPlus bits w.1 w.2 with
   |error e=>rw[hs] at hm; cases hm
   |ok s =>
    rw[hs] at hm;cases hr:runE (fun z:List FS×List FS=>vPlus bits z.1 z.2) l with
    |error e=>rw[hr] at hm; cases hm
    |ok t =>
     rw[hr] at hm;cases hm;cases i with
     |zero=>simp at hz; subst hz; exact hs
     |succ i =>
      show vPlus bits z.1 z.2=.ok (t.getD i []);exact ih hr (by simpa using hz)
 have h1:=hrow hm hz;have h1:vPlus bits (p.getD i []) (q.getD i [])=.ok (m.getD i []):=h1;have l1:=hp.row hi;have l2:=hq.row hi;unfold vPlus at h1;rw[if_neg (by rw[l1,l2]; simp)] at h1;exact vplus_get (k:=j) h1 (by rw[List.length_zip,l1,l2,Nat.min_self]; exact hj)
theorem plus_MB {n K L:Nat} {bits:Int} {p q m:List (List FS)} {f g:Nat->Nat->Nat->Rat} (hbo:bitsOk bits=true) (hp:HTL n K L p f) (hq:HTL n K L q g) (h:K+L+1<=16384) (hm:mPlus bits p q=.ok m):MBT n bits m:=by
 intro i j hi hj;have h2:=plus_get hp.1 hq.1 hm hi hj;obtain⟨r,r1,_,_,_,r5,_⟩:=sAdd_ok2 hbo (hp.2 i j hi hj).1 (hq.2 i j hi hj).1 h;rw[r1] at h2;have:=Except.ok.inj h2;rw[<- this];exact r5
theorem Lim.event {f:Nat->Rat} {s:FS} {x:Rat} {M:Nat} (hx:In x s) (h:∀ N,M<=N->In (f N) s):Lim f s:=by
 refine⟨fun N=>if M<=N then f N else x,fun N=>?_,fun e he=>⟨M,fun N hN=>?_⟩⟩
 ·dsimp only;split
  ·rename_i q;exact h N q
  ·exact hx
 ·dsimp only;rw[if_pos hN,Rat.sub_self,absQ_pos Rat.le_refl];exact Rat.le_of_lt he
end
section
open Go Go.RowKit Go.Proofs.Tryz
def termsGo (bits:Int):Nat->Nat->Nat->Nat×Nat
 |0,k,s=>(k,s)
 |n+1,k,s=>if (blen s:Int)<bits+2 then termsGo bits n (k+1) (s*(2*(k+1))) else (k,s)
attribute [local irreducible] zMul zAdd zLeft zRight fitZ qMake zDiv dMake dLevel dRound dNear dAdd dMul dRatio dCmp dMin dMax dAbs dLess qCmp sOut qAdd qMul sAdd sMul sNear qSum sSize vEach vDot vNear qSgn qAbs vScale vPlus vInner vTimes
def mDiv (bits:Int) (a:List (List FS)) (by':Int):Except Nat (List (List FS)):=bnd (sNear (qOf 1 by') bits) fun s=>mScaled bits a s
def sumsGo (bits:Int) (x:List (List FS)):Nat->Nat->List (List FS)->List (List FS)->List (List FS)->Except Nat (List (List FS)×List (List FS))
 |0,_,_,E,S=>.ok (E,S)
 |n+1,j,term,E,S=>bnd (mTimes bits term x) fun t1=>bnd (mDiv bits t1 j) fun t2=>bnd (mPlus bits E t2) fun E'=>bnd (mDiv bits t2 (j+1:Nat)) fun nx=>bnd (mPlus bits S nx) fun S'=>sumsGo bits x n (j+1) t2 E' S'
theorem bnd_ok {α β:Type} {r:Except Nat α} {x:α} {f:α->Except Nat β} (h:r=.ok x):bnd r f=f x:=by rw[h]; rfl
structure Inv1 (j:Nat):Prop where
 q:(qOf 1 j).q=1/(j:Rat)
 s:Sz (qOf 1 j).q 1 8
theorem div_L {n K L j:Nat} {bits:Int} {p:List (List FS)} {f:Nat->Nat->Nat->Rat} (hj:Inv1 j) (hbo:bitsOk bits=true) (hp:HTL n K L p f) (hb:bits.toNat<=1000) (h:K+L+bits.toNat+100<=16384) :
  ∃ m,mDiv bits p j=.ok m/\HTL n (K+4) (L+(bits.toNat+8)) m (fun N i k=>f N i k*(1/(j:Rat))):=by
 obtain⟨s,s1,s2,s3⟩:=sNear_ok hbo hj.s (by omega) (by decide);rw[hj.q] at s3;obtain⟨m,m1,m2⟩:=scaled_L hbo hp s2 (Lim.of_in s3) (by omega);exact⟨m,(bnd_ok s1).trans m1,m2.mono (by omega) (Nat.le_refl _)⟩
theorem ex_one (j:Nat):ex j 1*(1/((j+1:Nat):Rat))=ex (j+1) 1:=by
 show _=ex j 1*1/((j:Rat)+1);have e:((j+1:Nat):Rat)=(j:Rat)+1:=by rw[Rat.natCast_add]; rfl
 rw[e,Rat.div_def,Rat.div_def,Rat.one_mul,Rat.mul_one]
theorem PS_succ (n:Nat) (A:Nat->Nat->Rat) (a:Nat->Rat) (N i j:Nat):PS n A a (N+1) i j=PS n A a N i j+a N*pw n A N i j:=SS_last _ _
theorem sums_L {n Kx Lx:Nat} {bits:Int} {x:List (List FS)} {X:Nat->Nat->Rat} (hbo:bitsOk bits=true) (hb:bits.toNat<=1000) (hx:HTL n Kx Lx x fun _=>X) (hI:∀ j,1<=j->j<=150->Inv1 j) (hn:n<=10) :
  ∀ (cnt j:Nat) (term E S:List (List FS)) (K L:Nat),j+1+cnt<=150->K+cnt*(Kx+2*n+11)+L+cnt*(Lx+bits.toNat+20)+bits.toNat+Kx+Lx+200<=16384 ->
  HTL n K L term (fun _ i k=>ex j 1*pw n X j i k)->HTL n K (L+bits.toNat+8) E (fun _=>EN n X 1 (j+1))->HTL n K (L+bits.toNat+8) S (fun _=>UN n X 1 (j+1)) ->
  ∃ E' S',sumsGo bits x cnt (j+1) term E S=.ok (E',S')/\HTL n (K+cnt*(Kx+2*n+11)) (L+cnt*(Lx+bits.toNat+20)+bits.toNat+8) E' (fun _=>EN n X 1 (j+1+cnt))/\HTL n (K+cnt*(Kx+2*n+11)) (L+cnt*(Lx+bits.toNat+20)+bits.toNat+8) S' (fun _=>UN n X 1 (j+1+cnt))/\((cnt=0->MBT n bits E/\MBT n bits S)->MBT n bits E'/\MBT n bits S')
 |0,j,term,E,S,K,L,_,_,_,hE,hS=>⟨E,S,rfl,hE.mono (by omega) (by omega),hS.mono (by omega) (by omega),fun h=>h rfl⟩
 |cnt+1,j,term,E,S,K,L,hj,hs,ht,hE,hS=>by
  have e1:(cnt+1)*(Kx+2*n+11)=cnt*(Kx+2*n+11)+(Kx+2*n+11):=Nat.succ_mul _ _;have e2:(cnt+1)*(Lx+bits.toNat+20)=cnt*(Lx+bits.toNat+20)+(Lx+bits.toNat+20):=Nat.succ_mul _ _;rw[e1,e2] at hs ⊢;obtain⟨t1,a1,a2⟩:=times_L hbo ht hx (by omega);obtain⟨t2,b1,b2⟩:=div_L (hI (j+1) (by omega) (by omega)) hbo a2 hb (by omega);have c2:HTL n (K+Kx+1+2*n+4) (L+Lx+(bits.toNat+8)) t2 (fun _ i k=>ex (j+1) 1*pw n X (j+1) i k):=b2.congr fun i k hi hk=>Nul.zero.congr fun N=>by
   have:mm n (fun i k=>ex j 1*pw n X j i k) X i k=ex j 1*pw n X (j+1) i k:=by
    show (SS n fun l=>ex j 1*pw n X j i l*X l k)=ex j 1*SS n fun l=>pw n X j i l*X l k
    rw[SS_mul_l];exact SS_congr fun l _=>by grind
   rw[this,<- ex_one j];grind
  obtain⟨E',d1,d2⟩:=plus_L hbo (hE.mono (K':=K+Kx+1+2*n+8) (L':=L+Lx+(bits.toNat+8)+(bits.toNat+8)) (by omega) (by omega)) (c2.mono (K':=K+Kx+1+2*n+8) (L':=L+Lx+(bits.toNat+8)+(bits.toNat+8)) (by omega) (by omega)) (by omega);obtain⟨nx,f1,f2⟩:=div_L (hI (j+1+1) (by omega) (by omega)) hbo c2 hb (by omega);have g2:HTL n (K+Kx+1+2*n+8) (L+Lx+(bits.toNat+8)+(bits.toNat+8)) nx (fun _ i k=>ex (j+1+1) 1*pw n X (j+1) i k):=(f2.mono (by omega) (by omega)).congr fun i k hi hk=>Nul.zero.congr fun N=>by
   rw[<- ex_one (j+1)];grind
  obtain⟨S',h1,h2⟩:=plus_L hbo (hS.mono (K':=K+Kx+1+2*n+8) (L':=L+Lx+(bits.toNat+8)+(bits.toNat+8)) (by omega) (by omega)) g2 (by omega);have hrun:sumsGo bits x (cnt+1) (j+1) term E S=sumsGo bits x cnt (j+1+1) t2 E' S':=by
   show (bnd (mTimes bits term x) fun t1=>bnd (mDiv bits t1 (j+1:Nat)) fun t2=>bnd (mPlus bits E t2) fun E'=>bnd (mDiv bits t2 (j+1+1:Nat)) fun nx=>bnd (mPlus bits S nx) fun S'=>sumsGo bits x cnt (j+1+1) t2 E' S')=_;rw[bnd_ok a1,bnd_ok b1,bnd_ok d1,bnd_ok f1,bnd_ok h1]
  obtain⟨E2,S2,i1,i2,i3,i4⟩:=sums_L hbo hb hx hI hn cnt (j+1) t2 E' S' (K+Kx+2*n+11) (L+Lx+bits.toNat+20) (by omega) (by omega) (c2.mono (by omega) (by omega))
   ((d2.mono (K':=K+Kx+2*n+11) (L':=L+Lx+bits.toNat+20+bits.toNat+8) (by omega) (by omega)).congr fun i k hi hk=>Nul.zero.congr fun N=>by
    show PS n X (fun m=>ex m 1) (j+1+1) i k-_=0;rw[PS_succ];show _-(PS n X (fun m=>ex m 1) (j+1) i k+_)=0;grind)
   ((h2.mono (K':=K+Kx+2*n+11) (L':=L+Lx+bits.toNat+20+bits.toNat+8) (by omega) (by omega)).congr fun i k hi hk=>Nul.zero.congr fun N=>by
    show PS n X (fun m=>ex (m+1) 1) (j+1+1) i k-_=0;rw[PS_succ];show _-(PS n X (fun m=>ex (m+1) 1) (j+1) i k+_)=0;grind)
  rw[show j+1+1+cnt=j+1+(cnt+1) by omega] at i2 i3;exact⟨E2,S2,hrun.trans i1,i2.mono (by omega) (by omega),i3.mono (by omega) (by omega),fun _=>i4 fun _=>⟨plus_MB hbo (hE.mono (K':=K+Kx+1+2*n+8) (L':=L+Lx+(bits.toNat+8)+(bits.toNat+8)) (by omega) (by omega)) (c2.mono (K':=K+Kx+1+2*n+8) (L':=L+Lx+(bits.toNat+8)+(bits.toNat+8)) (by omega) (by omega)) (by omega) d1,
   plus_MB hbo (hS.mono (K':=K+Kx+1+2*n+8) (L':=L+Lx+(bits.toNat+8)+(bits.toNat+8)) (by omega) (by omega)) g2 (by omega) h1⟩⟩
end
section
open Go Go.RowKit Go.Proofs.Tryz
theorem inv_all:(List.range 150).all (fun j=>decide ((qOf 1 ((j+1:Nat):Int)).q.num=1/\(qOf 1 ((j+1:Nat):Int)).q.den=j+1))=true:=by kernel_rfl
theorem inv1 {j:Nat} (h1:1<=j) (h2:j<=150):Inv1 j:=by
 obtain⟨i,rfl⟩:∃ i,j=i+1:=⟨j-1,by omega⟩
 have h:=of_decide_eq_true (List.all_eq_true.1 inv_all i (List.mem_range.2 (by omega)));constructor
 ·have e:=Rat.num_divInt_den (qOf 1 ((i+1:Nat):Int)).q;rw[h.1,h.2,Rat.divInt_eq_div] at e;rw[<- e];rfl
 ·constructor
  ·rw[h.1];decide
  ·rw[h.2];show i+1<2^8;omega
attribute [local irreducible] zMul zAdd zLeft zRight fitZ qMake zDiv dMake dLevel dRound dNear dAdd dMul dRatio dCmp dMin dMax dAbs dLess qCmp sOut qAdd qMul
theorem Gr.regrid {K L L':Nat} {d:FD} (h:Gr K L d) (h':d.man≠0->-(L':Int)<=d.exp):Gr K L' d:=by
 rcases Nat.le_total L L' with hl | hl
 ·exact h.mono (Nat.le_refl _) hl
 ·rcases h with h | ⟨h1,h2⟩
  ·exact .inl h
  ·by_cases h0:d.man=0
   ·exact .inl h0
   ·have h3:=h' h0;refine .inr ⟨h3,?_⟩;have e1:(d.exp+(L:Int)).toNat=(d.exp+(L':Int)).toNat+(L-L'):=by omega
    have e2:K+L=K+L'+(L-L'):=by omega
    rw[e1,e2,Nat.pow_add,Nat.pow_add,<- Nat.mul_assoc] at h2;exact Nat.lt_of_mul_lt_mul_right h2
theorem man_v {a:FD} {b:Nat} (h:a.man.natAbs<=2^b):absQ a.v<=2^((b:Int)+a.exp):=by
 rw[absQ_v,zpow_add2];refine Rat.mul_le_mul_of_nonneg_right ?_ (Rat.le_of_lt (zpow_pos2 _));have h1:((a.man.natAbs:Nat):Rat)<=((2^b:Nat):Rat):=Rat.natCast_le_natCast.2 h;have h2:((2^b:Nat):Rat)=(2:Rat)^(b:Int):=by
  rw[<- cast_pow2];have:((2:Int)^b:Int)=((2^b:Nat):Int):=by simp
  rw[this];rfl
 rw[<- h2];exact h1
theorem grid_reset {e r:FD} {z:Rat} {lam b:Nat} (hb:2<=b) (hm:e.man.natAbs<=2^b) (hr:r.man.natAbs<=2^b) (hz:absQ z=2^(-(lam:Int))) (he:e.exp<=-(((lam+b+3:Nat)):Int))
  (hrel:absQ (r.v-(e.v+z))<=absQ (e.v+z)*2^(1-(b:Int))):-(((lam+b+2:Nat)):Int)<=r.exp:=by
 have h1:=man_v hm;have h2:(2:Rat)^((b:Int)+e.exp)<=2^(-(lam:Int)-3):=zpow_le2 (by omega);have h3:(2:Rat)^(1-(b:Int))<=2^(-1:Int):=zpow_le2 (by omega);have e1:(2:Rat)^(-(lam:Int))=2^(-(lam:Int)-3)*8:=by
  have:(2:Rat)^(-(lam:Int))=2^((-(lam:Int)-3)+3):=by rw[show (-(lam:Int)-3)+3=-(lam:Int) by omega]
  rw[this,zpow_add2];congr 1
 have e2:(2:Rat)^(-1:Int)=1/2:=by decide +kernel
 have hpos:=zpow_pos2 (-(lam:Int)-3);obtain⟨p,hp⟩:∃ p,(2:Rat)^(-(lam:Int)-3)=p:=⟨_,rfl⟩
 rw[hp] at h2 e1 hpos;rw[e1] at hz;rw[e2] at h3;have h4:absQ e.v<=p:=Rat.le_trans h1 h2;have h5:7*p<=absQ (e.v+z):=by
  have:=absQ_add (e.v+z) (-e.v);rw[absQ_neg,show e.v+z+-e.v=z by grind] at this;grind
 have h6:absQ (r.v-(e.v+z))<=absQ (e.v+z)*(1/2):=Rat.le_trans hrel (Rat.mul_le_mul_of_nonneg_left h3 (absQ_nonneg _));have h7:2*p<=absQ r.v:=by
  have:=absQ_add r.v (-(r.v-(e.v+z)));rw[absQ_neg,show r.v+-(r.v-(e.v+z))=e.v+z by grind] at this;grind
 have h8:=man_v hr;have e3:(2:Rat)^(-(lam:Int)-2)=2*p:=by
  have:(2:Rat)^(-(lam:Int)-2)=2^((-(lam:Int)-3)+1):=by rw[show (-(lam:Int)-3)+1=-(lam:Int)-2 by omega]
  rw[this,zpow_add2,hp];have:(2:Rat)^(1:Int)=2:=by decide +kernel
  rw[this,Rat.mul_comm]
 have h9:(2:Rat)^(-(lam:Int)-2)<=2^((b:Int)+r.exp):=by
  rw[e3];exact Rat.le_trans h7 h8
 have h10:-(lam:Int)-2<=(b:Int)+r.exp:=by
  apply Classical.byContradiction;intro c;have h11:=zpow_le2 (show (b:Int)+r.exp+1<=-(lam:Int)-2 by omega);rw[zpow_add2] at h11;have e4:(2:Rat)^(1:Int)=2:=by decide +kernel
  rw[e4] at h11;have:=zpow_pos2 ((b:Int)+r.exp);grind
 omega
theorem end_reset {e z:FD} {K L lam:Nat} {bits:Int} (up:Bool) (hbo:bitsOk bits=true) (he:Gr K L e) (hL:lam<=L) (hz:Gr K lam z) (hzv:absQ z.v=2^(-(lam:Int))) (hm:e.man.natAbs<=2^bits.toNat) (h:K+L+lam+bits.toNat+10<=16384) :
  ∃ s r,dAdd e z=.ok s/\dRound s bits up=.ok r/\Gr (K+2) (lam+bits.toNat+2) r/\(up=false->r.v<=e.v+z.v)/\(up=true->e.v+z.v<=r.v):=by
 have hb2:=(bitsOk_iff.1 hbo).1;obtain⟨s,s1,s2,s3⟩:=dAdd_ok he (hz.mono (Nat.le_refl _) hL) (by omega);obtain⟨r,r1,r2,r3,r4,r5,r6⟩:=dRound_ok up hbo s3 (by omega) (by omega);rw[s2] at r3 r4 r5;refine⟨s,r,s1,r1,?_,r3,r4⟩;by_cases hc:e.man≠0/\e.exp<=-(((lam+bits.toNat+3:Nat)):Int)
 ·refine r2.regrid fun _=>grid_reset (by omega) hm r6 hzv hc.2 ?_
  rw[Int.toNat_of_nonneg (by omega)];exact r5
 ·have he':Gr K (lam+bits.toNat+2) e:=he.regrid fun h0=>by
   have:¬ e.exp<=-(((lam+bits.toNat+3:Nat)):Int):=fun q=>hc ⟨h0,q⟩
   omega
  obtain⟨s',t1,_,t3⟩:=dAdd_ok he' (hz.mono (Nat.le_refl _) (by omega)) (by omega);rw[s1] at t1;cases t1;obtain⟨r',u1,u2,_⟩:=dRound_ok up hbo t3 (by omega) (by omega);rw[r1] at u1;cases u1;exact u2
theorem span_reset {a:FS} {d:FD} {K L lam:Nat} {bits:Int} (hbo:bitsOk bits=true) (ha:SGr K L a) (hL:lam<=L) (hlo:Gr K lam d) (hhi:Gr K lam (dNeg d)) (hd:absQ d.v=2^(-(lam:Int))) (hm:MB bits a) (h:K+L+lam+bits.toNat+10<=16384) :
  ∃ r,sAdd a ⟨dNeg d,d⟩ bits=.ok r/\SGr (K+2) (lam+bits.toNat+2) r/\r.lo.v<=a.lo.v-d.v/\a.hi.v+d.v<=r.hi.v:=by
 have hn:(dNeg d).v=-d.v:=dNeg_v d;obtain⟨s,l,a1,a2,a3,a4,_⟩:=end_reset false hbo ha.1 hL hhi (by rw[hn,absQ_neg]; exact hd) hm.1 h;obtain⟨s',u,b1,b2,b3,_,b5⟩:=end_reset true hbo ha.2 hL hlo hd hm.2 h;have h4:=a4 rfl;rw[hn] at h4;refine⟨⟨l,u⟩,by with_unfolding_all (simp only[sAdd,sOut,bnd,a1,b1,a2,b2]),⟨a3,b3⟩,by show l.v<=_; grind,b5 rfl⟩
end
section
open Go Go.RowKit Go.Proofs.Tryz
attribute [local irreducible] zMul zAdd zLeft zRight fitZ qMake zDiv dMake dLevel dRound dNear dAdd dMul dRatio dCmp dMin dMax dLess qCmp sOut qAdd qMul sAdd sMul sNear vPlus vInner vTimes
def evenT (n:Nat) (d:FD):List (List FS):=List.replicate n (List.replicate n (⟨dNeg d,d⟩:FS))
theorem evenT_at {n:Nat} {d:FD} {i j:Nat} (hi:i<n) (hj:j<n):((evenT n d).getD i []).getD j s0=⟨dNeg d,d⟩:=by
 simp[evenT,List.getD,hi,hj]
theorem evenT_sq (n:Nat) (d:FD):SqG n (evenT n d):=⟨by simp[evenT],fun r hr=>by rw[(List.mem_replicate.1 hr).2]; simp⟩
theorem Gr.lneg {K L:Nat} {d:FD} (h:Gr K L d):Gr K L (dNeg d):=h.neg
theorem rest_L {n K L lam M:Nat} {bits:Int} {E:List (List FS)} {d:FD} {f g:Nat->Nat->Nat->Rat} (hbo:bitsOk bits=true) (hE:HTL n K L E f) (hm:MBT n bits E) (hL:lam<=L) (hd:Gr K lam d) (hdv:d.v=2^(-(lam:Int))) (h:K+L+lam+bits.toNat+10<=16384)
  (hg:∀ N i j,M<=N->i<n->j<n->absQ (g N i j-f N i j)<=d.v):∃ m,mPlus bits E (evenT n d)=.ok m/\HTL n (K+2) (lam+bits.toNat+2) m g:=by
 have hpos:=zpow_pos2 (-(lam:Int));have hn:(dNeg d).v=-d.v:=dNeg_v d;have hq:HTL n K L (evenT n d) (fun N i j=>g N i j-f N i j):=by
  refine⟨evenT_sq n d,fun i j hi hj=>?_⟩;rw[evenT_at hi hj];refine⟨⟨(hd.lneg).mono (Nat.le_refl _) hL,hd.mono (Nat.le_refl _) hL⟩,Lim.event (x:=0) (M:=M) ⟨?_,?_⟩ fun N hN=>?_⟩
  ·show (dNeg d).v<=0;rw[hn];grind
  ·show 0<=d.v;grind
  ·have:=absQ_le.1 (hg N i j hN hi hj);exact⟨by show (dNeg d).v<=_; rw[hn]; exact this.1,this.2⟩
 obtain⟨m,m1,m2⟩:=plus_L hbo hE hq (by omega);refine⟨m,m1,m2.1,fun i j hi hj=>?_⟩;have h1:=plus_get hE.1 hq.1 m1 hi hj;rw[evenT_at hi hj] at h1;obtain⟨r,r1,r2,_⟩:=span_reset hbo (hE.2 i j hi hj).1 hL hd hd.lneg (by rw[absQ_pos (by grind)]; exact hdv) (hm i j hi hj) h;rw[h1] at r1;have e:=Except.ok.inj r1;rw[e];refine⟨r2,?_⟩;have h2:=(m2.2 i j hi hj).2;rw[e] at h2;have e2:(fun N=>f N i j+(g N i j-f N i j))=fun N=>g N i j:=funext fun N=>by grind
 rw[e2] at h2;exact h2
def mSums (bits:Int) (n:Nat) (x:List (List FS)) (t:FQ) (k:Nat) (d:FD):Except Nat (List (List FS)×List (List FS)) :=
 bnd (mNear (mOne n) bits) fun one=>bnd (sumsGo bits x (k-1) 1 one one one) fun p=>bnd (mPlus bits p.1 (evenT n d)) fun E=>bnd (mPlus bits p.2 (evenT n d)) fun S=>bnd (sNear t bits) fun tm=>bnd (mScaled bits S tm) fun S'=>.ok (E,S')
theorem half_sml {n:Nat} {X:Nat->Nat->Rat} (hX:RowB n X (1/2)) {k N:Nat} (hk:1<=k) (hN:k<=N) {i j:Nat} (hi:i<n) (hj:j<n):absQ (EN n X 1 N i j-EN n X 1 k i j)<=2*ex k (1/2)/\absQ (UN n X 1 N i j-UN n X 1 k i j)<=2*ex k (1/2):=by
 have e1:absQ (1:Rat)=1:=absQ_pos (by grind);have e2:absQ (1:Rat)*(1/2)=1/2:=by rw[e1]; grind
 have h0:(0:Rat)<=(k:Rat):=Rat.natCast_nonneg;have h1:=EN_left hX (by grind) 1 (M:=k) (by rw[e2]; grind) hN hi hj;have h2:=UN_left hX (by grind) 1 (M:=k) (by rw[e2]; grind) hN hi hj;rw[e2] at h1 h2;rw[e1,Rat.one_mul] at h2;exact⟨h1,h2⟩
end
section
open Go Go.RowKit Go.Proofs.Tryz
attribute [local irreducible] zMul zAdd zLeft zRight fitZ qMake zDiv dMake dLevel dRound dNear dAdd dMul dRatio dCmp dMin dMax dLess qCmp sOut qAdd qMul sAdd sMul sNear vPlus vInner vTimes
def mTwice (bits:Int) (p:List (List FS)×List (List FS)):Except Nat (List (List FS)×List (List FS)) :=
 bnd (mTimes bits p.1 p.2) fun nx=>bnd (mPlus bits p.2 nx) fun S=>bnd (mTimes bits p.1 p.1) fun E=>.ok (E,S)
theorem twice_L {n K L K' L':Nat} {bits:Int} {E S:List (List FS)} {A:Nat->Nat->Rat} {c t:Rat} (hbo:bitsOk bits=true) (ha:RowB n A c) (hc:0<=c) (hE:HTL n K L E fun N=>EN n A t N) (hS:HTL n K' L' S fun N=>UN n A t N) (h:K+K'+1+2*n+(L+L')+1<=16384) (hK:K<=K') (hL:L<=L') :
  ∃ E' S',mTwice bits (E,S)=.ok (E',S')/\HTL n (K+K+1+2*n) (L+L) E' (fun N=>EN n A (t+t) N)/\HTL n (K+K'+3+2*n) (L+L') S' (fun N=>UN n A (t+t) N):=by
 obtain⟨nx,a1,a2⟩:=times_L hbo hE hS (by omega);obtain⟨S',b1,b2⟩:=plus_L hbo (hS.mono (K':=K+K'+1+2*n) (L':=L+L') (by omega) (by omega)) a2 (by omega);obtain⟨E',c1,c2⟩:=times_L hbo hE hE (by omega);refine⟨E',S',?_,c2.congr fun i j hi hj=>?_,(b2.mono (by omega) (Nat.le_refl _)).congr fun i j hi hj=>?_⟩
 ·unfold mTwice;rw[bnd_ok a1,bnd_ok b1,bnd_ok c1]
 ·exact ((EE_nul ha hc t t hi hj).neg).congr fun N=>by grind
 ·exact ((EU_nul ha hc t t hi hj).neg).congr fun N=>by grind
theorem pw_scale {n:Nat} (A:Nat->Nat->Rat) (c:Rat):∀ (m i j:Nat),pw n (fun i j=>A i j*c) m i j=c^m*pw n A m i j
 |0,i,j=>by
  rw[Rat.pow_zero,Rat.one_mul];rfl
 |m+1,i,j=>by
  show (SS n fun k=>pw n (fun i j=>A i j*c) m i k*(A k j*c))=c^(m+1)*SS n fun k=>pw n A m i k*A k j
  rw[SS_mul_l];refine SS_congr fun k _=>?_
  rw[pw_scale A c m i k,Rat.pow_succ];grind
theorem EN_scale (n:Nat) (A:Nat->Nat->Rat) (c:Rat) (N i j:Nat):EN n (fun i j=>A i j*c) 1 N i j=EN n A c N i j:=SS_congr fun m _=>by
 show ex m 1*pw n (fun i j=>A i j*c) m i j=ex m c*pw n A m i j;have h:=ex_mul 1 c m;rw[Rat.one_mul] at h;rw[pw_scale,<- h,Rat.mul_assoc]
theorem UN_scale (n:Nat) (A:Nat->Nat->Rat) (c:Rat) (N i j:Nat):UN n (fun i j=>A i j*c) 1 N i j*c=UN n A c N i j:=by
 unfold UN PS;rw[SS_mul_r];refine SS_congr fun m _=>?_
 have h:=ex_mul 1 c (m+1);rw[Rat.one_mul] at h;rw[pw_scale];show ex (m+1) 1*(c^m*pw n A m i j)*c=ex (m+1) c*pw n A m i j;rw[<- h,Rat.pow_succ];grind
end
section
open Go Go.RowKit Go.Proofs.Tryz
def mTermsK (bits:Int):Nat:=(termsGo bits 200 0 1).1
def mTermsD (bits:Int):FD:=okOr d0 (dMake (zI 1) (2-blen (termsGo bits 200 0 1).2))
end
section
open Go Go.RowKit Go.Proofs.Tryz
theorem rowB_of {n:Nat} {a:List (List FQ)} {c:Rat} (ha:Sqr n a) (h:∀ r∈a,aSum r<=c):RowB n (en a) c:=fun i hi=>by
 have h1:=h _ (ha.row hi).1;rw[aSum_SS,(ha.row hi).2] at h1;exact h1
theorem HT.lim {n K L:Nat} {p:List (List FS)} {a:List (List FQ)} (ha:Sqr n a) (h:HT n K L p a):HTL n K L p (fun _=>en a):=⟨h.1,fun i j hi hj=>by
 have g:=(h.2 i hi).getD (i:=j) (by rw[h.1.row hi]; exact hj);rw[qs_getD] at g;exact⟨g.1,Lim.of_in g.2⟩⟩
theorem RowB.congr {n:Nat} {A B:Nat->Nat->Rat} {c:Rat} (h:RowB n A c) (e:∀ i j,i<n->j<n->B i j=A i j):RowB n B c:=fun i hi=>by
 have:(SS n fun k=>absQ (B i k))=SS n fun k=>absQ (A i k):=SS_congr fun k hk=>by rw[e i k hi hk]
 rw[this];exact h i hi
theorem RowB.scale {n:Nat} {A:Nat->Nat->Rat} {c s:Rat} (h:RowB n A c):RowB n (fun i j=>A i j*s) (c*absQ s):=fun i hi=>by
 have:(SS n fun k=>absQ (A i k*s))=(SS n fun k=>absQ (A i k))*absQ s:=by
  rw[SS_mul_r];exact SS_congr fun k _=>absQ_mul _ _
 rw[this];exact Rat.mul_le_mul_of_nonneg_right (h i hi) (absQ_nonneg s)
end
end Go.Proofs.YtjdkdcmpifapeaaGreatDoor.Abs
