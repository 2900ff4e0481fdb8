/- Sets, plain: what lies in one; sizes; what is rounded. -/
import Derived.Test.YtjdkdcmpifapeaaGreatDoorOb
import Derived.Test.YtjdkdcmpifapeaaGreatDoorMr
import Derived.Test.YtjdkdcmpifapeaaGreatDoorMq
set_option linter.unusedVariables false
set_option linter.unusedSectionVars false
set_option linter.unusedSimpArgs false
set_option maxHeartbeats 4000000
namespace Go.Proofs.YtjdkdcmpifapeaaGreatDoor.Abs
section
open Go Go.RowKit Go.Proofs.Tryz
attribute [local irreducible] zMul zAdd zLeft zRight fitZ qMake zDiv dMake dLevel dRound dNear dAdd dMul dRatio dCmp dMin dMax dAbs dLess qCmp sOut qAdd qMul sAdd sMul sNear qSum sSize vNear dNeg dOf
def vv (l:List FD) (i:Nat):Rat:=(l.getD i d0).v
def dG (K L:Nat) (l:List FD):Prop:=∀ d∈l,Gr K L d
theorem dG.mono {K L K' L':Nat} {l:List FD} (h:dG K L l) (hK:K<=K') (hL:L<=L'):dG K' L' l:=fun d hd=>(h d hd).mono hK hL
theorem dG.get {K L:Nat} {l:List FD} (h:dG K L l) (i:Nat):Gr K L (l.getD i d0):=by
 rw[List.getD_eq_getElem?_getD];cases e:l[i]? with
 |none=>exact .d0 _ _
 |some x=>exact h x (List.mem_of_getElem? e)
def HF (n K L:Nat) (s:List FS) (f:Nat->Rat):Prop:=s.length=n/\∀ i,i<n->SGr K L (s.getD i s0)/\In (f i) (s.getD i s0)
theorem HF.mono {n K L K' L':Nat} {s:List FS} {f:Nat->Rat} (h:HF n K L s f) (hK:K<=K') (hL:L<=L'):HF n K' L' s f:=⟨h.1,fun i hi=>⟨(h.2 i hi).1.mono hK hL,(h.2 i hi).2⟩⟩
theorem HF.congr {n K L:Nat} {s:List FS} {f g:Nat->Rat} (h:HF n K L s f) (e:∀ i,i<n->g i=f i):HF n K L s g:=⟨h.1,fun i hi=>⟨(h.2 i hi).1,by rw[e i hi]; exact (h.2 i hi).2⟩⟩
theorem In.pt (d:FD):In d.v (sPoint d):=⟨Rat.le_refl,Rat.le_refl⟩
theorem In.even {x:Rat} {d:FD} (h:absQ x<=d.v):In x (sEven d):=by
 have h0:=absQ_nonneg x;have h1:(dAbs d).v=d.v:=by rw[dAbs_v,absQ_pos (Rat.le_trans h0 h)]
 have h2:=absQ_le.1 h;exact⟨by show (dNeg (dAbs d)).v<=x; rw[dNeg_v,h1]; exact h2.1,by show x<=(dAbs d).v; rw[h1]; exact h2.2⟩
theorem pt_gr {K L:Nat} {d:FD} (h:Gr K L d):SGr K L (sPoint d):=⟨h,h⟩
theorem even_gr {K L:Nat} {d:FD} (h:Gr K L d):SGr K L (sEven d):=⟨(dAbs_gr h).neg,dAbs_gr h⟩
theorem size_gr {K L:Nat} {s:FS} (h:SGr K L s):Gr K L (sSize s):=by
 unfold sSize;exact dMax_gr (dAbs_gr h.1) (dAbs_gr h.2)
theorem HF.pts {n K L:Nat} {l:List FD} (hl:l.length=n) (h:dG K L l):HF n K L (l.map sPoint) (vv l):=⟨by simp[hl],fun i hi=>by
 have e:(l.map sPoint).getD i s0=sPoint (l.getD i d0):=by
  rw[List.getD_eq_getElem?_getD,List.getD_eq_getElem?_getD,List.getElem?_map,List.getElem?_eq_getElem (by omega)];rfl
 rw[e];exact⟨pt_gr (h.get i),.pt _⟩⟩
theorem HF.evens {n K L:Nat} {l:List FD} (hl:l.length=n) (h:dG K L l) {ρ:Nat->Rat} (hρ:∀ i,i<n->absQ (ρ i)<=vv l i):HF n K L (l.map sEven) ρ:=⟨by simp[hl],fun i hi=>by
 have e:(l.map sEven).getD i s0=sEven (l.getD i d0):=by
  rw[List.getD_eq_getElem?_getD,List.getD_eq_getElem?_getD,List.getElem?_map,List.getElem?_eq_getElem (by omega)];rfl
 rw[e];exact⟨even_gr (h.get i),.even (hρ i hi)⟩⟩
theorem runE_all {α β:Type} {f:α->Except Nat β} {da:α} {d:β} {R:Nat->α->β->Prop}:∀ {l:List α},(∀ i,i<l.length->∃ r,f (l.getD i da)=.ok r/\R i (l.getD i da) r)->∃ rs,runE f l=.ok rs/\rs.length=l.length/\∀ i,i<l.length->R i (l.getD i da) (rs.getD i d):=by
 intro l
 induction l generalizing R with
 |nil=>exact fun _=>⟨[],rfl,rfl,fun i hi=>absurd hi (Nat.not_lt_zero _)⟩
 |cons x l ih =>
  intro h;obtain⟨r,r1,r2⟩:=h 0 (Nat.succ_pos _);obtain⟨rs,q1,q2,q3⟩:=ih (R:=fun i=>R (i+1)) fun i hi=>h (i+1) (Nat.succ_lt_succ hi)
  refine⟨r::rs,?_,by simp[q2],fun i hi=>?_⟩
  ·have r1:f x=.ok r:=r1;simp only[runE,r1,q1]
  ·cases i with
   |zero=>exact r2
   |succ i=>exact q3 i (Nat.lt_of_succ_lt_succ hi)
theorem zpg {α β:Type} {da:α} {db:β}:∀ {a:List α} {b:List β} {i:Nat},i<a.length->i<b.length->(a.zip b).getD i (da,db)=(a.getD i da,b.getD i db)
 |x::a,y::b,0,_,_=>rfl
 |x::a,y::b,i+1,h,g=>zpg (a:=a) (b:=b) (Nat.lt_of_succ_lt_succ h) (Nat.lt_of_succ_lt_succ g)
theorem mpg {α β:Type} {da:α} {db:β} {f:α->β} {l:List α} {i:Nat} (h:i<l.length):(l.map f).getD i db=f (l.getD i da):=by
 rw[List.getD_eq_getElem?_getD,List.getD_eq_getElem?_getD,List.getElem?_map,List.getElem?_eq_getElem h];rfl
theorem mem_iff_getD {α:Type} {da:α} {P:α->Prop} {l:List α}:(∀ x∈l,P x)↔∀ i,i<l.length->P (l.getD i da):=by
 constructor
 ·intro h i hi;rw[List.getD_eq_getElem?_getD,List.getElem?_eq_getElem hi];exact h _ (List.getElem_mem hi)
 ·intro h x hx;obtain⟨i,hi,rfl⟩:=List.getElem_of_mem hx;have:=h i hi;rw[List.getD_eq_getElem?_getD,List.getElem?_eq_getElem hi] at this;exact this
theorem dHalf_gr:Gr 0 1 dHalf:=by
 refine .inr ?_;have e1:dHalf.man=1:=by kernel_rfl
 have e2:dHalf.exp=-1:=by kernel_rfl
 rw[e1,e2];decide
theorem mid1_ok {bits:Int} (hb:bitsOk bits=true) {x:FS} {K L:Nat} (hx:SGr K L x) (h:K+L+6<=16384) :
  ∃ p,mid1 bits x=.ok p/\Gr (K+4) (L+1) p.1/\Gr (K+4) (L+1) p.2/\(x.lo.v<=x.hi.v->0<=p.2.v)/\∀ y,In y x->absQ (y-p.1.v)<=p.2.v:=by
 obtain⟨s,s1,s2,s3⟩:=dAdd_ok hx.1 hx.2 (by omega);obtain⟨m,m1,m2,m3⟩:=dMul_ok s3 dHalf_gr (by omega);obtain⟨r,r1,r2,_⟩:=dRound_ok false hb m3 (by omega) (by omega);have r3:Gr (K+2) (L+1) r:=r2.mono (by omega) (Nat.le_refl _);obtain⟨u,u1,u2,u3,u4⟩:=sAdd_ok (b:=sNeg (sPoint r)) hb (hx.mono (by omega:K<=K+2) (by omega:L<=L+1)) ⟨r3.neg,r3.neg⟩ (by omega);have e:∀ y,In y x->In (y-r.v) u:=fun y hy=>by
  have e1:(sNeg (sPoint r)).lo.v=-r.v:=dNeg_v r;have e2:(sNeg (sPoint r)).hi.v=-r.v:=dNeg_v r;rw[e1] at u3;rw[e2] at u4;have:=hy.1;have:=hy.2;exact⟨by grind,by grind⟩
 refine⟨(r,sSize u),?_,r3.mono (by omega) (Nat.le_refl _),size_gr u2,fun hne=>?_,fun y hy=>sSize_v u (e y hy)⟩
 ·have h1:sMid x=.ok m:=by unfold sMid; rw[s1]; exact m1
  have h2:sSub x (sPoint r) bits=.ok u:=u1;unfold mid1;rw[h1];show bnd (dRound m bits false) _=_;rw[r1];show bnd (sSub x (sPoint r) bits) _=_;rw[h2];rfl
 ·exact Rat.le_trans (absQ_nonneg _) (sSize_v u (e x.lo.v ⟨Rat.le_refl,hne⟩))
theorem wid1_ok {bits:Int} (hb:bitsOk bits=true) {a b:FD} {K L:Nat} (ha:Gr K L a) (hb':Gr K L b) (h:K+L+1<=16384):∃ w,wid1 bits (a,b)=.ok w/\Gr (K+2) L w/\a.v+b.v<=w.v:=by
 obtain⟨s,s1,s2,s3,s4⟩:=sAdd_ok hb (pt_gr ha) (pt_gr hb') h;refine⟨s.hi,?_,s2.2,s4⟩;unfold wid1;rw[s1];rfl
def MO (n K L:Nat) (mo:List (FD×FD)) (f:Nat->Rat):Prop:=mo.length=n/\dG K L (mo.map (·.1))/\dG K L (mo.map (·.2))/\∀ i,i<n->absQ (f i-vv (mo.map (·.1)) i)<=vv (mo.map (·.2)) i
theorem MO.len1 {n K L:Nat} {mo:List (FD×FD)} {f:Nat->Rat} (h:MO n K L mo f):(mo.map (·.1)).length=n:=by simp[h.1]
theorem MO.len2 {n K L:Nat} {mo:List (FD×FD)} {f:Nat->Rat} (h:MO n K L mo f):(mo.map (·.2)).length=n:=by simp[h.1]
theorem zMids_ok {bits:Int} (hb:bitsOk bits=true) {n K L:Nat} {s:List FS} {f:Nat->Rat} (hs:HF n K L s f) (h:K+L+6<=16384):∃ mo,zMids bits s=.ok mo/\MO n (K+4) (L+1) mo f:=by
 obtain⟨rs,r1,r2,r3⟩:=runE_all (f:=mid1 bits) (da:=s0) (d:=(d0,d0)) (l:=s) (R:=fun i x p=>Gr (K+4) (L+1) p.1/\Gr (K+4) (L+1) p.2/\absQ (f i-p.1.v)<=p.2.v) fun i hi=>by
  obtain⟨g1,g2⟩:=hs.2 i (by rw[<- hs.1]; exact hi);obtain⟨p,p1,p2,p3,_,p5⟩:=mid1_ok hb g1 h;exact⟨p,p1,p2,p3,p5 _ g2⟩
 have hl:rs.length=n:=by rw[r2,hs.1]
 refine⟨rs,r1,hl,?_,?_,fun i hi=>?_⟩
 ·intro d hd;obtain⟨p,hp,rfl⟩:=List.mem_map.1 hd;exact (mem_iff_getD (da:=(d0,d0)) (P:=fun p:FD×FD=>Gr (K+4) (L+1) p.1)).2 (fun i hi=>(r3 i (by omega)).1) p hp
 ·intro d hd;obtain⟨p,hp,rfl⟩:=List.mem_map.1 hd;exact (mem_iff_getD (da:=(d0,d0)) (P:=fun p:FD×FD=>Gr (K+4) (L+1) p.2)).2 (fun i hi=>(r3 i (by omega)).2.1) p hp
 ·unfold vv;rw[mpg (da:=((d0,d0):FD×FD)) (by omega),mpg (da:=((d0,d0):FD×FD)) (by omega)];exact (r3 i (by rw[hs.1]; exact hi)).2.2
theorem zWid_ok {bits:Int} (hb:bitsOk bits=true) {n K L:Nat} {a b:List FD} (ha:a.length=n) (hb2:b.length=n) (ga:dG K L a) (gb:dG K L b) (h:K+L+1<=16384):∃ r,zWid bits a b=.ok r/\r.length=n/\dG (K+2) L r/\∀ i,i<n->vv a i+vv b i<=vv r i:=by
 have hz:(a.zip b).length=n:=by simp[ha,hb2]
 obtain⟨rs,r1,r2,r3⟩:=runE_all (f:=wid1 bits) (da:=(d0,d0)) (d:=d0) (l:=a.zip b) (R:=fun i x w=>Gr (K+2) L w/\vv a i+vv b i<=w.v) fun i hi=>by
  rw[zpg (by omega) (by omega)];exact wid1_ok hb (ga.get i) (gb.get i) h
 have hl:rs.length=n:=by omega
 exact⟨rs,r1,hl,(mem_iff_getD (da:=d0)).2 fun i hi=>(r3 i (by omega)).1,fun i hi=>(r3 i (by omega)).2⟩
theorem innerF_acc {bits:Int} (hb:bitsOk bits=true) {K L K' L':Nat} (h:K+L+(K'+L')+1<=16384):∀ {n:Nat} {a b:List FS} {x y:Nat->Rat},HF n K L a x->HF n K' L' b y->∀ (acc:FS) (v:Rat) (k:Nat),SGr k (L+L') acc->In v acc->K+K'+1<=k->k+2*n+(L+L')+1<=16384 ->
  ∃ r,foldE (innerStep bits) acc (a.zip b)=.ok r/\SGr (k+2*n) (L+L') r/\In (v+SS n fun i=>x i*y i) r
 |0,a,b,x,y,ha,hb',acc,v,k,g1,g2,g3,g4=>by
  have e1:a=[]:=List.length_eq_zero_iff.1 ha.1;subst e1;exact⟨acc,rfl,g1,by show In (v+0) acc; rw[Rat.add_zero]; exact g2⟩
 |n+1,[],b,x,y,ha,hb',_,_,_,_,_,_,_=>by have:=ha.1; simp at this
 |n+1,_::_,[],x,y,ha,hb',_,_,_,_,_,_,_=>by have:=hb'.1; simp at this
 |n+1,s::a,t::b,x,y,ha,hb',acc,v,k,k1,k2,k3,k4=>by
  have a0:=ha.2 0 (Nat.succ_pos _);have b0:=hb'.2 0 (Nat.succ_pos _);have ha':HF n K L a (fun i=>x (i+1)):=⟨by have:=ha.1; simpa using this,fun i hi=>ha.2 (i+1) (Nat.succ_lt_succ hi)⟩
  have hb'':HF n K' L' b (fun i=>y (i+1)):=⟨by have:=hb'.1; simpa using this,fun i hi=>hb'.2 (i+1) (Nat.succ_lt_succ hi)⟩
  obtain⟨p,p1,p2,p3⟩:=sMul_ok hb a0.1 b0.1 h;obtain⟨q,s1,s2,s3,s4⟩:=sAdd_ok hb k1 (p2.mono k3 (Nat.le_refl _)) (by omega);obtain⟨r,r1,r2,r3⟩:=innerF_acc hb h ha' hb'' q _ (k+2) s2 (In.add k2 (p3 _ _ a0.2 b0.2) s3 s4) (by omega) (by omega);have p1:sMul s t bits=.ok p:=p1;refine⟨r,by simp only[List.zip_cons_cons,foldE,innerStep,bnd,p1,s1]; exact r1,r2.mono (by omega) (Nat.le_refl _),?_⟩;show In (v+(x 0*y 0+SS n fun i=>x (i+1)*y (i+1))) r;rw[<- Rat.add_assoc];exact r3
theorem innerF_ok {bits:Int} (hb:bitsOk bits=true) {n K L K' L':Nat} {a b:List FS} {x y:Nat->Rat} (ha:HF n K L a x) (hb':HF n K' L' b y) (h:K+K'+1+2*n+(L+L')+1<=16384) :
  ∃ r,vInner bits a b=.ok r/\SGr (K+K'+1+2*n) (L+L') r/\In (SS n fun i=>x i*y i) r:=by
 unfold vInner;rw[if_neg (by rw[ha.1,hb'.1]; simp)];obtain⟨r,r1,r2,r3⟩:=innerF_acc hb (by omega) ha hb' s0 0 (K+K'+1) (.s0 _ _) .s0 (Nat.le_refl _) h;exact⟨r,r1,r2,by rw[Rat.zero_add] at r3; exact r3⟩
structure ZS (n K L:Nat) (z:ZO):Prop where
 cn:z.c.length=n
 rn:z.r.length=n
 gn:∀ g∈z.g,g.length=n
 cg:dG K L z.c
 rg:dG K L z.r
 gg:∀ g∈z.g,dG K L g
theorem ZS.mono {n K L K' L':Nat} {z:ZO} (h:ZS n K L z) (hK:K<=K') (hL:L<=L'):ZS n K' L' z:=⟨h.cn,h.rn,h.gn,h.cg.mono hK hL,h.rg.mono hK hL,fun g hg=>(h.gg g hg).mono hK hL⟩
def gs:List (List FD)->(Nat->Rat)->Nat->Rat
 |[],_,_=>0
 |g::l,α,i=>α 0*vv g i+gs l (fun k=>α (k+1)) i
def ZM (n:Nat) (z:ZO) (p:Nat->Rat):Prop:=∃ α:Nat->Rat,(∀ k,absQ (α k)<=1)/\∀ i,i<n->absQ (p i-(vv z.c i+gs z.g α i))<=vv z.r i
theorem ZM.congr {n:Nat} {z:ZO} {p q:Nat->Rat} (h:ZM n z p) (e:∀ i,i<n->q i=p i):ZM n z q:=by
 obtain⟨α,h1,h2⟩:=h;exact⟨α,h1,fun i hi=>by rw[e i hi]; exact h2 i hi⟩
def AH (n' n K L:Nat) (a:List (List FS)) (A:Nat->Nat->Rat):Prop:=a.length=n'/\∀ i,i<n'->HF n K L (a.getD i []) (A i)
theorem zImg_ok {bits:Int} (hb:bitsOk bits=true) {n' n K L K' L':Nat} {a:List (List FS)} {A:Nat->Nat->Rat} {x:List FD} (ha:AH n' n K L a A) (hx:x.length=n) (gx:dG K' L' x) (h:K+K'+2*n+(L+L')+8<=16384) :
  ∃ mo,zImg bits a x=.ok mo/\MO n' (K+K'+2*n+5) (L+L'+1) mo (fun i=>SS n fun j=>A i j*vv x j):=by
 obtain⟨s,r1,r2,r3⟩:=runE_all (f:=inn bits x) (da:=[]) (d:=s0) (l:=a) (R:=fun i r y=>SGr (K+K'+1+2*n) (L+L') y/\In (SS n fun j=>A i j*vv x j) y) fun i hi=>by
  exact innerF_ok hb (ha.2 i (by rw[<- ha.1]; exact hi)) (HF.pts hx gx) (by omega)
 have hs:HF n' (K+K'+1+2*n) (L+L') s (fun i=>SS n fun j=>A i j*vv x j):=⟨by rw[r2,ha.1],fun i hi=>r3 i (by rw[ha.1]; exact hi)⟩
 obtain⟨mo,m1,m2⟩:=zMids_ok hb hs (by omega);refine⟨mo,by unfold zImg; rw[r1]; exact m1,?_⟩;rw[show K+K'+2*n+5=K+K'+1+2*n+4 by omega];exact m2
theorem imgFold_ok {bits:Int} (hb:bitsOk bits=true) {n' n K L K' L':Nat} {a:List (List FS)} {A:Nat->Nat->Rat} (ha:AH n' n K L a A):∀ (l:List (List FD)) (r0:List FD) (o0:List (List FD)) (k:Nat),(∀ g∈l,g.length=n)->(∀ g∈l,dG K' L' g)->r0.length=n'->dG k (L+L'+1) r0->K+K'+2*n+5<=k->k+2*l.length+(L+L')+8<=16384 ->
  ∃ r out,foldE (imgStep bits a) (r0,o0) l=.ok (r,o0++out)/\out.length=l.length/\r.length=n'/\dG (k+2*l.length) (L+L'+1) r/\(∀ g∈out,g.length=n')/\(∀ g∈out,dG (K+K'+2*n+5) (L+L'+1) g) /\
   ∀ α:Nat->Rat,(∀ k,absQ (α k)<=1)->∀ i,i<n'->absQ ((SS n fun j=>A i j*gs l α j)-gs out α i)+vv r0 i<=vv r i
 |[],r0,o0,k,_,_,h3,h4,h5,h6=>⟨r0,[],by rw[List.append_nil]; rfl,rfl,h3,h4,(fun g hg=>by cases hg),(fun g hg=>by cases hg),fun α _ i hi=>by
  have e:(SS n fun j=>A i j*gs [] α j)=0:=by
   rw[<- SS_zero n];exact SS_congr fun j _=>Rat.mul_zero _
  rw[e];show absQ (0-0)+vv r0 i<=vv r0 i;have:absQ (0-0)=0:=by decide +kernel
  rw[this,Rat.zero_add];exact Rat.le_refl⟩
 |g::l,r0,o0,k,h1,h2,h3,h4,h5,h6=>by
  simp only[List.length_cons] at h6 ⊢;obtain⟨mo,m1,m2⟩:=zImg_ok hb ha (h1 g (.head _)) (h2 g (.head _)) (by omega);obtain⟨r1,w1,w2,w3,w4⟩:=zWid_ok hb h3 m2.len2 h4 (m2.2.2.1.mono h5 (Nat.le_refl _)) (by omega);obtain⟨r,out,q1,q2,q3,q4,q5,q6,q7⟩:=imgFold_ok hb ha l r1 (o0++[mo.map (·.1)]) (k+2) (fun g hg=>h1 g (.tail _ hg)) (fun g hg=>h2 g (.tail _ hg)) w2 w3 (by omega) (by omega);refine⟨r,mo.map (·.1)::out,?_,by simp[q2],q3,q4.mono (by omega) (Nat.le_refl _),?_,?_,fun α hα i hi=>?_⟩
  ·have e:imgStep bits a (r0,o0) g=.ok (r1,o0++[mo.map (·.1)]):=by
    unfold imgStep;rw[m1];show bnd (zWid bits r0 (mo.map (·.2))) _=_;rw[w1];rfl
   simp only[foldE,e,q1];rw[List.append_assoc];rfl
  ·intro x hx;rcases List.mem_cons.1 hx with rfl | hx
   ·exact m2.len1
   ·exact q5 x hx
  ·intro x hx;rcases List.mem_cons.1 hx with rfl | hx
   ·exact m2.2.1
   ·exact q6 x hx
  ·have h7:=q7 (fun k=>α (k+1)) (fun k=>hα (k+1)) i hi;have h8:=w4 i hi;have h9:=m2.2.2.2 i hi;dsimp only at h9;have e1:(SS n fun j=>A i j*gs (g::l) α j)=α 0*(SS n fun j=>A i j*vv g j)+SS n fun j=>A i j*gs l (fun k=>α (k+1)) j:=by
    rw[SS_mul_l,<- SS_add];exact SS_congr fun j _=>by show A i j*(α 0*vv g j+gs l (fun k=>α (k+1)) j)=_; grind
   have e2:gs (mo.map (·.1)::out) α i=α 0*vv (mo.map (·.1)) i+gs out (fun k=>α (k+1)) i:=rfl;rw[e1,e2];obtain⟨X,hX⟩:∃ X,(SS n fun j=>A i j*vv g j)=X:=⟨_,rfl⟩
   obtain⟨Y,hY⟩:∃ Y,(SS n fun j=>A i j*gs l (fun k=>α (k+1)) j)=Y:=⟨_,rfl⟩
   rw[hY] at h7 ⊢;rw[hX] at h9 ⊢;have h10:absQ (α 0*(X-vv (mo.map (·.1)) i))<=vv (mo.map (·.2)) i:=by
    rw[absQ_mul];have:=Rat.mul_le_mul_of_nonneg_right (hα 0) (absQ_nonneg (X-vv (mo.map (·.1)) i));rw[Rat.one_mul] at this;exact Rat.le_trans this h9
   have h11:=absQ_add (α 0*(X-vv (mo.map (·.1)) i)) (Y-gs out (fun k=>α (k+1)) i);have e3:α 0*X+Y-(α 0*vv (mo.map (·.1)) i+gs out (fun k=>α (k+1)) i)=α 0*(X-vv (mo.map (·.1)) i)+(Y-gs out (fun k=>α (k+1)) i):=by grind
   rw[e3];grind
theorem zImage_ok {bits:Int} (hb:bitsOk bits=true) {n' n K L K' L':Nat} {a:List (List FS)} {A:Nat->Nat->Rat} {z:ZO} (ha:AH n' n K L a A) (hz:ZS n K' L' z) (hr0:∀ i,i<n->0<=vv z.r i) (h:K+K'+2*n+2*z.g.length+(L+L')+16<=16384) :
  ∃ w,zImage bits a z=.ok w/\ZS n' (K+K'+2*n+2*z.g.length+8) (L+L'+1) w/\w.g.length=z.g.length/\∀ p,ZM n z p->ZM n' w (fun i=>SS n fun j=>A i j*p j):=by
 obtain⟨mo,m1,m2⟩:=zImg_ok hb ha hz.cn hz.cg (by omega);obtain⟨r,out,q1,q2,q3,q4,q5,q6,q7⟩:=imgFold_ok hb ha z.g (mo.map (·.2)) [] (K+K'+2*n+5) hz.gn hz.gg m2.len2 m2.2.2.1 (Nat.le_refl _) (by omega);have ha1:=ha.1;have hzl:(a.zip r).length=n':=by simp[ha.1,q3]
 have hrow:∀ (ρ:Nat->Rat),(∀ i,i<n->absQ (ρ i)<=vv z.r i)->∃ rs,runE (rowStep bits (z.r.map sEven)) (a.zip r)=.ok rs/\rs.length=n'/\∀ i,i<n'->Gr (K+K'+2*n+2*z.g.length+8) (L+L'+1) (rs.getD i d0)/\vv r i+absQ (SS n fun j=>A i j*ρ j)<=vv rs i:=fun ρ hρ=>by
  obtain⟨rs,r1,r2,r3⟩:=runE_all (f:=rowStep bits (z.r.map sEven)) (da:=([],d0)) (d:=d0) (l:=a.zip r) (R:=fun i x w=>Gr (K+K'+2*n+2*z.g.length+8) (L+L'+1) w/\vv r i+absQ (SS n fun j=>A i j*ρ j)<=w.v) fun i hi=>by
   rw[zpg (by omega) (by omega)];obtain⟨s,s1,s2,s3⟩:=innerF_ok hb (ha.2 i (by omega)) (HF.evens hz.rn hz.rg hρ) (by omega);have hg:Gr (K+K'+2*n+2*z.g.length+6) (L+L'+1) (sSize s):=(size_gr s2).mono (by omega) (by omega);obtain⟨w,w1,w2,w3⟩:=wid1_ok hb ((q4.get i).mono (by omega:_<=K+K'+2*n+2*z.g.length+6) (Nat.le_refl _)) hg (by omega);refine⟨w,?_,w2,?_⟩
   ·show bnd (vInner bits (a.getD i []) (z.r.map sEven)) _=_;rw[s1];exact w1
   ·have:=sSize_v s s3;show vv r i+_<=w.v;unfold vv;grind
  exact⟨rs,r1,by omega,fun i hi=>r3 i (by omega)⟩
 obtain⟨rs,r1,r2,r3⟩:=hrow (fun _=>0) fun i hi=>by
  have:absQ 0=0:=by decide +kernel
  rw[this];exact hr0 i hi
 refine⟨⟨mo.map (·.1),out,rs⟩,?_,⟨m2.len1,r2,q5,m2.2.1.mono (by omega) (Nat.le_refl _),(mem_iff_getD (da:=d0)).2 fun i hi=>(r3 i (Nat.lt_of_lt_of_eq hi r2)).1,fun g hg=>(q6 g hg).mono (by omega) (Nat.le_refl _)⟩,q2,?_⟩
 ·unfold zImage;rw[m1];show bnd (foldE (imgStep bits a) (mo.map (·.2),[]) z.g) _=_;rw[q1];show bnd (runE (rowStep bits (z.r.map sEven)) (a.zip r)) _=_;rw[r1];rfl
 ·rintro p ⟨α,hα,hp⟩;refine⟨α,hα,fun i hi=>?_⟩;obtain⟨rs',t1,_,t3⟩:=hrow (fun j=>p j-(vv z.c j+gs z.g α j)) hp;rw[r1] at t1;cases t1;have h1:=(t3 i hi).2;have h2:=q7 α hα i hi;have h3:=m2.2.2.2 i hi;dsimp only at h3;have e:(SS n fun j=>A i j*p j)=(SS n fun j=>A i j*vv z.c j)+(SS n fun j=>A i j*gs z.g α j)+SS n fun j=>A i j*(p j-(vv z.c j+gs z.g α j)):=by
   rw[<- SS_add,<- SS_add];exact SS_congr fun j _=>by grind
  show absQ ((SS n fun j=>A i j*p j)-(vv (mo.map (·.1)) i+gs out α i))<=vv rs i;rw[e];obtain⟨X,hX⟩:∃ X,(SS n fun j=>A i j*vv z.c j)=X:=⟨_,rfl⟩
  obtain⟨Y,hY⟩:∃ Y,(SS n fun j=>A i j*gs z.g α j)=Y:=⟨_,rfl⟩
  obtain⟨Z,hZ⟩:∃ Z,(SS n fun j=>A i j*(p j-(vv z.c j+gs z.g α j)))=Z:=⟨_,rfl⟩
  rw[hX] at h3 ⊢;rw[hY] at h2 ⊢;rw[hZ] at h1 ⊢;have h4:=absQ_add (X-vv (mo.map (·.1)) i) (Y-gs out α i);have h5:=absQ_add (X-vv (mo.map (·.1)) i+(Y-gs out α i)) Z;have e3:X+Y+Z-(vv (mo.map (·.1)) i+gs out α i)=X-vv (mo.map (·.1)) i+(Y-gs out α i)+Z:=by grind
  rw[e3];grind
end
section
open Go Go.RowKit Go.Proofs.Tryz
attribute [local irreducible] zMul zAdd zLeft zRight fitZ qMake zDiv dMake dLevel dRound dNear dAdd dMul dRatio dCmp dMin dMax dAbs dLess qCmp sOut qAdd qMul sAdd sMul sNear qSum sSize vNear dNeg dOf
theorem abs01:absQ 0<=1:=by decide +kernel
def qv (l:List FQ) (i:Nat):Rat:=(l.getD i q0).q
def gq:List (List FQ)->(Nat->Rat)->Nat->Rat
 |[],_,_=>0
 |g::l,α,i=>α 0*qv g i+gq l (fun k=>α (k+1)) i
def MM (z:MZ) (α:Nat->Rat) (i:Nat):Rat:=qv z.c i+gq z.g α i
structure MS (n j k:Nat) (z:MZ):Prop where
 cn:z.c.length=n
 gn:∀ g∈z.g,g.length=n
 cs:SzL z.c j k
 gs:∀ g∈z.g,SzL g j k
theorem near_HF {l:List FQ} {n j k:Nat} {bits:Int} (hb:bitsOk bits=true) (hn:l.length=n) (hl:SzL l j k) (h:bits.toNat+k+2<=16384) (hj:j<=16384):∃ r,vNear l bits=.ok r/\HF n (j+2) (bits.toNat+k) r (qv l):=by
 obtain⟨r,h1,h2⟩:=vNear_hld hb hl h hj;have hlen:r.length=n:=by rw[h2.len,qs_len,hn]
 refine⟨r,h1,hlen,fun i hi=>?_⟩;have:=h2.getD (i:=i) (by omega);rw[qs_getD] at this;exact this
theorem zList_ok {l:List FQ} {n j k:Nat} {bits:Int} (hb:bitsOk bits=true) (hn:l.length=n) (hl:SzL l j k) (h:j+bits.toNat+k+8<=16384):∃ mo,zList bits l=.ok mo/\MO n (j+6) (bits.toNat+k+1) mo (qv l):=by
 obtain⟨r,r1,r2⟩:=near_HF hb hn hl (by omega) (by omega);obtain⟨mo,m1,m2⟩:=zMids_ok hb r2 (by omega);refine⟨mo,?_,m2⟩;unfold zList;rw[r1];exact m1
theorem ofFold_ok {bits:Int} (hb:bitsOk bits=true) {n j k:Nat}:∀ (l:List (List FQ)) (r0:List FD) (o0:List (List FD)) (m:Nat),(∀ g∈l,g.length=n)->(∀ g∈l,SzL g j k)->r0.length=n->dG m (bits.toNat+k+1) r0->j+6<=m->m+2*l.length+bits.toNat+k+8<=16384 ->
  ∃ r out,foldE (ofStep bits n) (r0,o0) l=.ok (r,o0++out)/\out.length=l.length/\r.length=n/\dG (m+2*l.length) (bits.toNat+k+1) r/\(∀ g∈out,g.length=n)/\(∀ g∈out,dG (j+6) (bits.toNat+k+1) g) /\
   ∀ α:Nat->Rat,(∀ k,absQ (α k)<=1)->∀ i,i<n->absQ (gq l α i-gs out α i)+vv r0 i<=vv r i
 |[],r0,o0,m,_,_,h3,h4,h5,h6=>⟨r0,[],by rw[List.append_nil]; rfl,rfl,h3,h4,(fun g hg=>by cases hg),(fun g hg=>by cases hg),fun α _ i hi=>by
  show absQ (0-0)+vv r0 i<=vv r0 i;have:absQ (0-0)=0:=by decide +kernel
  rw[this,Rat.zero_add];exact Rat.le_refl⟩
 |g::l,r0,o0,m,h1,h2,h3,h4,h5,h6=>by
  simp only[List.length_cons] at h6 ⊢;obtain⟨mo,m1,m2⟩:=zList_ok hb (h1 g (.head _)) (h2 g (.head _)) (by omega);obtain⟨r1,w1,w2,w3,w4⟩:=zWid_ok hb h3 m2.len2 h4 (m2.2.2.1.mono h5 (Nat.le_refl _)) (by omega);obtain⟨r,out,q1,q2,q3,q4,q5,q6,q7⟩:=ofFold_ok hb l r1 (o0++[mo.map (·.1)]) (m+2) (fun g hg=>h1 g (.tail _ hg)) (fun g hg=>h2 g (.tail _ hg)) w2 w3 (by omega) (by omega);refine⟨r,mo.map (·.1)::out,?_,by simp[q2],q3,q4.mono (by omega) (Nat.le_refl _),?_,?_,fun α hα i hi=>?_⟩
  ·have e:ofStep bits n (r0,o0) g=.ok (r1,o0++[mo.map (·.1)]):=by
    unfold ofStep;rw[if_neg (fun q=>q (h1 g (.head _))),m1];show bnd (zWid bits r0 (mo.map (·.2))) _=_;rw[w1];rfl
   simp only[foldE,e,q1];rw[List.append_assoc];rfl
  ·intro x hx;rcases List.mem_cons.1 hx with rfl | hx
   ·exact m2.len1
   ·exact q5 x hx
  ·intro x hx;rcases List.mem_cons.1 hx with rfl | hx
   ·exact m2.2.1
   ·exact q6 x hx
  ·have h7:=q7 (fun k=>α (k+1)) (fun k=>hα (k+1)) i hi;have h8:=w4 i hi;have h9:=m2.2.2.2 i hi;have e1:gq (g::l) α i=α 0*qv g i+gq l (fun k=>α (k+1)) i:=rfl;have e2:gs (mo.map (·.1)::out) α i=α 0*vv (mo.map (·.1)) i+gs out (fun k=>α (k+1)) i:=rfl;rw[e1,e2];have h10:absQ (α 0*(qv g i-vv (mo.map (·.1)) i))<=vv (mo.map (·.2)) i:=by
    rw[absQ_mul];have:=Rat.mul_le_mul_of_nonneg_right (hα 0) (absQ_nonneg (qv g i-vv (mo.map (·.1)) i));rw[Rat.one_mul] at this;exact Rat.le_trans this h9
   have h11:=absQ_add (α 0*(qv g i-vv (mo.map (·.1)) i)) (gq l (fun k=>α (k+1)) i-gs out (fun k=>α (k+1)) i);have e3:α 0*qv g i+gq l (fun k=>α (k+1)) i-(α 0*vv (mo.map (·.1)) i+gs out (fun k=>α (k+1)) i)=α 0*(qv g i-vv (mo.map (·.1)) i)+(gq l (fun k=>α (k+1)) i-gs out (fun k=>α (k+1)) i):=by grind
   rw[e3];grind
theorem zOf_ok {bits:Int} (hb:bitsOk bits=true) {n j k:Nat} {z:MZ} (hz:MS n j k z) (h:j+2*z.g.length+bits.toNat+k+16<=16384) :
  ∃ w,zOf bits z=.ok w/\ZS n (j+6+2*z.g.length) (bits.toNat+k+1) w/\w.g.length=z.g.length/\(∀ i,i<n->0<=vv w.r i)/\∀ α:Nat->Rat,(∀ k,absQ (α k)<=1)->ZM n w (MM z α):=by
 obtain⟨mo,m1,m2⟩:=zList_ok hb hz.cn hz.cs (by omega);obtain⟨r,out,q1,q2,q3,q4,q5,q6,q7⟩:=ofFold_ok hb z.g (mo.map (·.2)) [] (j+6) hz.gn hz.gs m2.len2 m2.2.2.1 (Nat.le_refl _) (by omega);have hmem:∀ α:Nat->Rat,(∀ k,absQ (α k)<=1)->∀ i,i<n->absQ (MM z α i-(vv (mo.map (·.1)) i+gs out α i))<=vv r i:=fun α hα i hi=>by
  have h2:=q7 α hα i hi;have h3:=m2.2.2.2 i hi;have h4:=absQ_add (qv z.c i-vv (mo.map (·.1)) i) (gq z.g α i-gs out α i);have e3:MM z α i-(vv (mo.map (·.1)) i+gs out α i)=qv z.c i-vv (mo.map (·.1)) i+(gq z.g α i-gs out α i):=by
   show qv z.c i+gq z.g α i-(vv (mo.map (·.1)) i+gs out α i)=_;generalize qv z.c i=a at *
   generalize gq z.g α i=b at *
   generalize vv (mo.map (·.1)) i=c at *
   generalize gs out α i=d at *
   grind
  rw[e3];generalize absQ (gq z.g α i-gs out α i)=x at *
  generalize absQ (qv z.c i-vv (mo.map (·.1)) i)=y at *
  exact Rat.le_trans h4 (Rat.le_trans (Rat.add_le_add_right.2 h3) (by rw[Rat.add_comm]; exact h2))
 have hw:zOf bits z=.ok ⟨mo.map (·.1),out,r⟩:=by
  unfold zOf;rw[m1];show bnd (foldE (ofStep bits mo.length) (mo.map (·.2),[]) z.g) _=_;rw[m2.1,q1];rfl
 have hs:ZS n (j+6+2*z.g.length) (bits.toNat+k+1) ⟨mo.map (·.1),out,r⟩:=⟨m2.len1,q3,q5,m2.2.1.mono (by omega) (Nat.le_refl _),q4,fun g hg=>(q6 g hg).mono (by omega) (Nat.le_refl _)⟩
 refine⟨_,hw,hs,q2,fun i hi=>?_,fun α hα=>⟨α,hα,hmem α hα⟩⟩;have h1:=hmem (fun _=>0) (fun _=>abs01) i hi;exact Rat.le_trans (absQ_nonneg _) h1
theorem gs_append:∀ (a b:List (List FD)) (α β:Nat->Rat) (i:Nat),gs (a++b) (fun k=>if k<a.length then α k else β (k-a.length)) i=gs a α i+gs b β i
 |[],b,α,β,i=>by
  show gs b _ i=0+gs b β i;rw[Rat.zero_add];rfl
 |g::a,b,α,β,i=>by
  have e:(fun k=>if k+1<(g::a).length then α (k+1) else β (k+1-(g::a).length))=fun k=>if k<a.length then (fun k=>α (k+1)) k else β (k-a.length):=by
   funext k;simp only[List.length_cons,Nat.add_lt_add_iff_right,Nat.add_sub_add_right]
  show (if 0<(g::a).length then α 0 else _)*vv g i+gs (a++b) (fun k=>if k+1<(g::a).length then α (k+1) else β (k+1-(g::a).length)) i=α 0*vv g i+gs a (fun k=>α (k+1)) i+gs b β i;rw[if_pos (by simp),e,gs_append a b (fun k=>α (k+1)) β i];grind
theorem zPlus_ok {bits:Int} (hb:bitsOk bits=true) {n K L:Nat} {a b:ZO} (ha:ZS n K L a) (hb':ZS n K L b) (hg:a.g.length+b.g.length<=4096) (h:K+L+20<=16384) :
  ∃ w,zPlus bits a b=.ok w/\ZS n (K+10) (L+1) w/\w.g.length=a.g.length+b.g.length/\∀ p q,ZM n a p->ZM n b q->ZM n w (fun i=>p i+q i):=by
 have hp:∃ m,vPlus bits (a.c.map sPoint) (b.c.map sPoint)=.ok m/\HF n (K+2) L m (fun i=>vv a.c i+vv b.c i):=by
  unfold vPlus;rw[if_neg (by simp[ha.cn,hb'.cn])];have hz:((a.c.map sPoint).zip (b.c.map sPoint)).length=n:=by simp[ha.cn,hb'.cn]
  obtain⟨rs,r1,r2,r3⟩:=runE_all (f:=fun p:FS×FS=>sAdd p.1 p.2 bits) (da:=(s0,s0)) (d:=s0) (l:=(a.c.map sPoint).zip (b.c.map sPoint)) (R:=fun i x r=>SGr (K+2) L r/\In (vv a.c i+vv b.c i) r) fun i hi=>by
   rw[zpg (by simp[ha.cn]; omega) (by simp[hb'.cn]; omega)];obtain⟨g1,g2⟩:=(HF.pts ha.cn ha.cg).2 i (by omega);obtain⟨k1,k2⟩:=(HF.pts hb'.cn hb'.cg).2 i (by omega);obtain⟨s,s1,s2,s3,s4⟩:=sAdd_ok hb g1 k1 (by omega);exact⟨s,s1,s2,In.add g2 k2 s3 s4⟩
  exact⟨rs,r1,by omega,fun i hi=>r3 i (by omega)⟩
 obtain⟨m,p1,p2⟩:=hp;obtain⟨mo,m1,m2⟩:=zMids_ok hb p2 (by omega);obtain⟨r1,w1,w2,w3,w4⟩:=zWid_ok hb m2.len2 ha.rn m2.2.2.1 (ha.rg.mono (by omega) (by omega)) (by omega);obtain⟨r2,u1,u2,u3,u4⟩:=zWid_ok hb w2 hb'.rn w3 (hb'.rg.mono (by omega) (by omega)) (by omega);refine⟨⟨mo.map (·.1),a.g++b.g,r2⟩,?_,⟨m2.len1,u2,?_,m2.2.1.mono (by omega) (by omega),u3.mono (by omega) (by omega),?_⟩,by simp,?_⟩
 ·unfold zPlus;rw[if_neg (by rw[ha.cn,hb'.cn]; simp),if_neg (by omega),p1];show bnd (zMids bits m) _=_;rw[m1];show bnd (foldE (zWid bits) (mo.map (·.2)) [a.r,b.r]) _=_;simp only[foldE,w1,u1];rfl
 ·intro g hg;rcases List.mem_append.1 hg with hg | hg
  ·exact ha.gn g hg
  ·exact hb'.gn g hg
 ·intro g hg;rcases List.mem_append.1 hg with hg | hg
  ·exact (ha.gg g hg).mono (by omega) (by omega)
  ·exact (hb'.gg g hg).mono (by omega) (by omega)
 ·rintro p q ⟨α,α1,α2⟩ ⟨β,β1,β2⟩;refine⟨fun k=>if k<a.g.length then α k else β (k-a.g.length),fun k=>?_,fun i hi=>?_⟩
  ·show absQ (if k<a.g.length then α k else β (k-a.g.length))<=1;split
   ·exact α1 _
   ·exact β1 _
  ·show absQ (p i+q i-(vv (mo.map (·.1)) i+gs (a.g++b.g) _ i))<=vv r2 i;rw[gs_append];have h1:=m2.2.2.2 i hi;have h2:=w4 i hi;have h3:=u4 i hi;have h4:=α2 i hi;have h5:=β2 i hi;have h6:=absQ_add (p i-(vv a.c i+gs a.g α i)) (q i-(vv b.c i+gs b.g β i));have h7:=absQ_add (vv a.c i+vv b.c i-vv (mo.map (·.1)) i) (p i-(vv a.c i+gs a.g α i)+(q i-(vv b.c i+gs b.g β i)));have e:p i+q i-(vv (mo.map (·.1)) i+(gs a.g α i+gs b.g β i))=vv a.c i+vv b.c i-vv (mo.map (·.1)) i+(p i-(vv a.c i+gs a.g α i)+(q i-(vv b.c i+gs b.g β i))):=by grind
   rw[e];grind
end
section
open Go Go.RowKit Go.Proofs.Tryz
attribute [local irreducible] zMul zAdd zLeft zRight fitZ qMake zDiv dMake dLevel dRound dNear dAdd dMul dRatio dCmp dMin dMax dAbs dLess qCmp sOut qAdd qMul sAdd sMul sNear qSum sSize vNear dNeg dOf
theorem ZM.nn {n:Nat} {z:ZO} {p:Nat->Rat} (h:ZM n z p):∀ i,i<n->0<=vv z.r i:=fun i hi=>by
 obtain⟨α,_,h2⟩:=h;exact Rat.le_trans (absQ_nonneg _) (h2 i hi)
theorem SS_one:∀ (n:Nat) (i:Nat) (f:Nat->Rat),i<n->(∀ j,j<n->j≠i->f j=0)->SS n f=f i
 |n+1,0,f,_,h=>by
  show f 0+SS n (fun k=>f (k+1))=f 0;rw[show SS n (fun k=>f (k+1))=0 from (SS_congr fun k hk=>h (k+1) (by omega) (by omega)).trans (SS_zero n),Rat.add_zero]
 |n+1,i+1,f,hi,h=>by
  show f 0+SS n (fun k=>f (k+1))=f (i+1);rw[h 0 (by omega) (by omega),SS_one n i (fun k=>f (k+1)) (by omega) (fun j hj hne=>h (j+1) (by omega) (by omega)),Rat.zero_add]
theorem diag_AH {n K L:Nat} {s:FS} {t:Rat} (hs:SGr K L s) (ht:In t s):AH n n K L (diag n s) (fun i j=>if j=i then t else 0):=by
 refine⟨by simp[diag],fun i hi=>?_⟩;have e:(diag n s).getD i []=(List.replicate n s0).set i s:=by
  unfold diag;rw[mpg (da:=0) (by simpa using hi),List.getD_eq_getElem?_getD,List.getElem?_range hi];rfl
 rw[e];refine⟨by simp,fun j hj=>?_⟩;rw[List.getD_eq_getElem?_getD,List.getElem?_set];by_cases h:i=j
 ·subst h;rw[if_pos rfl,if_pos (by simpa using hj)];show SGr K L s/\In (if i=i then t else 0) s;rw[if_pos rfl];exact⟨hs,ht⟩
 ·rw[if_neg h,List.getElem?_replicate,if_pos hj];show SGr K L s0/\In (if j=i then t else 0) s0;rw[if_neg (fun q=>h (Eq.symm q))];exact⟨.s0 _ _,.s0⟩
theorem zTimes_ok {bits:Int} (hb:bitsOk bits=true) {n K L K' L':Nat} {s:FS} {t:Rat} {z:ZO} (hs:SGr K L s) (ht:In t s) (hz:ZS n K' L' z) (hr0:∀ i,i<n->0<=vv z.r i) (h:K+K'+2*n+2*z.g.length+(L+L')+16<=16384) :
  ∃ w,zTimes bits z s=.ok w/\ZS n (K+K'+2*n+2*z.g.length+8) (L+L'+1) w/\w.g.length=z.g.length/\∀ p,ZM n z p->ZM n w (fun i=>t*p i):=by
 obtain⟨w,w1,w2,w3,w4⟩:=zImage_ok hb (diag_AH (n:=n) hs ht) hz hr0 h;refine⟨w,by unfold zTimes; rw[hz.cn]; exact w1,w2,w3,fun p hp=>(w4 p hp).congr fun i hi=>?_⟩;rw[SS_one n i _ hi (fun j _ hne=>by rw[if_neg hne]; exact Rat.zero_mul _),if_pos rfl]
theorem boxG_ok {bits:Int} (hb:bitsOk bits=true) {n K L:Nat} {i:Nat} (hi:i<n):∀ (l:List (List FD)) (acc:FS) (k:Nat),(∀ g∈l,g.length=n)->(∀ g∈l,dG K L g)->SGr k L acc->K<=k->k+2*l.length+L+1<=16384 ->
  ∃ r,foldE (boxG bits i) acc l=.ok r/\SGr (k+2*l.length) L r/\∀ (α:Nat->Rat) (v:Rat),(∀ k,absQ (α k)<=1)->In v acc->In (v+gs l α i) r
 |[],acc,k,_,_,h3,_,_=>⟨acc,rfl,h3,fun α v _ hv=>by show In (v+0) acc; rw[Rat.add_zero]; exact hv⟩
 |g::l,acc,k,h1,h2,h3,h4,h5=>by
  simp only[List.length_cons] at h5 ⊢;obtain⟨s,s1,s2,s3,s4⟩:=sAdd_ok hb h3 (even_gr (((h2 g (.head _)).get i).mono h4 (Nat.le_refl _))) (by omega);obtain⟨r,r1,r2,r3⟩:=boxG_ok hb hi l s (k+2) (fun g hg=>h1 g (.tail _ hg)) (fun g hg=>h2 g (.tail _ hg)) s2 (by omega) (by omega);refine⟨r,?_,r2.mono (by omega) (Nat.le_refl _),fun α v hα hv=>?_⟩
  ·have e:boxG bits i acc g=.ok s:=s1;simp only[foldE,e];exact r1
  ·have h6:In (α 0*vv g i) (sEven (g.getD i d0)):=by
    have h7:absQ (α 0*vv g i)<=absQ (vv g i):=by
     rw[absQ_mul];have:=Rat.mul_le_mul_of_nonneg_right (hα 0) (absQ_nonneg (vv g i));rw[Rat.one_mul] at this;exact this
    have h8:=absQ_le.1 h7;have h9:(dAbs (g.getD i d0)).v=absQ (vv g i):=dAbs_v _;exact⟨by show (dNeg (dAbs (g.getD i d0))).v<=_; rw[dNeg_v,h9]; exact h8.1,by show _<=(dAbs (g.getD i d0)).v; rw[h9]; exact h8.2⟩
   have h7:=r3 (fun k=>α (k+1)) (v+α 0*vv g i) (fun k=>hα (k+1)) (In.add hv h6 s3 s4);show In (v+(α 0*vv g i+gs l (fun k=>α (k+1)) i)) r;rw[<- Rat.add_assoc];exact h7
theorem zBox_ok {bits:Int} (hb:bitsOk bits=true) {n K L:Nat} {z:ZO} (hz:ZS n K L z) (h:K+2*z.g.length+L+8<=16384) :
  ∃ b,zBox bits z=.ok b/\b.length=n/\(∀ i,i<n->SGr (K+2*z.g.length+2) L (b.getD i s0))/\∀ p,ZM n z p->∀ i,i<n->In (p i) (b.getD i s0):=by
 obtain⟨rs,r1,r2,r3⟩:=runE_all (f:=box1 bits z) (da:=0) (d:=s0) (l:=List.range z.c.length) (R:=fun i _ s=>SGr (K+2*z.g.length+2) L s/\∀ p,ZM n z p->In (p i) s) fun i hi=>by
  have hi':i<n:=by rw[<- hz.cn]; simpa using hi
  have e:(List.range z.c.length).getD i 0=i:=by
   rw[List.getD_eq_getElem?_getD,List.getElem?_range (by rw[hz.cn]; exact hi')];rfl
  rw[e];obtain⟨a,a1,a2,a3⟩:=boxG_ok hb hi' z.g (sEven (z.r.getD i d0)) K hz.gn hz.gg (even_gr (hz.rg.get i)) (Nat.le_refl _) (by omega);obtain⟨s,s1,s2,s3,s4⟩:=sAdd_ok hb a2 (pt_gr ((hz.cg.get i).mono (by omega:K<=K+2*z.g.length) (Nat.le_refl L))) (by omega);refine⟨s,?_,s2,?_⟩
  ·unfold box1;rw[a1];exact s1
  ·rintro p ⟨α,h1,h2⟩;have h3:=a3 α _ h1 (In.even (h2 i hi'));have h4:=In.add h3 (In.pt (z.c.getD i d0)) s3 s4;have e:p i-(vv z.c i+gs z.g α i)+gs z.g α i+(z.c.getD i d0).v=p i:=by
    show _+vv z.c i=p i;grind
   rw[e] at h4;exact h4
 have hl:(List.range z.c.length).length=n:=by simp[hz.cn]
 exact⟨rs,r1,by omega,fun i hi=>(r3 i (by omega)).1,fun p hp i hi=>(r3 i (by omega)).2 p hp⟩
theorem vNorm_acc {K L:Nat}:∀ (l:List FS) (acc:FD),(∀ s∈l,SGr K L s)->Gr K L acc->acc.v<=(l.foldl (fun m s=>dMax m (sSize s)) acc).v/\Gr K L (l.foldl (fun m s=>dMax m (sSize s)) acc)/\∀ i,i<l.length->∀ x,In x (l.getD i s0)->absQ x<=(l.foldl (fun m s=>dMax m (sSize s)) acc).v
 |[],acc,_,h=>⟨Rat.le_refl,h,fun i hi=>absurd hi (Nat.not_lt_zero _)⟩
 |s::l,acc,h1,h2=>by
  have hg:=size_gr (h1 s (.head _));have hm:acc.v<=(dMax acc (sSize s)).v/\(sSize s).v<=(dMax acc (sSize s)).v:=by rw[dMax_v]; split <;> grind
  obtain⟨a1,a2,a3⟩:=vNorm_acc l (dMax acc (sSize s)) (fun x hx=>h1 x (.tail _ hx)) (dMax_gr h2 hg);refine⟨Rat.le_trans hm.1 a1,a2,fun i hi x hx=>?_⟩;cases i with
  |zero=>exact Rat.le_trans (sSize_v s hx) (Rat.le_trans hm.2 a1)
  |succ i=>exact a3 i (Nat.lt_of_succ_lt_succ hi) x hx
theorem zReach_ok {bits:Int} (hb:bitsOk bits=true) {n K L:Nat} {z:ZO} (hz:ZS n K L z) (h:K+2*z.g.length+L+8<=16384) :
  ∃ d,zReach bits z=.ok d/\Gr (K+2*z.g.length+2) L d/\0<=d.v/\∀ p,ZM n z p->∀ i,i<n->absQ (p i)<=d.v:=by
 obtain⟨b,b1,b2,b3,b4⟩:=zBox_ok hb hz h;obtain⟨a1,a2,a3⟩:=vNorm_acc (K:=K+2*z.g.length+2) (L:=L) b d0 ((mem_iff_getD (da:=s0)).2 fun i hi=>b3 i (by omega)) (.d0 _ _);have h0:d0.v=0:=v_zero rfl;rw[h0] at a1;refine⟨vNorm b,by unfold zReach; rw[b1]; rfl,a2,a1,fun p hp i hi=>a3 i (by omega) _ (b4 p hp i hi)⟩
end
end Go.Proofs.YtjdkdcmpifapeaaGreatDoor.Abs
