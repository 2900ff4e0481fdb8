/- How great what spans hold is: sizes of their ends, row by row. -/
import Derived.Test.YtjdkdcmpifapeaaGreatDoorMt
import Derived.Test.YtjdkdcmpifapeaaGreatDoorMq
set_option linter.unusedVariables false
set_option linter.unusedSectionVars false
set_option linter.unusedSimpArgs false
set_option maxHeartbeats 4000000
set_option maxRecDepth 10000
namespace Go.Proofs.YtjdkdcmpifapeaaGreatDoor.Abs
section
open Go Go.RowKit Go.Proofs.Tryz
attribute [local irreducible] zMul zAdd zLeft zRight fitZ qMake zDiv dMake dLevel dRound dNear dAdd dMul dRatio dCmp dMin dMax dAbs dLess qCmp sOut qAdd qMul
def mag (s:FS):Rat:=if absQ s.lo.v<absQ s.hi.v then absQ s.hi.v else absQ s.lo.v
theorem mag_le {s:FS} {c:Rat}:mag s<=c↔absQ s.lo.v<=c/\absQ s.hi.v<=c:=by
 unfold mag;split <;> constructor <;> intro h <;> grind
theorem le_mag (s:FS):absQ s.lo.v<=mag s/\absQ s.hi.v<=mag s:=mag_le.1 Rat.le_refl
theorem mag_nonneg (s:FS):0<=mag s:=Rat.le_trans (absQ_nonneg _) (le_mag s).1
theorem mag_s0:mag s0=0:=by
 have:d0.v=0:=v_zero rfl;unfold mag;show (if absQ d0.v<absQ d0.v then absQ d0.v else absQ d0.v)=0;rw[this];decide +kernel
def ro (bits:Int):Rat:=1+2^(1-bits)
theorem ro_one (bits:Int):1<=ro bits:=by
 have:=zpow_pos2 (1-bits);unfold ro;grind
theorem ro_nonneg (bits:Int):0<=ro bits:=by
 have:=ro_one bits;grind
theorem rnd_mag {x y:Rat} {bits:Int} (h:absQ (y-x)<=absQ x*2^(1-bits)):absQ y<=absQ x*ro bits:=by
 have h1:=absQ_add x (y-x);rw[show x+(y-x)=y by grind] at h1;unfold ro;grind
theorem ro_pow_one (bits:Int):∀ k:Nat,1<=ro bits^k
 |0=>by rw[Rat.pow_zero]; exact Rat.le_refl
 |k+1=>by
  have h1:=ro_pow_one bits k;have h2:=ro_one bits;have h3:1*1<=ro bits^k*ro bits:=Rat.le_trans (Rat.mul_le_mul_of_nonneg_left h2 (by grind)) (Rat.mul_le_mul_of_nonneg_right h1 (by grind));rw[Rat.pow_succ];grind
theorem ro_pow_nonneg (bits:Int) (k:Nat):0<=ro bits^k:=by
 have:=ro_pow_one bits k;grind
theorem mul_le2 {a b c d:Rat} (h1:a<=c) (h2:b<=d) (hb:0<=b) (hc:0<=c):a*b<=c*d :=
 Rat.le_trans (Rat.mul_le_mul_of_nonneg_right h1 hb) (Rat.mul_le_mul_of_nonneg_left h2 hc)
theorem sOut_mag {lo hi:FD} {r:FS} {K L:Nat} {bits:Int} {c:Rat} (hb:bitsOk bits=true) (hl:Gr K L lo) (hh:Gr K L hi) (hL:L<=65536) (hK:K+1<=65536) (hr:sOut lo hi bits=.ok r) (h1:absQ lo.v<=c) (h2:absQ hi.v<=c):mag r<=c*ro bits:=by
 obtain⟨r',r1,_,_,_,_,r6,r7⟩:=sOut_ok2 hb hl hh hL hK;rw[hr] at r1;cases r1;have:=ro_nonneg bits;exact mag_le.2 ⟨Rat.le_trans (rnd_mag r6) (Rat.mul_le_mul_of_nonneg_right h1 this),Rat.le_trans (rnd_mag r7) (Rat.mul_le_mul_of_nonneg_right h2 this)⟩
theorem sAdd_mag {a b r:FS} {K L:Nat} {bits:Int} (hb:bitsOk bits=true) (ha:SGr K L a) (hb2:SGr K L b) (h:K+L+1<=16384) (hr:sAdd a b bits=.ok r):mag r<=(mag a+mag b)*ro bits:=by
 obtain⟨l,l1,l2,l3⟩:=dAdd_ok ha.1 hb2.1 h;obtain⟨u,u1,u2,u3⟩:=dAdd_ok ha.2 hb2.2 h;have hr':sOut l u bits=.ok r:=by
  unfold sAdd at hr;rw[bnd_ok l1,bnd_ok u1] at hr;exact hr
 refine sOut_mag hb l3 u3 (by omega) (by omega) hr' ?_ ?_
 ·rw[l2];have h1:=absQ_add a.lo.v b.lo.v;have h2:=(le_mag a).1;have h3:=(le_mag b).1;grind
 ·rw[u2];have h1:=absQ_add a.hi.v b.hi.v;have h2:=(le_mag a).2;have h3:=(le_mag b).2;grind
theorem dMin_abs {x y:FD} {c:Rat} (h1:absQ x.v<=c) (h2:absQ y.v<=c):absQ (dMin x y).v<=c:=by
 rw[dMin_v];split <;> assumption
theorem dMax_abs {x y:FD} {c:Rat} (h1:absQ x.v<=c) (h2:absQ y.v<=c):absQ (dMax x y).v<=c:=by
 rw[dMax_v];split <;> assumption
theorem sMul_mag {a b r:FS} {K L K' L':Nat} {bits:Int} (hb:bitsOk bits=true) (ha:SGr K L a) (hb2:SGr K' L' b) (h:K+L+(K'+L')+1<=16384) (hr:sMul a b bits=.ok r):mag r<=mag a*mag b*ro bits:=by
 obtain⟨x1,e1,v1,g1⟩:=dMul_ok ha.1 hb2.1 (by omega);obtain⟨x2,e2,v2,g2⟩:=dMul_ok ha.1 hb2.2 (by omega);obtain⟨x3,e3,v3,g3⟩:=dMul_ok ha.2 hb2.1 (by omega);obtain⟨x4,e4,v4,g4⟩:=dMul_ok ha.2 hb2.2 (by omega);have hp:∀ {x y:Rat},absQ x<=mag a->absQ y<=mag b->absQ (x*y)<=mag a*mag b:=fun h1 h2=>by
  rw[absQ_mul];exact mul_le2 h1 h2 (absQ_nonneg _) (mag_nonneg _)
 have p1:absQ x1.v<=mag a*mag b:=by rw[v1]; exact hp (le_mag a).1 (le_mag b).1
 have p2:absQ x2.v<=mag a*mag b:=by rw[v2]; exact hp (le_mag a).1 (le_mag b).2
 have p3:absQ x3.v<=mag a*mag b:=by rw[v3]; exact hp (le_mag a).2 (le_mag b).1
 have p4:absQ x4.v<=mag a*mag b:=by rw[v4]; exact hp (le_mag a).2 (le_mag b).2
 have hr':sOut (dMin (dMin (dMin x1 x2) x3) x4) (dMax (dMax (dMax x1 x2) x3) x4) bits=.ok r:=by
  unfold sMul at hr;rw[bnd_ok e1,bnd_ok e2,bnd_ok e3,bnd_ok e4] at hr;exact hr
 exact sOut_mag hb (dMin_gr (dMin_gr (dMin_gr g1 g2) g3) g4) (dMax_gr (dMax_gr (dMax_gr g1 g2) g3) g4) (by omega) (by omega) hr' (dMin_abs (dMin_abs (dMin_abs p1 p2) p3) p4) (dMax_abs (dMax_abs (dMax_abs p1 p2) p3) p4)
theorem magL_nonneg (l:List FS) (i:Nat):0<=(l.map mag).getD i 0:=by
 rw[List.getD_eq_getElem?_getD,List.getElem?_map];cases l[i]? with
 |none=>exact Rat.le_refl
 |some z=>exact mag_nonneg z
theorem inner_mag {bits:Int} (hb:bitsOk bits=true) {K L K' L':Nat} (h:K+L+(K'+L')+1<=16384):∀ {a b:List FS} (_:∀ s∈a,SGr K L s) (_:∀ s∈b,SGr K' L' s) (_:a.length=b.length) (acc r:FS) (k:Nat) (_:SGr k (L+L') acc) (_:K+K'+1<=k) (_:k+2*a.length+(L+L')+1<=16384)
  (_:foldE (innerStep bits) acc (a.zip b)=.ok r),mag r<=(mag acc+dotR (a.map mag) (b.map mag)*ro bits)*ro bits^a.length
 |[],[],_,_,_,acc,r,k,_,_,_,hr=>by
  cases hr;show mag acc<=(mag acc+0*ro bits)*ro bits^0;rw[Rat.pow_zero];grind
 |x::a,[],_,_,hab,_,_,_,_,_,_,_=>by cases hab
 |[],y::b,_,_,hab,_,_,_,_,_,_,_=>by cases hab
 |x::a,y::b,hga,hgb,hab,acc,r,k,k1,k3,k4,hr=>by
  simp only[List.length_cons] at k4;have gx:=hga x (by simp);have gy:=hgb y (by simp);obtain⟨p,p1,p2,_⟩:=sMul_ok hb gx gy h;obtain⟨s,s1,s2,_⟩:=sAdd_ok hb k1 (p2.mono k3 (Nat.le_refl _)) (by omega);have m1:=sMul_mag hb gx gy h p1;have m2:=sAdd_mag hb k1 (p2.mono k3 (Nat.le_refl _)) (by omega) s1;have hr':foldE (innerStep bits) s (a.zip b)=.ok r:=by
   simp only[List.zip_cons_cons,foldE,innerStep] at hr;rw[bnd_ok p1,s1] at hr;exact hr
  have ih:=inner_mag hb h (fun s hs=>hga s (by simp[hs])) (fun s hs=>hgb s (by simp[hs])) (by simpa using hab) s r (k+2) s2 (by omega) (by omega) hr';have e:dotR ((x::a).map mag) ((y::b).map mag)=mag x*mag y+dotR (a.map mag) (b.map mag):=rfl;rw[e];obtain⟨D,hD⟩:∃ D,dotR (a.map mag) (b.map mag)=D:=⟨_,rfl⟩
  have hD0:0<=D:=by
   rw[<- hD,dotR_SS (by simpa using hab)];exact SS_nonneg fun i hi=>Rat.mul_nonneg (magL_nonneg a i) (magL_nonneg b i)
  rw[hD] at ih ⊢;have h1:=ro_one bits;have h2:mag s+D*ro bits<=(mag acc+(mag x*mag y+D)*ro bits)*ro bits:=by
   have g1:(mag acc+mag p)*ro bits<=(mag acc+mag x*mag y*ro bits)*ro bits:=Rat.mul_le_mul_of_nonneg_right (by grind) (by grind);have g2:D*ro bits*1<=D*ro bits*ro bits:=Rat.mul_le_mul_of_nonneg_left h1 (Rat.mul_nonneg hD0 (by grind));grind
  have h3:(mag s+D*ro bits)*ro bits^a.length<=(mag acc+(mag x*mag y+D)*ro bits)*ro bits*ro bits^a.length:=Rat.mul_le_mul_of_nonneg_right h2 (ro_pow_nonneg _ _);have h4:(mag acc+(mag x*mag y+D)*ro bits)*ro bits*ro bits^a.length=(mag acc+(mag x*mag y+D)*ro bits)*ro bits^(a.length+1):=by
   rw[Rat.pow_succ];grind
  rw[h4] at h3;exact Rat.le_trans ih h3
def sp (p:List (List FS)) (i j:Nat):FS:=(p.getD i []).getD j s0
def Mag (n:Nat) (M:Rat) (p:List (List FS)):Prop:=∀ i,i<n->(SS n fun j=>mag (sp p i j))<=M
theorem Mag.mono {n:Nat} {M M':Rat} {p:List (List FS)} (h:Mag n M p) (hM:M<=M'):Mag n M' p:=fun i hi=>Rat.le_trans (h i hi) hM
theorem Mag.at {n:Nat} {M:Rat} {p:List (List FS)} (h:Mag n M p) {i j:Nat} (hi:i<n) (hj:j<n):mag (sp p i j)<=M:=by
 have h1:=h i hi;have h2:SS (j+1) (fun k=>mag (sp p i k))<=SS n fun k=>mag (sp p i k):=SS_mono hj fun k=>mag_nonneg _
 rw[SS_last] at h2;have h3:=SS_nonneg (n:=j) (f:=fun k=>mag (sp p i k)) fun k _=>mag_nonneg _
 grind
theorem Mag.nonneg {n:Nat} {M:Rat} {p:List (List FS)} (h:Mag n M p) (hn:0<n):0<=M:=Rat.le_trans (SS_nonneg fun k _=>mag_nonneg _) (h 0 hn)
theorem runE_get {α β:Type} {f:α->Except Nat β} (d:β):∀ {l:List α} {r:List β} {i:Nat} {x:α},runE f l=.ok r->l[i]?=some x->f x=.ok (r.getD i d)
 |[],_,_,_,_,hx=>by simp at hx
 |y::l,r,i,x,h,hx=>by
  simp only[runE] at h;cases hy:f y with
  |error e=>rw[hy] at h; cases h
  |ok z =>
   rw[hy] at h;cases hl:runE f l with
   |error e=>rw[hl] at h; cases h
   |ok t =>
    rw[hl] at h;cases h;cases i with
    |zero=>simp at hx; subst hx; exact hy
    |succ i =>
     show f x=.ok (t.getD i d);exact runE_get d hl (by simpa using hx)
theorem runE_len {α β:Type} {f:α->Except Nat β}:∀ {l:List α} {r:List β},runE f l=.ok r->r.length=l.length
 |[],_,h=>by cases h; rfl
 |y::l,r,h=>by
  simp only[runE] at h;cases hy:f y with
  |error e=>rw[hy] at h; cases h
  |ok z =>
   rw[hy] at h;cases hl:runE f l with
   |error e=>rw[hl] at h; cases h
   |ok t =>
    rw[hl] at h;cases h;simp[runE_len hl]
theorem colV_getD {n:Nat} {q:List (List FS)} (hq:SqG n q) {j k:Nat} (hk:k<n):(colV s0 q j).getD k s0=sp q k j:=by
 unfold colV sp;have h1:k<q.length:=by rw[hq.1]; exact hk
 simp[List.getD,h1]
theorem times_get {n:Nat} {bits:Int} {p q m:List (List FS)} (hp:SqG n p) (hq:SqG n q) (hm:mTimes bits p q=.ok m) {i j:Nat} (hi:i<n) (hj:j<n):vInner bits (p.getD i []) (colV s0 q j)=.ok (sp m i j):=by
 obtain⟨rp,cp⟩:=hp.rect;obtain⟨rq,cq⟩:=hq.rect;unfold mTimes mMulG at hm;rw[if_pos rq,if_pos ⟨rp,cp.trans hq.1.symm⟩] at hm;unfold turnV at hm;rw[cq] at hm;have h1:=runE_get [] hm (get_ne (d:=[]) (by rw[hp.1]; exact hi));unfold mRow at h1;exact runE_get s0 h1 (x:=colV s0 q j) (by simp[hj])
theorem scaled_get {n:Nat} {bits:Int} {p m:List (List FS)} {c:FS} (hp:SqG n p) (hm:mScaled bits p c=.ok m) {i j:Nat} (hi:i<n) (hj:j<n):sMul (sp p i j) c bits=.ok (sp m i j):=by
 unfold mScaled at hm;have h1:=runE_get [] hm (get_ne (d:=[]) (by rw[hp.1]; exact hi));unfold vTimes at h1;exact runE_get (f:=fun a=>sMul a c bits) s0 h1 (get_ne (d:=s0) (by rw[hp.row hi]; exact hj))
theorem map_mag_getD (l:List FS) (i:Nat):(l.map mag).getD i 0=mag (l.getD i s0):=by
 simp only[List.getD_eq_getElem?_getD,List.getElem?_map];cases l[i]? with
 |none=>exact mag_s0.symm
 |some s=>rfl
def GrT (n K L:Nat) (p:List (List FS)):Prop:=SqG n p/\∀ i j,i<n->j<n->SGr K L (sp p i j)
theorem HTL.gr {n K L:Nat} {p:List (List FS)} {f:Nat->Nat->Nat->Rat} (h:HTL n K L p f):GrT n K L p:=⟨h.1,fun i j hi hj=>(h.2 i j hi hj).1⟩
theorem GrT.mono {n K L K' L':Nat} {p:List (List FS)} (h:GrT n K L p) (hK:K<=K') (hL:L<=L'):GrT n K' L' p:=⟨h.1,fun i j hi hj=>(h.2 i j hi hj).mono hK hL⟩
theorem times_mag {n K L K' L':Nat} {bits:Int} {p q m:List (List FS)} {M M':Rat} (hbo:bitsOk bits=true) (hp:GrT n K L p) (hq:GrT n K' L' q) (h:K+K'+1+2*n+(L+L')+1<=16384) (hM:Mag n M p) (hM':Mag n M' q) (hM0:0<=M')
  (hm:mTimes bits p q=.ok m):Mag n (M*M'*ro bits^(n+1)) m:=by
 intro i hi;have one:∀ j,j<n->mag (sp m i j)<=(SS n fun k=>mag (sp p i k)*mag (sp q k j))*ro bits^(n+1):=fun j hj=>by
  have h1:=times_get hp.1 hq.1 hm hi hj;have hpl:=hp.1.row hi;have hcl:(colV s0 q j).length=n:=by simp[colV,hq.1.1]
  unfold vInner at h1;rw[if_neg (by rw[hpl,hcl]; simp)] at h1;have h2:=inner_mag hbo (K:=K) (L:=L) (K':=K') (L':=L') (by omega) (fun s hs=>by
    obtain⟨k,hk,rfl⟩:=mem_getD (d:=s0) hs;exact hp.2 i k hi (by omega)) (fun s hs=>by
    obtain⟨k,hk,rfl⟩:=mem_getD (d:=s0) hs;rw[colV_getD hq.1 (by omega)];exact hq.2 k j (by omega) hj) (by rw[hpl,hcl]) s0 _ (K+K'+1) (.s0 _ _) (Nat.le_refl _) (by rw[hpl]; exact h) h1
  rw[mag_s0,dotR_SS (by rw[List.length_map,List.length_map,hpl,hcl]),List.length_map,hpl,Rat.zero_add] at h2;have e:(SS n fun k=>((p.getD i []).map mag).getD k 0*((colV s0 q j).map mag).getD k 0)=SS n fun k=>mag (sp p i k)*mag (sp q k j):=SS_congr fun k hk=>by
   rw[map_mag_getD,map_mag_getD,colV_getD hq.1 hk];rfl
  rw[e,Rat.mul_assoc] at h2;have e2:ro bits*ro bits^n=ro bits^(n+1):=by rw[Rat.pow_succ,Rat.mul_comm]
  rw[e2] at h2;exact h2
 refine Rat.le_trans (SS_le' one) ?_;rw[<- SS_mul_r,SS_swap];refine Rat.mul_le_mul_of_nonneg_right ?_ (ro_pow_nonneg _ _);have h3:(SS n fun k=>SS n fun j=>mag (sp p i k)*mag (sp q k j))<=SS n fun k=>mag (sp p i k)*M':=SS_le' fun k hk=>by
  rw[<- SS_mul_l];exact Rat.mul_le_mul_of_nonneg_left (hM' k hk) (mag_nonneg _)
 rw[<- SS_mul_r] at h3;exact Rat.le_trans h3 (Rat.mul_le_mul_of_nonneg_right (hM i hi) hM0)
theorem plus_mag {n K L:Nat} {bits:Int} {p q m:List (List FS)} {M M':Rat} (hbo:bitsOk bits=true) (hp:GrT n K L p) (hq:GrT n K L q) (h:K+L+1<=16384) (hM:Mag n M p) (hM':Mag n M' q) (hm:mPlus bits p q=.ok m):Mag n ((M+M')*ro bits) m:=by
 intro i hi;have one:∀ j,j<n->mag (sp m i j)<=(mag (sp p i j)+mag (sp q i j))*ro bits:=fun j hj=>sAdd_mag hbo (hp.2 i j hi hj) (hq.2 i j hi hj) h (plus_get hp.1 hq.1 hm hi hj)
 refine Rat.le_trans (SS_le' one) ?_;rw[<- SS_mul_r,SS_add];refine Rat.mul_le_mul_of_nonneg_right ?_ (ro_nonneg _);have h1:=hM i hi;have h2:=hM' i hi;grind
theorem scaled_mag {n K L K' L':Nat} {bits:Int} {p m:List (List FS)} {c:FS} {M C:Rat} (hbo:bitsOk bits=true) (hp:GrT n K L p) (hc:SGr K' L' c) (h:K+L+(K'+L')+1<=16384) (hM:Mag n M p) (hC:mag c<=C) (hM0:0<=M) (hm:mScaled bits p c=.ok m):Mag n (M*C*ro bits) m:=by
 intro i hi;have one:∀ j,j<n->mag (sp m i j)<=mag (sp p i j)*(C*ro bits):=fun j hj=>by
  have h1:=sMul_mag hbo (hp.2 i j hi hj) hc h (scaled_get hp.1 hm hi hj);rw[Rat.mul_assoc] at h1;exact Rat.le_trans h1 (Rat.mul_le_mul_of_nonneg_left (Rat.mul_le_mul_of_nonneg_right hC (ro_nonneg _)) (mag_nonneg _))
 refine Rat.le_trans (SS_le' one) ?_;rw[<- SS_mul_r,Rat.mul_assoc];exact Rat.mul_le_mul_of_nonneg_right (hM i hi) (Rat.mul_nonneg (Rat.le_trans (mag_nonneg _) hC) (ro_nonneg _))
theorem Gr.of_v {K L K':Nat} {d:FD} (h:Gr K L d) (hv:absQ d.v<2^(K':Int)):Gr K' L d:=by
 by_cases h0:d.man=0
 ·exact .inl h0
 ·rcases h with h | ⟨h1,_⟩
  ·exact .inl h
  ·refine .inr ⟨h1,?_⟩;rw[absQ_v] at hv;have h2:((d.man.natAbs:Nat):Rat)*2^d.exp*2^(L:Int)<2^(K':Int)*2^(L:Int):=Rat.mul_lt_mul_of_pos_right hv (zpow_pos2 _);rw[Rat.mul_assoc,<- zpow_add2,<- zpow_add2] at h2;have e1:(2:Rat)^(d.exp+(L:Int))=((2^(d.exp+(L:Int)).toNat:Nat):Rat):=by
    have:d.exp+(L:Int)=((d.exp+(L:Int)).toNat:Int):=by omega
    rw[this,Int.toNat_natCast,<- cast_pow2];have:((2:Int)^(d.exp+(L:Int)).toNat:Int)=((2^(d.exp+(L:Int)).toNat:Nat):Int):=by simp
    rw[this];rfl
   have e2:(2:Rat)^((K':Int)+(L:Int))=((2^(K'+L):Nat):Rat):=by
    have:(K':Int)+(L:Int)=((K'+L:Nat):Int):=by omega
    rw[this,<- cast_pow2];have:((2:Int)^(K'+L):Int)=((2^(K'+L):Nat):Int):=by simp
    rw[this];rfl
   rw[e1,e2,<- Rat.natCast_mul] at h2
   exact_mod_cast h2
theorem HTL.regrade {n K L K':Nat} {p:List (List FS)} {f:Nat->Nat->Nat->Rat} {M:Rat} (h:HTL n K L p f) (hM:Mag n M p) (hK:M<2^(K':Int)):HTL n K' L p f :=
 ⟨h.1,fun i j hi hj=>by
  have h1:=hM.at hi hj;have h2:=mag_le.1 h1;have h3:=h.2 i j hi hj;exact⟨⟨h3.1.1.of_v (Std.lt_of_le_of_lt h2.1 hK),h3.1.2.of_v (Std.lt_of_le_of_lt h2.2 hK)⟩,h3.2⟩⟩
end
section
open Go Go.RowKit Go.Proofs.Tryz
attribute [local irreducible] zMul zAdd zLeft zRight fitZ qMake zDiv dMake dLevel dRound dNear dAdd dMul dRatio dCmp dMin dMax dAbs dLess qCmp sOut qAdd qMul sAdd sMul vPlus vInner vTimes
def rn (bits:Int):Rat:=1+2^(2-bits)
theorem rn_one (bits:Int):1<=rn bits:=by
 have:=zpow_pos2 (2-bits);unfold rn;grind
theorem ro_8 {bits:Int} (h:8<=bits):ro bits<=129/128:=by
 have h1:=zpow_le2 (show 1-bits<=-7 by omega);have e:(2:Rat)^(-7:Int)=1/128:=by decide +kernel
 unfold ro;rw[e] at h1;grind
theorem rn_8 {bits:Int} (h:8<=bits):rn bits<=65/64:=by
 have h1:=zpow_le2 (show 2-bits<=-6 by omega);have e:(2:Rat)^(-6:Int)=1/64:=by decide +kernel
 unfold rn;rw[e] at h1;grind
theorem pow_mono {a b:Rat} (h0:0<=a) (h:a<=b):∀ k:Nat,a^k<=b^k
 |0=>by rw[Rat.pow_zero,Rat.pow_zero]; exact Rat.le_refl
 |k+1=>by
  rw[Rat.pow_succ,Rat.pow_succ];exact mul_le2 (pow_mono h0 h k) h h0 (Rat.pow_nonneg (Rat.le_trans h0 h))
theorem pow_up {a:Rat} (h:1<=a) {k m:Nat} (hk:k<=m):a^k<=a^m:=by
 obtain⟨b,rfl⟩:∃ b,m=k+b:=⟨m-k,by omega⟩
 rw[pow_add'];have h1:∀ b:Nat,1<=a^b:=fun b=>by
  induction b with
  |zero=>rw[Rat.pow_zero]; exact Rat.le_refl
  |succ b ih =>
   rw[Rat.pow_succ];have:=mul_le2 ih h (by grind) (by grind);grind
 have h2:=h1 b;have h3:a^k*1<=a^k*a^b:=Rat.mul_le_mul_of_nonneg_left h2 (Rat.pow_nonneg (by grind));grind
theorem sNear_mag {a:FQ} {j k:Nat} {bits:Int} {s:FS} (hb:bitsOk bits=true) (ha:Sz a.q j k) (h:bits.toNat+k+2<=16384) (hj:j<=16384) (hs:sNear a bits=.ok s):mag s<=absQ a.q*rn bits:=by
 obtain⟨l,l1,_,_,_,l5,_⟩:=dNear_ok false hb ha h hj;obtain⟨u,u1,_,_,_,u5,_⟩:=dNear_ok true hb ha h hj;have e:s=⟨l,u⟩:=by
  unfold sNear at hs;rw[bnd_ok l1,bnd_ok u1] at hs;exact (Except.ok.inj hs).symm
 subst e;have key:∀ y:Rat,absQ (y-a.q)<=absQ a.q*2^(2-bits)->absQ y<=absQ a.q*rn bits:=fun y h=>by
  have h1:=absQ_add a.q (y-a.q);rw[show a.q+(y-a.q)=y by grind] at h1;unfold rn;grind
 exact mag_le.2 ⟨key _ l5,key _ u5⟩
theorem near_get {n:Nat} {bits:Int} {a:List (List FQ)} {p:List (List FS)} (ha:Sqr n a) (hp:mNear a bits=.ok p) {i j:Nat} (hi:i<n) (hj:j<n):sNear ((a.getD i []).getD j q0) bits=.ok (sp p i j):=by
 unfold mNear at hp;have h1:=runE_get [] hp (get_ne (d:=[]) (by rw[ha.1]; exact hi));unfold vNear at h1;exact runE_get (f:=fun a=>sNear a bits) s0 h1 (get_ne (d:=q0) (by rw[(ha.row hi).2]; exact hj))
theorem near_mag {n j k:Nat} {bits:Int} {a:List (List FQ)} {p:List (List FS)} {c:Rat} (hb:bitsOk bits=true) (ha:Sqr n a) (sa:∀ r∈a,SzL r j k) (h:bits.toNat+k+2<=16384) (hj:j<=16384) (hp:mNear a bits=.ok p) (hc:RowB n (en a) c):Mag n (c*rn bits) p:=by
 intro i hi;have one:∀ l,l<n->mag (sp p i l)<=absQ (en a i l)*rn bits:=fun l hl =>
  sNear_mag hb (sa _ (ha.row hi).1 _ (getD_mem (by rw[(ha.row hi).2]; exact hl))) h hj (near_get ha hp hi hl)
 refine Rat.le_trans (SS_le' one) ?_;rw[<- SS_mul_r];exact Rat.mul_le_mul_of_nonneg_right (hc i hi) (by have:=rn_one bits; grind)
theorem SS_const (c:Rat):∀ n:Nat,(SS n fun _=>c)=(n:Rat)*c
 |0=>by
  show (0:Rat)=((0:Nat):Rat)*c;have:((0:Nat):Rat)=0:=rfl;rw[this,Rat.zero_mul]
 |n+1=>by
  rw[SS_last,SS_const c n,Rat.natCast_add];have:((1:Nat):Rat)=1:=rfl;rw[this];grind
theorem even_mag {n:Nat} {d:FD} (hd:0<=d.v):Mag n ((n:Rat)*d.v) (evenT n d):=by
 intro i hi;have e:(SS n fun j=>mag (sp (evenT n d) i j))=SS n fun _=>d.v:=SS_congr fun j hj=>by
  show mag (((evenT n d).getD i []).getD j s0)=_;rw[evenT_at hi hj];unfold mag;have h1:absQ (dNeg d).v=d.v:=by rw[dNeg_v,absQ_neg,absQ_pos hd]
  show (if absQ (dNeg d).v<absQ d.v then absQ d.v else absQ (dNeg d).v)=_;rw[h1,absQ_pos hd];split <;> rfl
 rw[e,SS_const];exact Rat.le_refl
theorem div_mag {n K L j:Nat} {bits:Int} {p m:List (List FS)} {M:Rat} (hj:Inv1 j) (h1:1<=j) (hb8:8<=bits) (hbo:bitsOk bits=true) (hp:GrT n K L p) (hb:bits.toNat<=1000) (h:K+L+bits.toNat+100<=16384) (hM:Mag n M p) (hM0:0<=M) (hm:mDiv bits p j=.ok m):Mag n (M*(65/64)*ro bits) m:=by
 obtain⟨s,s1,s2,s3⟩:=sNear_ok hbo hj.s (by omega) (by decide);have hs:=sNear_mag hbo hj.s (by omega) (by decide) s1;have hm':mScaled bits p s=.ok m:=(bnd_ok s1).symm.trans hm;refine scaled_mag hbo hp s2 (by omega) hM (Rat.le_trans hs ?_) hM0 hm';have hj1:(1:Rat)<=(j:Rat):=by
  have:((1:Nat):Rat)<=(j:Rat):=Rat.natCast_le_natCast.2 h1;exact this
 have h2:absQ (qOf 1 j).q<=1:=by
  rw[hj.q];have h3:(0:Rat)<=1/(j:Rat):=by rw[Rat.div_def,Rat.one_mul]; exact Rat.le_of_lt (Rat.inv_pos.2 (by grind))
  rw[absQ_pos h3];have h4:1/(j:Rat)*1<=1/(j:Rat)*(j:Rat):=Rat.mul_le_mul_of_nonneg_left hj1 h3;rw[Rat.div_mul_cancel (by grind),Rat.mul_one] at h4;exact h4
 have h5:=rn_8 hb8;have h6:=mul_le2 h2 h5 (by have:=rn_one bits; grind) (by grind);grind
theorem sums_mag {n Kx Lx:Nat} {bits:Int} {x:List (List FS)} {X:Nat->Nat->Rat} {Mx:Rat} (hbo:bitsOk bits=true) (hb8:8<=bits) (hb:bits.toNat<=1000) (hx:HTL n Kx Lx x fun _=>X) (hI:∀ j,1<=j->j<=150->Inv1 j) (hn:n<=10) (mx:Mag n Mx x) (hx0:0<=Mx) (hxc:Mx*ro bits^(n+1)*(65/64)*ro bits<=5/8) :
  ∀ (cnt j:Nat) (term E S E' S':List (List FS)) (K L:Nat) (T Em Sm:Rat),j+1+cnt<=150->K+cnt*(Kx+2*n+11)+L+cnt*(Lx+bits.toNat+20)+bits.toNat+Kx+Lx+200<=16384 ->
  HTL n K L term (fun _ i k=>ex j 1*pw n X j i k)->HTL n K (L+bits.toNat+8) E (fun _=>EN n X 1 (j+1))->HTL n K (L+bits.toNat+8) S (fun _=>UN n X 1 (j+1)) ->
  Mag n T term->Mag n Em E->Mag n Sm S->0<=T->0<=Em->0<=Sm->sumsGo bits x cnt (j+1) term E S=.ok (E',S')->Mag n (ro bits^cnt*(Em+5/3*T)) E'/\Mag n (ro bits^cnt*(Sm+55/32*T)) S'
 |0,j,term,E,S,E',S',K,L,T,Em,Sm,_,_,_,_,_,_,mE,mS,hT,_,_,hr=>by
  cases hr;rw[Rat.pow_zero];exact⟨mE.mono (by grind),mS.mono (by grind)⟩
 |cnt+1,j,term,E,S,EE,SS',K,L,T,Em,Sm,hj,hs,ht,hE,hS,mT,mE,mS,hT,hEm,hSm,hr=>by
  have e1:(cnt+1)*(Kx+2*n+11)=cnt*(Kx+2*n+11)+(Kx+2*n+11):=Nat.succ_mul _ _;have e2:(cnt+1)*(Lx+bits.toNat+20)=cnt*(Lx+bits.toNat+20)+(Lx+bits.toNat+20):=Nat.succ_mul _ _;rw[e1,e2] at hs;have r8:=ro_8 hb8;have r1:=ro_one bits;obtain⟨t1,a1,a2⟩:=times_L hbo ht hx (by omega);have ma:=times_mag hbo ht.gr hx.gr (by omega) mT mx hx0 a1;have ha0:0<=T*Mx*ro bits^(n+1):=Rat.mul_nonneg (Rat.mul_nonneg hT hx0) (ro_pow_nonneg _ _);obtain⟨t2,b1,b2⟩:=div_L (hI (j+1) (by omega) (by omega)) hbo a2 hb (by omega);have mb0:=div_mag (hI (j+1) (by omega) (by omega)) (by omega) hb8 hbo a2.gr hb (by omega) ma ha0 b1;have mb:Mag n (5/8*T) t2:=mb0.mono (by
   have h1:=Rat.mul_le_mul_of_nonneg_left hxc hT;grind)
  have hT':0<=5/8*T:=by grind
  have c2:HTL n (K+Kx+1+2*n+4) (L+Lx+(bits.toNat+8)) t2 (fun _ i k=>ex (j+1) 1*pw n X (j+1) i k):=b2.congr fun i k hi hk=>Nul.zero.congr fun N=>by
   have:mm n (fun i k=>ex j 1*pw n X j i k) X i k=ex j 1*pw n X (j+1) i k:=by
    show (SS n fun l=>ex j 1*pw n X j i l*X l k)=ex j 1*SS n fun l=>pw n X j i l*X l k
    rw[SS_mul_l];exact SS_congr fun l _=>by grind
   rw[this,<- ex_one j];grind
  have hE2:=hE.mono (K':=K+Kx+1+2*n+8) (L':=L+Lx+(bits.toNat+8)+(bits.toNat+8)) (by omega) (by omega);have c3:=c2.mono (K':=K+Kx+1+2*n+8) (L':=L+Lx+(bits.toNat+8)+(bits.toNat+8)) (by omega) (by omega);obtain⟨E',d1,d2⟩:=plus_L hbo hE2 c3 (by omega);have md:=plus_mag hbo hE2.gr c3.gr (by omega) mE mb d1;obtain⟨nx,f1,f2⟩:=div_L (hI (j+1+1) (by omega) (by omega)) hbo c2 hb (by omega);have mf0:=div_mag (hI (j+1+1) (by omega) (by omega)) (by omega) hb8 hbo c2.gr hb (by omega) mb hT' f1;have mf:Mag n (33/32*(5/8*T)) nx:=mf0.mono (by
   have h1:=Rat.mul_le_mul_of_nonneg_left r8 (show 0<=5/8*T*(65/64) by grind);grind)
  have g2:HTL n (K+Kx+1+2*n+8) (L+Lx+(bits.toNat+8)+(bits.toNat+8)) nx (fun _ i k=>ex (j+1+1) 1*pw n X (j+1) i k):=(f2.mono (by omega) (by omega)).congr fun i k hi hk=>Nul.zero.congr fun N=>by
   rw[<- ex_one (j+1)];grind
  have hS2:=hS.mono (K':=K+Kx+1+2*n+8) (L':=L+Lx+(bits.toNat+8)+(bits.toNat+8)) (by omega) (by omega);obtain⟨S',h1,h2⟩:=plus_L hbo hS2 g2 (by omega);have mh:=plus_mag hbo hS2.gr g2.gr (by omega) mS mf h1;have hrun:sumsGo bits x (cnt+1) (j+1) term E S=sumsGo bits x cnt (j+1+1) t2 E' S':=by
   show (bnd (mTimes bits term x) fun t1=>bnd (mDiv bits t1 (j+1:Nat)) fun t2=>bnd (mPlus bits E t2) fun E'=>bnd (mDiv bits t2 (j+1+1:Nat)) fun nx=>bnd (mPlus bits S nx) fun S'=>sumsGo bits x cnt (j+1+1) t2 E' S')=_;rw[bnd_ok a1,bnd_ok b1,bnd_ok d1,bnd_ok f1,bnd_ok h1]
  rw[hrun] at hr;obtain⟨i1,i2⟩:=sums_mag hbo hb8 hb hx hI hn mx hx0 hxc cnt (j+1) t2 E' S' EE SS' (K+Kx+2*n+11) (L+Lx+bits.toNat+20) _ _ _ (by omega) (by omega) (c2.mono (by omega) (by omega))
   ((d2.mono (K':=K+Kx+2*n+11) (L':=L+Lx+bits.toNat+20+bits.toNat+8) (by omega) (by omega)).congr fun i k hi hk=>Nul.zero.congr fun N=>by
    show PS n X (fun m=>ex m 1) (j+1+1) i k-_=0;rw[PS_succ];show _-(PS n X (fun m=>ex m 1) (j+1) i k+_)=0;grind)
   ((h2.mono (K':=K+Kx+2*n+11) (L':=L+Lx+bits.toNat+20+bits.toNat+8) (by omega) (by omega)).congr fun i k hi hk=>Nul.zero.congr fun N=>by
    show PS n X (fun m=>ex (m+1) 1) (j+1+1) i k-_=0;rw[PS_succ];show _-(PS n X (fun m=>ex (m+1) 1) (j+1) i k+_)=0;grind) mb md mh hT' (Rat.mul_nonneg (by grind) (by grind)) (Rat.mul_nonneg (by grind) (by grind)) hr
  have hp:=ro_pow_nonneg bits cnt;have up:∀ y z:Rat,0<=z->(y+z)*ro bits+5/3*z<=ro bits*(y+8/3*z):=fun y z hz=>by
   have:=Rat.mul_le_mul_of_nonneg_right r1 (show 0<=5/3*z by grind);grind
  constructor
  ·refine i1.mono ?_;have h3:=Rat.mul_le_mul_of_nonneg_left (up Em (5/8*T) hT') hp;rw[Rat.pow_succ];grind
  ·refine i2.mono ?_;have h3:=Rat.mul_le_mul_of_nonneg_left (up Sm (33/32*(5/8*T)) (by grind)) hp;rw[Rat.pow_succ];grind
end
section
open Go Go.RowKit Go.Proofs.Tryz
abbrev Gw:=List (List FS)×List (List FS)
def hf:FQ:=qOf 1 2
def halvesGo:Nat->Nat->FQ->Except Nat (Nat×FQ)
 |0,_,_=>.error 0
 |f+1,n,x=>bnd (qCmp x hf) fun c=>if c<=0 then .ok (n,x) else bnd (qMul x hf) fun y=>halvesGo f (n+1) y
def mHalves (x:FQ):Except Nat (Nat×FQ):=halvesGo 65 0 x
def partQ (n:Nat):Except Nat FQ:=qMake (zI 1) (zI (2^n:Nat))
def mPre (bits:Int) (n:Nat) (x:List (List FS)) (k:Nat) (d:FD):Except Nat Gw :=
 bnd (mNear (mOne n) bits) fun one=>bnd (sumsGo bits x (k-1) 1 one one one) fun p=>bnd (mPlus bits p.1 (mEven n d)) fun E=>bnd (mPlus bits p.2 (mEven n d)) fun S=>.ok (E,S)
def mSums2 (bits:Int) (x:List (List FS)) (t:FQ) (k:Nat) (d:FD):Except Nat Gw :=
 bnd (mPre bits x.length x k d) fun p=>bnd (sNear t bits) fun tm=>bnd (mScaled bits p.2 tm) fun S'=>.ok (p.1,S')
def mSmall (m:List (List FQ)) (t:FQ) (n:Nat) (bits:Int):Except Nat Gw :=
 bnd (partQ n) fun part=>bnd (mScale m part) fun x=>bnd (qMul t part) fun tm=>bnd (mNear x bits) fun s=>mSums2 bits s tm (mTermsK bits) (mTermsD bits)
def twiceGo (bits:Int):Nat->Gw->Except Nat Gw
 |0,p=>.ok p
 |n+1,p=>bnd (mTwice bits p) fun q=>twiceGo bits n q
def mMake (a:List (List FQ)) (t:FQ) (bits:Int):Except Nat Gw :=
 if bits<8\/bits > 512\/qSgn t<0 then .error 0
 else if mCheck a a.length a.length≠0 then .error 19
 else bnd (mScale a t) fun m=>bnd (mNorm m) fun norm=>bnd (mHalves norm) fun h=>bnd (mSmall m t h.1 bits) fun p=>twiceGo bits h.1 p
attribute [local irreducible] zMul zAdd zLeft zRight fitZ qMake zDiv dMake dLevel dRound dNear dAdd dMul dRatio dCmp dMin dMax dLess qCmp sOut qAdd qMul sAdd sMul sNear vPlus vInner vTimes
structure Tw (n:Nat) (bits:Int) (A:Nat->Nat->Rat) (t:Rat) (KE LE KS LS:Nat) (p:Gw):Prop where
 e:HTL n KE LE p.1 fun N=>EN n A t N
 s:HTL n KS LS p.2 fun N=>UN n A t N
 me:∃ M,Mag n M p.1/\0<=M/\M*ro bits^(n+2)<2^(KE:Int)
 ms:∃ M,Mag n M p.2/\0<=M/\M<2^(KS:Int)
theorem twice_T {n KE LE KS LS:Nat} {bits:Int} {A:Nat->Nat->Rat} {c t:Rat} {p:Gw} (hbo:bitsOk bits=true) (ha:RowB n A c) (hc:0<=c) (hp:Tw n bits A t KE LE KS LS p) (h:KE+KS+1+2*n+(LE+LS)+1<=16384) (hK:KE<=KS) (hL:LE<=LS) (h1:1<=KE) :
  ∃ q,mTwice bits p=.ok q/\Tw n bits A (t+t) (KE+KE) (LE+LE) (KS+KE+1) (LE+LS) q:=by
 obtain⟨e,s,⟨M,m1,m2,m3⟩,⟨M',k1,k2,k3⟩⟩:=hp;obtain⟨E',S',a1,a2,a3⟩:=twice_L hbo ha hc e s h hK hL;obtain⟨nx,b1,b2⟩:=times_L hbo e s (by omega);have mb:=times_mag hbo e.gr s.gr (by omega) m1 k1 k2 b1;have e1:=s.mono (K':=KE+KS+1+2*n) (L':=LE+LS) (by omega) (by omega);obtain⟨S'',c1,c2⟩:=plus_L hbo e1 b2 (by omega);have mc:=plus_mag hbo e1.gr b2.gr (by omega) k1 mb c1;obtain⟨E'',d1,d2⟩:=times_L hbo e e (by omega);have md:=times_mag hbo e.gr e.gr (by omega) m1 m1 m2 d1;have hrun:mTwice bits p=.ok (E'',S''):=by
  unfold mTwice;rw[bnd_ok b1,bnd_ok c1,bnd_ok d1]
 have hq:(E',S')=(E'',S''):=by
  have a1':mTwice bits p=.ok (E',S'):=a1;rw[hrun] at a1';exact (Except.ok.inj a1').symm
 cases hq;have hr:=ro_pow_nonneg bits (n+1);have r1:=ro_one bits;have hrs:ro bits^(n+2)=ro bits^(n+1)*ro bits:=Rat.pow_succ _ _;have eE:(2:Rat)^((KE+KE:Nat):Int)=2^(KE:Int)*2^(KE:Int):=by rw[<- zpow_add2]; rfl
 have hpE:=zpow_pos2 (KE:Int);have hup:=ro_pow_nonneg bits (n+2);have nE:M*M*ro bits^(n+1)*ro bits^(n+2)<2^((KE+KE:Nat):Int):=by
  rw[eE];have h3:M*ro bits^(n+1)<=M*ro bits^(n+2):=Rat.mul_le_mul_of_nonneg_left (by
   rw[hrs];have:=Rat.mul_le_mul_of_nonneg_left r1 hr;grind) m2
  have h4:(M*ro bits^(n+1))*(M*ro bits^(n+2))<=(M*ro bits^(n+2))*(M*ro bits^(n+2)):=Rat.mul_le_mul_of_nonneg_right h3 (Rat.mul_nonneg m2 hup);obtain⟨w,hw⟩:∃ w,M*ro bits^(n+2)=w:=⟨_,rfl⟩
  have hw0:0<=w:=by rw[<- hw]; exact Rat.mul_nonneg m2 hup
  rw[hw] at m3 h4;have h5:w*w<=2^(KE:Int)*w:=Rat.mul_le_mul_of_nonneg_right (Std.le_of_lt m3) hw0;have h6:2^(KE:Int)*w<2^(KE:Int)*2^(KE:Int):=Rat.mul_lt_mul_of_pos_left m3 hpE;have e7:M*M*ro bits^(n+1)*ro bits^(n+2)=(M*ro bits^(n+1))*(M*ro bits^(n+2)):=by grind
  rw[e7,hw];grind
 have nE0:0<=M*M*ro bits^(n+1):=Rat.mul_nonneg (Rat.mul_nonneg m2 m2) hr;have nE2:M*M*ro bits^(n+1)<2^((KE+KE:Nat):Int):=by
  have h3:M*M*ro bits^(n+1)*1<=M*M*ro bits^(n+1)*ro bits^(n+2):=Rat.mul_le_mul_of_nonneg_left (ro_pow_one _ _) nE0;grind
 have nS:(M'+M*M'*ro bits^(n+1))*ro bits<2^((KS+KE+1:Nat):Int):=by
  have e8:(2:Rat)^((KS+KE+1:Nat):Int)=2^(KS:Int)*2^(KE:Int)*2:=by
   rw[show ((KS+KE+1:Nat):Int)=(KS:Int)+(KE:Int)+1 by omega,zpow_add2,zpow_add2];have:(2:Rat)^(1:Int)=2:=by decide +kernel
   rw[this]
  rw[e8];have h2:ro bits<=2:=by
   have:=zpow_le2 (show 1-bits<=0 by have:=(bitsOk_iff.1 hbo).1; omega);rw[zpow_zero2] at this;unfold ro;grind
  have hE2:(2:Rat)<=2^(KE:Int):=by
   have:=zpow_le2 (show (1:Int)<=(KE:Int) by omega);have e:(2:Rat)^(1:Int)=2:=by decide +kernel
   rw[e] at this;exact this
  have e9:(M'+M*M'*ro bits^(n+1))*ro bits=M'*(ro bits+M*ro bits^(n+2)):=by rw[hrs]; grind
  rw[e9];have h3:ro bits+M*ro bits^(n+2)<2^(KE:Int)*2:=by grind
  have h4:M'*(ro bits+M*ro bits^(n+2))<=M'*(2^(KE:Int)*2):=Rat.mul_le_mul_of_nonneg_left (by grind) k2;have h5:M'*(2^(KE:Int)*2)<2^(KS:Int)*(2^(KE:Int)*2):=Rat.mul_lt_mul_of_pos_right k3 (by grind);grind
 refine⟨(E',S'),hrun,?_,?_,⟨_,md,nE0,nE⟩,⟨_,mc,?_,nS⟩⟩
 ·exact a2.regrade md nE2
 ·exact a3.regrade mc nS
 ·exact Rat.mul_nonneg (by have:=Rat.mul_nonneg (Rat.mul_nonneg m2 k2) hr; grind) (ro_nonneg _)
theorem twice_go {n:Nat} {bits:Int} {A:Nat->Nat->Rat} {c:Rat} (hbo:bitsOk bits=true) (ha:RowB n A c) (hc:0<=c):∀ (m:Nat) (t:Rat) (KE LE KS LS:Nat) (p:Gw),Tw n bits A t KE LE KS LS p->2^m*(KE+LE)+KS+LS+m+2*n+2<=16384+KE+LE->KE<=KS->LE<=LS->1<=KE ->
  ∃ q,twiceGo bits m p=.ok q/\Tw n bits A (2^m*t) (2^m*KE) (2^m*LE) (KS+(2^m-1)*KE+m) (LS+(2^m-1)*LE) q
 |0,t,KE,LE,KS,LS,p,hp,_,_,_,_=>⟨p,rfl,by
  rw[Rat.pow_zero,Rat.one_mul];simpa using hp⟩
 |m+1,t,KE,LE,KS,LS,p,hp,hs,hK,hL,h1=>by
  have e2:2^(m+1)=2^m+2^m:=by rw[Nat.pow_succ]; omega
  have hm1:1<=2^m:=Nat.one_le_two_pow;have hb1:2^m*KE+2^m*LE ≥ KE+LE:=by
   have:=Nat.mul_le_mul_right KE hm1;have:=Nat.mul_le_mul_right LE hm1;omega
  have ex1:2^(m+1)*(KE+LE)=2*(2^m*KE)+2*(2^m*LE):=by rw[e2]; grind
  have ex2:2^m*(KE+KE+(LE+LE))=2*(2^m*KE)+2*(2^m*LE):=by grind
  rw[ex1] at hs;obtain⟨q,q1,q2⟩:=twice_T hbo ha hc hp (by omega) hK hL h1;obtain⟨r,r1,r2⟩:=twice_go hbo ha hc m (t+t) (KE+KE) (LE+LE) (KS+KE+1) (LE+LS) q q2 (by rw[ex2]; omega) (by omega) (by omega) (by omega);refine⟨r,?_,?_⟩
  ·show (bnd (mTwice bits p) fun q=>twiceGo bits m q)=_;rw[bnd_ok q1];exact r1
  ·have t1:(2:Rat)^m*(t+t)=2^(m+1)*t:=by rw[Rat.pow_succ]; grind
   have t2:2^m*(KE+KE)=2^(m+1)*KE:=by rw[e2]; grind
   have t3:2^m*(LE+LE)=2^(m+1)*LE:=by rw[e2]; grind
   obtain⟨w,hw⟩:∃ w,2^m=w+1:=⟨2^m-1,by omega⟩
   have t4:KS+KE+1+(2^m-1)*(KE+KE)+m=KS+(2^(m+1)-1)*KE+(m+1):=by
    rw[e2,hw];have:w+1+(w+1)-1=2*w+1:=by omega
    rw[this];have:w+1-1=w:=by omega
    rw[this];grind
   have t5:LE+LS+(2^m-1)*(LE+LE)=LS+(2^(m+1)-1)*LE:=by
    rw[e2,hw];have:w+1+(w+1)-1=2*w+1:=by omega
    rw[this];have:w+1-1=w:=by omega
    rw[this];grind
   rw[t1,t2,t3,t4,t5] at r2;exact r2
end
section
open Go Go.RowKit Go.Proofs.Tryz
theorem hf_q:hf.q=1/2:=by kernel_rfl
theorem hf_sz:Sz hf.q 1 2:=⟨by rw[hf_q]; decide +kernel,by rw[hf_q]; decide +kernel⟩
theorem halves_go {f':Nat}:∀ {f n j k:Nat} {x:FQ},Sz x.q j k->x.q<=2^f'*(1/2)->f'<f->j+2*f'+4<=16384->k+2*f'+4<=16384->∃ h y,halvesGo f n x=.ok (n+h,y)/\h<=f'/\x.q<=2^h*(1/2):=by
 induction f' with
 |zero =>
  intro f n j k x sx hx hf' h1 h2;obtain⟨f,rfl⟩:∃ g,f=g+1:=⟨f-1,by omega⟩
  have hc:=qCmp_ok sx hf_sz (by omega) (by omega);have hle:cmpQ x.q hf.q<=0:=cmpQ_le.2 (by
   rw[hf_q];rw[Rat.pow_zero,Rat.one_mul] at hx;exact hx)
  refine⟨0,x,?_,Nat.le_refl _,hx⟩;show (bnd (qCmp x hf) fun c=>if c<=0 then .ok (n,x) else bnd (qMul x hf) fun y=>halvesGo f (n+1) y)=_;rw[bnd_ok hc,if_pos hle];rfl
 |succ f' ih =>
  intro f n j k x sx hx hf' h1 h2;obtain⟨f,rfl⟩:∃ g,f=g+1:=⟨f-1,by omega⟩
  have hc:=qCmp_ok sx hf_sz (by omega) (by omega);have hrun:halvesGo (f+1) n x=if cmpQ x.q hf.q<=0 then .ok (n,x) else bnd (qMul x hf) fun y=>halvesGo f (n+1) y:=by
   show (bnd (qCmp x hf) fun c=>if c<=0 then .ok (n,x) else bnd (qMul x hf) fun y=>halvesGo f (n+1) y)=_;rw[bnd_ok hc]
  rw[hrun];by_cases hle:cmpQ x.q hf.q<=0
  ·rw[if_pos hle];refine⟨0,x,rfl,Nat.zero_le _,?_⟩;have:=cmpQ_le.1 hle;rw[hf_q] at this;rw[Rat.pow_zero,Rat.one_mul];exact this
  ·rw[if_neg hle];obtain⟨y,y1,y2,y3⟩:=qMul_ok sx hf_sz (by omega) (by omega);rw[bnd_ok y1];rw[hf_q] at y2;have e:(2:Rat)^(f'+1)=2^f'*2:=Rat.pow_succ _ _;obtain⟨h,z,z1,z2,z3⟩:=ih (n:=n+1) y3 (by rw[y2]; rw[e] at hx; grind) (by omega:f'<f) (by omega) (by omega);refine⟨h+1,z,?_,by omega,?_⟩
   ·rw[z1,show n+1+h=n+(h+1) by omega]
   ·rw[y2] at z3;rw[Rat.pow_succ];grind
theorem zI_zB {n:Int} (h:n.natAbs<Big):(zI n).z=n:=by
 unfold zI;rw[dif_pos h]
theorem part_ok {n:Nat} (hn:n<=64):∃ p,partQ n=.ok p/\(2:Rat)^n*p.q=1/\Sz p.q 1 (n+1):=by
 have h1:(zI 1).z=1:=zI_zB one_lt_Big;have h2:(zI ((2^n:Nat):Int)).z=((2^n:Nat):Int):=zI_zB (by
  rw[Int.natAbs_natCast];exact lt_big (Nat.pow_lt_pow_right (by decide) (Nat.lt_succ_self n)) (by omega))
 have hne:(zI ((2^n:Nat):Int)).z≠0:=by
  rw[h2];have:=Nat.two_pow_pos n;omega
 refine⟨_,qMake_ok hne,?_,?_⟩
 ·rw[qMk_q,h1,h2,Rat.divInt_eq_div];have e:(((2^n:Nat):Int):Rat)=(2:Rat)^n:=by
   have:(((2^n:Nat):Int):Rat)=((2^n:Nat):Rat):=rfl;rw[this,Rat.natCast_pow];rfl
  rw[e];have hp:(2:Rat)^n≠0:=by
   have:(0:Rat)<2^n:=Rat.pow_pos (by decide);grind
  rw[Rat.mul_comm,Rat.div_mul_cancel hp];rfl
 ·rw[qMk_q,h1,h2];exact divInt_sz (by rw[<- h2]; exact hne) (by decide) (by rw[Int.natAbs_natCast]; exact Nat.pow_lt_pow_right (by decide) (Nat.lt_succ_self n))
theorem terms_inv {bits:Int}:∀ (f k s:Nat),(s:Rat)*ex k (1/2)=1->((termsGo bits f k s).2:Rat)*ex (termsGo bits f k s).1 (1/2)=1
 |0,k,s,h=>h
 |f+1,k,s,h=>by
  unfold termsGo;split
  ·refine terms_inv f (k+1) _ ?_;have h1:=ex_succ k (1/2);have e:((s*(2*(k+1)):Nat):Rat)=(s:Rat)*(2*((k:Rat)+1)):=by
    rw[Rat.natCast_mul,Rat.natCast_mul,Rat.natCast_add];rfl
   rw[e];grind
  ·exact h
def termsChk5 (b:Nat):Bool :=
 let p:=termsGo b 200 0 1
 Nat.ble 2 p.1&&Nat.ble p.1 95&&Nat.ble (b+2) (blen p.2)&&Nat.ble (blen p.2) (b+10)&&(Nat.blt 60 b||Nat.ble p.1 18)
theorem terms_all5:(List.range 505).all (fun i=>termsChk5 (i+8))=true:=by kernel_rfl
structure Tm (b k lam:Nat) (d:FD):Prop where
 hk:2<=k/\k<=95
 k60:b<=60->k<=18
 hl:b<=lam/\lam<=b+8
 g:Gr 3 lam d
 v:d.v=2^(-(lam:Int))
 x:2*ex k (1/2)<=d.v
 ev:∀ n:Nat,n<=16->mEven n d=evenT n d
theorem terms_T {b:Nat} (h1:8<=b) (h2:b<=512):∃ lam,Tm b (mTermsK b) lam (mTermsD b):=by
 have hc:=List.all_eq_true.1 terms_all5 (b-8) (List.mem_range.2 (by omega));rw[show b-8+8=b by omega] at hc;have hi:=terms_inv (bits:=(b:Int)) 200 0 1 (by decide +kernel);unfold termsChk5 at hc;simp only[Bool.and_eq_true,Bool.or_eq_true,Nat.ble_eq,Nat.blt_eq] at hc;obtain⟨⟨⟨⟨c1,c2⟩,c3⟩,c4⟩,c5⟩:=hc;unfold mTermsK mTermsD;obtain⟨p,hp⟩:∃ p,termsGo (b:Int) 200 0 1=p:=⟨_,rfl⟩
 rw[hp] at c1 c2 c3 c4 c5 hi ⊢;clear hp;obtain⟨k,s⟩:=p;dsimp only at c1 c2 c3 c4 c5 hi ⊢;obtain⟨lam,hlam⟩:∃ lam,blen s=lam+2:=⟨blen s-2,by omega⟩
 have hz:(zI 1).z=1:=zI_zB one_lt_Big;have he:(2-(blen s:Int))=-(lam:Int):=by rw[hlam]; omega
 obtain⟨d,d1,d2,d3,d4⟩:=dMake_ok (m:=zI 1) (e:=2-(blen s:Int)) (K:=3) (L:=lam) (.inr ⟨by rw[he]; exact Int.le_refl _,by
  rw[hz,he,show -(lam:Int)+(lam:Int)=0 by omega];show 1*2^0<2^(3+lam);rw[Nat.pow_add];have:=Nat.two_pow_pos lam;omega⟩) (by omega) (by omega)
 rw[d1];show ∃ lam,Tm b k lam d;rw[hz,he] at d2;have hv:d.v=2^(-(lam:Int)):=by
  rw[d2];show ((1:Int):Rat)*_=_;have:((1:Int):Rat)=1:=rfl;rw[this,Rat.one_mul]
 have hpos:0<d.v:=by rw[hv]; exact zpow_pos2 _
 have hman:¬ d.man<0:=by
  intro h;have h3:((d.man:Int):Rat)<0:=by
   have:=Rat.intCast_lt_intCast.2 h;exact this
  have h4:d.v<0:=by
   unfold FD.v;have:=Rat.mul_lt_mul_of_pos_right h3 (zpow_pos2 d.exp);rw[Rat.zero_mul] at this;exact this
  grind
 refine⟨lam,⟨c1,c2⟩,fun h=>?_,⟨by omega,by omega⟩,d3,hv,?_,fun n hn=>?_⟩
 ·rcases c5 with c5 | c5
  ·omega
  ·exact c5
 ·have hs0:s≠0:=by
   rintro rfl;have:((0:Nat):Rat)=0:=rfl;rw[this,Rat.zero_mul] at hi;exact absurd hi (by decide)
  have h5:=(blen_top hs0).1;rw[hlam,show lam+2-1=lam+1 by omega] at h5;have h6:((2^(lam+1):Nat):Rat)<=(s:Rat):=Rat.natCast_le_natCast.2 h5;have e6:((2^(lam+1):Nat):Rat)=(2:Rat)^(lam:Int)*2:=by
   rw[Rat.natCast_pow,Rat.pow_succ,Rat.zpow_natCast];rfl
  rw[e6] at h6;have h7:=ex_nonneg (x:=1/2) (by decide +kernel) k;have h8:=Rat.mul_le_mul_of_nonneg_right h6 h7;rw[hi] at h8;have h9:(2:Rat)^(-(lam:Int))*(2^(lam:Int)*2*ex k (1/2))<=2^(-(lam:Int))*1:=Rat.mul_le_mul_of_nonneg_left h8 (Rat.le_of_lt (zpow_pos2 _));have e9:(2:Rat)^(-(lam:Int))*2^(lam:Int)=1:=by rw[<- zpow_add2,show -(lam:Int)+(lam:Int)=0 by omega,zpow_zero2]
  rw[hv];have e10:(2:Rat)^(-(lam:Int))*(2^(lam:Int)*2*ex k (1/2))=2^(-(lam:Int))*2^(lam:Int)*(2*ex k (1/2)):=by grind
  rw[e10,e9,Rat.one_mul,Rat.mul_one] at h9;exact h9
 ·have hcl:clampN (n:Int)=n:=by
   have:=clampN_in (n:=(n:Int)) (by omega) (by omega);omega
  have hs:sEven d=⟨dNeg d,d⟩:=by
   unfold sEven dAbs;rw[if_neg hman]
  unfold mEven evenT;rw[hcl,hs]
theorem pw_congr {n:Nat} {A B:Nat->Nat->Rat} (h:∀ i j,i<n->j<n->A i j=B i j):∀ (m:Nat) {i j:Nat},i<n->j<n->pw n A m i j=pw n B m i j
 |0,_,_,_,_=>rfl
 |m+1,i,j,hi,hj=>mm_congr (fun k hk=>pw_congr h m hi hk) fun k hk=>h k j hk hj
theorem EN_congr {n:Nat} {A B:Nat->Nat->Rat} (h:∀ i j,i<n->j<n->A i j=B i j) (t:Rat) (N:Nat) {i j:Nat} (hi:i<n) (hj:j<n):EN n A t N i j=EN n B t N i j:=SS_congr fun m _=>by rw[pw_congr h m hi hj]
theorem UN_congr {n:Nat} {A B:Nat->Nat->Rat} (h:∀ i j,i<n->j<n->A i j=B i j) (t:Rat) (N:Nat) {i j:Nat} (hi:i<n) (hj:j<n):UN n A t N i j=UN n B t N i j:=SS_congr fun m _=>by rw[pw_congr h m hi hj]
theorem sums2_eq {bits:Int} {n k:Nat} {x:List (List FS)} {t:FQ} {d:FD} (hx:x.length=n) (h:mEven n d=evenT n d):mSums2 bits x t k d=mSums bits n x t k d:=by
 unfold mSums2 mPre mSums;rw[hx,h];cases mNear (mOne n) bits with
 |error e=>rfl
 |ok one =>
  simp only[bnd];cases sumsGo bits x (k-1) 1 one one one with
  |error e=>rfl
  |ok p =>
   simp only;cases mPlus bits p.1 (evenT n d) with
   |error e=>rfl
   |ok E =>
    simp only;cases mPlus bits p.2 (evenT n d) with
    |error e=>rfl
    |ok S=>rfl
theorem scale_full {n j k u v:Nat} {a:List (List FQ)} {c:FQ} (ha:Sqr n a) (sa:∀ r∈a,SzL r j k) (hc:Sz c.q u v) (h1:j+u<=16384) (h2:k+v<=16384) :
  ∃ t,mScale a c=.ok t/\Sqr n t/\(∀ i l,i<n->l<n->en t i l=en a i l*c.q)/\∀ r∈t,SzL r (j+u) (k+v):=by
 obtain⟨t,t1,t2,t3⟩:=runE_rel (f:=fun r=>vScale r c) (l:=a) (R:=fun r z=>z.length=r.length/\qs z=(qs r).map (·*c.q)/\SzL z (j+u) (k+v)) (by
  intro r hr;obtain⟨z,z1,z2,z3,z4⟩:=vScale_ok (sa r hr) hc h1 h2;exact⟨z,z1,z2,z3,z4⟩)
 have hl:t.length=n:=by rw[t2]; exact ha.1
 have row:∀ i,i<n->(t.getD i []).length=(a.getD i []).length/\qs (t.getD i [])=(qs (a.getD i [])).map (·*c.q)/\SzL (t.getD i []) (j+u) (k+v):=fun i hi=>t3 i _ _ (get_ne (d:=[]) (by rw[ha.1]; exact hi)) (get_ne (d:=[]) (by rw[hl]; exact hi))
 refine⟨t,t1,⟨hl,fun r hr=>?_⟩,fun i l hi hl'=>?_,fun r hr=>?_⟩
 ·obtain⟨i,hi,rfl⟩:=mem_getD (d:=[]) hr;rw[(row i (by omega)).1,(ha.row (by omega)).2]
 ·unfold en;rw[<- qs_getD,<- qs_getD,(row i hi).2.1,map_getD (by rw[qs_len,(ha.row hi).2]; exact hl')]
 ·obtain⟨i,hi,rfl⟩:=mem_getD (d:=[]) hr;exact (row i (by omega)).2.2
theorem small_ok2 {n k lam Lx Kt Lt:Nat} {bits:Int} {x:List (List FS)} {X:Nat->Nat->Rat} {t:FQ} {d:FD} {tm:FS} {C:Rat} (hbo:bitsOk bits=true) (hb8:8<=bits) (hb:bits.toNat<=1000) (hn0:0<n) (hn:n<=10) (hx:HTL n 0 Lx x fun _=>X) (hX:RowB n X (1/2)) (mx:Mag n (65/128) x) (hk:2<=k) (hk2:k<=95) (hd:Gr 3 lam d) (hdv:d.v=2^(-(lam:Int))) (hdx:2*ex k (1/2)<=d.v)
  (tm1:sNear t bits=.ok tm) (tm2:SGr Kt Lt tm) (tm3:In t.q tm) (tm4:mag tm<=C) (hlam:lam<=bits.toNat+500) (hl8:8<=lam)
  (h:k*(2*n+11)+k*(Lx+bits.toNat+20)+10*bits.toNat+Lx+Kt+Lt+2000<=16384) :
  ∃ E S,mSums bits n x t k d=.ok (E,S)/\HTL n 3 (lam+bits.toNat+2) E (fun N=>EN n X 1 N)/\HTL n (3+k*(2*n+11)+Kt+3) (lam+bits.toNat+2+Lt) S (fun N i j=>UN n X 1 N i j*t.q)/\(∃ M,Mag n M E/\0<=M/\M*ro bits^(n+2)<2^((3:Nat):Int))/\Mag n (8*C) S:=by
 have hxc:(65/128:Rat)*ro bits^(n+1)*(65/64)*ro bits<=5/8:=by
  have h1:=pow_mono (ro_nonneg bits) (ro_8 hb8) (n+1);have h2:=pow_up (a:=129/128) (by decide +kernel) (show n+1<=11 by omega);have h3:(129/128:Rat)^11<=11/10:=by decide +kernel
  have h4:=ro_8 hb8;have h5:=mul_le2 (Rat.le_trans h1 (Rat.le_trans h2 h3)) h4 (ro_nonneg _) (by decide +kernel);grind
 have hall:ro bits^(k+n+2)<=12/5:=by
  have h1:=pow_mono (ro_nonneg bits) (ro_8 hb8) (k+n+2);have h2:=pow_up (a:=129/128) (by decide +kernel) (show k+n+2<=107 by omega);have h3:(129/128:Rat)^107<=12/5:=by decide +kernel
  exact Rat.le_trans h1 (Rat.le_trans h2 h3)
 obtain⟨o1,o2,o3⟩:=one_ok (n:=n) (by omega);obtain⟨one,n1,n2⟩:=near_T hbo o1 o2 (by omega) (by decide);have mone:Mag n (1*rn bits) one:=near_mag hbo o1 o2 (by omega) (by decide) n1 ((idm_row n).congr fun i j hi hj=>by rw[o3 i j hi hj]; rfl);have hone:HTL n 3 (bits.toNat+1) one (fun _ i k=>ex 0 1*pw n X 0 i k):=by
  refine⟨n2.1,fun i j hi hj=>?_⟩;have g:=(n2.2 i hi).getD (i:=j) (by rw[n2.1.row hi]; exact hj);refine⟨g.1.mono (by omega) (Nat.le_refl _),Lim.of_in ?_⟩;have e:ex 0 1*pw n X 0 i j=(qs ((mOne n).getD i [])).getD j 0:=by
   rw[qs_getD];show (1:Rat)*idm i j=en (mOne n) i j;rw[o3 i j hi hj,Rat.one_mul];rfl
  rw[e];exact g.2
 have hE1:HTL n 3 (bits.toNat+1+bits.toNat+8) one (fun _=>EN n X 1 (0+1)):=(hone.mono (Nat.le_refl _) (by omega)).congr fun i j hi hj=>Nul.zero.congr fun N=>by
  show (ex 0 1*pw n X 0 i j+0)-ex 0 1*pw n X 0 i j=0;grind
 have hS1:HTL n 3 (bits.toNat+1+bits.toNat+8) one (fun _=>UN n X 1 (0+1)):=(hone.mono (Nat.le_refl _) (by omega)).congr fun i j hi hj=>Nul.zero.congr fun N=>by
  show (ex 1 1*pw n X 0 i j+0)-ex 0 1*pw n X 0 i j=0;have:ex 1 1=ex 0 1:=by decide +kernel
  rw[this];grind
 obtain⟨c,rfl⟩:∃ c,k=c+1:=⟨k-1,by omega⟩
 have w1:(c+1)*(0+2*n+11)=c*(0+2*n+11)+(2*n+11):=by rw[Nat.succ_mul]; omega
 have w0:(c+1)*(2*n+11)=(c+1)*(0+2*n+11):=by rw[Nat.zero_add]
 have w2:(c+1)*(Lx+bits.toNat+20)=c*(Lx+bits.toNat+20)+(Lx+bits.toNat+20):=Nat.succ_mul _ _;rw[w0,w1] at h ⊢;rw[w2] at h;have hI:=fun j (h1:1<=j) (h2:j<=150)=>inv1 h1 h2
 obtain⟨E,S,s1,s2,s3,s4⟩:=sums_L hbo hb hx hI hn c 0 one one one 3 (bits.toNat+1) (by omega) (by omega) hone hE1 hS1;have hr0:0<=rn bits:=by have:=rn_one bits; grind
 obtain⟨mE0,mS0⟩:=sums_mag hbo hb8 hb hx hI hn mx (by decide +kernel) hxc c 0 one one one E S 3 (bits.toNat+1) (1*rn bits) (1*rn bits) (1*rn bits) (by omega) (by omega) hone hE1 hS1 mone mone mone (by grind) (by grind) (by grind) s1;obtain⟨mE,mS⟩:=s4 fun h0=>by omega
 rw[show 0+1+c=c+1 by omega] at s2 s3;have hdK:Gr (3+c*(0+2*n+11)) lam d:=hd.mono (by omega) (Nat.le_refl _);have s2':=s2.mono (K':=3+c*(0+2*n+11)) (L':=bits.toNat+1+c*(Lx+bits.toNat+20)+bits.toNat+8+500) (Nat.le_refl _) (by omega);have s3':=s3.mono (K':=3+c*(0+2*n+11)) (L':=bits.toNat+1+c*(Lx+bits.toNat+20)+bits.toNat+8+500) (Nat.le_refl _) (by omega);obtain⟨E',e1,e2⟩:=rest_L (M:=c+1) (g:=fun N=>EN n X 1 N) hbo s2' mE (by omega) hdK hdv (by omega) fun N i j hN hi hj=>Rat.le_trans (half_sml hX (by omega) hN hi hj).1 hdx
 obtain⟨S',f1,f2⟩:=rest_L (M:=c+1) (g:=fun N=>UN n X 1 N) hbo s3' mS (by omega) hdK hdv (by omega) fun N i j hN hi hj=>Rat.le_trans (half_sml hX (by omega) hN hi hj).2 hdx
 obtain⟨S2,g1,g2⟩:=scaled_L hbo f2 tm2 (Lim.of_in tm3) (by omega);have hdpos:0<=d.v:=by rw[hdv]; exact Rat.le_of_lt (zpow_pos2 _)
 have gev:GrT n (3+c*(0+2*n+11)) (bits.toNat+1+c*(Lx+bits.toNat+20)+bits.toNat+8+500) (evenT n d):=⟨evenT_sq n d,fun i j hi hj=>by
  show SGr _ _ (((evenT n d).getD i []).getD j s0);rw[evenT_at hi hj];exact⟨(hdK.lneg).mono (Nat.le_refl _) (by omega),hdK.mono (Nat.le_refl _) (by omega)⟩⟩
 have mE1:=plus_mag hbo s2'.gr gev (by omega) mE0 (even_mag hdpos) e1;have mS1:=plus_mag hbo s3'.gr gev (by omega) mS0 (even_mag hdpos) f1;have hdn:(n:Rat)*d.v<=10/256:=by
  have h1:(n:Rat)<=10:=by
   have:=Rat.natCast_le_natCast.2 hn;exact this
  have h2:d.v<=1/256:=by
   rw[hdv];have:=zpow_le2 (show -(lam:Int)<=-8 by omega);have e:(2:Rat)^(-8:Int)=1/256:=by decide +kernel
   rw[e] at this;exact this
  have h3:=mul_le2 h1 h2 hdpos (by decide +kernel);grind
 have hdn0:0<=(n:Rat)*d.v:=Rat.mul_nonneg Rat.natCast_nonneg hdpos;have rn8:=rn_8 hb8;have r1:=ro_one bits;have hc1:=ro_pow_one bits c
 -- all roundings together
 have hpw:ro bits^(c+1+n+2)=ro bits^c*ro bits*ro bits^(n+2):=by
  rw[show c+1+n+2=(c+1)+(n+2) by omega,pow_add',Rat.pow_succ]
 have hq0:=ro_pow_nonneg bits (n+2);have hq1:=ro_pow_one bits (n+2);rw[hpw] at hall;obtain⟨pc,hpc⟩:∃ pc,ro bits^c=pc:=⟨_,rfl⟩
 obtain⟨pn,hpn⟩:∃ pn,ro bits^(n+2)=pn:=⟨_,rfl⟩
 obtain⟨r,hr⟩:∃ r,ro bits=r:=⟨_,rfl⟩
 obtain⟨w,hw⟩:∃ w,rn bits=w:=⟨_,rfl⟩
 obtain⟨nd,hnd⟩:∃ nd,(n:Rat)*d.v=nd:=⟨_,rfl⟩
 rw[hpc,hpn,hr] at hall;rw[hpc] at hc1;rw[hr] at r1;rw[hpn] at hq0 hq1;rw[hw] at rn8 hr0;rw[hnd] at hdn hdn0;have hP0:0<=pc*r*pn:=Rat.mul_nonneg (Rat.mul_nonneg (by grind) (by grind)) hq0
 -- one of the two bounds
 have bound:∀ u v:Rat,0<=u->u<=v->(pc*(u*w)+nd)*r*pn<=(12/5)*(v*(65/64)+10/256):=fun u v hu huv=>by
  have k1:pc*(u*w)+nd<=pc*(v*(65/64)+10/256):=by
   have q1:u*w<=v*(65/64):=mul_le2 huv rn8 hr0 (by grind);have q2:=Rat.mul_le_mul_of_nonneg_left q1 (show 0<=pc by grind);have q3:(1:Rat)*(10/256)<=pc*(10/256):=Rat.mul_le_mul_of_nonneg_right hc1 (by decide +kernel);grind
  have k2:0<=r*pn:=Rat.mul_nonneg (by grind) hq0;have k3:=Rat.mul_le_mul_of_nonneg_right k1 k2;have k4:pc*(v*(65/64)+10/256)*(r*pn)=(pc*r*pn)*(v*(65/64)+10/256):=by grind
  have k5:=Rat.mul_le_mul_of_nonneg_right hall (show 0<=v*(65/64)+10/256 by grind);grind
 refine⟨E',S2,?_,?_,g2.mono (by omega) (Nat.le_refl _),⟨_,mE1,?_,?_⟩,?_⟩
 ·unfold mSums;rw[bnd_ok n1];show (bnd (sumsGo bits x c 1 one one one) fun p=>_)=_;rw[bnd_ok s1];show (bnd (mPlus bits E (evenT n d)) fun E=>bnd (mPlus bits S (evenT n d)) fun S=>_)=_;rw[bnd_ok e1,bnd_ok f1,bnd_ok tm1,bnd_ok g1]
 ·refine e2.regrade mE1 ?_;rw[hpc,hw,hnd,hr];have:=bound (8/3) (8/3) (by decide +kernel) Rat.le_refl;have e3:(2:Rat)^((3:Nat):Int)=8:=by decide +kernel
  rw[e3];have k1:(pc*(8/3*w)+nd)*r*1<=(pc*(8/3*w)+nd)*r*pn:=Rat.mul_le_mul_of_nonneg_left hq1 (Rat.mul_nonneg (by have:=Rat.mul_nonneg (show 0<=pc by grind) (show 0<=8/3*w by grind); grind) (by grind));have k2:pc*(1*w+5/3*(1*w))=pc*(8/3*w):=by grind
  rw[k2];grind
 ·rw[hpc,hw,hnd,hr];exact Rat.mul_nonneg (by have:=Rat.mul_nonneg (show 0<=pc by grind) (show 0<=1*w+5/3*(1*w) by grind); grind) (by grind)
 ·rw[hpc,hpn,hw,hnd,hr];have:=bound (8/3) (8/3) (by decide +kernel) Rat.le_refl;have e3:(2:Rat)^((3:Nat):Int)=8:=by decide +kernel
  rw[e3];have k2:pc*(1*w+5/3*(1*w))=pc*(8/3*w):=by grind
  rw[k2];grind
 ·have hm0:0<=(ro bits^c*(1*rn bits+55/32*(1*rn bits))+(n:Rat)*d.v)*ro bits:=by
   rw[hpc,hw,hnd,hr];exact Rat.mul_nonneg (by have:=Rat.mul_nonneg (show 0<=pc by grind) (show 0<=1*w+55/32*(1*w) by grind); grind) (by grind)
  have hC0:0<=C:=Rat.le_trans (mag_nonneg _) tm4;refine (scaled_mag hbo f2.gr tm2 (by omega) mS1 tm4 hm0 g1).mono ?_;rw[hpc,hw,hnd,hr];have k2:pc*(1*w+55/32*(1*w))=pc*(87/32*w):=by grind
  rw[k2];have:=bound (87/32) (87/32) (by decide +kernel) Rat.le_refl;have hb0:0<=(pc*(87/32*w)+nd)*r:=by rw[hpc,hw,hnd,hr,k2] at hm0; exact hm0
  have hrn:r<=pn:=by
   rw[<- hpn,<- hr];have:=pow_up (ro_one bits) (show 1<=n+2 by omega);rw[Rat.pow_succ,Rat.pow_zero,Rat.one_mul] at this;exact this
  have k3:=Rat.mul_le_mul_of_nonneg_left hrn hb0;have k4:(pc*(87/32*w)+nd)*r*r<=8:=by grind
  have k5:=Rat.mul_le_mul_of_nonneg_right k4 hC0;grind
end
section
open Go Go.RowKit Go.Proofs.Tryz
theorem qSgn_nonneg {t:FQ} (h:0<=t.q):¬ qSgn t<0:=by
 unfold qSgn sgnZ;have:0<=t.q.num:=Rat.num_nonneg.2 h;split
 ·decide
 ·rw[if_neg (by omega)];decide
theorem absQ_lt_pow {q:Rat} {j k:Nat} (h:Sz q j k):absQ q<=2^(j:Int):=by
 have e:q=Rat.divInt q.num q.den:=rat_eq q;have h1:absQ q*(q.den:Rat)=((q.num.natAbs:Nat):Rat):=by
  rw[<- absQ_int,<- absQ_pos (a:=(q.den:Rat)) Rat.natCast_nonneg,<- absQ_mul];congr 1;have e2:=rat_eq q;rw[Rat.divInt_eq_div] at e2;have hd:((q.den:Int):Rat)≠0:=fun h=>by
   have:=Rat.intCast_eq_zero_iff.1 h;have:=q.den_nz;omega
  have h3:q*((q.den:Int):Rat)=(q.num:Rat):=by
   have h4:(q.num:Rat)/((q.den:Int):Rat)*((q.den:Int):Rat)=(q.num:Rat):=Rat.div_mul_cancel hd;rw[<- e2] at h4;exact h4
  exact h3
 have h2:((q.num.natAbs:Nat):Rat)<=((2^j:Nat):Rat):=Rat.natCast_le_natCast.2 (Nat.le_of_lt h.1);have h3:(1:Rat)<=(q.den:Rat):=by
  have h4:1<=q.den:=Nat.pos_of_ne_zero q.den_nz;have:((1:Nat):Rat)<=(q.den:Rat):=Rat.natCast_le_natCast.2 h4;exact this
 have h5:absQ q*1<=absQ q*(q.den:Rat):=Rat.mul_le_mul_of_nonneg_left h3 (absQ_nonneg _);have h6:((2^j:Nat):Rat)=(2:Rat)^(j:Int):=by
  rw[Rat.natCast_pow,Rat.zpow_natCast];rfl
 rw[h1] at h5;rw[h6] at h2;grind
theorem small_T {n h b j k jt kt lam:Nat} {m:List (List FQ)} {t:FQ} {A:Nat->Nat->Rat} (hb1:8<=b) (hb2:b<=512) (hn0:0<n) (hn:n<=10) (hh:h<=64) (hm:Sqr n m) (sm:∀ r∈m,SzL r j k) (st:Sz t.q jt kt)
  (hX:RowB n (en m) (2^h*(1/2))) (he:∀ i l,i<n->l<n->en m i l=A i l*t.q) (hT:Tm b (mTermsK b) lam (mTermsD b)) (hj:j+1<=16384) (hk:k+(h+1)<=16384) (hjt:jt+1<=16384)
  (hs:mTermsK b*(2*n+11)+mTermsK b*(b+(k+(h+1))+b+20)+10*b+(b+(k+(h+1)))+(jt+3)+(b+(kt+(h+1)))+2000<=16384) :
  ∃ p,mSmall m t h b=.ok p/\∃ τ,2^h*τ=t.q/\Tw n b A τ 3 (lam+b+2) (jt+4) (lam+b+2+(b+(kt+(h+1)))) p:=by
 have hbo:bitsOk (b:Int)=true:=bitsOk_iff.2 ⟨by omega,by omega⟩;have hbn:((b:Nat):Int).toNat=b:=Int.toNat_natCast b;obtain⟨part,p1,p2,p3⟩:=part_ok hh;obtain⟨x,x1,x2,x3,x4⟩:=scale_full hm sm p3 hj hk;obtain⟨tm,t1,t2,t3⟩:=qMul_ok st p3 (by omega) (by omega);have hpow:(0:Rat)<2^h:=Rat.pow_pos (by decide);have hpart:0<=part.q:=by
  apply Classical.byContradiction;intro c;have:=Rat.mul_lt_mul_of_pos_left (show part.q<0 by grind) hpow;grind
 have hpart1:part.q<=1:=by
  have h1:(1:Rat)<=2^h:=by
   have:=pow_up (a:=2) (by decide) (Nat.zero_le h);rw[Rat.pow_zero] at this;exact this
  have:=Rat.mul_le_mul_of_nonneg_right h1 hpart;grind
 have hXx:RowB n (en x) (1/2):=by
  have h1:=(hX.scale (s:=part.q)).congr (B:=en x) fun i l hi hl=>x3 i l hi hl
  rw[absQ_pos hpart] at h1;have e:(2:Rat)^h*(1/2)*part.q=1/2:=by grind
  rw[e] at h1;exact h1
 obtain⟨s,s1,s2⟩:=near_T hbo x2 x4 (by rw[hbn]; omega) hj;have ms:=near_mag hbo x2 x4 (by rw[hbn]; omega) hj s1 hXx;have ms2:Mag n (65/128) s:=ms.mono (by
  have:=rn_8 (bits:=(b:Int)) (by omega);grind)
 have hx:=(s2.lim x2).regrade ms2 (K':=0) (by
  have:(2:Rat)^((0:Nat):Int)=1:=by decide +kernel
  rw[this];decide +kernel)
 obtain⟨sp,q1,q2,q3⟩:=sNear_ok hbo t3 (by rw[hbn]; omega) (by omega);have q4:=sNear_mag hbo t3 (by rw[hbn]; omega) (by omega) q1;obtain⟨E,S,r1,r2,r3,r4,r5⟩:=small_ok2 (d:=mTermsD b) (C:=2^(jt:Int)*(65/64)) hbo (by omega) (by rw[hbn]; omega) hn0 hn hx hXx ms2 hT.hk.1 hT.hk.2 hT.g hT.v hT.x q1 q2 q3 (Rat.le_trans q4 (by
   refine mul_le2 ?_ (rn_8 (by omega)) (by have:=rn_one (b:Int); grind) (Rat.le_of_lt (zpow_pos2 _));rw[t2,absQ_mul,absQ_pos hpart];have:=mul_le2 (absQ_lt_pow st) hpart1 hpart (Rat.le_of_lt (zpow_pos2 _));grind)) (by rw[hbn]; have:=hT.hl; omega) (by have:=hT.hl; omega) (by rw[hbn]; omega)
 rw[hbn] at r2 r3;have hsl:s.length=n:=s2.1.1;have hrun:mSmall m t h b=.ok (E,S):=by
  unfold mSmall;rw[bnd_ok p1,bnd_ok x1,bnd_ok t1,bnd_ok s1,sums2_eq hsl (hT.ev n (by omega)),r1]
 have hen:∀ i l,i<n->l<n->en x i l=A i l*tm.q:=fun i l hi hl=>by
  rw[x3 i l hi hl,he i l hi hl,t2,Rat.mul_assoc]
 refine⟨(E,S),hrun,tm.q,by rw[t2]; grind,?_,?_,r4,⟨_,r5,?_,?_⟩⟩
 ·exact r2.congr fun i l hi hl=>Nul.zero.congr fun N=>by
   rw[<- EN_scale,EN_congr hen 1 N hi hl];grind
 ·have e1:8*(2^(jt:Int)*(65/64))<(2:Rat)^((jt+4:Nat):Int):=by
   rw[show ((jt+4:Nat):Int)=(jt:Int)+4 by omega,zpow_add2];have e:(2:Rat)^(4:Int)=16:=by decide +kernel
   rw[e];have:=zpow_pos2 (jt:Int);grind
  refine (r3.regrade r5 e1).congr fun i l hi hl=>Nul.zero.congr fun N=>?_
  rw[<- UN_scale,UN_congr hen 1 N hi hl];grind
 ·have:=zpow_pos2 (jt:Int);grind
 ·rw[show ((jt+4:Nat):Int)=(jt:Int)+4 by omega,zpow_add2];have e:(2:Rat)^(4:Int)=16:=by decide +kernel
  rw[e];have:=zpow_pos2 (jt:Int);grind
structure Made (n b:Nat) (A:Nat->Nat->Rat) (t:Rat) (f jt L0 L1:Nat) (p:Gw):Prop where
 w:∃ h,h<=f/\Tw n b A t (2^h*3) (2^h*L0) (jt+4+(2^h-1)*3+h) (L0+L1+(2^h-1)*L0) p
theorem make_T {n f b j k jt kt lam m P:Nat} {a:List (List FQ)} {t:FQ} (hb1:8<=b) (hb2:b<=512) (hn0:0<n) (hn:n<=10) (hf:f<=64) (ha:Sqr n a) (sa:∀ r∈a,SzL r j k) (st:Sz t.q jt kt) (ht:0<=t.q)
  (hm1:j+jt<=m) (hm2:k+kt<=m) (hP:(m+1)*n+1=P) (hP2:P+P<=16384) (hP3:P+2*f+4<=16384)
  (hN:∀ M norm,mScale a t=.ok M->mNorm M=.ok norm->norm.q<=2^f*(1/2)) (hT:Tm b (mTermsK b) lam (mTermsD b))
  (hs:mTermsK b*(2*n+11)+mTermsK b*(b+(m+(f+1))+b+20)+10*b+(b+(m+(f+1)))+(jt+3)+(b+(kt+(f+1)))+2000<=16384)
  (hd:2^f*(3+(lam+b+2))+(jt+4)+(lam+b+2+(b+(kt+(f+1))))+f+2*n+2<=16384) :
  ∃ p,mMake a t b=.ok p/\Made n b (en a) t.q f jt (lam+b+2) (b+(kt+(f+1))) p:=by
 have hbo:bitsOk (b:Int)=true:=bitsOk_iff.2 ⟨by omega,by omega⟩;obtain⟨M,M1,M2,M3,M4⟩:=scale_full ha sa st (by omega) (by omega);have M5:SzT M m:=fun r hr=>(M4 r hr).mono hm1 hm2
 obtain⟨norm,n1,n2,n3,_,n5⟩:=norm_ok hP hP2 M2 M5;have hle:=hN M norm M1 n1;obtain⟨h,y,h1,h2,h3⟩:=halves_go (f:=65) (n:=0) n5 hle (by omega) (by omega) (by omega);rw[Nat.zero_add] at h1;have hX:RowB n (en M) (2^h*(1/2)):=rowB_of M2 fun r hr=>Rat.le_trans (n3 r hr) h3
 have w1:=Nat.mul_le_mul_left (mTermsK b) (show b+(m+(h+1))+b+20<=b+(m+(f+1))+b+20 by omega);obtain⟨p,p1,τ,p2,p3⟩:=small_T (lam:=lam) (jt:=jt) (kt:=kt) hb1 hb2 hn0 hn (by omega) M2 M5 st hX M3 hT (by omega) (by omega) (by omega) (by omega);have hlift:Tw n b (en a) τ 3 (lam+b+2) (jt+4) (lam+b+2+(b+(kt+(f+1)))) p:=⟨p3.e,p3.s.mono (Nat.le_refl _) (by omega),p3.me,p3.ms⟩
 have e2:2^h<=2^f:=Nat.pow_le_pow_right (by decide) h2;have w2:=Nat.mul_le_mul_right (3+(lam+b+2)) e2;have hc:∃ c,RowB n (en a) c/\0<=c:=by
  have:∀ r∈a,aSum r<=sumQ (a.map aSum):=fun r hr=>by
   have key:∀ (l:List (List FQ)),0<=sumQ (l.map aSum)/\∀ r∈l,aSum r<=sumQ (l.map aSum):=fun l=>by
    induction l with
    |nil=>exact⟨Rat.le_refl,fun r hr=>by cases hr⟩
    |cons x l ih =>
     have h0:=aSum_nonneg x;have e:sumQ ((x::l).map aSum)=aSum x+sumQ (l.map aSum):=rfl;rw[e];refine⟨by have:=ih.1; grind,fun r hr=>?_⟩;rcases List.mem_cons.1 hr with rfl | hr
     ·have:=ih.1;grind
     ·have:=ih.2 r hr;grind
   exact (key a).2 r hr
  refine⟨_,rowB_of ha this,?_⟩;obtain⟨r,hr⟩:∃ r,r∈a:=⟨_,(ha.row hn0).1⟩
  exact Rat.le_trans (aSum_nonneg r) (this r hr)
 obtain⟨c,c1,c2⟩:=hc;obtain⟨q,q1,q2⟩:=twice_go hbo c1 c2 h τ 3 (lam+b+2) (jt+4) _ p hlift (by omega) (by omega) (by omega) (by omega);rw[p2] at q2;refine⟨q,?_,⟨h,h2,q2⟩⟩;unfold mMake;rw[if_neg (by have:=qSgn_nonneg ht; omega),if_neg ?_,bnd_ok M1,bnd_ok n1]
 ·show (bnd (halvesGo 65 0 norm) fun h=>bnd (mSmall M t h.1 b) fun p=>twiceGo b h.1 p)=_;rw[bnd_ok h1];show (bnd (mSmall M t h b) fun p=>twiceGo b h p)=_;rw[bnd_ok p1];exact q1
 ·unfold mCheck;rw[ha.1,if_neg ?_]
  ·decide
  ·rintro (h | h | h | h)
   ·omega
   ·omega
   ·omega
   ·have:a.all (rowOk n)=true:=List.all_eq_true.2 fun r hr=>by
     unfold rowOk;rw[ha.2 r hr];exact decide_eq_true (by omega)
    rw[this] at h;cases h
end
end Go.Proofs.YtjdkdcmpifapeaaGreatDoor.Abs
