/- Tables of numbers from nothing on: how small what isn't nothing is; their grids. -/
import Derived.Test.YtjdkdcmpifapeaaGreatDoorMu
set_option linter.unusedVariables false
set_option linter.unusedSectionVars false
set_option linter.unusedSimpArgs false
set_option maxHeartbeats 4000000
set_option maxRecDepth 10000
namespace Go.Proofs.YtjdkdcmpifapeaaGreatDoor.Abs
section
open Go Go.RowKit Go.Proofs.Tryz
attribute [local irreducible] zMul zAdd zLeft zRight fitZ qMake zDiv dMake dLevel dRound dNear dAdd dMul dRatio dCmp dMin dMax dAbs dLess qCmp sOut qAdd qMul
def PosV (m:Nat) (v:Rat):Prop:=v=0\/2^(-(m:Int))<=v
theorem PosV.mono {m m':Nat} {v:Rat} (h:PosV m v) (hm:m<=m'):PosV m' v:=h.imp id fun h=>Rat.le_trans (zpow_le2 (by omega)) h
theorem PosV.nonneg {m:Nat} {v:Rat} (h:PosV m v):0<=v:=by
 rcases h with h | h
 ·rw[h]; exact Rat.le_refl
 ·have:=zpow_pos2 (-(m:Int));grind
theorem PosV.mul {m m':Nat} {a b:Rat} (ha:PosV m a) (hb:PosV m' b):PosV (m+m') (a*b):=by
 rcases ha with ha | ha
 ·exact .inl (by rw[ha,Rat.zero_mul])
 ·rcases hb with hb | hb
  ·exact .inl (by rw[hb,Rat.mul_zero])
  ·refine .inr ?_;rw[show -((m+m':Nat):Int)=-(m:Int)+-(m':Int) by omega,zpow_add2];have h1:=zpow_pos2 (-(m:Int));have h2:=zpow_pos2 (-(m':Int));exact mul_le2 ha hb (by grind) (by grind)
theorem PosV.add {m:Nat} {a b:Rat} (ha:PosV m a) (hb:PosV m b):PosV m (a+b):=by
 have na:=ha.nonneg;have nb:=hb.nonneg;rcases ha with ha | ha
 ·rw[ha,Rat.zero_add];exact hb
 ·exact .inr (by grind)
theorem PosV.half {m:Nat} {x y:Rat} {e:Int} (hx:PosV m x) (he:e<=-1) (h:absQ (y-x)<=absQ x*2^e):PosV (m+1) y:=by
 have h1:=zpow_le2 he;have e1:(2:Rat)^(-1:Int)=1/2:=by decide +kernel
 rw[e1] at h1;have hn:=hx.nonneg;rw[absQ_pos hn,absQ_le] at h;have h2:=Rat.mul_le_mul_of_nonneg_left h1 hn;rcases hx with hx | hx
 ·subst hx;rw[Rat.zero_mul] at h;exact .inl (by grind)
 ·refine .inr ?_;have e2:(2:Rat)^(-((m+1:Nat):Int))=2^(-(m:Int))*(1/2):=by
   rw[show -((m+1:Nat):Int)=-(m:Int)+-1 by omega,zpow_add2,e1]
  rw[e2];grind
structure PM (bits:Int) (m:Nat) (s:FS):Prop where
 l:PosV m s.lo.v
 h:PosV m s.hi.v
 b:MB bits s
theorem PM.mono {bits:Int} {m m':Nat} {s:FS} (h:PM bits m s) (hm:m<=m'):PM bits m' s:=⟨h.l.mono hm,h.h.mono hm,h.b⟩
theorem PM.s0 (bits:Int) (m:Nat):PM bits m s0:=by
 have:d0.v=0:=v_zero rfl;exact⟨.inl this,.inl this,Nat.zero_le _,Nat.zero_le _⟩
theorem exp_of {bits:Int} {m:Nat} {d:FD} (hp:PosV m d.v) (hb:d.man.natAbs<=2^bits.toNat) (h0:d.man≠0):-((m+bits.toNat:Nat):Int)<=d.exp:=by
 rcases hp with hp | hp
 ·exact absurd hp (v_ne h0)
 ·have h1:=man_v hb;rw[absQ_pos (by have:=zpow_pos2 (-(m:Int)); grind)] at h1;have h2:=Rat.le_trans hp h1;apply Classical.byContradiction;intro c;have h3:=zpow_le2 (show (bits.toNat:Int)+d.exp+1<=-(m:Int) by omega);rw[zpow_add2] at h3;have e4:(2:Rat)^(1:Int)=2:=by decide +kernel
  rw[e4] at h3;have:=zpow_pos2 ((bits.toNat:Int)+d.exp);grind
theorem PM.gr {bits:Int} {m K L:Nat} {s:FS} (h:PM bits m s) (g:SGr K L s):SGr K (m+bits.toNat) s :=
 ⟨g.1.regrid fun h0=>exp_of h.l h.b.1 h0,g.2.regrid fun h0=>exp_of h.h h.b.2 h0⟩
theorem sOut_pm {lo hi:FD} {r:FS} {K L m:Nat} {bits:Int} (hb:bitsOk bits=true) (hl:Gr K L lo) (hh:Gr K L hi) (hL:L<=65536) (hK:K+1<=65536) (hr:sOut lo hi bits=.ok r) (h1:PosV m lo.v) (h2:PosV m hi.v):PM bits (m+1) r:=by
 obtain⟨r',r1,_,_,_,r5,r6,r7⟩:=sOut_ok2 hb hl hh hL hK;rw[hr] at r1;cases r1;have:=(bitsOk_iff.1 hb).1;exact⟨h1.half (by omega) r6,h2.half (by omega) r7,r5⟩
theorem sAdd_pm {a b r:FS} {K L m:Nat} {bits:Int} (hb:bitsOk bits=true) (ha:SGr K L a) (hb2:SGr K L b) (h:K+L+1<=16384) (hr:sAdd a b bits=.ok r) (pa:PM bits m a) (pb:PM bits m b):PM bits (m+1) r:=by
 obtain⟨l,l1,l2,l3⟩:=dAdd_ok ha.1 hb2.1 h;obtain⟨u,u1,u2,u3⟩:=dAdd_ok ha.2 hb2.2 h;have hr':sOut l u bits=.ok r:=by
  unfold sAdd at hr;rw[bnd_ok l1,bnd_ok u1] at hr;exact hr
 exact sOut_pm hb l3 u3 (by omega) (by omega) hr' (by rw[l2]; exact pa.l.add pb.l) (by rw[u2]; exact pa.h.add pb.h)
theorem dMin_pos {x y:FD} {m:Nat} (h1:PosV m x.v) (h2:PosV m y.v):PosV m (dMin x y).v:=by
 rw[dMin_v];split <;> assumption
theorem dMax_pos {x y:FD} {m:Nat} (h1:PosV m x.v) (h2:PosV m y.v):PosV m (dMax x y).v:=by
 rw[dMax_v];split <;> assumption
theorem sMul_pm {a b r:FS} {K L K' L' m m':Nat} {bits:Int} (hb:bitsOk bits=true) (ha:SGr K L a) (hb2:SGr K' L' b) (h:K+L+(K'+L')+1<=16384) (hr:sMul a b bits=.ok r) (pa:PM bits m a) (pb:PM bits m' b):PM bits (m+m'+1) r:=by
 obtain⟨x1,e1,v1,g1⟩:=dMul_ok ha.1 hb2.1 (by omega);obtain⟨x2,e2,v2,g2⟩:=dMul_ok ha.1 hb2.2 (by omega);obtain⟨x3,e3,v3,g3⟩:=dMul_ok ha.2 hb2.1 (by omega);obtain⟨x4,e4,v4,g4⟩:=dMul_ok ha.2 hb2.2 (by omega);have p1:PosV (m+m') x1.v:=by rw[v1]; exact pa.l.mul pb.l
 have p2:PosV (m+m') x2.v:=by rw[v2]; exact pa.l.mul pb.h
 have p3:PosV (m+m') x3.v:=by rw[v3]; exact pa.h.mul pb.l
 have p4:PosV (m+m') x4.v:=by rw[v4]; exact pa.h.mul pb.h
 have hr':sOut (dMin (dMin (dMin x1 x2) x3) x4) (dMax (dMax (dMax x1 x2) x3) x4) bits=.ok r:=by
  unfold sMul at hr;rw[bnd_ok e1,bnd_ok e2,bnd_ok e3,bnd_ok e4] at hr;exact hr
 exact sOut_pm hb (dMin_gr (dMin_gr (dMin_gr g1 g2) g3) g4) (dMax_gr (dMax_gr (dMax_gr g1 g2) g3) g4) (by omega) (by omega) hr' (dMin_pos (dMin_pos (dMin_pos p1 p2) p3) p4) (dMax_pos (dMax_pos (dMax_pos p1 p2) p3) p4)
theorem inner_pm {bits:Int} (hb:bitsOk bits=true) {K L K' L' m m':Nat} (h:K+L+(K'+L')+1<=16384):∀ {a b:List FS} (_:∀ s∈a,SGr K L s/\PM bits m s) (_:∀ s∈b,SGr K' L' s/\PM bits m' s) (_:a.length=b.length) (acc r:FS) (k w:Nat) (_:SGr k (L+L') acc) (_:K+K'+1<=k) (_:k+2*a.length+(L+L')+1<=16384) (_:PM bits w acc) (_:m+m'+1<=w)
  (_:foldE (innerStep bits) acc (a.zip b)=.ok r),PM bits (w+a.length) r
 |[],[],_,_,_,acc,r,k,w,_,_,_,pa,_,hr=>by
  cases hr;exact pa
 |x::a,[],_,_,hab,_,_,_,_,_,_,_,_,_,_=>by cases hab
 |[],y::b,_,_,hab,_,_,_,_,_,_,_,_,_,_=>by cases hab
 |x::a,y::b,hga,hgb,hab,acc,r,k,w,k1,k3,k4,pa,hw,hr=>by
  simp only[List.length_cons] at k4 ⊢;have gx:=hga x (by simp);have gy:=hgb y (by simp);obtain⟨p,p1,p2,_⟩:=sMul_ok hb gx.1 gy.1 h;obtain⟨s,s1,s2,_⟩:=sAdd_ok hb k1 (p2.mono k3 (Nat.le_refl _)) (by omega);have m1:=(sMul_pm hb gx.1 gy.1 h p1 gx.2 gy.2).mono hw;have m2:=sAdd_pm hb k1 (p2.mono k3 (Nat.le_refl _)) (by omega) s1 pa m1;have hr':foldE (innerStep bits) s (a.zip b)=.ok r:=by
   simp only[List.zip_cons_cons,foldE,innerStep] at hr;rw[bnd_ok p1,s1] at hr;exact hr
  have ih:=inner_pm hb h (fun s hs=>hga s (by simp[hs])) (fun s hs=>hgb s (by simp[hs])) (by simpa using hab) s r (k+2) (w+1) s2 (by omega) (by omega) m2 (by omega) hr';exact ih.mono (by omega)
def PMT (n:Nat) (bits:Int) (m:Nat) (p:List (List FS)):Prop:=∀ i j,i<n->j<n->PM bits m (sp p i j)
theorem PMT.mono {n:Nat} {bits:Int} {m m':Nat} {p:List (List FS)} (h:PMT n bits m p) (hm:m<=m'):PMT n bits m' p:=fun i j hi hj=>(h i j hi hj).mono hm
theorem times_pm {n K L K' L' m m':Nat} {bits:Int} {p q r:List (List FS)} (hbo:bitsOk bits=true) (hp:GrT n K L p) (hq:GrT n K' L' q) (h:K+K'+1+2*n+(L+L')+1<=16384) (pp:PMT n bits m p) (pq:PMT n bits m' q) (hm:mTimes bits p q=.ok r):PMT n bits (m+m'+1+n) r:=by
 intro i j hi hj;have h1:=times_get hp.1 hq.1 hm hi hj;have hpl:=hp.1.row hi;have hcl:(colV s0 q j).length=n:=by simp[colV,hq.1.1]
 unfold vInner at h1;rw[if_neg (by rw[hpl,hcl]; simp)] at h1;have h2:=inner_pm hbo (K:=K) (L:=L) (K':=K') (L':=L') (m:=m) (m':=m') (by omega) (fun s hs=>by
   obtain⟨k,hk,rfl⟩:=mem_getD (d:=s0) hs;exact⟨hp.2 i k hi (by omega),pp i k hi (by omega)⟩) (fun s hs=>by
   obtain⟨k,hk,rfl⟩:=mem_getD (d:=s0) hs;rw[colV_getD hq.1 (by omega)];exact⟨hq.2 k j (by omega) hj,pq k j (by omega) hj⟩) (by rw[hpl,hcl]) s0 _ (K+K'+1) (m+m'+1) (.s0 _ _) (Nat.le_refl _) (by rw[hpl]; exact h) (PM.s0 _ _) (Nat.le_refl _) h1
 rw[hpl] at h2;exact h2
theorem plus_pm {n K L m:Nat} {bits:Int} {p q r:List (List FS)} (hbo:bitsOk bits=true) (hp:GrT n K L p) (hq:GrT n K L q) (h:K+L+1<=16384) (pp:PMT n bits m p) (pq:PMT n bits m q) (hm:mPlus bits p q=.ok r):PMT n bits (m+1) r :=
 fun i j hi hj=>sAdd_pm hbo (hp.2 i j hi hj) (hq.2 i j hi hj) h (plus_get hp.1 hq.1 hm hi hj) (pp i j hi hj) (pq i j hi hj)
theorem scaled_pm {n K L K' L' m m':Nat} {bits:Int} {p r:List (List FS)} {c:FS} (hbo:bitsOk bits=true) (hp:GrT n K L p) (hc:SGr K' L' c) (h:K+L+(K'+L')+1<=16384) (pp:PMT n bits m p) (pc:PM bits m' c) (hm:mScaled bits p c=.ok r):PMT n bits (m+m'+1) r :=
 fun i j hi hj=>sMul_pm hbo (hp.2 i j hi hj) hc h (scaled_get hp.1 hm hi hj) (pp i j hi hj) pc
theorem HTL.regrid {n K L m:Nat} {bits:Int} {p:List (List FS)} {f:Nat->Nat->Nat->Rat} (h:HTL n K L p f) (hp:PMT n bits m p):HTL n K (m+bits.toNat) p f :=
 ⟨h.1,fun i j hi hj=>⟨(hp i j hi hj).gr (h.2 i j hi hj).1,(h.2 i j hi hj).2⟩⟩
theorem PosV.ratio {q:Rat} {j k:Nat} (h0:0<=q) (h:Sz q j k):PosV k q:=by
 by_cases hz:q=0
 ·exact .inl hz
 ·refine .inr ?_;have hn:1<=q.num:=by
   have h1:=Rat.num_nonneg.2 h0;have h2:q.num≠0:=fun e=>hz (Rat.num_eq_zero.1 e)
   omega
  have e2:=rat_eq q;rw[Rat.divInt_eq_div] at e2;have hd0:(0:Rat)<((q.den:Int):Rat):=by
   have:(0:Int)<(q.den:Int):=by have:=q.den_nz; omega
   have:=Rat.intCast_lt_intCast.2 this;exact this
  have h3:q*((q.den:Int):Rat)=(q.num:Rat):=by
   have h4:(q.num:Rat)/((q.den:Int):Rat)*((q.den:Int):Rat)=(q.num:Rat):=Rat.div_mul_cancel (by grind);rw[<- e2] at h4;exact h4
  have h5:(1:Rat)<=(q.num:Rat):=by
   have:=Rat.intCast_le_intCast.2 hn;exact this
  have h6:((q.den:Int):Rat)<=2^(k:Int):=by
   have h7:((q.den:Nat):Rat)<=((2^k:Nat):Rat):=Rat.natCast_le_natCast.2 (Nat.le_of_lt h.2);have e:((2^k:Nat):Rat)=(2:Rat)^(k:Int):=by
    rw[Rat.natCast_pow,Rat.zpow_natCast];rfl
   rw[e] at h7;exact h7
  have h8:1<=q*2^(k:Int):=Rat.le_trans h5 (by rw[<- h3]; exact Rat.mul_le_mul_of_nonneg_left h6 h0);have h9:=Rat.mul_le_mul_of_nonneg_right h8 (Rat.le_of_lt (zpow_pos2 (-(k:Int))));rw[Rat.mul_assoc,<- zpow_add2,show (k:Int)+-(k:Int)=0 by omega,zpow_zero2] at h9;grind
theorem sNear_pm {a:FQ} {j k:Nat} {bits:Int} {s:FS} (hb:bitsOk bits=true) (hb4:4<=bits) (ha:Sz a.q j k) (h:bits.toNat+k+2<=16384) (hj:j<=16384) (h0:0<=a.q) (hs:sNear a bits=.ok s):PM bits (k+1) s:=by
 obtain⟨l,l1,_,_,_,l5,l6⟩:=dNear_ok false hb ha h hj;obtain⟨u,u1,_,_,_,u5,u6⟩:=dNear_ok true hb ha h hj;have e:s=⟨l,u⟩:=by
  with_unfolding_all
  unfold sNear at hs;rw[bnd_ok l1,bnd_ok u1] at hs;exact (Except.ok.inj hs).symm
 subst e;have hp:=PosV.ratio h0 ha;exact⟨hp.half (by omega) l5,hp.half (by omega) u5,l6,u6⟩
theorem near_pm {n j k:Nat} {bits:Int} {a:List (List FQ)} {p:List (List FS)} (hb:bitsOk bits=true) (hb4:4<=bits) (ha:Sqr n a) (sa:∀ r∈a,SzL r j k) (h:bits.toNat+k+2<=16384) (hj:j<=16384) (h0:∀ i l,i<n->l<n->0<=en a i l) (hp:mNear a bits=.ok p):PMT n bits (k+1) p :=
 fun i l hi hl=>sNear_pm hb hb4 (sa _ (ha.row hi).1 _ (getD_mem (by rw[(ha.row hi).2]; exact hl))) h hj (h0 i l hi hl) (near_get ha hp hi hl)
theorem div_pm {n K L j m:Nat} {bits:Int} {p r:List (List FS)} (hj:Inv1 j) (hb4:4<=bits) (hbo:bitsOk bits=true) (hp:GrT n K L p) (hb:bits.toNat<=1000) (h:K+L+bits.toNat+100<=16384) (pp:PMT n bits m p) (hm:mDiv bits p j=.ok r):PMT n bits (m+10) r:=by
 obtain⟨s,s1,s2,s3⟩:=sNear_ok hbo hj.s (by omega) (by decide);have hm':mScaled bits p s=.ok r:=(bnd_ok s1).symm.trans hm;have h0:0<=(qOf 1 j).q:=by
  rw[hj.q,Rat.div_def,Rat.one_mul];by_cases hz:(j:Rat)=0
  ·rw[hz];decide +kernel
  ·have:(0:Rat)<=(j:Rat):=Rat.natCast_nonneg;exact Rat.le_of_lt (Rat.inv_pos.2 (by grind))
 exact scaled_pm hbo hp s2 (by omega) pp (sNear_pm hbo hb4 hj.s (by omega) (by decide) h0 s1) hm'
end
section
open Go Go.RowKit Go.Proofs.Tryz
attribute [local irreducible] zMul zAdd zLeft zRight fitZ qMake zDiv dMake dLevel dRound dNear dAdd dMul dRatio dCmp dMin dMax dAbs dLess qCmp sOut qAdd qMul sAdd sMul vPlus vInner vTimes
theorem e16:(2:Rat)^((4:Nat):Int)=16:=by decide +kernel
theorem sums_P {n Lx mx W:Nat} {bits:Int} {x:List (List FS)} {X:Nat->Nat->Rat} {Mx:Rat} (hbo:bitsOk bits=true) (hb8:8<=bits) (hb:bits.toNat<=600) (hx:HTL n 0 Lx x fun _=>X) (hLx:Lx<=W+bits.toNat) (px:PMT n bits mx x) (hn:n<=10) (hmx:Mag n Mx x) (hx0:0<=Mx) (hxc:Mx*ro bits^(n+1)*(65/64)*ro bits<=5/8) (hW:2*(W+bits.toNat)+bits.toNat+300<=16384) :
  ∀ (cnt j m:Nat) (term E S:List (List FS)) (T Em Sm:Rat),j+1+cnt<=150->m+cnt*(mx+n+22)<=W ->
  HTL n 4 (W+bits.toNat) term (fun _ i k=>ex j 1*pw n X j i k)->HTL n 4 (W+bits.toNat) E (fun _=>EN n X 1 (j+1))->HTL n 4 (W+bits.toNat) S (fun _=>UN n X 1 (j+1)) ->
  PMT n bits m term->PMT n bits m E->PMT n bits m S->Mag n T term->Mag n Em E->Mag n Sm S->0<=T->0<=Em->0<=Sm->ro bits^cnt*(Em+5/3*T)<=8->ro bits^cnt*(Sm+55/32*T)<=8 ->
  ∃ E' S',sumsGo bits x cnt (j+1) term E S=.ok (E',S')/\HTL n 4 (W+bits.toNat) E' (fun _=>EN n X 1 (j+1+cnt))/\HTL n 4 (W+bits.toNat) S' (fun _=>UN n X 1 (j+1+cnt))/\PMT n bits W E'/\PMT n bits W S'/\Mag n (ro bits^cnt*(Em+5/3*T)) E'/\Mag n (ro bits^cnt*(Sm+55/32*T)) S'
 |0,j,m,term,E,S,T,Em,Sm,_,hm,_,hE,hS,_,pE,pS,_,mE,mS,hT,_,_,_,_=>by
  refine⟨E,S,rfl,hE,hS,pE.mono (by omega),pS.mono (by omega),?_,?_⟩
  ·rw[Rat.pow_zero];exact mE.mono (by grind)
  ·rw[Rat.pow_zero];exact mS.mono (by grind)
 |cnt+1,j,m,term,E,S,T,Em,Sm,hj,hm,ht,hE,hS,pt,pE,pS,mT,mE,mS,hT,hEm,hSm,b1,b2=>by
  have e1:(cnt+1)*(mx+n+22)=cnt*(mx+n+22)+(mx+n+22):=Nat.succ_mul _ _;rw[e1] at hm;have r8:=ro_8 hb8;have r1:=ro_one bits;have hp0:=ro_pow_nonneg bits cnt;have hp1:=ro_pow_one bits cnt;have hp:ro bits^(cnt+1)=ro bits^cnt*ro bits:=Rat.pow_succ _ _;rw[hp] at b1 b2 ⊢;obtain⟨w,hw⟩:∃ w,ro bits^cnt=w:=⟨_,rfl⟩
  rw[hw] at hp0 hp1 b1 b2 ⊢;obtain⟨r,hr⟩:∃ r,ro bits=r:=⟨_,rfl⟩
  have hI:=fun j (h1:1<=j) (h2:j<=150)=>inv1 h1 h2
  have up:∀ y z:Rat,0<=z->(y+z)*ro bits+5/3*z<=ro bits*(y+8/3*z):=fun y z hz=>by
   have:=Rat.mul_le_mul_of_nonneg_right r1 (show 0<=5/3*z by grind);grind
  have hT':0<=5/8*T:=by grind
  have k1:=up Em (5/8*T) hT';have k2:=up Sm (33/32*(5/8*T)) (by grind);have lift:∀ y:Rat,0<=y->y<=w*y:=fun y hy=>by
   have:=Rat.mul_le_mul_of_nonneg_right hp1 hy;grind
  have c1:ro bits*(Em+5/3*T)<=8:=by
   have:=lift (ro bits*(Em+5/3*T)) (Rat.mul_nonneg (by grind) (by grind));grind
  have c2:ro bits*(Sm+55/32*T)<=8:=by
   have:=lift (ro bits*(Sm+55/32*T)) (Rat.mul_nonneg (by grind) (by grind));grind
  have cT:T<=24/5:=by
   have:=Rat.mul_le_mul_of_nonneg_right r1 (show 0<=Em+5/3*T by grind);grind
  obtain⟨t1,a1,a2⟩:=times_L hbo ht hx (by omega);have ma:=times_mag hbo ht.gr hx.gr (by omega) mT hmx hx0 a1;have pa:=times_pm hbo ht.gr hx.gr (by omega) pt px a1;have ha0:0<=T*Mx*ro bits^(n+1):=Rat.mul_nonneg (Rat.mul_nonneg hT hx0) (ro_pow_nonneg _ _);obtain⟨t2,d1,d2⟩:=div_L (hI (j+1) (by omega) (by omega)) hbo a2 (by omega) (by omega);have md0:=div_mag (hI (j+1) (by omega) (by omega)) (by omega) hb8 hbo a2.gr (by omega) (by omega) ma ha0 d1;have md:Mag n (5/8*T) t2:=md0.mono (by
   have h1:=Rat.mul_le_mul_of_nonneg_left hxc hT;grind)
  have pd:=div_pm (hI (j+1) (by omega) (by omega)) (by omega) hbo a2.gr (by omega) (by omega) pa d1;have f2:HTL n 4 (W+bits.toNat) t2 (fun _ i k=>ex (j+1) 1*pw n X (j+1) i k):=(((d2.regrade (K':=4) md (by rw[e16]; grind)).regrid pd).mono (Nat.le_refl _) (by omega)).congr fun i k hi hk=>Nul.zero.congr fun N=>by
   have:mm n (fun i k=>ex j 1*pw n X j i k) X i k=ex j 1*pw n X (j+1) i k:=by
    show (SS n fun l=>ex j 1*pw n X j i l*X l k)=ex j 1*SS n fun l=>pw n X j i l*X l k
    rw[SS_mul_l];exact SS_congr fun l _=>by grind
   rw[this,<- ex_one j];grind
  obtain⟨E',g1,g2⟩:=plus_L hbo hE f2 (by omega);have mg:=plus_mag hbo hE.gr f2.gr (by omega) mE md g1;have pg:=plus_pm hbo hE.gr f2.gr (by omega) (pE.mono (by omega)) pd g1;obtain⟨nx,n1,n2⟩:=div_L (hI (j+1+1) (by omega) (by omega)) hbo f2 (by omega) (by omega);have mn0:=div_mag (hI (j+1+1) (by omega) (by omega)) (by omega) hb8 hbo f2.gr (by omega) (by omega) md hT' n1;have mn:Mag n (33/32*(5/8*T)) nx:=mn0.mono (by
   have h1:=Rat.mul_le_mul_of_nonneg_left r8 (show 0<=5/8*T*(65/64) by grind);grind)
  have pn:=div_pm (hI (j+1+1) (by omega) (by omega)) (by omega) hbo f2.gr (by omega) (by omega) pd n1;have h2:HTL n 4 (W+bits.toNat) nx (fun _ i k=>ex (j+1+1) 1*pw n X (j+1) i k):=(((n2.regrade (K':=4) mn (by rw[e16]; grind)).regrid pn).mono (Nat.le_refl _) (by omega)).congr fun i k hi hk=>Nul.zero.congr fun N=>by
   rw[<- ex_one (j+1)];grind
  obtain⟨S',q1,q2⟩:=plus_L hbo hS h2 (by omega);have mq:=plus_mag hbo hS.gr h2.gr (by omega) mS mn q1;have pq:=plus_pm hbo hS.gr h2.gr (by omega) (pS.mono (by omega)) pn q1;have hrun:sumsGo bits x (cnt+1) (j+1) term E S=sumsGo bits x cnt (j+1+1) t2 E' S':=by
   show (bnd (mTimes bits term x) fun t1=>bnd (mDiv bits t1 (j+1:Nat)) fun t2=>bnd (mPlus bits E t2) fun E'=>bnd (mDiv bits t2 (j+1+1:Nat)) fun nx=>bnd (mPlus bits S nx) fun S'=>sumsGo bits x cnt (j+1+1) t2 E' S')=_;rw[bnd_ok a1,bnd_ok d1,bnd_ok g1,bnd_ok n1,bnd_ok q1]
  have gE:HTL n 4 (W+bits.toNat) E' (fun _=>EN n X 1 (j+1+1)):=((g2.regrade (K':=4) mg (by rw[e16]; grind)).mono (Nat.le_refl _) (Nat.le_refl _)).congr fun i k hi hk=>Nul.zero.congr fun N=>by
   show PS n X (fun m=>ex m 1) (j+1+1) i k-_=0;rw[PS_succ];show _-(PS n X (fun m=>ex m 1) (j+1) i k+_)=0;grind
  have gS:HTL n 4 (W+bits.toNat) S' (fun _=>UN n X 1 (j+1+1)):=((q2.regrade (K':=4) mq (by rw[e16]; grind)).mono (Nat.le_refl _) (Nat.le_refl _)).congr fun i k hi hk=>Nul.zero.congr fun N=>by
   show PS n X (fun m=>ex (m+1) 1) (j+1+1) i k-_=0;rw[PS_succ];show _-(PS n X (fun m=>ex (m+1) 1) (j+1) i k+_)=0;grind
  have x1:w*((Em+5/8*T)*ro bits+5/3*(5/8*T))<=w*ro bits*(Em+5/3*T):=by
   have:=Rat.mul_le_mul_of_nonneg_left k1 hp0;grind
  have x2:w*((Sm+33/32*(5/8*T))*ro bits+55/32*(5/8*T))<=w*ro bits*(Sm+55/32*T):=by
   have:=Rat.mul_le_mul_of_nonneg_left k2 hp0;grind
  obtain⟨E2,S2,i1,i2,i3,i4,i5,i6,i7⟩:=sums_P hbo hb8 hb hx hLx px hn hmx hx0 hxc hW cnt (j+1) (m+(mx+n+22)) t2 E' S' (5/8*T) ((Em+5/8*T)*ro bits) ((Sm+33/32*(5/8*T))*ro bits) (by omega) (by omega) f2 gE gS (pd.mono (by omega)) (pg.mono (by omega)) (pq.mono (by omega)) md mg mq hT' (Rat.mul_nonneg (by grind) (by grind)) (Rat.mul_nonneg (by grind) (by grind)) (by rw[hw]; exact Rat.le_trans x1 b1) (by rw[hw]; exact Rat.le_trans x2 b2);rw[hw] at i6 i7;rw[show j+1+1+cnt=j+1+(cnt+1) by omega] at i2 i3;exact⟨E2,S2,hrun.trans i1,i2,i3,i4,i5,i6.mono x1,i7.mono x2⟩
end
section
open Go Go.RowKit Go.Proofs.Tryz
theorem small_okP {n k lam Lx mx W Kt Lt:Nat} {bits:Int} {x:List (List FS)} {X:Nat->Nat->Rat} {t:FQ} {d:FD} {tm:FS} {C:Rat} (hbo:bitsOk bits=true) (hb8:8<=bits) (hb:bits.toNat<=600) (hn0:0<n) (hn:n<=10) (hx:HTL n 0 Lx x fun _=>X) (hX:RowB n X (1/2)) (hmx:Mag n (65/128) x) (px:PMT n bits mx x) (hk:2<=k) (hk2:k<=95) (hd:Gr 3 lam d) (hdv:d.v=2^(-(lam:Int))) (hdx:2*ex k (1/2)<=d.v)
  (tm1:sNear t bits=.ok tm) (tm2:SGr Kt Lt tm) (tm3:In t.q tm) (tm4:mag tm<=C) (hlam:lam<=bits.toNat+500) (hl8:8<=lam)
  (hW:2+k*(mx+n+22)<=W) (hLx:Lx<=W+bits.toNat) (hsz:2*(W+bits.toNat)+bits.toNat+600<=16384) (hlW:lam<=W+bits.toNat) (hS:lam+bits.toNat+Kt+Lt+50<=16384) :
  ∃ E S,mSums bits n x t k d=.ok (E,S)/\HTL n 3 (lam+bits.toNat+2) E (fun N=>EN n X 1 N)/\HTL n (7+Kt) (lam+bits.toNat+2+Lt) S (fun N i j=>UN n X 1 N i j*t.q)/\(∃ M,Mag n M E/\0<=M/\M*ro bits^(n+2)<2^((3:Nat):Int))/\Mag n (8*C) S:=by
 have hxc:(65/128:Rat)*ro bits^(n+1)*(65/64)*ro bits<=5/8:=by
  have h1:=pow_mono (ro_nonneg bits) (ro_8 hb8) (n+1);have h2:=pow_up (a:=129/128) (by decide +kernel) (show n+1<=11 by omega);have h3:(129/128:Rat)^11<=11/10:=by decide +kernel
  have h4:=ro_8 hb8;have h5:=mul_le2 (Rat.le_trans h1 (Rat.le_trans h2 h3)) h4 (ro_nonneg _) (by decide +kernel);grind
 have hall:ro bits^(k+n+2)<=12/5:=by
  have h1:=pow_mono (ro_nonneg bits) (ro_8 hb8) (k+n+2);have h2:=pow_up (a:=129/128) (by decide +kernel) (show k+n+2<=107 by omega);have h3:(129/128:Rat)^107<=12/5:=by decide +kernel
  exact Rat.le_trans h1 (Rat.le_trans h2 h3)
 obtain⟨o1,o2,o3⟩:=one_ok (n:=n) (by omega);obtain⟨one,n1,n2⟩:=near_T hbo o1 o2 (by omega) (by decide);have mone:Mag n (1*rn bits) one:=near_mag hbo o1 o2 (by omega) (by decide) n1 ((idm_row n).congr fun i j hi hj=>by rw[o3 i j hi hj]; rfl);have hone:HTL n 3 (bits.toNat+1) one (fun _ i k=>ex 0 1*pw n X 0 i k):=by
  refine⟨n2.1,fun i j hi hj=>?_⟩;have g:=(n2.2 i hi).getD (i:=j) (by rw[n2.1.row hi]; exact hj);refine⟨g.1.mono (by omega) (Nat.le_refl _),Lim.of_in ?_⟩;have e:ex 0 1*pw n X 0 i j=(qs ((mOne n).getD i [])).getD j 0:=by
   rw[qs_getD];show (1:Rat)*idm i j=en (mOne n) i j;rw[o3 i j hi hj,Rat.one_mul];rfl
  rw[e];exact g.2
 have hE1:HTL n 3 (bits.toNat+1) one (fun _=>EN n X 1 (0+1)):=hone.congr fun i j hi hj=>Nul.zero.congr fun N=>by
  show (ex 0 1*pw n X 0 i j+0)-ex 0 1*pw n X 0 i j=0;grind
 have hS1:HTL n 3 (bits.toNat+1) one (fun _=>UN n X 1 (0+1)):=hone.congr fun i j hi hj=>Nul.zero.congr fun N=>by
  show (ex 1 1*pw n X 0 i j+0)-ex 0 1*pw n X 0 i j=0;have:ex 1 1=ex 0 1:=by decide +kernel
  rw[this];grind
 obtain⟨c,rfl⟩:∃ c,k=c+1:=⟨k-1,by omega⟩
 have hr0:0<=rn bits:=by have:=rn_one bits; grind
 have pone:PMT n bits 2 one:=near_pm hbo (by omega) o1 o2 (by omega) (by decide) (fun i j hi hj=>by
  rw[o3 i j hi hj];split
  ·decide +kernel
  ·exact Rat.le_refl) n1
 have w2:(c+1)*(mx+n+22)=c*(mx+n+22)+(mx+n+22):=Nat.succ_mul _ _;rw[w2] at hW;have hcp:ro bits^c<=12/5:=Rat.le_trans (pow_up (ro_one bits) (by omega)) hall;have hc0:=ro_pow_nonneg bits c;have hwb:1*rn bits<=65/64:=by
  have:=rn_8 hb8;grind
 have b1:ro bits^c*(1*rn bits+5/3*(1*rn bits))<=8:=by
  have:=mul_le2 hcp hwb (by grind) (by decide +kernel);grind
 have b2:ro bits^c*(1*rn bits+55/32*(1*rn bits))<=8:=by
  have:=mul_le2 hcp hwb (by grind) (by decide +kernel);grind
 obtain⟨E,S,s1,s2',s3',pE,pS,mE0,mS0⟩:=sums_P hbo hb8 hb hx hLx px hn hmx (by decide +kernel) hxc (by omega) c 0 2 one one one (1*rn bits) (1*rn bits) (1*rn bits) (by omega) (by omega) (hone.mono (by omega) (by omega)) (hE1.mono (by omega) (by omega)) (hS1.mono (by omega) (by omega)) pone pone pone mone mone mone (by grind) (by grind) (by grind) b1 b2;have mE:MBT n bits E:=fun i j hi hj=>(pE i j hi hj).b
 have mS:MBT n bits S:=fun i j hi hj=>(pS i j hi hj).b
 rw[show 0+1+c=c+1 by omega] at s2' s3';have hdK:Gr 4 lam d:=hd.mono (by omega) (Nat.le_refl _);obtain⟨E',e1,e2⟩:=rest_L (M:=c+1) (g:=fun N=>EN n X 1 N) hbo s2' mE (by omega) hdK hdv (by omega) fun N i j hN hi hj=>Rat.le_trans (half_sml hX (by omega) hN hi hj).1 hdx
 obtain⟨S',f1,f2⟩:=rest_L (M:=c+1) (g:=fun N=>UN n X 1 N) hbo s3' mS (by omega) hdK hdv (by omega) fun N i j hN hi hj=>Rat.le_trans (half_sml hX (by omega) hN hi hj).2 hdx
 obtain⟨S2,g1,g2⟩:=scaled_L hbo f2 tm2 (Lim.of_in tm3) (by omega);have hdpos:0<=d.v:=by rw[hdv]; exact Rat.le_of_lt (zpow_pos2 _)
 have gev:GrT n 4 (W+bits.toNat) (evenT n d):=⟨evenT_sq n d,fun i j hi hj=>by
  show SGr _ _ (((evenT n d).getD i []).getD j s0);rw[evenT_at hi hj];exact⟨(hdK.lneg).mono (Nat.le_refl _) (by omega),hdK.mono (Nat.le_refl _) (by omega)⟩⟩
 have mE1:=plus_mag hbo s2'.gr gev (by omega) mE0 (even_mag hdpos) e1;have mS1:=plus_mag hbo s3'.gr gev (by omega) mS0 (even_mag hdpos) f1;have hdn:(n:Rat)*d.v<=10/256:=by
  have h1:(n:Rat)<=10:=by
   have:=Rat.natCast_le_natCast.2 hn;exact this
  have h2:d.v<=1/256:=by
   rw[hdv];have:=zpow_le2 (show -(lam:Int)<=-8 by omega);have e:(2:Rat)^(-8:Int)=1/256:=by decide +kernel
   rw[e] at this;exact this
  have h3:=mul_le2 h1 h2 hdpos (by decide +kernel);grind
 have hdn0:0<=(n:Rat)*d.v:=Rat.mul_nonneg Rat.natCast_nonneg hdpos;have rn8:=rn_8 hb8;have r1:=ro_one bits;have hc1:=ro_pow_one bits c
 -- all roundings together
 have hpw:ro bits^(c+1+n+2)=ro bits^c*ro bits*ro bits^(n+2):=by
  rw[show c+1+n+2=(c+1)+(n+2) by omega,pow_add',Rat.pow_succ]
 have hq0:=ro_pow_nonneg bits (n+2);have hq1:=ro_pow_one bits (n+2);rw[hpw] at hall;obtain⟨pc,hpc⟩:∃ pc,ro bits^c=pc:=⟨_,rfl⟩
 obtain⟨pn,hpn⟩:∃ pn,ro bits^(n+2)=pn:=⟨_,rfl⟩
 obtain⟨r,hr⟩:∃ r,ro bits=r:=⟨_,rfl⟩
 obtain⟨w,hw⟩:∃ w,rn bits=w:=⟨_,rfl⟩
 obtain⟨nd,hnd⟩:∃ nd,(n:Rat)*d.v=nd:=⟨_,rfl⟩
 rw[hpc,hpn,hr] at hall;rw[hpc] at hc1;rw[hr] at r1;rw[hpn] at hq0 hq1;rw[hw] at rn8 hr0;rw[hnd] at hdn hdn0;have hP0:0<=pc*r*pn:=Rat.mul_nonneg (Rat.mul_nonneg (by grind) (by grind)) hq0
 -- one of the two bounds
 have bound:∀ u v:Rat,0<=u->u<=v->(pc*(u*w)+nd)*r*pn<=(12/5)*(v*(65/64)+10/256):=fun u v hu huv=>by
  have k1:pc*(u*w)+nd<=pc*(v*(65/64)+10/256):=by
   have q1:u*w<=v*(65/64):=mul_le2 huv rn8 hr0 (by grind);have q2:=Rat.mul_le_mul_of_nonneg_left q1 (show 0<=pc by grind);have q3:(1:Rat)*(10/256)<=pc*(10/256):=Rat.mul_le_mul_of_nonneg_right hc1 (by decide +kernel);grind
  have k2:0<=r*pn:=Rat.mul_nonneg (by grind) hq0;have k3:=Rat.mul_le_mul_of_nonneg_right k1 k2;have k4:pc*(v*(65/64)+10/256)*(r*pn)=(pc*r*pn)*(v*(65/64)+10/256):=by grind
  have k5:=Rat.mul_le_mul_of_nonneg_right hall (show 0<=v*(65/64)+10/256 by grind);grind
 refine⟨E',S2,?_,?_,g2.mono (by omega) (Nat.le_refl _),⟨_,mE1,?_,?_⟩,?_⟩
 ·unfold mSums;rw[bnd_ok n1];show (bnd (sumsGo bits x c 1 one one one) fun p=>_)=_;rw[bnd_ok s1];show (bnd (mPlus bits E (evenT n d)) fun E=>bnd (mPlus bits S (evenT n d)) fun S=>_)=_;rw[bnd_ok e1,bnd_ok f1,bnd_ok tm1,bnd_ok g1]
 ·refine e2.regrade mE1 ?_;rw[hpc,hw,hnd,hr];have:=bound (8/3) (8/3) (by decide +kernel) Rat.le_refl;have e3:(2:Rat)^((3:Nat):Int)=8:=by decide +kernel
  rw[e3];have k1:(pc*(8/3*w)+nd)*r*1<=(pc*(8/3*w)+nd)*r*pn:=Rat.mul_le_mul_of_nonneg_left hq1 (Rat.mul_nonneg (by have:=Rat.mul_nonneg (show 0<=pc by grind) (show 0<=8/3*w by grind); grind) (by grind));have k2:pc*(1*w+5/3*(1*w))=pc*(8/3*w):=by grind
  rw[k2];grind
 ·rw[hpc,hw,hnd,hr];exact Rat.mul_nonneg (by have:=Rat.mul_nonneg (show 0<=pc by grind) (show 0<=1*w+5/3*(1*w) by grind); grind) (by grind)
 ·rw[hpc,hpn,hw,hnd,hr];have:=bound (8/3) (8/3) (by decide +kernel) Rat.le_refl;have e3:(2:Rat)^((3:Nat):Int)=8:=by decide +kernel
  rw[e3];have k2:pc*(1*w+5/3*(1*w))=pc*(8/3*w):=by grind
  rw[k2];grind
 ·have hm0:0<=(ro bits^c*(1*rn bits+55/32*(1*rn bits))+(n:Rat)*d.v)*ro bits:=by
   rw[hpc,hw,hnd,hr];exact Rat.mul_nonneg (by have:=Rat.mul_nonneg (show 0<=pc by grind) (show 0<=1*w+55/32*(1*w) by grind); grind) (by grind)
  have hC0:0<=C:=Rat.le_trans (mag_nonneg _) tm4;refine (scaled_mag hbo f2.gr tm2 (by omega) mS1 tm4 hm0 g1).mono ?_;rw[hpc,hw,hnd,hr];have k2:pc*(1*w+55/32*(1*w))=pc*(87/32*w):=by grind
  rw[k2];have:=bound (87/32) (87/32) (by decide +kernel) Rat.le_refl;have hb0:0<=(pc*(87/32*w)+nd)*r:=by rw[hpc,hw,hnd,hr,k2] at hm0; exact hm0
  have hrn:r<=pn:=by
   rw[<- hpn,<- hr];have:=pow_up (ro_one bits) (show 1<=n+2 by omega);rw[Rat.pow_succ,Rat.pow_zero,Rat.one_mul] at this;exact this
  have k3:=Rat.mul_le_mul_of_nonneg_left hrn hb0;have k4:(pc*(87/32*w)+nd)*r*r<=8:=by grind
  have k5:=Rat.mul_le_mul_of_nonneg_right k4 hC0;grind
theorem small_TP {n h b j k jt kt lam W:Nat} {m:List (List FQ)} {t:FQ} {A:Nat->Nat->Rat} (hb1:8<=b) (hb2:b<=512) (hn0:0<n) (hn:n<=10) (hh:h<=64) (hm:Sqr n m) (sm:∀ r∈m,SzL r j k) (st:Sz t.q jt kt)
  (hX:RowB n (en m) (2^h*(1/2))) (he:∀ i l,i<n->l<n->en m i l=A i l*t.q) (hT:Tm b (mTermsK b) lam (mTermsD b)) (hj:j+1<=16384) (hk:k+(h+1)<=16384) (hjt:jt+1<=16384) (h0:∀ i l,i<n->l<n->0<=en m i l)
  (hW:2+mTermsK b*(k+(h+1)+1+n+22)<=W) (hLx:b+(k+(h+1))<=W+b) (hsz:2*(W+b)+b+600<=16384) (hS:lam+b+(jt+3)+(b+(kt+(h+1)))+50<=16384) :
  ∃ p,mSmall m t h b=.ok p/\∃ τ,2^h*τ=t.q/\Tw n b A τ 3 (lam+b+2) (jt+4) (lam+b+2+(b+(kt+(h+1)))) p:=by
 have hbo:bitsOk (b:Int)=true:=bitsOk_iff.2 ⟨by omega,by omega⟩;have hbn:((b:Nat):Int).toNat=b:=Int.toNat_natCast b;obtain⟨part,p1,p2,p3⟩:=part_ok hh;obtain⟨x,x1,x2,x3,x4⟩:=scale_full hm sm p3 hj hk;obtain⟨tm,t1,t2,t3⟩:=qMul_ok st p3 (by omega) (by omega);have hpow:(0:Rat)<2^h:=Rat.pow_pos (by decide);have hpart:0<=part.q:=by
  apply Classical.byContradiction;intro c;have:=Rat.mul_lt_mul_of_pos_left (show part.q<0 by grind) hpow;grind
 have hpart1:part.q<=1:=by
  have h1:(1:Rat)<=2^h:=by
   have:=pow_up (a:=2) (by decide) (Nat.zero_le h);rw[Rat.pow_zero] at this;exact this
  have:=Rat.mul_le_mul_of_nonneg_right h1 hpart;grind
 have hXx:RowB n (en x) (1/2):=by
  have h1:=(hX.scale (s:=part.q)).congr (B:=en x) fun i l hi hl=>x3 i l hi hl
  rw[absQ_pos hpart] at h1;have e:(2:Rat)^h*(1/2)*part.q=1/2:=by grind
  rw[e] at h1;exact h1
 obtain⟨s,s1,s2⟩:=near_T hbo x2 x4 (by rw[hbn]; omega) hj;have ms:=near_mag hbo x2 x4 (by rw[hbn]; omega) hj s1 hXx;have ms2:Mag n (65/128) s:=ms.mono (by
  have:=rn_8 (bits:=(b:Int)) (by omega);grind)
 have px:=near_pm hbo (by omega) x2 x4 (by rw[hbn]; omega) hj (fun i l hi hl=>by rw[x3 i l hi hl]; exact Rat.mul_nonneg (h0 i l hi hl) hpart) s1;have hx:=(s2.lim x2).regrade ms2 (K':=0) (by
  have:(2:Rat)^((0:Nat):Int)=1:=by decide +kernel
  rw[this];decide +kernel)
 obtain⟨sp,q1,q2,q3⟩:=sNear_ok hbo t3 (by rw[hbn]; omega) (by omega);have q4:=sNear_mag hbo t3 (by rw[hbn]; omega) (by omega) q1;obtain⟨E,S,r1,r2,r3,r4,r5⟩:=small_okP (W:=W) (d:=mTermsD b) (C:=2^(jt:Int)*(65/64)) hbo (by omega) (by rw[hbn]; omega) hn0 hn hx hXx ms2 px hT.hk.1 hT.hk.2 hT.g hT.v hT.x q1 q2 q3 (Rat.le_trans q4 (by
   refine mul_le2 ?_ (rn_8 (by omega)) (by have:=rn_one (b:Int); grind) (Rat.le_of_lt (zpow_pos2 _));rw[t2,absQ_mul,absQ_pos hpart];have:=mul_le2 (absQ_lt_pow st) hpart1 hpart (Rat.le_of_lt (zpow_pos2 _));grind)) (by rw[hbn]; have:=hT.hl; omega) (by have:=hT.hl; omega) hW (by rw[hbn]; exact hLx) (by rw[hbn]; exact hsz) (by rw[hbn]; have:=hT.hl; have:=Nat.mul_le_mul hT.hk.1 (show 24<=k+(h+1)+1+n+22 by omega); omega) (by rw[hbn]; exact hS)
 rw[hbn] at r2 r3;have hsl:s.length=n:=s2.1.1;have hrun:mSmall m t h b=.ok (E,S):=by
  unfold mSmall;rw[bnd_ok p1,bnd_ok x1,bnd_ok t1,bnd_ok s1,sums2_eq hsl (hT.ev n (by omega)),r1]
 have hen:∀ i l,i<n->l<n->en x i l=A i l*tm.q:=fun i l hi hl=>by
  rw[x3 i l hi hl,he i l hi hl,t2,Rat.mul_assoc]
 refine⟨(E,S),hrun,tm.q,by rw[t2]; grind,?_,?_,r4,⟨_,r5,?_,?_⟩⟩
 ·exact r2.congr fun i l hi hl=>Nul.zero.congr fun N=>by
   rw[<- EN_scale,EN_congr hen 1 N hi hl];grind
 ·have e1:8*(2^(jt:Int)*(65/64))<(2:Rat)^((jt+4:Nat):Int):=by
   rw[show ((jt+4:Nat):Int)=(jt:Int)+4 by omega,zpow_add2];have e:(2:Rat)^(4:Int)=16:=by decide +kernel
   rw[e];have:=zpow_pos2 (jt:Int);grind
  refine (r3.regrade r5 e1).congr fun i l hi hl=>Nul.zero.congr fun N=>?_
  rw[<- UN_scale,UN_congr hen 1 N hi hl];grind
 ·have:=zpow_pos2 (jt:Int);grind
 ·rw[show ((jt+4:Nat):Int)=(jt:Int)+4 by omega,zpow_add2];have e:(2:Rat)^(4:Int)=16:=by decide +kernel
  rw[e];have:=zpow_pos2 (jt:Int);grind
theorem make_TP {n f b j k jt kt lam m P W:Nat} {a:List (List FQ)} {t:FQ} (hb1:8<=b) (hb2:b<=512) (hn0:0<n) (hn:n<=10) (hf:f<=64) (ha:Sqr n a) (sa:∀ r∈a,SzL r j k) (st:Sz t.q jt kt) (ht:0<=t.q)
  (hm1:j+jt<=m) (hm2:k+kt<=m) (hP:(m+1)*n+1=P) (hP2:P+P<=16384) (hP3:P+2*f+4<=16384)
  (hN:∀ M norm,mScale a t=.ok M->mNorm M=.ok norm->norm.q<=2^f*(1/2)) (hT:Tm b (mTermsK b) lam (mTermsD b))
  (h0:∀ i l,i<n->l<n->0<=en a i l) (hW:2+mTermsK b*(m+(f+1)+1+n+22)<=W) (hLx:b+(m+(f+1))<=W+b) (hsz:2*(W+b)+b+600<=16384) (hS:lam+b+(jt+3)+(b+(kt+(f+1)))+50<=16384)
  (hd:2^f*(3+(lam+b+2))+(jt+4)+(lam+b+2+(b+(kt+(f+1))))+f+2*n+2<=16384) :
  ∃ p,mMake a t b=.ok p/\Made n b (en a) t.q f jt (lam+b+2) (b+(kt+(f+1))) p:=by
 have hbo:bitsOk (b:Int)=true:=bitsOk_iff.2 ⟨by omega,by omega⟩;obtain⟨M,M1,M2,M3,M4⟩:=scale_full ha sa st (by omega) (by omega);have M5:SzT M m:=fun r hr=>(M4 r hr).mono hm1 hm2
 obtain⟨norm,n1,n2,n3,_,n5⟩:=norm_ok hP hP2 M2 M5;have hle:=hN M norm M1 n1;obtain⟨h,y,h1,h2,h3⟩:=halves_go (f:=65) (n:=0) n5 hle (by omega) (by omega) (by omega);rw[Nat.zero_add] at h1;have hX:RowB n (en M) (2^h*(1/2)):=rowB_of M2 fun r hr=>Rat.le_trans (n3 r hr) h3
 have w1:=Nat.mul_le_mul_left (mTermsK b) (show m+(h+1)+1+n+22<=m+(f+1)+1+n+22 by omega);obtain⟨p,p1,τ,p2,p3⟩:=small_TP (W:=W) (lam:=lam) (jt:=jt) (kt:=kt) hb1 hb2 hn0 hn (by omega) M2 M5 st hX M3 hT (by omega) (by omega) (by omega) (fun i l hi hl=>by rw[M3 i l hi hl]; exact Rat.mul_nonneg (h0 i l hi hl) ht) (by omega) (by omega) hsz (by omega);have hlift:Tw n b (en a) τ 3 (lam+b+2) (jt+4) (lam+b+2+(b+(kt+(f+1)))) p:=⟨p3.e,p3.s.mono (Nat.le_refl _) (by omega),p3.me,p3.ms⟩
 have e2:2^h<=2^f:=Nat.pow_le_pow_right (by decide) h2;have w2:=Nat.mul_le_mul_right (3+(lam+b+2)) e2;have hc:∃ c,RowB n (en a) c/\0<=c:=by
  have:∀ r∈a,aSum r<=sumQ (a.map aSum):=fun r hr=>by
   have key:∀ (l:List (List FQ)),0<=sumQ (l.map aSum)/\∀ r∈l,aSum r<=sumQ (l.map aSum):=fun l=>by
    induction l with
    |nil=>exact⟨Rat.le_refl,fun r hr=>by cases hr⟩
    |cons x l ih =>
     have h0:=aSum_nonneg x;have e:sumQ ((x::l).map aSum)=aSum x+sumQ (l.map aSum):=rfl;rw[e];refine⟨by have:=ih.1; grind,fun r hr=>?_⟩;rcases List.mem_cons.1 hr with rfl | hr
     ·have:=ih.1;grind
     ·have:=ih.2 r hr;grind
   exact (key a).2 r hr
  refine⟨_,rowB_of ha this,?_⟩;obtain⟨r,hr⟩:∃ r,r∈a:=⟨_,(ha.row hn0).1⟩
  exact Rat.le_trans (aSum_nonneg r) (this r hr)
 obtain⟨c,c1,c2⟩:=hc;obtain⟨q,q1,q2⟩:=twice_go hbo c1 c2 h τ 3 (lam+b+2) (jt+4) _ p hlift (by omega) (by omega) (by omega) (by omega);rw[p2] at q2;refine⟨q,?_,⟨h,h2,q2⟩⟩;unfold mMake;rw[if_neg (by have:=qSgn_nonneg ht; omega),if_neg ?_,bnd_ok M1,bnd_ok n1]
 ·show (bnd (halvesGo 65 0 norm) fun h=>bnd (mSmall M t h.1 b) fun p=>twiceGo b h.1 p)=_;rw[bnd_ok h1];show (bnd (mSmall M t h b) fun p=>twiceGo b h p)=_;rw[bnd_ok p1];exact q1
 ·unfold mCheck;rw[ha.1,if_neg ?_]
  ·decide
  ·rintro (h | h | h | h)
   ·omega
   ·omega
   ·omega
   ·have:a.all (rowOk n)=true:=List.all_eq_true.2 fun r hr=>by
     unfold rowOk;rw[ha.2 r hr];exact decide_eq_true (by omega)
    rw[this] at h;cases h
end
end Go.Proofs.YtjdkdcmpifapeaaGreatDoor.Abs
