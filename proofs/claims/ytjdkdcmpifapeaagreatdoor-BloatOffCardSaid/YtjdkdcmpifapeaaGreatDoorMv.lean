/- Series: what is reckoned of tables of spans. -/
import Derived.Test.YtjdkdcmpifapeaaGreatDoorMu
import Derived.KernelRfl
set_option linter.unusedVariables false
set_option linter.unusedSectionVars false
set_option linter.unusedSimpArgs false
set_option maxHeartbeats 4000000
namespace Go.Proofs.YtjdkdcmpifapeaaGreatDoor.Abs
section
open Go Go.RowKit Go.Proofs.Tryz
attribute [local irreducible] zMul zAdd zLeft zRight fitZ qMake zDiv dMake dLevel dRound dNear dAdd dMul dRatio dCmp dMin dMax dAbs dLess qCmp sOut qAdd qMul sAdd sMul sNear qSum sSize vEach vDot vNear vScale vPlus vInner vTimes mScaled mDiv mTimes mPlus mNear mScale sumsGo mEven mTwice mSums2 mSmall mHalves mNorm
theorem c_mScaled (l:List (List FS)) (c:FS) (bits:Int) (hb:BOk bits) (hl:l.length<1000000) (hr:Rows6 l):ACalls prog 82 [lU l,spa c,i64 bits] (tLU (mScaled bits l c)):=by
 unfold mScaled;refine conN func82 rfl (by kernel_rfl) ?_;have hlen:(((l.map lS).length:Nat):Int)=(l.length:Int):=by simp
 conv=>whnf
 refine⟨⟨by omega,rfl,by simp only[lenLim]; omega⟩,?_⟩;conv=>whnf
 refine⟨List (List FS),fun r=>r.length<=l.length/\runE (fun r=>vTimes r c bits) (l.take r.length)=.ok r,fun r=>{ fr:=[(16,.sl (l.map lS)),(17,i64 l.length),(18,i64 r.length),(8,.own (1,2) l.length),(4,.ptr (0,0) 0 0),(2,i64 bits)],st:=[((1,2),⟨110,1,fillV lS nilA l.length r⟩),((0,0),⟨150,6,[spa c]⟩)],g:=9 },
  fun r=>l.length-r.length,[],⟨Nat.zero_le _,rfl⟩,⟨trivial,⟨x_R,x_E hlen,x_R,.inl ⟨.of_eq (congrArg (AV.own (1,2)) (by simp)),rfl⟩,x_R,x_R,trivial⟩,⟨.same ?_ ?_,x_N,x_L⟩,x_S,trivial⟩,?_⟩
 ·refine congrArg (fun z=>some (Row.mk 110 1 z)) ?_;rw[fillV_nil];exact congrArg (fun n=>List.replicate n nilA) (by simp)
 ·exact ltL_fillV (fun _=>rfl) rfl
 rintro r ⟨h1,h2⟩;dsimp only at h1 h2 ⊢;conv=>whnf
 refine Br.mk (fun h=>?_) (fun h=>?_)
 ·have hlt:r.length<l.length:=by simpa using h
  obtain⟨x1,e1,C1,hx1,he1⟩:=varT (c_vTimes l[r.length] c bits hb (hr _ (List.getElem_mem hlt)));have hstep:=runE_step (f:=(fun r=>vTimes r c bits)) hlt h2 hx1 he1;conv=>whnf
  try refine xK ?_
  try conv=>whnf
  refine⟨lS l[r.length],⟨by omega,by simp[hlt],rfl,rfl⟩,?_⟩;conv=>whnf
  refine cE C1 ?_;conv=>whnf
  refine Br.mk (fun h=>?_) (fun h=>?_)
  ·have z:=lit0 h;rw[hstep.1 z];conv=>whnf
   exact⟨.sh _ _ rfl .nil,fin rfl (congrArg (fun x:Nat=>i64 x) (by omega:e1=e1-1+1)),trivial⟩
  have z:=lit1 h;conv=>whnf
  refine⟨⟨rfl,rfl⟩,⟨by omega,by omega⟩,?_⟩;conv=>whnf
  refine elA_mk nilA (fillV_get (enc:=lS) (z:=nilA) hlt) ?_;conv=>whnf
  have hq:=(hstep.2 z)
  refine⟨r++[x1],⟨by simp; omega,by rw[List.length_append]; exact hq⟩,⟨trivial,⟨x_R,x_R,x_E ?_,x_R,x_R,x_R,trivial⟩,⟨.same ?_ ?_,x_N,x_L⟩,x_S,trivial⟩,by show l.length-(r++[x1]).length<l.length-r.length; simp; omega⟩
  ·exact (wI (n:=(r.length:Int)+1) (by omega) (by omega)).trans (by simp)
  ·exact congrArg (fun z=>some (Row.mk 110 1 z)) (fillV_set (enc:=lS) hlt)
  ·exact ltL_fillV (fun _=>rfl) rfl
 ·have he:r.length=l.length:=by
   have:¬ r.length<l.length:=by simpa using h
   omega
  have:runE (fun r=>vTimes r c bits) l=.ok r:=by rw[he,List.take_length] at h2; exact h2
  rw[this];conv=>whnf
  exact⟨.own2 trivial rfl (by rw[fillV_len (by omega)]) (by rw[fillV_full he]; exact closedL_map (fun _=>rfl) _) (fillV_full he),fin rfl rfl,trivial⟩
theorem c_mDiv (l:List (List FS)) (d:Int) (bits:Int) (hb:BOk bits) (hd:0<=d) (hd2:d<=1000000) (hl:l.length<1000000) (hr:Rows6 l):ACalls prog 241 [lU l,i64 d,i64 bits] (tLU (mDiv bits l d)):=by
 have CQ:=c_qOf 1 d (by decide) (by decide) (by omega) (by omega);have CN:=c_sNear (qOf 1 d) bits hb;cases h1:sNear (qOf 1 d) bits with
 |error e =>
  rw[h1] at CN;have:mDiv bits l d=.error e:=by with_unfolding_all (unfold mDiv; rw[h1]; rfl)
  rw[this];refine conN func241 rfl (by kernel_rfl) ?_;conv=>whnf
  refine cE CQ ?_;conv=>whnf
  refine cE CN ?_;conv=>whnf
  exact⟨.sh _ _ rfl .nil,fin rfl rfl,trivial⟩
 |ok s =>
  rw[h1] at CN;have:mDiv bits l d=mScaled bits l s:=by with_unfolding_all (unfold mDiv; rw[h1]; rfl)
  rw[this];have CS:=c_mScaled l s bits hb hl hr;obtain⟨x1,e1,C1,hx1,he1⟩:=varT CS;show ACalls prog _ _ (.tup [lU (okOr [] (mScaled bits l s)),i64 (errN (mScaled bits l s))]);rw[hx1,he1];refine conN func241 rfl (by kernel_rfl) ?_;conv=>whnf
  refine cE CQ ?_;conv=>whnf
  refine cE CN ?_;conv=>whnf
  refine cE C1 ?_;conv=>whnf
  exact⟨fin rfl rfl,fin rfl rfl,trivial⟩
def gro (p:Gw):AV:=.agg [lU p.1,lU p.2]
def resG (r:Except Nat Gw) (j:Gw):AV:=.tup [gro (okOr j r),i64 ((errN r:Nat):Int)]
def g0:Gw:=([],[])
theorem le_g0:Le (.agg [nilA,nilA]) (gro g0):=.ag ⟨.nil,.nil,trivial⟩
def jTw (bits:Int) (p:Gw):Gw:=match mTimes bits p.1 p.2 with
 |.error _=>g0
 |.ok nx=>match mPlus bits p.2 nx with
  |.error _=>g0
  |.ok S=>([],S)
theorem c_mTwice (p:Gw) (bits:Int) (hb:BOk bits) (h1:p.1.length<1000000) (r1:Rows6 p.1) (h2:p.2.length<1000000) (r2:Rows6 p.2):ACalls prog 81 [gro p,i64 bits] (resG (mTwice bits p) (jTw bits p)):=by
 have CA:=c_mTimes p.1 p.2 bits hb h1 r1 h2 r2;have CC:=c_mTimes p.1 p.1 bits hb h1 r1 h1 r1;cases hA:mTimes bits p.1 p.2 with
 |error e =>
  rw[hA] at CA;have:mTwice bits p=.error e:=by with_unfolding_all (unfold mTwice; rw[hA]; rfl)
  have hj:jTw bits p=g0:=by unfold jTw; rw[hA]
  rw[this,hj];refine conN func81 rfl (by kernel_rfl) ?_;conv=>whnf
  refine cE CA ?_;conv=>whnf
  exact⟨.sh _ _ rfl le_g0,fin rfl rfl,trivial⟩
 |ok nx =>
  rw[hA] at CA;have CB:=c_mPlus p.2 nx bits hb h2 r2;cases hB:mPlus bits p.2 nx with
  |error e =>
   rw[hB] at CB;have:mTwice bits p=.error e:=by with_unfolding_all (unfold mTwice; rw[hA]; show (bnd (mPlus bits p.2 nx) _)=_; rw[hB]; rfl)
   have hj:jTw bits p=g0:=by unfold jTw; rw[hA]; simp only; rw[hB]
   rw[this,hj];refine conN func81 rfl (by kernel_rfl) ?_;conv=>whnf
   refine cE CA ?_;conv=>whnf
   refine cE CB ?_;conv=>whnf
   exact⟨.sh _ _ rfl le_g0,fin rfl rfl,trivial⟩
  |ok S =>
   rw[hB] at CB;have:mTwice bits p=bnd (mTimes bits p.1 p.1) fun E=>.ok (E,S):=by with_unfolding_all (unfold mTwice; rw[hA]; show (bnd (mPlus bits p.2 nx) _)=_; rw[hB]; rfl)
   have hj:jTw bits p=([],S):=by unfold jTw; rw[hA]; simp only; rw[hB]
   rw[this,hj];obtain⟨x1,e1,C1,hx1,he1⟩:=varT CC;have e2:resG (bnd (mTimes bits p.1 p.1) fun E=>.ok (E,S)) ([],S)=.tup [gro (x1,S),i64 (e1:Nat)]:=by
    rw[<- hx1,<- he1];cases mTimes bits p.1 p.1 <;> rfl
   rw[e2];refine conN func81 rfl (by kernel_rfl) ?_;conv=>whnf
   refine cE CA ?_;conv=>whnf
   refine cE CB ?_;conv=>whnf
   refine cE C1 ?_;conv=>whnf
   exact⟨fin rfl rfl,fin rfl rfl,trivial⟩
end
section
open Go Go.RowKit Go.Proofs.Tryz
attribute [local irreducible] zMul zAdd zLeft zRight fitZ qMake zDiv dMake dLevel dRound dNear dAdd dMul dRatio dCmp dMin dMax dAbs dLess qCmp sOut qAdd qMul sAdd sMul sNear
def halvesF:Nat->Nat->FQ->Nat×FQ×Nat
 |0,_,x=>(0,x,1)
 |f+1,n,x=>match qCmp x hf with
  |.error e=>(0,x,e+1)
  |.ok c=>if c<=0 then (n,x,0) else match qMul x hf with
   |.error e=>(0,q0,e+1)
   |.ok y=>halvesF f (n+1) y
theorem halvesF_eq:∀ (f n:Nat) (x:FQ),(∀ m y,halvesGo f n x=.ok (m,y)->halvesF f n x=(m,y,0))/\(∀ e,halvesGo f n x=.error e->∃ j,halvesF f n x=(0,j,e+1))
 |0,n,x=>⟨fun m y h=>(by cases h),fun e h=>⟨x,by cases h; rfl⟩⟩
 |f+1,n,x=>by
  unfold halvesGo halvesF;cases qCmp x hf with
  |error e=>exact⟨fun m y h=>(by cases h),fun e' h=>⟨x,by cases h; rfl⟩⟩
  |ok c =>
   simp only[bnd];by_cases hc:c<=0
   ·rw[if_pos hc,if_pos hc];exact⟨fun m y h=>(by cases h; rfl),fun e h=>(by cases h)⟩
   ·rw[if_neg hc,if_neg hc];cases qMul x hf with
    |error e=>exact⟨fun m y h=>(by cases h),fun e' h=>⟨q0,by cases h; rfl⟩⟩
    |ok y=>exact halvesF_eq f (n+1) y
theorem c_halvesF (x0:FQ):ACalls prog 99 [rat x0.q] (.tup [i64 ((halvesF 65 0 x0).1:Nat),rat (halvesF 65 0 x0).2.1.q,i64 ((halvesF 65 0 x0).2.2:Nat)]):=by
 obtain⟨R,hR⟩:∃ R,halvesF 65 0 x0=R:=⟨_,rfl⟩
 rw[hR];refine conN func99 rfl (by kernel_rfl) ?_;conv=>whnf
 refine callS (c_qOf 1 2 (by decide) (by decide) (by decide) (by decide)) rfl rfl ?_;conv=>whnf
 refine⟨Nat×FQ,fun q=>q.1<=65/\halvesF (65-q.1) q.1 q.2=R,fun q=>{ fr:=[(1,.ptr (0,0) 0 0),(3,.ptr (0,2) 0 0),(5,.ptr (1,1) 0 0),(10,i64 (q.1:Nat))],st:=[((0,0),⟨28,3,[rat q.2.q]⟩),((0,2),⟨28,3,[AV.ofVal (ty 28).zero]⟩),((1,1),⟨28,3,[rat hf.q]⟩)],g:=9 },fun q=>65-q.1,(0,x0),⟨Nat.zero_le _,hR⟩,
  ⟨trivial,⟨x_R,x_R,x_R,x_R,trivial⟩,x_S,x_S,x_S,trivial⟩,?_⟩
 rintro⟨i,x⟩ ⟨h1,h2⟩;dsimp only at h1 h2 ⊢;conv=>whnf
 refine Br.mk (fun h=>?_) (fun h=>?_)
 ·have hlt:i<65:=by
   have:=of_decide_eq_true h;omega
  clear h;obtain⟨f,hf'⟩:∃ f,65-i=f+1:=⟨65-i-1,by omega⟩
  rw[hf'] at h2;unfold halvesF at h2;have CC:=c_qCompare x hf;have CM:=c_qMul x hf;conv=>whnf
  cases hc:qCmp x hf with
  |error e =>
   rw[hc] at CC h2;simp only at h2;subst h2;refine cE CC ?_;conv=>whnf
   refine xK ?_;conv=>whnf
   exact⟨fin rfl rfl,fin rfl rfl,fin rfl rfl,trivial⟩
  |ok c =>
   rw[hc] at CC h2;simp only at h2;refine cE CC ?_;conv=>whnf
   refine Br.mk (fun h=>?_) (fun h=>?_)
   ·have hc0:c<=0:=of_decide_eq_true h;rw[if_pos hc0] at h2;subst h2;conv=>whnf
    refine xK ?_;conv=>whnf
    exact⟨fin rfl rfl,fin rfl rfl,fin rfl rfl,trivial⟩
   ·have hc0:¬ c<=0:=of_decide_eq_false h;rw[if_neg hc0] at h2;conv=>whnf
    cases hm:qMul x hf with
    |error e =>
     rw[hm] at CM h2;simp only at h2;subst h2;refine cE CM ?_;conv=>whnf
     refine xK ?_;conv=>whnf
     exact⟨fin rfl rfl,fin rfl rfl,fin rfl rfl,trivial⟩
    |ok y =>
     rw[hm] at CM h2;simp only at h2;refine cE CM ?_;conv=>whnf
     exact⟨(i+1,y),⟨by show i+1<=65; omega,by show halvesF (65-(i+1)) (i+1) y=R; rw[show 65-(i+1)=f by omega]; exact h2⟩,⟨trivial,⟨x_R,x_R,x_R,x_E ((wI (n:=(i:Int)+1) (by omega) (by omega)).trans (by simp)),trivial⟩,x_S,x_S,x_S,trivial⟩,by show 65-(i+1)<65-i; omega⟩
 ·have he:i=65:=by
   have:=of_decide_eq_false h;omega
  subst he;have h2:(0,x,1)=R:=h2;subst h2;conv=>whnf
  refine xK ?_;conv=>whnf
  exact⟨fin rfl rfl,fin rfl rfl,fin rfl rfl,trivial⟩
def resH (r:Except Nat (Nat×FQ)) (j:FQ):AV:=match r with
 |.ok p=>.tup [i64 (p.1:Nat),rat p.2.q,i64 ((0:Nat):Int)]
 |.error e=>.tup [i64 ((0:Nat):Int),rat j.q,i64 ((e+1:Nat):Int)]
theorem c_halves (x:FQ):∃ j,ACalls prog 99 [rat x.q] (resH (mHalves x) j):=by
 have h:=c_halvesF x;have k:=halvesF_eq 65 0 x;unfold mHalves;cases hq:halvesGo 65 0 x with
 |error e =>
  obtain⟨j,hj⟩:=k.2 e hq;rw[hj] at h;exact⟨j,h⟩
 |ok p =>
  obtain⟨n,y⟩:=p;rw[k.1 n y hq] at h;exact⟨q0,h⟩
theorem termsK_lt {b:Nat} (h1:8<=b) (h2:b<=512):(termsGo b 200 0 1).1<200:=by
 have hc:=List.all_eq_true.1 terms_all5 (b-8) (List.mem_range.2 (by omega));rw[show b-8+8=b by omega] at hc;unfold termsChk5 at hc;simp only[Bool.and_eq_true,Bool.or_eq_true,Nat.ble_eq,Nat.blt_eq] at hc;omega
theorem c_mTerms (b:Nat) (h1:8<=b) (h2:b<=512):ACalls prog 85 [i64 (b:Nat)] (.tup [i64 (mTermsK b:Nat),dyad (mTermsD b)]):=by
 have hz:(zI 1).z=1:=zI_zB one_lt_Big;have hlt:=termsK_lt h1 h2;unfold mTermsK mTermsD;obtain⟨R,hR⟩:∃ R,termsGo (b:Int) 200 0 1=R:=⟨_,rfl⟩
 obtain⟨w,hw⟩:∃ w:Nat,w=520:=⟨_,rfl⟩
 rw[hR] at hlt ⊢;refine conN func85 rfl (by kernel_rfl) ?_;conv=>whnf
 refine callS (c_Of 1 (by decide)) rfl rfl ?_;conv=>whnf
 refine⟨Nat×Nat,fun q=>q.1<=200/\q.2<2^(w+10)/\termsGo (b:Int) (200-q.1) q.1 q.2=R,fun q=>{ fr:=[(0,i64 (b:Nat)),(3,.ptr (0,1) 0 0),(4,nat q.2),(5,i64 (q.1:Nat))],st:=[((0,1),⟨76,3,[AV.ofVal (ty 76).zero]⟩)],g:=9 },fun q=>200-q.1,(0,1),⟨Nat.zero_le _,Nat.one_lt_two_pow (by omega),hR⟩,
  ⟨trivial,⟨x_R,x_R,x_R,x_R,trivial⟩,x_S,trivial⟩,?_⟩
 rintro⟨k,s⟩ ⟨k1,k2,k3⟩;dsimp only at k1 k2 k3 ⊢;have hbig:s<Big:=lt_big k2 (by omega);have hw2:IntKind.i64.wrap (((b:Nat):Int)+2)=(b:Int)+2:=wI (by omega) (by omega);conv=>whnf
 refine cE (c_Bits s hbig) ?_;conv=>whnf
 rw[hw2];refine Br.mk (fun h=>?_) (fun h=>?_)
 ·have hbl:(blen s:Int)<(b:Int)+2:=of_decide_eq_true h;clear h;have hk:k<200:=by
   apply Classical.byContradiction;intro c;have e:200-k=0:=by omega
   rw[e] at k3;have:(k,s)=R:=k3;rw[<- this] at hlt;exact c hlt
  obtain⟨f,hf'⟩:∃ f,200-k=f+1:=⟨200-k-1,by omega⟩
  rw[hf'] at k3;unfold termsGo at k3;rw[if_pos hbl] at k3;have hs':s<2^w:=by
   by_cases h0:s=0
   ·rw[h0]; exact Nat.two_pow_pos _
   ·exact Nat.lt_of_lt_of_le (blen_top h0).2.1 (Nat.pow_le_pow_right (by decide) (by omega))
  have hm:s*(2*(k+1))<2^(w+10):=mul_lt_pow hs' (show 2*(k+1)<2^10 by omega);have hmb:s*(2*(k+1))<Big:=lt_big hm (by omega);have e1:IntKind.i64.wrap ((k:Int)+1)=((k+1:Nat):Int):=wI (by omega) (by omega);have e2:IntKind.i64.wrap (2*((k+1:Nat):Int))=((2*(k+1):Nat):Int):=(wI (by omega) (by omega)).trans (by simp);have e3:IntKind.u64.wrap ((2*(k+1):Nat):Int)=((2*(k+1):Nat):Int):=by rw[wU,Nat.mod_eq_of_lt (by omega)]
  have CM:=c_Mul s (2*(k+1)) hbig (lt_big (show 2*(k+1)<2^10 by omega) (by decide));have hfit:fitN (s*(2*(k+1)))=.ok (s*(2*(k+1))):=by simp[fitN,hmb]
  rw[hfit] at CM;conv=>whnf
  rw[e1,e2,e3];refine callS (c_Of (2*(k+1)) (by omega)) rfl rfl ?_;conv=>whnf
  refine cE CM ?_;conv=>whnf
  exact⟨(k+1,s*(2*(k+1))),⟨by show k+1<=200; omega,hm,by show termsGo (b:Int) (200-(k+1)) (k+1) _=R; rw[show 200-(k+1)=f by omega]; exact k3⟩,⟨trivial,⟨x_R,x_R,x_R,x_R,trivial⟩,x_S,trivial⟩,by show 200-(k+1)<200-k; omega⟩
 ·have hbl:¬ (blen s:Int)<(b:Int)+2:=of_decide_eq_false h;clear h;have hP:R=(k,s):=by
   rw[<- k3];cases 200-k with
   |zero=>rfl
   |succ f =>
    unfold termsGo;rw[if_neg hbl]
  subst hP;have hs':blen s<=w+10:=by
   by_cases h0:s=0
   ·subst h0;exact Nat.zero_le _
   ·have:=(blen_top h0).1;have h4:=pow_lt_pow2 (Nat.lt_of_le_of_lt this k2);omega
  have e1:IntKind.i64.wrap (2-(blen s:Int))=2-(blen s:Int):=wI (by omega) (by omega);have CM:=c_dMake (zI 1) (2-(blen s:Int)) (by omega) (by omega);rw[hz] at CM;obtain⟨x1,e1',C1,hx1,he1⟩:=varT CM;show nwp _ _ _ _ _ _ _ _;conv=>whnf
  refine callS (c_wOf 1 (by decide) (by decide)) rfl rfl ?_;conv=>whnf
  refine cE (c_Bits s hbig) ?_;conv=>whnf
  rw[e1];refine cE C1 ?_;conv=>whnf
  refine xK ?_;conv=>whnf
  exact⟨fin rfl rfl,fin rfl (congrArg dyad hx1.symm),trivial⟩
end
section
open Go Go.RowKit Go.Proofs.Tryz
def Six {α:Type} (m:List (List α)):Prop:=m.length<1000000/\Rows6 m
theorem getD_all {α:Type} {m:List (List α)} {c:Nat} (h:∀ i,i<m.length->(m.getD i []).length<c):∀ r∈m,r.length<c:=fun r hr=>by
 obtain⟨i,hi,rfl⟩:=mem_getD (d:=[]) hr;exact h i hi
theorem colsN_six {α:Type} {b:List (List α)} (h:Rows6 b):colsN b<1000000:=by
 cases b with
 |nil=>exact Nat.le_of_ble_eq_true rfl
 |cons r l=>exact h r (by simp)
theorem times_six {bits:Int} {a b m:List (List FS)} (ha:Six a) (hb:Six b) (h:mTimes bits a b=.ok m):Six m:=by
 unfold mTimes mMulG at h;split at h
 ·split at h
  ·refine⟨by rw[runE_len h]; exact ha.1,getD_all fun i hi=>?_⟩;have hi':i<a.length:=by rw[<- runE_len h]; exact hi
   have h1:=runE_get [] h (get_ne (d:=[]) hi');unfold mRow at h1;rw[runE_len h1];have:=colsN_six hb.2;simpa [turnV] using this
  ·cases h
 ·cases h
theorem scaled_six {bits:Int} {a m:List (List FS)} {c:FS} (ha:Six a) (h:mScaled bits a c=.ok m):Six m:=by
 unfold mScaled at h;refine⟨by rw[runE_len h]; exact ha.1,getD_all fun i hi=>?_⟩;have hi':i<a.length:=by rw[<- runE_len h]; exact hi
 have h1:=runE_get [] h (get_ne (d:=[]) hi');unfold vTimes at h1;rw[runE_len h1];exact ha.2 _ (getD_mem hi')
theorem div_six {bits d:Int} {a m:List (List FS)} (ha:Six a) (h:mDiv bits a d=.ok m):Six m:=by
 unfold mDiv at h;cases hs:sNear (qOf 1 d) bits with
 |error e=>rw[hs] at h; cases h
 |ok s =>
  rw[hs] at h;exact scaled_six ha h
theorem plus_six {bits:Int} {a b m:List (List FS)} (ha:Six a) (h:mPlus bits a b=.ok m):Six m:=by
 unfold mPlus at h;split at h
 ·cases h
 ·rename_i hl;have hl:a.length=b.length:=by simpa using hl
  have e:=runE_len h;rw[List.length_zip,<- hl,Nat.min_self] at e;refine⟨by rw[e]; exact ha.1,getD_all fun i hi=>?_⟩;have hi':i<a.length:=by rw[<- e]; exact hi
  have hz:(a.zip b)[i]?=some (a.getD i [],b.getD i []):=by
   have h2:i<b.length:=by omega
   simp[List.getD,List.getElem?_zip_eq_some,hi',h2]
  have h1:=runE_get [] h hz;dsimp only at h1;unfold vPlus at h1;split at h1
  ·cases h1
  ·rename_i hl2;have hl2:(a.getD i []).length=(b.getD i []).length:=by simpa using hl2
   rw[runE_len h1,List.length_zip,<- hl2,Nat.min_self];exact ha.2 _ (getD_mem hi')
theorem near_six {bits:Int} {a:List (List FQ)} {m:List (List FS)} (ha:Six a) (h:mNear a bits=.ok m):Six m:=by
 unfold mNear at h;refine⟨by rw[runE_len h]; exact ha.1,getD_all fun i hi=>?_⟩;have hi':i<a.length:=by rw[<- runE_len h]; exact hi
 have h1:=runE_get [] h (get_ne (d:=[]) hi');unfold vNear at h1;rw[runE_len h1];exact ha.2 _ (getD_mem hi')
theorem clampN_le (n:Int):clampN n<=16:=by
 have:=clamp_b n;unfold clampN;omega
theorem one_six (n:Int):Six (mOne n):=by
 have h:=clampN_le n;refine⟨by unfold mOne; simp; omega,fun r hr=>?_⟩;unfold mOne at hr;obtain⟨k,_,rfl⟩:=List.mem_map.1 hr;rw[vUnit_len];omega
theorem scale_six {a m:List (List FQ)} {c:FQ} (ha:Six a) (h:mScale a c=.ok m):Six m:=by
 unfold mScale at h;refine⟨by rw[runE_len h]; exact ha.1,getD_all fun i hi=>?_⟩;have hi':i<a.length:=by rw[<- runE_len h]; exact hi
 have h1:=runE_get [] h (get_ne (d:=[]) hi');unfold vScale vEach at h1;split at h1
 ·cases h1
 ·rw[runE_len h1,List.length_zip,Nat.min_self];exact ha.2 _ (getD_mem hi')
attribute [local irreducible] zMul zAdd zLeft zRight fitZ qMake zDiv dMake dLevel dRound dNear dAdd dMul dRatio dCmp dMin dMax dAbs dLess qCmp sOut qAdd qMul sAdd sMul sNear qSum sSize vEach vDot vNear vScale vPlus vInner vTimes mScaled mDiv mTimes mPlus mNear mScale mEven mTwice mHalves mNorm
def rest2 (bits:Int) (ev:List (List FS)) (t:FQ) (p:Gw):Except Nat Gw :=
 bnd (mPlus bits p.1 ev) fun E=>bnd (mPlus bits p.2 ev) fun S=>bnd (sNear t bits) fun tm=>bnd (mScaled bits S tm) fun S'=>.ok (E,S')
def jrest (bits:Int) (ev:List (List FS)) (t:FQ) (p:Gw):Gw:=match mPlus bits p.1 ev with
 |.error _=>g0
 |.ok E=>match mPlus bits p.2 ev with
  |.error _=>g0
  |.ok _=>match sNear t bits with
   |.error _=>g0
   |.ok _=>(E,[])
def jSums (bits:Int) (x:List (List FS)) (t:FQ) (k:Nat) (d:FD):Gw:=match mNear (mOne x.length) bits with
 |.error _=>g0
 |.ok one=>match sumsGo bits x (k-1) 1 one one one with
  |.error _=>g0
  |.ok p=>jrest bits (mEven x.length d) t p
theorem sums2_err {bits:Int} {x:List (List FS)} {t:FQ} {k:Nat} {d:FD} {e:Nat} (h:mNear (mOne x.length) bits=.error e):mSums2 bits x t k d=.error e/\jSums bits x t k d=g0:=by
 unfold mSums2 mPre jSums;rw[h];exact⟨rfl,rfl⟩
theorem sums2_err2 {bits:Int} {x one:List (List FS)} {t:FQ} {k:Nat} {d:FD} {e:Nat} (h:mNear (mOne x.length) bits=.ok one) (h2:sumsGo bits x (k-1) 1 one one one=.error e):mSums2 bits x t k d=.error e/\jSums bits x t k d=g0:=by
 unfold mSums2 mPre jSums;rw[h];simp only[bnd];rw[h2];exact⟨rfl,rfl⟩
theorem sums2_ok {bits:Int} {x one:List (List FS)} {t:FQ} {k:Nat} {d:FD} {p:Gw} (h:mNear (mOne x.length) bits=.ok one) (h2:sumsGo bits x (k-1) 1 one one one=.ok p):mSums2 bits x t k d=rest2 bits (mEven x.length d) t p/\jSums bits x t k d=jrest bits (mEven x.length d) t p:=by
 unfold mSums2 mPre jSums rest2;rw[h];simp only[bnd];rw[h2];refine⟨?_,rfl⟩;simp only;cases mPlus bits p.1 (mEven x.length d) with
 |error e=>rfl
 |ok E =>
  simp only;cases mPlus bits p.2 (mEven x.length d) with
  |error e=>rfl
  |ok S=>rfl
abbrev invS (x:List (List FS)) (t:FQ) (d:FD) (bits:Int) (p:Gw):Inv:={ fr:=[(0,lU x),(4,i64 bits),(6,.ptr (0,0) 0 0),(8,.ptr (0,1) 0 0),(10,.ptr (0,2) 0 0),(14,.ptr (3,3) 0 0)],st:=[((0,0),⟨28,3,[rat t.q]⟩),((0,1),⟨76,3,[dyad d]⟩),((0,2),⟨44,2,[AV.ofVal (ty 44).zero]⟩),((3,3),⟨44,2,[gro p]⟩)],g:=30 }
theorem c_mSums (x:List (List FS)) (t:FQ) (k:Nat) (d:FD) (bits:Int) (hb:BOk bits) (hx:Six x) (hk:k<=1000):ACalls prog 186 [lU x,rat t.q,i64 (k:Nat),dyad d,i64 bits] (resG (mSums2 bits x t k d) (jSums bits x t k d)):=by
 have hlen:(((x.map lS).length:Nat):Int)=(x.length:Int):=by simp
 have C1:=c_mOne (x.length:Int);have CN:=c_mNear (mOne x.length) bits hb (one_six _).1 (one_six _).2;cases hN:mNear (mOne x.length) bits with
 |error e =>
  rw[hN] at CN;rw[(sums2_err hN).1,(sums2_err hN).2];refine conP func186 rfl (by kernel_rfl) ?_;refine .gk ?_;conv=>whnf
  refine .gk ?_;conv=>whnf
  rw[hlen];refine cE C1 ?_;conv=>whnf
  refine cE CN ?_;conv=>whnf
  refine pcK ?_;conv=>whnf
  exact⟨.sh _ _ rfl le_g0,fin rfl rfl,trivial⟩
 |ok one =>
  rw[hN] at CN;have h1:=near_six (one_six _) hN;obtain⟨Q,hQ⟩:∃ Q,sumsGo bits x (k-1) 1 one one one=Q:=⟨_,rfl⟩
  obtain⟨R,hR⟩:∃ R,resG (mSums2 bits x t k d) (jSums bits x t k d)=R:=⟨_,rfl⟩
  have hE:∀ e:Nat,Q=.error e->R=.tup [gro g0,i64 ((e+1:Nat):Int)]:=fun e h=>by
   rw[<- hR,(sums2_err2 hN (hQ.trans h)).1,(sums2_err2 hN (hQ.trans h)).2];rfl
  have hO:∀ p:Gw,Q=.ok p->R=resG (rest2 bits (mEven x.length d) t p) (jrest bits (mEven x.length d) t p):=fun p h=>by
   rw[<- hR,(sums2_ok hN (hQ.trans h)).1,(sums2_ok hN (hQ.trans h)).2]
  rw[hR];clear hR;refine conP func186 rfl (by kernel_rfl) ?_;refine .gk ?_;conv=>whnf
  refine .gk ?_;conv=>whnf
  rw[hlen];refine cE C1 ?_;conv=>whnf
  refine cE CN ?_;conv=>whnf
  clear C1 CN;refine .gk ?_;conv=>whnf
  refine .gk ?_;conv=>whnf
  refine .cut (fun p:Gw=>Q=.ok p/\Six p.1/\Six p.2) (invS x t d bits) ?_ ?_
  ·refine .gk ?_;conv=>whnf
   refine .block (.loop (fun q:Nat×List (List FS)×Gw=>1<=q.1/\q.1<=k+1/\Six q.2.1/\Six q.2.2.1/\Six q.2.2.2/\sumsGo bits x (k-q.1) q.1 q.2.1 q.2.2.1 q.2.2.2=Q) (fun q=>{ fr:=[(2,i64 (k:Nat)),(12,lU q.2.1),(15,i64 (q.1:Nat)),(0,lU x),(4,i64 bits),(6,.ptr (0,0) 0 0),(8,.ptr (0,1) 0 0),(10,.ptr (0,2) 0 0),(14,.ptr (3,3) 0 0)],st:=[((0,0),⟨28,3,[rat t.q]⟩),((0,1),⟨76,3,[dyad d]⟩),((0,2),⟨44,2,[AV.ofVal (ty 44).zero]⟩),((3,3),⟨44,2,[gro q.2.2]⟩)],g:=9 }) (fun q=>k+1-q.1) (1,one,one,one) ⟨Nat.le_refl _,by show 1<=k+1; omega,h1,h1,h1,hQ⟩ ?_ ?_)
   ·exact⟨trivial,⟨x_R,x_R,x_R,x_R,x_R,x_R,x_R,x_R,x_R,trivial⟩,x_S,x_S,x_S,x_S,trivial⟩
   rintro⟨j,term,E,S⟩ ⟨j1,j2,t6,E6,S6,hq⟩;dsimp only at j1 j2 t6 E6 S6 hq ⊢;refine .gk ?_;conv=>whnf
   refine Br.mk (fun h=>?_) (fun h=>?_)
   ·have hjk:j<k:=by
     have:=of_decide_eq_true h;omega
    clear h;obtain⟨n,hn⟩:∃ n,k-j=n+1:=⟨k-j-1,by omega⟩
    rw[hn] at hq;have hq:(bnd (mTimes bits term x) fun t1=>bnd (mDiv bits t1 j) fun t2=>bnd (mPlus bits E t2) fun E'=>bnd (mDiv bits t2 (j+1:Nat)) fun nx=>bnd (mPlus bits S nx) fun S'=>sumsGo bits x n (j+1) t2 E' S')=Q:=hq;have ej:IntKind.i64.wrap ((j:Int)+1)=((j+1:Nat):Int):=wI (by omega) (by omega);conv=>whnf
    refine .cut (fun q:List (List FS)×Gw=>Six q.1/\Six q.2.1/\Six q.2.2/\sumsGo bits x n (j+1) q.1 q.2.1 q.2.2=Q) (fun q=>{ fr:=[(2,i64 (k:Nat)),(12,lU q.1),(15,i64 (j:Nat)),(0,lU x),(4,i64 bits),(6,.ptr (0,0) 0 0),(8,.ptr (0,1) 0 0),(10,.ptr (0,2) 0 0),(14,.ptr (3,3) 0 0)],st:=[((0,0),⟨28,3,[rat t.q]⟩),((0,1),⟨76,3,[dyad d]⟩),((0,2),⟨44,2,[AV.ofVal (ty 44).zero]⟩),((3,3),⟨44,2,[gro q.2]⟩)],g:=60 }) ?_ ?_
    ·refine .block ?_;have CA:=c_mTimes term x bits hb t6.1 t6.2 hx.1 hx.2;refine .gk ?_;conv=>whnf
     cases hA:mTimes bits term x with
     |error e =>
      rw[hA] at CA hq;rw[hE e hq.symm];refine cE CA ?_;conv=>whnf
      exact⟨.sh _ _ rfl le_g0,fin rfl rfl,trivial⟩
     |ok t1 =>
      have t16:=times_six t6 hx hA;rw[hA] at CA hq;simp only[bnd] at hq;refine cE CA ?_;conv=>whnf
      clear CA;have CB:=c_mDiv t1 (j:Nat) bits hb (by omega) (by omega) t16.1 t16.2;refine .gk ?_;conv=>whnf
      cases hB:mDiv bits t1 (j:Nat) with
      |error e =>
       rw[hB] at CB hq;rw[hE e hq.symm];refine cE CB ?_;conv=>whnf
       exact⟨.sh _ _ rfl le_g0,fin rfl rfl,trivial⟩
      |ok t2 =>
       have t26:=div_six t16 hB;rw[hB] at CB hq;simp only at hq;refine cE CB ?_;conv=>whnf
       clear CB;have CC:=c_mPlus E t2 bits hb E6.1 E6.2;refine .gk ?_;conv=>whnf
       cases hC:mPlus bits E t2 with
       |error e =>
        rw[hC] at CC hq;rw[hE e hq.symm];refine cE CC ?_;conv=>whnf
        exact⟨.sh _ _ rfl le_g0,fin rfl rfl,trivial⟩
       |ok E' =>
        have E6':=plus_six E6 hC;rw[hC] at CC hq;simp only at hq;refine cE CC ?_;conv=>whnf
        clear CC;have CD:=c_mDiv t2 (j+1:Nat) bits hb (by omega) (by omega) t26.1 t26.2;refine .gk ?_;conv=>whnf
        rw[ej];cases hD:mDiv bits t2 (j+1:Nat) with
        |error e =>
         rw[hD] at CD hq;rw[hE e hq.symm];refine cE CD ?_;conv=>whnf
         refine .gk ?_;conv=>whnf
         exact⟨.sh _ _ rfl le_g0,fin rfl rfl,trivial⟩
        |ok nx =>
         have n6:=div_six t26 hD;rw[hD] at CD hq;simp only at hq;refine cE CD ?_;conv=>whnf
         clear CD;refine .gk ?_;conv=>whnf
         have CF:=c_mPlus S nx bits hb S6.1 S6.2;refine pcK ?_;conv=>whnf
         cases hF:mPlus bits S nx with
         |error e =>
          rw[hF] at CF hq;rw[hE e hq.symm];refine cE CF ?_;conv=>whnf
          exact⟨.sh _ _ rfl le_g0,fin rfl rfl,trivial⟩
         |ok S' =>
          have S6':=plus_six S6 hF;rw[hF] at CF hq;simp only at hq;refine cE CF ?_;conv=>whnf
          exact⟨(t2,E',S'),⟨t26,E6',S6',hq⟩,⟨trivial,⟨x_R,x_R,x_R,x_R,x_R,x_R,x_R,x_R,x_R,trivial⟩,x_S,x_S,x_S,x_S,trivial⟩⟩
    ·rintro⟨t2,E',S'⟩ ⟨t26,E6',S6',hq'⟩;dsimp only at t26 E6' S6' hq' ⊢;refine pcK ?_;conv=>whnf
     exact⟨(j+1,t2,E',S'),⟨by show 1<=j+1; omega,by show j+1<=k+1; omega,t26,E6',S6',by show sumsGo bits x (k-(j+1)) (j+1) t2 E' S'=Q; rw[show k-(j+1)=n by omega]; exact hq'⟩,⟨trivial,⟨x_R,x_R,x_E ej,x_R,x_R,x_R,x_R,x_R,x_R,trivial⟩,x_S,x_S,x_S,x_S,trivial⟩,by show k+1-(j+1)<k+1-j; omega⟩
   ·have hjk:k-j=0:=by
     have:=of_decide_eq_false h;omega
    clear h;rw[hjk] at hq;have hq:Except.ok (E,S)=Q:=hq;conv=>whnf
    exact⟨(E,S),⟨hq.symm,E6,S6⟩,⟨trivial,⟨x_R,x_R,x_R,x_R,x_R,x_R,trivial⟩,x_S,x_S,x_S,x_S,trivial⟩⟩
  ·rintro⟨E,S⟩ ⟨hq,E6,S6⟩;dsimp only at E6 S6;rw[hO _ hq];clear hE hO;have CV:=c_mEven (x.length:Int) d;obtain⟨ev,hev⟩:∃ ev,mEven (x.length:Int) d=ev:=⟨_,rfl⟩
   rw[hev] at CV ⊢;have CA:=c_mPlus E ev bits hb E6.1 E6.2;have CB:=c_mPlus S ev bits hb S6.1 S6.2;have CT:=c_sNear t bits hb;dsimp only;refine .gk ?_;conv=>whnf
   rw[hlen];refine cE CV ?_;conv=>whnf
   cases hA:mPlus bits E ev with
   |error e =>
    rw[hA] at CA;have:resG (rest2 bits ev t (E,S)) (jrest bits ev t (E,S))=.tup [gro g0,i64 ((e+1:Nat):Int)]:=by unfold rest2 jrest; rw[hA]; rfl
    rw[this];refine .gk ?_;conv=>whnf
    refine cE CA ?_;conv=>whnf
    exact⟨.sh _ _ rfl le_g0,fin rfl rfl,trivial⟩
   |ok E' =>
    rw[hA] at CA;refine .gk ?_;conv=>whnf
    refine cE CA ?_;conv=>whnf
    cases hB:mPlus bits S ev with
    |error e =>
     rw[hB] at CB;have:resG (rest2 bits ev t (E,S)) (jrest bits ev t (E,S))=.tup [gro g0,i64 ((e+1:Nat):Int)]:=by unfold rest2 jrest; rw[hA]; simp only[bnd]; rw[hB]; rfl
     rw[this];refine .gk ?_;conv=>whnf
     refine cE CB ?_;conv=>whnf
     exact⟨.sh _ _ rfl le_g0,fin rfl rfl,trivial⟩
    |ok S' =>
     have S6':=plus_six S6 hB;rw[hB] at CB;refine .gk ?_;conv=>whnf
     refine cE CB ?_;conv=>whnf
     cases hT:sNear t bits with
     |error e =>
      rw[hT] at CT;have:resG (rest2 bits ev t (E,S)) (jrest bits ev t (E,S))=.tup [gro g0,i64 ((e+1:Nat):Int)]:=by unfold rest2 jrest; rw[hA]; simp only[bnd]; rw[hB]; simp only; rw[hT]; rfl
      rw[this];refine .gk ?_;conv=>whnf
      refine cE CT ?_;conv=>whnf
      refine .gk ?_;conv=>whnf
      exact⟨.sh _ _ rfl le_g0,fin rfl rfl,trivial⟩
     |ok tm =>
      rw[hT] at CT;have CS:=c_mScaled S' tm bits hb S6'.1 S6'.2;obtain⟨x1,e1,C1,hx1,he1⟩:=varT CS;have:resG (rest2 bits ev t (E,S)) (jrest bits ev t (E,S))=.tup [gro (E',x1),i64 (e1:Nat)]:=by
       unfold rest2 jrest;rw[hA];simp only[bnd];rw[hB];simp only;rw[hT];simp only;rw[<- hx1,<- he1];cases mScaled bits S' tm <;> rfl
      rw[this];refine .gk ?_;conv=>whnf
      refine cE CT ?_;conv=>whnf
      refine .gk ?_;conv=>whnf
      refine .gk ?_;conv=>whnf
      refine cE C1 ?_;conv=>whnf
      refine pcK ?_;conv=>whnf
      exact⟨fin rfl rfl,fin rfl rfl,trivial⟩
end
section
open Go Go.RowKit Go.Proofs.Tryz
theorem bnd_inv {α β:Type} {r:Except Nat α} {f:α->Except Nat β} {y:β} (h:bnd r f=.ok y):∃ x,r=.ok x/\f x=.ok y:=by
 cases r with
 |error e=>cases h
 |ok x=>exact⟨x,rfl,h⟩
theorem sumsGo_six {bits:Int} {x:List (List FS)} (hx:Six x):∀ (n j:Nat) {t E S:List (List FS)} {q:Gw},Six t->Six E->Six S->sumsGo bits x n j t E S=.ok q->Six q.1/\Six q.2
 |0,j,t,E,S,q,ht,hE,hS,h=>by
  cases h;exact⟨hE,hS⟩
 |n+1,j,t,E,S,q,ht,hE,hS,h=>by
  obtain⟨t1,a1,h⟩:=bnd_inv h;obtain⟨t2,a2,h⟩:=bnd_inv h;obtain⟨E',a3,h⟩:=bnd_inv h;obtain⟨nx,a4,h⟩:=bnd_inv h;obtain⟨S',a5,h⟩:=bnd_inv h;have s1:=times_six ht hx a1;exact sumsGo_six hx n (j+1) (div_six s1 a2) (plus_six hE a3) (plus_six hS a5) h
theorem sums2_six {bits:Int} {x:List (List FS)} {t:FQ} {k:Nat} {d:FD} {q:Gw} (hx:Six x) (h:mSums2 bits x t k d=.ok q):Six q.1/\Six q.2:=by
 unfold mSums2 mPre at h;obtain⟨p,h1,h⟩:=bnd_inv h;obtain⟨one,b1,h1⟩:=bnd_inv h1;obtain⟨w,b2,h1⟩:=bnd_inv h1;obtain⟨E,b3,h1⟩:=bnd_inv h1;obtain⟨S,b4,h1⟩:=bnd_inv h1;cases h1;obtain⟨tm,c1,h⟩:=bnd_inv h;obtain⟨S',c2,h⟩:=bnd_inv h;cases h;have s1:=near_six (one_six _) b1;have s2:=sumsGo_six hx _ _ s1 s1 s1 b2;exact⟨plus_six s2.1 b3,scaled_six (plus_six s2.2 b4) c2⟩
theorem small_six {m:List (List FQ)} {t:FQ} {n:Nat} {bits:Int} {q:Gw} (hm:Six m) (h:mSmall m t n bits=.ok q):Six q.1/\Six q.2:=by
 unfold mSmall at h;obtain⟨p,h1,h⟩:=bnd_inv h;obtain⟨x,h2,h⟩:=bnd_inv h;obtain⟨tm,h3,h⟩:=bnd_inv h;obtain⟨s,h4,h⟩:=bnd_inv h;exact sums2_six (near_six (scale_six hm h2) h4) h
theorem twice_six {bits:Int} {p q:Gw} (hp:Six p.1/\Six p.2) (h:mTwice bits p=.ok q):Six q.1/\Six q.2:=by
 unfold mTwice at h;obtain⟨nx,h1,h⟩:=bnd_inv h;obtain⟨S,h2,h⟩:=bnd_inv h;obtain⟨E,h3,h⟩:=bnd_inv h;cases h;exact⟨times_six hp.1 hp.1 h3,plus_six hp.2 h2⟩
theorem halves_le:∀ (f n:Nat) (x:FQ) (m:Nat) (y:FQ),halvesGo f n x=.ok (m,y)->m<n+f
 |0,n,x,m,y,h=>by cases h
 |f+1,n,x,m,y,h=>by
  obtain⟨c,h1,h⟩:=bnd_inv h;by_cases hc:c<=0
  ·rw[if_pos hc] at h;cases h;omega
  ·rw[if_neg hc] at h;obtain⟨z,h2,h⟩:=bnd_inv h;have:=halves_le f (n+1) z m y h;omega
attribute [local irreducible] zMul zAdd zLeft zRight fitZ qMake zDiv dMake dLevel dRound dNear dAdd dMul dRatio dCmp dMin dMax dAbs dLess qCmp sOut qAdd qMul sAdd sMul sNear qSum sSize vEach vDot vNear vScale vPlus vInner vTimes mScaled mDiv mTimes mPlus mNear mScale mEven mTwice mHalves mNorm mSums2 mTermsD mTermsK partQ
theorem leftN_one {n:Nat} (hn:n<=64):leftN 1 n=.ok (2^n):=by
 have h:2^n<Big:=lt_big (Nat.pow_lt_pow_right (by decide) (Nat.lt_succ_self n)) (by omega);have h2:¬ n > 16384:=by omega
 simp[leftN,fitN,h,h2]
theorem c_mSmall (m:List (List FQ)) (t:FQ) (n b:Nat) (hb1:8<=b) (hb2:b<=512) (hn:n<=64) (hm:Six m):∃ j,ACalls prog 100 [lT m,rat t.q,i64 (n:Nat),i64 (b:Nat)] (resG (mSmall m t n b) j):=by
 have hBO:BOk (b:Nat):=⟨by omega,by omega⟩
 have hz:(zI 1).z=1:=zI_zB one_lt_Big;have h2B:2^n<Big:=lt_big (Nat.pow_lt_pow_right (by decide) (Nat.lt_succ_self n)) (by omega);have hz2:(zI ((2^n:Nat):Int)).z=((2^n:Nat):Int):=zI_zB (by rw[Int.natAbs_natCast]; exact h2B);have C1:=c_Of 1 (by decide);have C2:=c_Left 1 n (lt_big (k:=1) (by decide) (by decide)) (by omega);rw[leftN_one hn] at C2;have C3:=c_wOf 1 (by decide) (by decide);have C4:=c_wNat (2^n) h2B;have C5:=c_qMake (zI 1) (zI ((2^n:Nat):Int));rw[hz,hz2] at C5;obtain⟨p,hp,_⟩:=part_ok hn;have hp':qMake (zI 1) (zI ((2^n:Nat):Int))=.ok p:=by with_unfolding_all exact hp
 rw[hp'] at C5;obtain⟨W,hW⟩:∃ W,2^n=W:=⟨_,rfl⟩
 rw[hW] at C2 C4 C5;have C6:=c_mScale m p hm.1 hm.2;have C7:=c_qMul t p;have hsm:mSmall m t n b=bnd (mScale m p) fun x=>bnd (qMul t p) fun tm=>bnd (mNear x b) fun s=>mSums2 b s tm (mTermsK b) (mTermsD b):=by
  unfold mSmall;rw[bnd_ok hp]
 rw[hsm];have pre:∀ {R:AV} {Q:Prop},Q->Q:=fun h=>h
 cases hA:mScale m p with
 |error e =>
  rw[hA] at C6;refine⟨g0,?_⟩;show ACalls prog _ _ (.tup [gro g0,i64 ((e+1:Nat):Int)]);refine conP func100 rfl (by kernel_rfl) ?_;refine .gk ?_;conv=>whnf
  refine .gk ?_;conv=>whnf
  refine cE C1 ?_;conv=>whnf
  refine cE C2 ?_;conv=>whnf
  refine .gk ?_;conv=>whnf
  refine cE C3 ?_;conv=>whnf
  refine cE C4 ?_;conv=>whnf
  refine cE C5 ?_;conv=>whnf
  refine .gk ?_;conv=>whnf
  refine .gk ?_;conv=>whnf
  refine cE C6 ?_;conv=>whnf
  refine .gk ?_;conv=>whnf
  exact⟨.sh _ _ rfl le_g0,fin rfl rfl,trivial⟩
 |ok x =>
  have hx:=scale_six hm hA;rw[hA] at C6;have C8:=c_mNear x b hBO hx.1 hx.2;simp only[bnd];cases hB:qMul t p with
  |error e =>
   rw[hB] at C7;refine⟨g0,?_⟩;show ACalls prog _ _ (.tup [gro g0,i64 ((e+1:Nat):Int)]);refine conP func100 rfl (by kernel_rfl) ?_;refine .gk ?_;conv=>whnf
   refine .gk ?_;conv=>whnf
   refine cE C1 ?_;conv=>whnf
   refine cE C2 ?_;conv=>whnf
   refine .gk ?_;conv=>whnf
   refine cE C3 ?_;conv=>whnf
   refine cE C4 ?_;conv=>whnf
   refine cE C5 ?_;conv=>whnf
   refine .gk ?_;conv=>whnf
   refine .gk ?_;conv=>whnf
   refine cE C6 ?_;conv=>whnf
   refine .gk ?_;conv=>whnf
   refine .gk ?_;conv=>whnf
   refine cE C7 ?_;conv=>whnf
   refine .gk ?_;conv=>whnf
   exact⟨.sh _ _ rfl le_g0,fin rfl rfl,trivial⟩
  |ok tm =>
   rw[hB] at C7;simp only;cases hC:mNear x b with
   |error e =>
    rw[hC] at C8;refine⟨g0,?_⟩;show ACalls prog _ _ (.tup [gro g0,i64 ((e+1:Nat):Int)]);refine conP func100 rfl (by kernel_rfl) ?_;refine .gk ?_;conv=>whnf
    refine .gk ?_;conv=>whnf
    refine cE C1 ?_;conv=>whnf
    refine cE C2 ?_;conv=>whnf
    refine .gk ?_;conv=>whnf
    refine cE C3 ?_;conv=>whnf
    refine cE C4 ?_;conv=>whnf
    refine cE C5 ?_;conv=>whnf
    refine .gk ?_;conv=>whnf
    refine .gk ?_;conv=>whnf
    refine cE C6 ?_;conv=>whnf
    refine .gk ?_;conv=>whnf
    refine .gk ?_;conv=>whnf
    refine cE C7 ?_;conv=>whnf
    refine .gk ?_;conv=>whnf
    refine .gk ?_;conv=>whnf
    refine cE C8 ?_;conv=>whnf
    refine .gk ?_;conv=>whnf
    exact⟨.sh _ _ rfl le_g0,fin rfl rfl,trivial⟩
   |ok s =>
    have hs:=near_six hx hC;rw[hC] at C8;obtain⟨lam,hT⟩:=terms_T hb1 hb2;have C9:=c_mTerms b hb1 hb2;have C10:=c_mSums s tm (mTermsK b) (mTermsD b) b hBO hs (by have:=hT.hk; omega);refine⟨jSums b s tm (mTermsK b) (mTermsD b),?_⟩;simp only;obtain⟨r,hr⟩:∃ r,mSums2 b s tm (mTermsK b) (mTermsD b)=r:=⟨_,rfl⟩
    obtain⟨j,hj⟩:∃ j,jSums b s tm (mTermsK b) (mTermsD b)=j:=⟨_,rfl⟩
    rw[hr,hj] at C10 ⊢;obtain⟨K,hK⟩:∃ K,mTermsK b=K:=⟨_,rfl⟩
    obtain⟨D,hD⟩:∃ D,mTermsD b=D:=⟨_,rfl⟩
    rw[hK,hD] at C9 C10;unfold resG at C10 ⊢;obtain⟨y,hy⟩:∃ y,okOr j r=y:=⟨_,rfl⟩
    obtain⟨e,he⟩:∃ e,errN r=e:=⟨_,rfl⟩
    rw[hy,he] at C10 ⊢;refine conP func100 rfl (by kernel_rfl) ?_;refine .gk ?_;conv=>whnf
    refine .gk ?_;conv=>whnf
    refine cE C1 ?_;conv=>whnf
    refine cE C2 ?_;conv=>whnf
    refine .gk ?_;conv=>whnf
    refine cE C3 ?_;conv=>whnf
    refine cE C4 ?_;conv=>whnf
    refine cE C5 ?_;conv=>whnf
    refine .gk ?_;conv=>whnf
    refine .gk ?_;conv=>whnf
    refine cE C6 ?_;conv=>whnf
    refine .gk ?_;conv=>whnf
    refine .gk ?_;conv=>whnf
    refine cE C7 ?_;conv=>whnf
    refine .gk ?_;conv=>whnf
    refine .gk ?_;conv=>whnf
    refine cE C8 ?_;conv=>whnf
    refine .gk ?_;conv=>whnf
    refine .gk ?_;conv=>whnf
    refine cE C9 ?_;conv=>whnf
    refine pcK ?_;conv=>whnf
    refine cE C10 ?_;conv=>whnf
    exact⟨fin rfl rfl,fin rfl rfl,trivial⟩
end
section
open Go Go.RowKit Go.Proofs.Tryz
theorem bnd_okk {α β:Type} (x:α) (f:α->Except Nat β):bnd (.ok x) f=f x:=rfl
def goJ (bits:Int):Nat->Gw->Nat->Gw×Nat
 |0,p,e=>(p,e)
 |m+1,p,e=>if e=0 then goJ bits m (okOr (jTw bits p) (mTwice bits p)) (errN (mTwice bits p)) else (g0,e)
theorem goJ_err (bits:Int) (m:Nat) (p:Gw) (e:Nat):∃ j,goJ bits m p (e+1)=(j,e+1):=by
 cases m with
 |zero=>exact⟨p,rfl⟩
 |succ m =>
  unfold goJ;rw[if_neg (by omega)];exact⟨g0,rfl⟩
theorem goJ_eq (bits:Int):∀ (m:Nat) (p:Gw),(∀ q,twiceGo bits m p=.ok q->goJ bits m p 0=(q,0))/\(∀ e,twiceGo bits m p=.error e->∃ j,goJ bits m p 0=(j,e+1))
 |0,p=>⟨fun q h=>by cases h; rfl,fun e h=>by cases h⟩
 |m+1,p=>by
  unfold twiceGo goJ;rw[if_pos rfl];cases mTwice bits p with
  |error e' =>
   refine⟨fun q h=>(by cases h),fun e h=>?_⟩;cases h;exact goJ_err bits m _ e'
  |ok q'=>exact goJ_eq bits m q'
attribute [local irreducible] zMul zAdd zLeft zRight fitZ qMake zDiv dMake dLevel dRound dNear dAdd dMul dRatio dCmp dMin dMax dAbs dLess qCmp sOut qAdd qMul sAdd sMul sNear qSum sSize vEach vDot vNear vScale vPlus vInner vTimes mScaled mDiv mTimes mPlus mNear mScale mEven mTwice mHalves mNorm mSums2 mTermsD mTermsK partQ mSmall mCheck qSgn
theorem c_mMake0 (a:List (List FQ)) (t:FQ) (bits:Int) (h:bits<8\/bits > 512\/qSgn t<0):ACalls prog 22 [lT a,rat t.q,i64 bits] (.tup [gro g0,i64 1]):=by
 have CS:=c_qSign t;obtain⟨s,hs⟩:∃ s,qSgn t=s:=⟨_,rfl⟩
 rw[hs] at CS h;refine conP func22 rfl (by kernel_rfl) ?_;refine .gk ?_;conv=>whnf
 refine .gk ?_;conv=>whnf
 by_cases h1:bits<8
 ·rw[decide_eq_true h1];conv=>whnf
  exact⟨.sh _ _ rfl le_g0,fin rfl rfl,trivial⟩
 rw[decide_eq_false h1];conv=>whnf
 by_cases h2:bits > 512
 ·rw[decide_eq_true h2];conv=>whnf
  exact⟨.sh _ _ rfl le_g0,fin rfl rfl,trivial⟩
 rw[decide_eq_false h2];conv=>whnf
 have h3:s<0:=by
  rcases h with h | h | h
  ·exact absurd h h1
  ·exact absurd h h2
  ·exact h
 refine cE CS ?_;conv=>whnf
 rw[decide_eq_true h3];conv=>whnf
 exact⟨.sh _ _ rfl le_g0,fin rfl rfl,trivial⟩
theorem c_mMake1 (a:List (List FQ)) (t:FQ) (b:Nat) (hb1:8<=b) (hb2:b<=512) (ht:¬ qSgn t<0) (ha:Six a):∃ j,ACalls prog 22 [lT a,rat t.q,i64 (b:Nat)] (resG (mMake a t b) j):=by
 have hBO:BOk (b:Nat):=⟨by omega,by omega⟩
 have hlen:(((a.map lQ).length:Nat):Int)=(a.length:Int):=by simp
 have CS:=c_qSign t;obtain⟨s,hs⟩:∃ s,qSgn t=s:=⟨_,rfl⟩
 have CK:=c_mCheck a a.length a.length ha.1 ha.2;have hmk:mMake a t b=if mCheck a a.length a.length≠0 then .error 19 else bnd (mScale a t) fun m=>bnd (mNorm m) fun norm=>bnd (mHalves norm) fun h=>bnd (mSmall m t h.1 b) fun p=>twiceGo b h.1 p:=by
  unfold mMake;rw[if_neg (by omega)]
 have hck:mCheck a a.length a.length=0\/mCheck a a.length a.length=20:=by
  with_unfolding_all
  unfold mCheck;split
  ·exact .inr rfl
  ·exact .inl rfl
 rw[hmk];clear hmk;obtain⟨c,hc⟩:∃ c,mCheck a a.length a.length=c:=⟨_,rfl⟩
 rw[hs] at CS ht;rw[hc] at CK hck ⊢;have hs0:¬ s<0:=ht;clear ht;rcases hck with rfl | rfl
 case inr =>
  rw[if_pos (by decide)];refine⟨g0,?_⟩;show ACalls prog _ _ (.tup [gro g0,i64 20]);refine conP func22 rfl (by kernel_rfl) ?_;refine .gk ?_;conv=>whnf
  refine .gk ?_;conv=>whnf
  rw[decide_eq_false (by omega:¬ ((b:Nat):Int)<8)];conv=>whnf
  rw[decide_eq_false (by omega:¬ ((b:Nat):Int) > 512)];conv=>whnf
  refine cE CS ?_;conv=>whnf
  rw[decide_eq_false hs0];conv=>whnf
  refine .gk ?_;conv=>whnf
  rw[hlen];refine cE CK ?_;conv=>whnf
  exact⟨.sh _ _ rfl le_g0,fin rfl rfl,trivial⟩
 rw[if_neg (by decide)];have CA:=c_mScale a t ha.1 ha.2;cases hA:mScale a t with
 |error e =>
  rw[hA] at CA;refine⟨g0,?_⟩;show ACalls prog _ _ (.tup [gro g0,i64 ((e+1:Nat):Int)]);refine conP func22 rfl (by kernel_rfl) ?_;refine .gk ?_;conv=>whnf
  refine .gk ?_;conv=>whnf
  rw[decide_eq_false (by omega:¬ ((b:Nat):Int)<8)];conv=>whnf
  rw[decide_eq_false (by omega:¬ ((b:Nat):Int) > 512)];conv=>whnf
  refine cE CS ?_;conv=>whnf
  rw[decide_eq_false hs0];conv=>whnf
  refine .gk ?_;conv=>whnf
  rw[hlen];refine cE CK ?_;conv=>whnf
  refine .gk ?_;conv=>whnf
  refine cE CA ?_;conv=>whnf
  refine .gk ?_;conv=>whnf
  exact⟨.sh _ _ rfl le_g0,fin rfl rfl,trivial⟩
 |ok m =>
  have hm:=scale_six ha hA;rw[hA] at CA;have CB:=c_mNorm m hm.1 hm.2;rw[bnd_okk];cases hB:mNorm m with
  |error e =>
   rw[hB] at CB;refine⟨g0,?_⟩;show ACalls prog _ _ (.tup [gro g0,i64 ((e+1:Nat):Int)]);refine conP func22 rfl (by kernel_rfl) ?_;refine .gk ?_;conv=>whnf
   refine .gk ?_;conv=>whnf
   rw[decide_eq_false (by omega:¬ ((b:Nat):Int)<8)];conv=>whnf
   rw[decide_eq_false (by omega:¬ ((b:Nat):Int) > 512)];conv=>whnf
   refine cE CS ?_;conv=>whnf
   rw[decide_eq_false hs0];conv=>whnf
   refine .gk ?_;conv=>whnf
   rw[hlen];refine cE CK ?_;conv=>whnf
   refine .gk ?_;conv=>whnf
   refine cE CA ?_;conv=>whnf
   refine .gk ?_;conv=>whnf
   refine .gk ?_;conv=>whnf
   refine cE CB ?_;conv=>whnf
   refine .gk ?_;conv=>whnf
   exact⟨.sh _ _ rfl le_g0,fin rfl rfl,trivial⟩
  |ok norm =>
   rw[hB] at CB;rw[bnd_okk];obtain⟨jH,CH⟩:=c_halves norm;cases hH:mHalves norm with
   |error e =>
    rw[hH] at CH;refine⟨g0,?_⟩;show ACalls prog _ _ (.tup [gro g0,i64 ((e+1:Nat):Int)]);refine conP func22 rfl (by kernel_rfl) ?_;refine .gk ?_;conv=>whnf
    refine .gk ?_;conv=>whnf
    rw[decide_eq_false (by omega:¬ ((b:Nat):Int)<8)];conv=>whnf
    rw[decide_eq_false (by omega:¬ ((b:Nat):Int) > 512)];conv=>whnf
    refine cE CS ?_;conv=>whnf
    rw[decide_eq_false hs0];conv=>whnf
    refine .gk ?_;conv=>whnf
    rw[hlen];refine cE CK ?_;conv=>whnf
    refine .gk ?_;conv=>whnf
    refine cE CA ?_;conv=>whnf
    refine .gk ?_;conv=>whnf
    refine .gk ?_;conv=>whnf
    refine cE CB ?_;conv=>whnf
    refine .gk ?_;conv=>whnf
    refine .gk ?_;conv=>whnf
    refine cE CH ?_;conv=>whnf
    refine .gk ?_;conv=>whnf
    exact⟨.sh _ _ rfl le_g0,fin rfl rfl,trivial⟩
   |ok nh =>
    obtain⟨n,hq⟩:=nh;have hn:n<=64:=by
     have h:halvesGo 65 0 norm=.ok (n,hq):=by with_unfolding_all exact hH
     have:=halves_le _ _ _ _ _ h;omega
    rw[hH] at CH;rw[bnd_okk];obtain⟨jS,CD⟩:=c_mSmall m t n b hb1 hb2 hn hm;have h6:=fun q=>small_six (m:=m) (t:=t) (n:=n) (bits:=(b:Int)) (q:=q) hm
    obtain⟨r,hr⟩:∃ r,mSmall m t n b=r:=⟨_,rfl⟩
    rw[hr] at CD h6 ⊢;unfold resG at CD;obtain⟨p0,hp0⟩:∃ p0,okOr jS r=p0:=⟨_,rfl⟩
    obtain⟨e0,he0⟩:∃ e0,errN r=e0:=⟨_,rfl⟩
    rw[hp0,he0] at CD;have hp6:e0=0->Six p0.1/\Six p0.2:=fun h=>by
     cases r with
     |error e=>rw[<- he0] at h; cases h
     |ok q =>
      have:q=p0:=hp0;rw[<- this];exact h6 q rfl
    obtain⟨G,hG⟩:∃ G,goJ b n p0 e0=G:=⟨_,rfl⟩
    have hres:∃ j,resG (bnd r fun x=>twiceGo b n x) j=.tup [gro G.1,i64 (G.2:Nat)]:=by
     cases r with
     |error e =>
      have e1:e+1=e0:=he0;obtain⟨j,hj⟩:=goJ_err b n p0 e;rw[e1,hG] at hj;exact⟨j,by rw[hj,<- e1]; rfl⟩
     |ok q =>
      have e1:q=p0:=hp0;have e2:0=e0:=he0;subst e1 e2;have k:=goJ_eq b n q;cases hT:twiceGo b n q with
      |ok w =>
       have:=k.1 w hT;rw[hG] at this;exact⟨g0,by rw[this,bnd_okk,hT]; rfl⟩
      |error e =>
       obtain⟨j,hj⟩:=k.2 e hT;rw[hG] at hj;exact⟨j,by rw[hj,bnd_okk,hT]; rfl⟩
    obtain⟨j,hj⟩:=hres;refine⟨j,?_⟩;show ACalls prog _ _ (resG (bnd r fun x=>twiceGo b n x) j);rw[hj];clear hj hr h6 hp0 he0;refine conP func22 rfl (by kernel_rfl) ?_;refine .gk ?_;conv=>whnf
    refine .gk ?_;conv=>whnf
    rw[decide_eq_false (by omega:¬ ((b:Nat):Int)<8)];conv=>whnf
    rw[decide_eq_false (by omega:¬ ((b:Nat):Int) > 512)];conv=>whnf
    refine cE CS ?_;conv=>whnf
    rw[decide_eq_false hs0];conv=>whnf
    refine .gk ?_;conv=>whnf
    rw[hlen];refine cE CK ?_;conv=>whnf
    refine .gk ?_;conv=>whnf
    refine cE CA ?_;conv=>whnf
    refine .gk ?_;conv=>whnf
    refine .gk ?_;conv=>whnf
    refine cE CB ?_;conv=>whnf
    refine .gk ?_;conv=>whnf
    refine .gk ?_;conv=>whnf
    refine cE CH ?_;conv=>whnf
    refine .gk ?_;conv=>whnf
    refine .gk ?_;conv=>whnf
    refine cE CD ?_;conv=>whnf
    clear CA CB CH CD CS CK;refine .cut (fun _:Unit=>True) (fun _=>{ fr:=[(6,.ptr (0,1) 0 0),(10,i64 (G.2:Nat)),(14,.ptr (10,8) 0 0)],st:=[((0,1),⟨44,2,[AV.ofVal (ty 44).zero]⟩),((10,8),⟨44,2,[gro G.1]⟩)],g:=60 }) ?_ ?_
    ·refine .gk ?_;conv=>whnf
     refine .block (.loop (fun q:Nat×Gw×Nat=>q.1<=n/\(q.2.2=0->Six q.2.1.1/\Six q.2.1.2)/\goJ b (n-q.1) q.2.1 q.2.2=G) (fun q=>{ fr:=[(2,i64 (b:Nat)),(6,.ptr (0,1) 0 0),(10,i64 (q.2.2:Nat)),(14,.ptr (10,8) 0 0),(74,i64 (n:Nat)),(75,i64 (q.1:Nat))],st:=[((0,1),⟨44,2,[AV.ofVal (ty 44).zero]⟩),((10,8),⟨44,2,[gro q.2.1]⟩)],g:=30 }) (fun q=>n-q.1) (0,p0,e0) ⟨Nat.zero_le _,hp6,hG⟩ ?_ ?_)
     ·exact⟨trivial,⟨x_R,x_R,x_R,x_R,x_R,x_R,trivial⟩,x_S,x_S,trivial⟩
     rintro⟨i,p,e⟩ ⟨i1,i2,i3⟩;dsimp only at i1 i2 i3 ⊢;refine .gk ?_;conv=>whnf
     refine .gk ?_;conv=>whnf
     refine Br.mk (fun h=>?_) (fun h=>?_)
     ·have hlt:i<n:=by
       have:=of_decide_eq_true h;omega
      clear h;obtain⟨w,hw⟩:∃ w,n-i=w+1:=⟨n-i-1,by omega⟩
      rw[hw] at i3;unfold goJ at i3;have CT:=fun h:Six p.1/\Six p.2=>c_mTwice p b hBO h.1.1 h.1.2 h.2.1 h.2.2
      conv=>whnf
      refine .cut (fun q:Gw×Nat=>(q.2=0->Six q.1.1/\Six q.1.2)/\goJ b w q.1 q.2=G) (fun q=>{ fr:=[(2,i64 (b:Nat)),(6,.ptr (0,1) 0 0),(10,i64 (q.2:Nat)),(14,.ptr (10,8) 0 0),(74,i64 (n:Nat)),(75,i64 (i:Nat))],st:=[((0,1),⟨44,2,[AV.ofVal (ty 44).zero]⟩),((10,8),⟨44,2,[gro q.1]⟩)],g:=50 }) ?_ ?_
      ·refine .block ?_;refine pcK ?_;conv=>whnf
       refine Br.mk (fun h=>?_) (fun h=>?_)
       ·have z:=lit0 h;rw[if_neg z] at i3;subst i3;conv=>whnf
        exact⟨.sh _ _ rfl le_g0,fin rfl rfl,trivial⟩
       ·have z:=lit1 h;rw[if_pos z] at i3;have C:=CT (i2 z);have t6:=fun q=>twice_six (bits:=(b:Int)) (q:=q) (i2 z)
        unfold resG at C;obtain⟨r,hr⟩:∃ r,mTwice b p=r:=⟨_,rfl⟩
        rw[hr] at C i3 t6;obtain⟨x1,h1⟩:∃ x1,okOr (jTw b p) r=x1:=⟨_,rfl⟩
        obtain⟨e1,h2⟩:∃ e1,errN r=e1:=⟨_,rfl⟩
        rw[h1,h2] at C i3;conv=>whnf
        refine cE C ?_;conv=>whnf
        exact⟨(x1,e1),⟨fun h=>by
         cases r with
         |error e=>rw[<- h2] at h; cases h
         |ok q =>
          have:q=x1:=h1;rw[<- this];exact t6 q rfl,i3⟩,⟨trivial,⟨x_R,x_R,x_R,x_R,x_R,x_R,trivial⟩,x_S,x_S,trivial⟩⟩
      ·rintro⟨p',e'⟩ ⟨k1,k2⟩;dsimp only at k1 k2 ⊢;refine pcK ?_;conv=>whnf
       exact⟨(i+1,p',e'),⟨by show i+1<=n; omega,k1,by show goJ b (n-(i+1)) p' e'=G; rw[show n-(i+1)=w by omega]; exact k2⟩,⟨trivial,⟨x_R,x_R,x_R,x_R,x_R,x_E ((wI (n:=(i:Int)+1) (by omega) (by omega)).trans (by simp)),trivial⟩,x_S,x_S,trivial⟩,by show n-(i+1)<n-i; omega⟩
     ·have he:n-i=0:=by
       have:=of_decide_eq_false h;omega
      clear h;rw[he] at i3;have i3:(p,e)=G:=i3;subst i3;conv=>whnf
      exact⟨(),trivial,⟨trivial,⟨x_R,x_R,x_R,trivial⟩,x_S,x_S,trivial⟩⟩
    ·rintro⟨⟩ _;refine pcK ?_;conv=>whnf
     exact⟨fin rfl rfl,fin rfl rfl,trivial⟩
theorem c_mMake (a:List (List FQ)) (t:FQ) (bits:Int) (ha:Six a):∃ j,ACalls prog 22 [lT a,rat t.q,i64 bits] (resG (mMake a t bits) j):=by
 by_cases h:bits<8\/bits > 512\/qSgn t<0
 ·refine⟨g0,?_⟩;have:mMake a t bits=.error 0:=by
   unfold mMake;rw[if_pos h]
  rw[this];exact c_mMake0 a t bits h
 ·obtain⟨b,rfl⟩:∃ b:Nat,bits=(b:Int):=⟨bits.toNat,by omega⟩
  exact c_mMake1 a t b (by omega) (by omega) (fun q=>h (.inr (.inr q))) ha
end
end Go.Proofs.YtjdkdcmpifapeaaGreatDoor.Abs
