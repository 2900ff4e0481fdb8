/- Numbers as texts: whole ones, ratios, spans. -/
import Derived.Test.YtjdkdcmpifapeaaGreatDoorMj
import Derived.Test.YtjdkdcmpifapeaaGreatDoorMl
import Derived.Test.YtjdkdcmpifapeaaGreatDoorMv
import Derived.KernelRfl
set_option linter.unusedVariables false
set_option linter.unusedSectionVars false
set_option linter.unusedSimpArgs false
set_option maxHeartbeats 4000000
set_option maxRecDepth 10000
namespace Go.Proofs.YtjdkdcmpifapeaaGreatDoor.Abs
section
open Go Go.RowKit Go.Proofs.Tryz
theorem times_sq {n:Nat} {bits:Int} {a b m:List (List FS)} (ha:SqG n a) (hb:SqG n b) (h:mTimes bits a b=.ok m):SqG n m:=by
 obtain⟨rp,cp⟩:=ha.rect;obtain⟨rq,cq⟩:=hb.rect;unfold mTimes mMulG at h;rw[if_pos rq,if_pos ⟨rp,cp.trans hb.1.symm⟩] at h;refine⟨by rw[runE_len h]; exact ha.1,fun r hr=>?_⟩;obtain⟨i,hi,rfl⟩:=mem_getD (d:=[]) hr;have hi':i<a.length:=by rw[<- runE_len h]; exact hi
 have h1:=runE_get [] h (get_ne (d:=[]) hi');unfold mRow at h1;rw[runE_len h1];simp[turnV,cq]
theorem scaled_sq {n:Nat} {bits:Int} {a m:List (List FS)} {c:FS} (ha:SqG n a) (h:mScaled bits a c=.ok m):SqG n m:=by
 unfold mScaled at h;refine⟨by rw[runE_len h]; exact ha.1,fun r hr=>?_⟩;obtain⟨i,hi,rfl⟩:=mem_getD (d:=[]) hr;have hi':i<a.length:=by rw[<- runE_len h]; exact hi
 have h1:=runE_get [] h (get_ne (d:=[]) hi');unfold vTimes at h1;rw[runE_len h1];exact ha.row (by rw[<- ha.1]; exact hi')
theorem div_sq {n:Nat} {bits d:Int} {a m:List (List FS)} (ha:SqG n a) (h:mDiv bits a d=.ok m):SqG n m:=by
 unfold mDiv at h;obtain⟨s,h1,h2⟩:=bnd_inv h;exact scaled_sq ha h2
theorem plus_sq {n:Nat} {bits:Int} {a b m:List (List FS)} (ha:SqG n a) (hb:SqG n b) (h:mPlus bits a b=.ok m):SqG n m:=by
 have e:(a.zip b).length=n:=by rw[List.length_zip,ha.1,hb.1]; exact Nat.min_self n
 unfold mPlus at h;rw[if_neg (by rw[ha.1,hb.1]; simp)] at h;refine⟨by rw[runE_len h]; exact e,fun r hr=>?_⟩;obtain⟨i,hi,rfl⟩:=mem_getD (d:=[]) hr;have hi':i<n:=by rw[<- e,<- runE_len h]; exact hi
 have hz:(a.zip b)[i]?=some (a.getD i [],b.getD i []):=by
  have h1:i<a.length:=by rw[ha.1]; exact hi'
  have h2:i<b.length:=by rw[hb.1]; exact hi'
  simp[List.getD,List.getElem?_zip_eq_some,h1,h2]
 have h1:=runE_get [] h hz;dsimp only at h1;unfold vPlus at h1;rw[if_neg (by rw[ha.row hi',hb.row hi']; simp)] at h1;rw[runE_len h1,List.length_zip,ha.row hi',hb.row hi'];exact Nat.min_self n
theorem near_sq {n:Nat} {bits:Int} {a:List (List FQ)} {m:List (List FS)} (ha:Sqr n a) (h:mNear a bits=.ok m):SqG n m:=by
 unfold mNear at h;refine⟨by rw[runE_len h]; exact ha.1,fun r hr=>?_⟩;obtain⟨i,hi,rfl⟩:=mem_getD (d:=[]) hr;have hi':i<a.length:=by rw[<- runE_len h]; exact hi
 have h1:=runE_get [] h (get_ne (d:=[]) hi');unfold vNear at h1;rw[runE_len h1];exact (ha.row (by rw[<- ha.1]; exact hi')).2
theorem scale_sq {n:Nat} {a m:List (List FQ)} {c:FQ} (ha:Sqr n a) (h:mScale a c=.ok m):Sqr n m:=by
 unfold mScale at h;refine⟨by rw[runE_len h]; exact ha.1,fun r hr=>?_⟩;obtain⟨i,hi,rfl⟩:=mem_getD (d:=[]) hr;have hi':i<a.length:=by rw[<- runE_len h]; exact hi
 have h1:=runE_get [] h (get_ne (d:=[]) hi');unfold vScale vEach at h1;rw[if_neg (by simp)] at h1;rw[runE_len h1,List.length_zip,Nat.min_self];exact (ha.row (by rw[<- ha.1]; exact hi')).2
theorem even_sq {n:Nat} (hn:n<=16) (d:FD):SqG n (mEven n d):=by
 have hcl:clampN (n:Int)=n:=by
  have:=clampN_in (n:=(n:Int)) (by omega) (by omega);omega
 unfold mEven;rw[hcl];exact⟨by simp,fun r hr=>by rw[(List.mem_replicate.1 hr).2]; simp⟩
theorem sumsGo_sq {m:Nat} {bits:Int} {x:List (List FS)} (hx:SqG m x):∀ (n j:Nat) {t E S:List (List FS)} {q:Gw},SqG m t->SqG m E->SqG m S->sumsGo bits x n j t E S=.ok q->SqG m q.1/\SqG m q.2
 |0,j,t,E,S,q,ht,hE,hS,h=>by
  cases h;exact⟨hE,hS⟩
 |n+1,j,t,E,S,q,ht,hE,hS,h=>by
  obtain⟨t1,a1,h⟩:=bnd_inv h;obtain⟨t2,a2,h⟩:=bnd_inv h;obtain⟨E',a3,h⟩:=bnd_inv h;obtain⟨nx,a4,h⟩:=bnd_inv h;obtain⟨S',a5,h⟩:=bnd_inv h;have s1:=times_sq ht hx a1;have s2:=div_sq s1 a2;exact sumsGo_sq hx n (j+1) s2 (plus_sq hE s2 a3) (plus_sq hS (div_sq s2 a4) a5) h
theorem twice_sq {m:Nat} {bits:Int} {p q:Gw} (hp:SqG m p.1/\SqG m p.2) (h:mTwice bits p=.ok q):SqG m q.1/\SqG m q.2:=by
 unfold mTwice at h;obtain⟨nx,h1,h⟩:=bnd_inv h;obtain⟨S,h2,h⟩:=bnd_inv h;obtain⟨E,h3,h⟩:=bnd_inv h;cases h;exact⟨times_sq hp.1 hp.1 h3,plus_sq hp.2 (times_sq hp.1 hp.2 h1) h2⟩
theorem twiceGo_sq {m:Nat} {bits:Int}:∀ (n:Nat) {p q:Gw},SqG m p.1/\SqG m p.2->twiceGo bits n p=.ok q->SqG m q.1/\SqG m q.2
 |0,p,q,hp,h=>by cases h; exact hp
 |n+1,p,q,hp,h=>by
  obtain⟨r,h1,h2⟩:=bnd_inv h;exact twiceGo_sq n (twice_sq hp h1) h2
theorem make_sq {n:Nat} {bits:Int} {a:List (List FQ)} {t:FQ} {p:Gw} (hn:n<=16) (ha:Sqr n a) (h:mMake a t bits=.ok p):SqG n p.1/\SqG n p.2:=by
 unfold mMake at h;split at h
 ·cases h
 ·split at h
  ·cases h
  ·obtain⟨m,h1,h⟩:=bnd_inv h;obtain⟨norm,h2,h⟩:=bnd_inv h;obtain⟨nh,h3,h⟩:=bnd_inv h;obtain⟨q,h4,h⟩:=bnd_inv h;refine twiceGo_sq _ ?_ h;unfold mSmall at h4;obtain⟨part,g1,h4⟩:=bnd_inv h4;obtain⟨x,g2,h4⟩:=bnd_inv h4;obtain⟨tm,g3,h4⟩:=bnd_inv h4;obtain⟨s,g4,h4⟩:=bnd_inv h4;have hs:=near_sq (scale_sq (scale_sq ha h1) g2) g4;unfold mSums2 mPre at h4;obtain⟨w,k1,h4⟩:=bnd_inv h4;obtain⟨one,b1,k1⟩:=bnd_inv k1;obtain⟨u,b2,k1⟩:=bnd_inv k1;obtain⟨E,b3,k1⟩:=bnd_inv k1;obtain⟨S,b4,k1⟩:=bnd_inv k1;cases k1;obtain⟨tn,c1,h4⟩:=bnd_inv h4;obtain⟨S',c2,h4⟩:=bnd_inv h4;cases h4;rw[hs.1] at b1 b3 b4;have ho:=near_sq (one_ok hn).1 b1;have hu:=sumsGo_sq hs _ _ ho ho ho b2;exact⟨plus_sq hu.1 (even_sq hn _) b3,scaled_sq (plus_sq hu.2 (even_sq hn _) b4) c2⟩
def gChk (r:FQ) (bits:Int):Nat:=if bits<8\/bits > 512\/qSgn r<0 then 1 else match qCmp r (qOf 32 1) with
 |.error e=>e+1
 |.ok c=>if c > 0 then 1 else 0
def gArg (r:FQ) (bits:Int):Except Nat FQ:=match gChk r bits with
 |0=>.ok r
 |e+1=>.error e
def q1:FQ:=qOf 1 1
def twoT (r:FQ):List (List FQ):=[[r,q1,q0],[q0,q0,q1],[q0,q0,q0]]
def gTwo (r:FQ) (bits:Int):Except Nat FS:=bnd (gArg r bits) fun r=>bnd (mMake (twoT r) q1 bits) fun p=>.ok (sp p.1 0 2)
def gCurve (r:FQ) (bits:Int):Except Nat FD:=bnd (gTwo r bits) fun t=>bnd (sNear r bits) fun n=>bnd (sMul t n bits) fun x=>bnd (sMul x n bits) fun y=>.ok (dMax y.hi d0)
def gRise (r:FQ) (bits:Int):Except Nat FD:=bnd (gTwo r bits) fun t=>bnd (sNear r bits) fun n=>bnd (sMul t n bits) fun x=>.ok (dMax x.hi d0)
def gRate (a:List (List FQ)) (t:FQ):Except Nat FQ:=bnd (mNorm a) fun n=>qMul n t
attribute [local irreducible] zMul zAdd zLeft zRight fitZ qMake zDiv dMake dLevel dRound dNear dAdd dMul dRatio dCmp dMin dMax dAbs dLess qCmp sOut qAdd qMul sAdd sMul sNear mMake mNorm qSgn
theorem c_gChk (r:FQ) (bits:Int):ACalls prog 275 [rat r.q,i64 bits] (i64 (gChk r bits:Nat)):=by
 have CS:=c_qSign r;have C3:=c_qOf 32 1 (by decide) (by decide) (by decide) (by decide);have CC:=c_qCompare r (qOf 32 1);unfold gChk;obtain⟨s,hs⟩:∃ s,qSgn r=s:=⟨_,rfl⟩
 rw[hs] at CS ⊢;by_cases h1:bits<8
 ·rw[if_pos (.inl h1)];refine conN func275 rfl (by kernel_rfl) ?_;conv=>whnf
  rw[decide_eq_true h1];conv=>whnf
  exact fin rfl rfl
 by_cases h2:bits > 512
 ·rw[if_pos (.inr (.inl h2))];refine conN func275 rfl (by kernel_rfl) ?_;conv=>whnf
  rw[decide_eq_false h1];conv=>whnf
  rw[decide_eq_true h2];conv=>whnf
  exact fin rfl rfl
 by_cases h3:s<0
 ·rw[if_pos (.inr (.inr h3))];refine conN func275 rfl (by kernel_rfl) ?_;conv=>whnf
  rw[decide_eq_false h1];conv=>whnf
  rw[decide_eq_false h2];conv=>whnf
  refine cE CS ?_;conv=>whnf
  rw[decide_eq_true h3];conv=>whnf
  exact fin rfl rfl
 rw[if_neg (by rintro (h | h | h); exact h1 h; exact h2 h; exact h3 h)];obtain⟨z,hz⟩:∃ z,qOf 32 1=z:=⟨_,rfl⟩
 rw[hz] at C3 CC ⊢;cases hc:qCmp r z with
 |error e =>
  rw[hc] at CC;simp only;refine conN func275 rfl (by kernel_rfl) ?_;conv=>whnf
  rw[decide_eq_false h1];conv=>whnf
  rw[decide_eq_false h2];conv=>whnf
  refine cE CS ?_;conv=>whnf
  rw[decide_eq_false h3];conv=>whnf
  refine xK ?_;conv=>whnf
  refine cE C3 ?_;conv=>whnf
  refine cE CC ?_;conv=>whnf
  exact fin rfl rfl
 |ok c =>
  rw[hc] at CC;change ACalls prog _ _ (.tup [i64 c,i64 ((0:Nat):Int)]) at CC;simp only;refine conN func275 rfl (by kernel_rfl) ?_;conv=>whnf
  rw[decide_eq_false h1];conv=>whnf
  rw[decide_eq_false h2];conv=>whnf
  refine cE CS ?_;conv=>whnf
  rw[decide_eq_false h3];conv=>whnf
  refine xK ?_;conv=>whnf
  refine cE C3 ?_;conv=>whnf
  refine cE CC ?_;conv=>whnf
  by_cases h4:c > 0
  ·rw[decide_eq_true h4,if_pos h4];conv=>whnf
   exact fin rfl rfl
  ·rw[decide_eq_false h4,if_neg h4];conv=>whnf
   exact fin rfl rfl
end
section
open Go Go.RowKit Go.Proofs.Tryz
theorem sp_02 {m:List (List FS)} (h:SqG 3 m):∃ a b c r2 r3,m=[[a,b,c],r2,r3]/\sp m 0 2=c:=by
 obtain⟨h1,h2⟩:=h;rcases m with _ | ⟨r1,_ | ⟨r2,_ | ⟨r3,_ | ⟨r4,l⟩⟩⟩⟩
 ·cases h1
 ·cases h1
 ·cases h1
 ·have h3:=h2 r1 (by simp);rcases r1 with _ | ⟨a,_ | ⟨b,_ | ⟨c,_ | ⟨d,l⟩⟩⟩⟩
  ·cases h3
  ·cases h3
  ·cases h3
  ·exact⟨a,b,c,r2,r3,rfl,rfl⟩
  ·simp at h3
 ·simp at h1
theorem own_three {s:AS} {F:Rid->Prop} {i:Rid} {r:Row} {a b c x y z:AV} (hF:F i) (h:s.st i=some r) (he:r.els=[a,b,c]) (h0:FrzV s F a x) (h1:FrzV s F b y) (h2:FrzV s F c z):FrzV s F (.own i 3) (.sl [x,y,z]) :=
 .own i 3 r [x,y,z] hF h (by rw[he]; rfl) rfl fun j u v hu hv=>by
  rw[he] at hu
  match j with
  |0=>cases hu; cases hv; exact h0
  |1=>cases hu; cases hv; exact h1
  |2=>cases hu; cases hv; exact h2
  |j+3=>cases hu
theorem twoT_sq (r:FQ):Sqr 3 (twoT r):=⟨rfl,fun x hx=>by
 unfold twoT at hx;simp only[List.mem_cons,List.not_mem_nil,or_false] at hx;rcases hx with rfl | rfl | rfl <;> rfl⟩
theorem gChk_bok {r:FQ} {bits:Int} (h:gChk r bits=0):8<=bits/\bits<=512/\¬ qSgn r<0:=by
 unfold gChk at h;by_cases q:bits<8\/bits > 512\/qSgn r<0
 ·rw[if_pos q] at h;cases h
 ·exact⟨by omega,by omega,fun k=>q (.inr (.inr k))⟩
theorem gTwo_bok {r:FQ} {bits:Int} {t:FS} (h:gTwo r bits=.ok t):BOk bits:=by
 unfold gTwo gArg at h;cases hc:gChk r bits with
 |succ e=>rw[hc] at h; cases h
 |zero =>
  have:=gChk_bok hc;exact⟨by omega,by omega⟩
theorem dMax_d00:dMax d0 d0=d0:=by kernel_rfl
attribute [local irreducible] zMul zAdd zLeft zRight fitZ qMake zDiv dMake dLevel dRound dNear dAdd dMul dRatio dCmp dMin dMax dAbs dLess qCmp sOut qAdd qMul sAdd sMul sNear mMake mNorm qSgn
theorem c_gTwo (r:FQ) (bits:Int):ACalls prog 249 [rat r.q,i64 bits] (tS (gTwo r bits)):=by
 have CC:=c_gChk r bits;unfold gTwo gArg;cases he:gChk r bits with
 |succ e =>
  rw[he] at CC;show ACalls prog _ _ (.tup [spa s0,i64 ((e+1:Nat):Int)]);refine conN func249 rfl (by kernel_rfl) ?_;conv=>whnf
  refine cE CC ?_;conv=>whnf
  exact⟨.sh _ _ rfl le_s0,fin rfl rfl,trivial⟩
 |zero =>
  rw[he] at CC;obtain⟨j,CM⟩:=c_mMake (twoT r) q1 bits ⟨by show 3<1000000; decide,(twoT_sq r).rows6 (by omega)⟩;have C1:ACalls prog 20 [i64 1,i64 1] (rat q1.q):=c_qOf 1 1 (by decide) (by decide) (by decide) (by decide);show ACalls prog _ _ (tS (bnd (mMake (twoT r) q1 bits) fun p=>.ok (sp p.1 0 2)));have hsq:=fun p=>make_sq (n:=3) (bits:=bits) (a:=twoT r) (t:=q1) (p:=p) (by omega) (twoT_sq r)
  obtain⟨R,hR⟩:∃ R,mMake (twoT r) q1 bits=R:=⟨_,rfl⟩
  rw[hR] at CM hsq ⊢;clear hR;cases R with
  |error e =>
   show ACalls prog _ _ (.tup [spa s0,i64 ((e+1:Nat):Int)]);refine conN func249 rfl (by kernel_rfl) ?_;conv=>whnf
   refine cE CC ?_;conv=>whnf
   refine cE c_qZero ?_;conv=>whnf
   refine cE C1 ?_;conv=>whnf
   refine callL [(5,3),(5,7),(5,11),(5,12)] [lT (twoT r),rat q1.q,i64 bits] ⟨⟨_,rfl⟩,⟨_,rfl⟩,⟨_,rfl⟩,⟨_,rfl⟩,trivial⟩ ⟨own_three (.tail _ (.tail _ (.tail _ (.head _)))) rfl rfl (.own2 (.head _) rfl rfl rfl rfl) (.own2 (.tail _ (.head _)) rfl rfl rfl rfl) (.own2 (.tail _ (.tail _ (.head _))) rfl rfl rfl rfl),.sh _ _ rfl (.refl _),.sh _ _ rfl (.refl _),trivial⟩ CM rfl ?_;conv=>whnf
   exact⟨.sh _ _ rfl le_s0,fin rfl rfl,trivial⟩
  |ok p =>
   obtain⟨x,y,z,r2,r3,hp,hz⟩:=sp_02 (hsq p rfl).1;obtain⟨E,S⟩:=p;have hp:E=[[x,y,z],r2,r3]:=hp;subst hp;have hz:sp ([[x,y,z],r2,r3],S).1 0 2=z:=hz;rw[bnd_okk,hz];change ACalls prog _ _ (.tup [gro ([[x,y,z],r2,r3],S),i64 0]) at CM;show ACalls prog _ _ (.tup [spa z,i64 0]);refine conN func249 rfl (by kernel_rfl) ?_;conv=>whnf
   refine cE CC ?_;conv=>whnf
   refine cE c_qZero ?_;conv=>whnf
   refine cE C1 ?_;conv=>whnf
   refine callL [(5,3),(5,7),(5,11),(5,12)] [lT (twoT r),rat q1.q,i64 bits] ⟨⟨_,rfl⟩,⟨_,rfl⟩,⟨_,rfl⟩,⟨_,rfl⟩,trivial⟩ ⟨own_three (.tail _ (.tail _ (.tail _ (.head _)))) rfl rfl (.own2 (.head _) rfl rfl rfl rfl) (.own2 (.tail _ (.head _)) rfl rfl rfl rfl) (.own2 (.tail _ (.tail _ (.head _))) rfl rfl rfl rfl),.sh _ _ rfl (.refl _),.sh _ _ rfl (.refl _),trivial⟩ CM rfl ?_;conv=>whnf
   refine⟨lS [x,y,z],⟨by decide,rfl,rfl,rfl⟩,?_⟩;conv=>whnf
   refine⟨spa z,⟨by decide,rfl,rfl,rfl⟩,?_⟩;conv=>whnf
   exact⟨fin rfl rfl,fin rfl rfl,trivial⟩
theorem c_gRate (a:List (List FQ)) (t:FQ) (ha:Six a):ACalls prog 202 [lT a,rat t.q] (tQ (gRate a t)):=by
 have CN:=c_mNorm a ha.1 ha.2;unfold gRate;cases hn:mNorm a with
 |error e =>
  rw[hn] at CN;show ACalls prog _ _ (.tup [rat q0.q,i64 ((e+1:Nat):Int)]);refine conN func202 rfl (by kernel_rfl) ?_;conv=>whnf
  refine cE CN ?_;conv=>whnf
  refine cE c_qZero ?_;conv=>whnf
  exact⟨fin rfl rfl,fin rfl rfl,trivial⟩
 |ok n =>
  rw[hn] at CN;rw[bnd_okk];obtain⟨x1,e1,C1,hx1,he1⟩:=varT (c_qMul n t);show ACalls prog _ _ (.tup [rat (okOr q0 (qMul n t)).q,i64 (errN (qMul n t))]);rw[hx1,he1];refine conN func202 rfl (by kernel_rfl) ?_;conv=>whnf
  refine cE CN ?_;conv=>whnf
  refine cE C1 ?_;conv=>whnf
  exact⟨fin rfl rfl,fin rfl rfl,trivial⟩
theorem c_gRise (r:FQ) (bits:Int):ACalls prog 204 [rat r.q,i64 bits] (tD (gRise r bits)):=by
 have CT:=c_gTwo r bits;unfold gRise;cases hT:gTwo r bits with
 |error e =>
  rw[hT] at CT;show ACalls prog _ _ (.tup [dyad d0,i64 ((e+1:Nat):Int)]);refine conN func204 rfl (by kernel_rfl) ?_;conv=>whnf
  refine cE CT ?_;conv=>whnf
  exact⟨.sh _ _ rfl le_dy0,fin rfl rfl,trivial⟩
 |ok t =>
  have hb:=gTwo_bok hT;have CN:=c_sNear r bits hb;rw[hT] at CT;rw[bnd_okk];cases hN:sNear r bits with
  |error e =>
   rw[hN] at CN;show ACalls prog _ _ (.tup [dyad d0,i64 ((e+1:Nat):Int)]);refine conN func204 rfl (by kernel_rfl) ?_;conv=>whnf
   refine cE CT ?_;conv=>whnf
   refine cE CN ?_;conv=>whnf
   exact⟨.sh _ _ rfl le_dy0,fin rfl rfl,trivial⟩
  |ok n =>
   rw[hN] at CN;rw[bnd_okk];obtain⟨x1,e1,C1,hx1,he1⟩:=varT (c_sMul t n bits hb);have CX:=c_dMax x1.hi d0;obtain⟨m,hm⟩:∃ m,dMax x1.hi d0=m:=⟨_,rfl⟩
   have e2:tD (bnd (sMul t n bits) fun x=>.ok (dMax x.hi d0))=.tup [dyad m,i64 (e1:Nat)]:=by
    rw[<- hm,<- hx1,<- he1];cases sMul t n bits with
    |error e =>
     show (.tup [dyad d0,i64 ((e+1:Nat):Int)]:AV)=.tup [dyad (dMax d0 d0),i64 ((e+1:Nat):Int)];rw[dMax_d00]
    |ok x=>rfl
   rw[e2];rw[hm] at CX;refine conN func204 rfl (by kernel_rfl) ?_;conv=>whnf
   refine cE CT ?_;conv=>whnf
   refine cE CN ?_;conv=>whnf
   refine cE C1 ?_;conv=>whnf
   refine callL [] [dyad x1.hi,dyad d0] trivial ⟨.sh _ _ rfl (.refl _),.sh _ _ rfl le_dy0,trivial⟩ CX rfl ?_;conv=>whnf
   exact⟨fin rfl rfl,fin rfl rfl,trivial⟩
theorem c_gCurve (r:FQ) (bits:Int):ACalls prog 203 [rat r.q,i64 bits] (tD (gCurve r bits)):=by
 have CT:=c_gTwo r bits;unfold gCurve;cases hT:gTwo r bits with
 |error e =>
  rw[hT] at CT;show ACalls prog _ _ (.tup [dyad d0,i64 ((e+1:Nat):Int)]);refine conN func203 rfl (by kernel_rfl) ?_;conv=>whnf
  refine cE CT ?_;conv=>whnf
  exact⟨.sh _ _ rfl le_dy0,fin rfl rfl,trivial⟩
 |ok t =>
  have hb:=gTwo_bok hT;have CN:=c_sNear r bits hb;rw[hT] at CT;rw[bnd_okk];cases hN:sNear r bits with
  |error e =>
   rw[hN] at CN;show ACalls prog _ _ (.tup [dyad d0,i64 ((e+1:Nat):Int)]);refine conN func203 rfl (by kernel_rfl) ?_;conv=>whnf
   refine cE CT ?_;conv=>whnf
   refine cE CN ?_;conv=>whnf
   exact⟨.sh _ _ rfl le_dy0,fin rfl rfl,trivial⟩
  |ok n =>
   rw[hN] at CN;rw[bnd_okk];have CA:=c_sMul t n bits hb;cases hA:sMul t n bits with
   |error e =>
    rw[hA] at CA;show ACalls prog _ _ (.tup [dyad d0,i64 ((e+1:Nat):Int)]);refine conN func203 rfl (by kernel_rfl) ?_;conv=>whnf
    refine cE CT ?_;conv=>whnf
    refine cE CN ?_;conv=>whnf
    refine cE CA ?_;conv=>whnf
    exact⟨.sh _ _ rfl le_dy0,fin rfl rfl,trivial⟩
   |ok u =>
    rw[hA] at CA;rw[bnd_okk];obtain⟨x1,e1,C1,hx1,he1⟩:=varT (c_sMul u n bits hb);have CX:=c_dMax x1.hi d0;obtain⟨m,hm⟩:∃ m,dMax x1.hi d0=m:=⟨_,rfl⟩
    have e2:tD (bnd (sMul u n bits) fun x=>.ok (dMax x.hi d0))=.tup [dyad m,i64 (e1:Nat)]:=by
     rw[<- hm,<- hx1,<- he1];cases sMul u n bits with
     |error e =>
      show (.tup [dyad d0,i64 ((e+1:Nat):Int)]:AV)=.tup [dyad (dMax d0 d0),i64 ((e+1:Nat):Int)];rw[dMax_d00]
     |ok x=>rfl
    rw[e2];rw[hm] at CX;refine conN func203 rfl (by kernel_rfl) ?_;conv=>whnf
    refine cE CT ?_;conv=>whnf
    refine cE CN ?_;conv=>whnf
    refine cE CA ?_;conv=>whnf
    refine cE C1 ?_;conv=>whnf
    refine callL [] [dyad x1.hi,dyad d0] trivial ⟨.sh _ _ rfl (.refl _),.sh _ _ rfl le_dy0,trivial⟩ CX rfl ?_;conv=>whnf
    exact⟨fin rfl rfl,fin rfl rfl,trivial⟩
end
end Go.Proofs.YtjdkdcmpifapeaaGreatDoor.Abs
