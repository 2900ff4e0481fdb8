/- Tables: checked; the same; norms; sizes; even ones. -/
import Derived.Test.YtjdkdcmpifapeaaGreatDoorMp
import Derived.Test.YtjdkdcmpifapeaaGreatDoorMn
set_option linter.unusedVariables false
set_option linter.unusedSectionVars false
set_option linter.unusedSimpArgs false
set_option maxHeartbeats 4000000
namespace Go.Proofs.YtjdkdcmpifapeaaGreatDoor.Abs
section
open Go Go.RowKit Go.Proofs.Tryz
attribute [local irreducible] zMul zAdd zLeft zRight fitZ qMake zDiv dMake dLevel dRound dNear dAdd dMul dRatio dCmp dMin dMax dAbs dLess qCmp sOut qAdd qMul sAdd sMul sNear qSum sSize sPoint sEven vEach vDot vNear vScale vPlus vInner vUnit qAbs
def rowOk (cols:Int) (r:List FQ):Bool:=decide (¬ (cols<0\/cols > 16\/(r.length:Int)≠cols))
def mCheck (a:List (List FQ)) (rows cols:Int):Int:=if rows<0\/rows > 16\/(a.length:Int)≠rows\/a.all (rowOk cols)=false then 20 else 0
theorem c_mCheck (a:List (List FQ)) (rows cols:Int) (hl:a.length<1000000) (hr:Rows6 a):ACalls prog 98 [lT a,i64 rows,i64 cols] (i64 (mCheck a rows cols)):=by
 have hlen:(((a.map lQ).length:Nat):Int)=(a.length:Int):=by simp
 unfold mCheck;refine conN func98 rfl (by kernel_rfl) ?_;conv=>whnf
 by_cases h1:rows<0
 ·rw[decide_eq_true h1,if_pos (.inl h1)];conv=>whnf
  exact fin rfl rfl
 rw[decide_eq_false h1];conv=>whnf
 by_cases h2:rows > 16
 ·rw[decide_eq_true h2,if_pos (.inr (.inl h2))];conv=>whnf
  exact fin rfl rfl
 rw[decide_eq_false h2];conv=>whnf
 rw[hlen];by_cases h3:(a.length:Int)≠rows
 ·rw[show ((a.length:Int) !=rows)=true by simpa using h3,if_pos (.inr (.inr (.inl h3)))];conv=>whnf
  exact fin rfl rfl
 rw[show ((a.length:Int) !=rows)=false by simpa using h3];conv=>whnf
 obtain⟨R,hR⟩:∃ R:Int,(if rows<0\/rows > 16\/(a.length:Int)≠rows\/a.all (rowOk cols)=false then 20 else 0)=R:=⟨_,rfl⟩
 have hbad:a.all (rowOk cols)=false->R=20:=fun h=>by rw[<- hR,if_pos (.inr (.inr (.inr h)))]
 have hgood:a.all (rowOk cols)=true->R=0:=fun h=>by
  rw[<- hR,if_neg];rintro (k | k | k | k)
  ·exact h1 k
  ·exact h2 k
  ·exact h3 k
  ·rw[h] at k; cases k
 rw[hR];clear hR h1 h2 h3;refine⟨Nat,fun i=>i<=a.length/\∀ r∈a.take i,rowOk cols r=true,fun i=>{ fr:=[(2,i64 cols),(22,.sl (a.map lQ)),(23,i64 a.length),(24,i64 i)],g:=9 },fun i=>a.length-i,0,⟨Nat.zero_le _,by simp⟩,
  ⟨trivial,⟨x_R,x_R,x_E hlen,x_R,trivial⟩,trivial⟩,?_⟩
 rintro i ⟨h1,h2⟩;dsimp only at h1 h2 ⊢;conv=>whnf
 refine Br.mk (fun h=>?_) (fun h=>?_)
 ·have hi:i<a.length:=by simpa using h
  clear h;have CK:=c_vCheckQ a[i] cols (hr _ (List.getElem_mem hi));conv=>whnf
  refine⟨lQ a[i],⟨by omega,by simp[hi],rfl,rfl⟩,?_⟩;conv=>whnf
  by_cases hc:cols<0\/cols > 16\/(a[i].length:Int)≠cols
  ·rw[if_pos hc] at CK;rw[hbad (all_no' hi (by unfold rowOk; exact decide_eq_false (fun k=>k hc)))];refine cE CK ?_;conv=>whnf
   exact fin rfl rfl
  ·rw[if_neg hc] at CK;refine cE CK ?_;conv=>whnf
   refine⟨i+1,⟨by omega,fun y hy=>?_⟩,⟨trivial,⟨x_R,x_R,x_R,x_E ?_,trivial⟩,trivial⟩,by show a.length-(i+1)<a.length-i; omega⟩
   ·rw[List.take_succ_eq_append_getElem hi,List.mem_append] at hy;rcases hy with hy | hy
    ·exact h2 y hy
    ·simp only[List.mem_singleton] at hy;rw[hy];exact decide_eq_true hc
   ·exact (wI (n:=(i:Int)+1) (by omega) (by omega)).trans (by simp)
 ·have he:a.length<=i:=by simpa using h
  rw[List.take_of_length_le he] at h2;rw[hgood (List.all_eq_true.2 h2)];conv=>whnf
  exact fin rfl rfl
def absStep (s x:FQ):Except Nat FQ:=qAdd s (qAbs x)
def rowAbs (r:List FQ):Except Nat FQ:=foldE absStep q0 r
def normStep (m:FQ) (r:List FQ):Except Nat FQ:=match rowAbs r with
 |.error e=>.error e
 |.ok s=>match qCmp s m with
  |.error e=>.error e
  |.ok c=>.ok (if c > 0 then s else m)
def mNorm (a:List (List FQ)):Except Nat FQ:=foldE normStep q0 a
end
section
open Go Go.RowKit Go.Proofs.Tryz
attribute [local irreducible] zMul zAdd zLeft zRight fitZ qMake zDiv dMake dLevel dRound dNear dAdd dMul dRatio dCmp dMin dMax dAbs dLess qCmp sOut qAdd qMul sAdd sMul sNear qSum sSize sPoint sEven vEach vDot vNear vScale vPlus vInner vUnit qAbs
theorem foldE_stepE {σ α:Type} {f:σ->α->Except Nat σ} {l:List α} {n:Nat} {s s1:σ} {e:Nat} (hn:n<l.length) (h:foldE f s (l.take n)=.ok s1) (he:f s1 l[n]=.error e):foldE f s l=.error e :=
 foldE_err (n:=n+1) ((foldE_take hn h).trans he)
theorem c_mNorm (a:List (List FQ)) (hl:a.length<1000000) (hr:Rows6 a):ACalls prog 18 [lT a] (tQ (mNorm a)):=by
 have hlen:(((a.map lQ).length:Nat):Int)=(a.length:Int):=by simp
 have hG:∀ {n:Nat} {m:FQ} (hn:n<a.length),foldE normStep q0 (a.take n)=.ok m->(∀ e,rowAbs a[n]=.error e->mNorm a=.error e)/\(∀ s,rowAbs a[n]=.ok s->(∀ e,qCmp s m=.error e->mNorm a=.error e)/\(∀ c,qCmp s m=.ok c->foldE normStep q0 (a.take (n+1))=.ok (if c > 0 then s else m))):=by
  intro n m hn h;refine⟨fun e he=>foldE_stepE hn h (by unfold normStep; rw[he]),fun s hs=>⟨fun e he=>foldE_stepE hn h (by unfold normStep; rw[hs]; simp only; rw[he]),fun c hc=>(foldE_take hn h).trans (by unfold normStep; rw[hs]; simp only; rw[hc])⟩⟩
 have hE:foldE normStep q0 a=mNorm a:=rfl;obtain⟨R,hR⟩:∃ R,mNorm a=R:=⟨_,rfl⟩
 rw[hR] at hG hE ⊢;clear hR;refine conP func18 rfl (by kernel_rfl) ?_;refine .gk ?_;conv=>whnf
 refine .gk ?_;conv=>whnf
 refine cE c_qZero ?_;conv=>whnf
 refine .cut (fun m:FQ=>R=.ok m) (fun m=>{ fr:=[(2,.ptr (0,0) 0 0),(4,.ptr (1,1) 0 0)],st:=[((1,1),⟨28,3,[rat m.q]⟩),((0,0),⟨28,3,[AV.ofVal (ty 28).zero]⟩)],g:=9 }) ?_ ?_
 ·refine .gk ?_;conv=>whnf
  refine .block (.loop (fun q:Nat×FQ=>q.1<=a.length/\foldE normStep q0 (a.take q.1)=.ok q.2) (fun q=>{ fr:=[(14,lT a),(15,i64 a.length),(16,i64 (q.1:Nat)),(2,.ptr (0,0) 0 0),(4,.ptr (1,1) 0 0)],st:=[((1,1),⟨28,3,[rat q.2.q]⟩),((0,0),⟨28,3,[AV.ofVal (ty 28).zero]⟩)],g:=9 }) (fun q=>a.length-q.1) (0,q0) ⟨Nat.zero_le _,rfl⟩ ?_ ?_)
  ·exact⟨trivial,⟨x_R,x_E hlen,x_R,x_R,x_R,trivial⟩,x_S,x_S,trivial⟩
  rintro⟨n,m⟩ ⟨h1,h2⟩;dsimp only at h1 h2 ⊢;refine .gk ?_;conv=>whnf
  refine .gk ?_;conv=>whnf
  refine Br.mk (fun h=>?_) (fun h=>?_)
  ·have hlt:n<a.length:=by
    have:=of_decide_eq_true h;omega
   clear h;have hg2:=hG hlt h2;have hr1:=hr _ (List.getElem_mem hlt);obtain⟨r,hrw⟩:∃ r,a[n]=r:=⟨_,rfl⟩
   have hget:(a.map lQ)[((n:Nat):Int).toNat]?=some (lQ r):=by rw[Int.toNat_natCast,List.getElem?_map,List.getElem?_eq_getElem hlt,hrw]; rfl
   rw[hrw] at hg2 hr1;clear hrw;have hlr:(((r.map ratv).length:Nat):Int)=(r.length:Int):=by simp
   conv=>whnf
   refine .cut (fun m':FQ=>foldE normStep q0 (a.take (n+1))=.ok m') (fun m'=>{ fr:=[(14,lT a),(15,i64 a.length),(16,i64 (n:Nat)),(2,.ptr (0,0) 0 0),(4,.ptr (1,1) 0 0)],st:=[((1,1),⟨28,3,[rat m'.q]⟩),((0,0),⟨28,3,[AV.ofVal (ty 28).zero]⟩)],g:=30 }) ?_ ?_
   ·refine .block ?_;refine .gk ?_;conv=>whnf
    refine⟨lQ r,⟨Int.natCast_nonneg _,hget,rfl,rfl⟩,?_⟩;conv=>whnf
    refine .gk ?_;conv=>whnf
    refine cE c_qZero ?_;conv=>whnf
    refine .cut (fun s:FQ=>rowAbs r=.ok s) (fun s=>{ fr:=[(14,lT a),(15,i64 a.length),(16,i64 (n:Nat)),(2,.ptr (0,0) 0 0),(4,.ptr (1,1) 0 0),(7,.ptr (11,1) 0 0)],st:=[((11,1),⟨28,3,[rat s.q]⟩),((1,1),⟨28,3,[rat m.q]⟩),((0,0),⟨28,3,[AV.ofVal (ty 28).zero]⟩)],g:=15 }) ?_ ?_
    ·refine .gk ?_;conv=>whnf
     refine .block (.loop (fun q:Nat×FQ=>q.1<=r.length/\foldE absStep q0 (r.take q.1)=.ok q.2) (fun q=>{ fr:=[(14,lT a),(15,i64 a.length),(16,i64 (n:Nat)),(2,.ptr (0,0) 0 0),(4,.ptr (1,1) 0 0),(7,.ptr (11,1) 0 0),(21,lQ r),(22,i64 r.length),(23,i64 (q.1:Nat))],st:=[((11,1),⟨28,3,[rat q.2.q]⟩),((1,1),⟨28,3,[rat m.q]⟩),((0,0),⟨28,3,[AV.ofVal (ty 28).zero]⟩)],g:=15 }) (fun q=>r.length-q.1) (0,q0) ⟨Nat.zero_le _,rfl⟩ ?_ ?_)
     ·exact⟨trivial,⟨x_R,x_R,x_R,x_R,x_R,x_R,x_R,x_E hlr,x_R,trivial⟩,x_S,x_S,x_S,trivial⟩
     rintro⟨k,s⟩ ⟨k1,k2⟩;dsimp only at k1 k2 ⊢;refine pcK ?_;conv=>whnf
     refine Br.mk (fun h=>?_) (fun h=>?_)
     ·have hk:k<r.length:=by
       have:=of_decide_eq_true h;omega
      clear h;obtain⟨x1,e1,C1,hx1,he1⟩:=varT (c_qAdd s (qAbs r[k]));have ht:=foldE_take hk k2;conv=>whnf
      refine⟨ratv r[k],⟨Int.natCast_nonneg _,by rw[Int.toNat_natCast,List.getElem?_map,List.getElem?_eq_getElem hk]; rfl,rfl,rfl⟩,?_⟩;conv=>whnf
      refine xK ?_;conv=>whnf
      refine cE (c_qAbs r[k]) ?_;conv=>whnf
      refine cE C1 ?_;conv=>whnf
      refine Br.mk (fun h=>?_) (fun h=>?_)
      ·have z:=lit0 h;have hbad:R=.error (e1-1):=by
        refine hg2.1 _ (foldE_stepE hk k2 ?_);unfold absStep;cases hq:qAdd s (qAbs r[k]) with
        |ok y=>rw[hq] at he1; exact absurd he1.symm z
        |error e=>rw[hq] at he1; rw[<- he1]; rfl
       rw[hbad];conv=>whnf
       refine cE c_qZero ?_;conv=>whnf
       exact⟨fin rfl rfl,fin rfl (congrArg (fun x:Nat=>i64 x) (by omega:e1=e1-1+1)),trivial⟩
      have z:=lit1 h;have hq:=errN_ok (he1.trans z) q0;rw[hx1] at hq;conv=>whnf
      exact⟨(k+1,x1),⟨by show k+1<=_; omega,ht.trans hq⟩,⟨trivial,⟨x_R,x_R,x_R,x_R,x_R,x_R,x_R,x_R,x_E ((wI (n:=(k:Int)+1) (by omega) (by omega)).trans (by simp)),trivial⟩,
       x_S,x_S,x_S,trivial⟩,by show r.length-(k+1)<r.length-k; omega⟩
     ·have he:k=r.length:=by
       have:=of_decide_eq_false h;omega
      clear h;rw[he,List.take_length] at k2;conv=>whnf
      exact⟨s,k2,⟨trivial,⟨x_R,x_R,x_R,x_R,x_R,x_R,trivial⟩,x_S,x_S,x_S,trivial⟩⟩
    ·intro s hs;have hg3:=hg2.2 s hs;obtain⟨c,e1,C1,hx1,he1⟩:=varT (c_qCompare s m);refine pcK ?_;conv=>whnf
     refine cE C1 ?_;conv=>whnf
     refine Br.mk (fun h=>?_) (fun h=>?_)
     ·have z:=lit0 h;have hbad:R=.error (e1-1):=by
       refine hg3.1 _ ?_;cases hq:qCmp s m with
       |ok y=>rw[hq] at he1; exact absurd he1.symm z
       |error e=>rw[hq] at he1; rw[<- he1]; rfl
      rw[hbad];conv=>whnf
      refine cE c_qZero ?_;conv=>whnf
      exact⟨fin rfl rfl,fin rfl (congrArg (fun x:Nat=>i64 x) (by omega:e1=e1-1+1)),trivial⟩
     have z:=lit1 h;have hq:=errN_ok (he1.trans z) 0;rw[hx1] at hq;have hn':=hg3.2 c hq;conv=>whnf
     refine Br.mk (fun h=>?_) (fun h=>?_)
     ·have hc:c > 0:=of_decide_eq_true h;rw[if_pos hc] at hn';conv=>whnf
      exact⟨s,hn',⟨trivial,⟨x_R,x_R,x_R,x_R,x_R,trivial⟩,x_S,x_S,trivial⟩⟩
     ·have hc:¬ c > 0:=of_decide_eq_false h;rw[if_neg hc] at hn';conv=>whnf
      exact⟨m,hn',⟨trivial,⟨x_R,x_R,x_R,x_R,x_R,trivial⟩,x_S,x_S,trivial⟩⟩
   ·intro m' hm';refine pcK ?_;conv=>whnf
    exact⟨(n+1,m'),⟨by show n+1<=_; omega,hm'⟩,⟨trivial,⟨x_R,x_R,x_E ((wI (n:=(n:Int)+1) (by omega) (by omega)).trans (by simp)),x_R,x_R,trivial⟩,
     x_S,x_S,trivial⟩,by show a.length-(n+1)<a.length-n; omega⟩
  ·have he:n=a.length:=by
    have:=of_decide_eq_false h;omega
   clear h;rw[he,List.take_length] at h2;conv=>whnf
   exact⟨m,hE.symm.trans h2,⟨trivial,⟨x_R,x_R,trivial⟩,x_S,x_S,trivial⟩⟩
 ·intro m hm;rw[hm];refine pcK ?_;conv=>whnf
  exact⟨fin rfl rfl,fin rfl rfl,trivial⟩
end
section
open Go Go.RowKit Go.Proofs.Tryz
attribute [local irreducible] sEven
def mEven (n:Int) (s:FD):List (List FS):=List.replicate (clampN n) (List.replicate (clampN n) (sEven s))
theorem c_mEven (n:Int) (s:FD):ACalls prog 242 [i64 n,dyad s] (lU (mEven n s)):=by
 have hb:=clamp_b n;have hc:=clamp_c n;unfold mEven;obtain⟨k,hk⟩:∃ k,clampN n=k:=⟨_,rfl⟩
 rw[hk] at hc ⊢;have hc':(if (16:Int)<(if (0:Int) > n then 0 else n) then 16 else (if (0:Int) > n then 0 else n))=(k:Int):=hc;have hk16:k<=16:=by omega
 obtain⟨Z,hZ⟩:∃ Z,List.replicate k (sEven s)=Z:=⟨_,rfl⟩
 rw[hZ];refine conP func242 rfl (by kernel_rfl) ?_;refine .gk ?_;conv=>whnf
 refine .gk ?_;conv=>whnf
 rw[hc'];clear hc hc' hb hk;refine⟨⟨by omega,rfl,by simp only[lenLim]; omega⟩,?_⟩;conv=>whnf
 refine .cut (fun _:Unit=>True) (fun _=>{ fr:=[(5,.own (1,3) k)],st:=[((1,3),⟨110,1,(List.replicate k Z).map lS⟩)],g:=9 }) ?_ ?_
 ·refine .gk ?_;conv=>whnf
  refine .block (.loop (fun i=>i<=k) (fun i=>{ fr:=[(3,.ptr (0,0) 0 0),(5,.own (1,3) k),(11,.own (1,3) k),(12,i64 (k:Nat)),(13,i64 (i:Nat))],st:=[((1,3),⟨110,1,fillV lS nilA k (List.replicate i Z)⟩),((0,0),⟨76,3,[dyad s]⟩)],g:=9 }) (fun i=>k-i) 0 (Nat.zero_le _) ?_ ?_)
  ·exact⟨trivial,⟨x_R,x_R,x_R,x_R,x_R,trivial⟩,⟨.same (congrArg (fun z=>some (Row.mk 110 1 z)) (fillV_nil (enc:=lS)).symm) (ltL_fillV (fun _=>rfl) rfl),x_N,x_L⟩,x_S,trivial⟩
  intro i hi;dsimp only at hi ⊢;refine .gk ?_;conv=>whnf
  refine .gk ?_;conv=>whnf
  refine Br.mk (fun h=>?_) (fun h=>?_)
  ·have hlt:i<k:=by
    have:=of_decide_eq_true h;omega
   clear h;have hD:(List.replicate i Z).length=i:=by simp
   have hDm:((List.replicate i Z).map lS).length=i:=by simp
   conv=>whnf
   refine .cut (fun _:Unit=>True) (fun _=>{ fr:=[(3,.ptr (0,0) 0 0),(5,.own (1,3) k),(11,.own (1,3) k),(12,i64 (k:Nat)),(13,i64 (i:Nat))],st:=[((1,3),⟨110,1,fillV lS nilA k (List.replicate (i+1) Z)⟩),((0,0),⟨76,3,[dyad s]⟩)],F:=[(5,0)],g:=20 }) ?_ ?_
   ·rw[fillV_out hD hlt,List.replicate_succ',<- fillV_out' hD hlt];obtain⟨DD,hDD⟩:∃ DD,(List.replicate i Z).map lS=DD:=⟨_,rfl⟩
    have hok:∀ {ρ:Ren} {g:Nat} (_:∀ x,okV ρ g (lS x)=true),∀ x∈DD,okV ρ g x=true:=fun h=>by rw[<- hDD]; exact okV_map h
    rw[hDD] at hDm ⊢;clear hDD hD;refine .block ?_;refine .gk ?_;conv=>whnf
    refine .gk ?_;conv=>whnf
    refine .block (.loop (fun j=>j<=k) (fun j=>match j with
     |0=>{ fr:=[(3,.ptr (0,0) 0 0),(5,.own (1,3) k),(6,i64 (i:Nat)),(11,.own (1,3) k),(12,i64 (k:Nat)),(13,i64 (i:Nat)),(16,.own (1,3) k),(17,i64 (k:Nat)),(18,i64 (0:Nat))],st:=[((1,3),⟨110,1,outT DD nilA (k-i-1)⟩),((0,0),⟨76,3,[dyad s]⟩)],g:=9 }
     |j+1=>{ ren:=[((10,9),(5,0))],fr:=[(3,.ptr (0,0) 0 0),(5,.own (1,3) k),(6,i64 (i:Nat)),(11,.own (1,3) k),(12,i64 (k:Nat)),(13,i64 (i:Nat)),(16,.own (1,3) k),(17,i64 (k:Nat)),(18,i64 (j+1:Nat))],st:=[((1,3),⟨110,1,outT DD (.own (5,0) (j+1)) (k-i-1)⟩),((5,0),⟨150,6,(List.replicate (j+1) (sEven s)).map spa⟩),((0,0),⟨76,3,[dyad s]⟩)],g:=9 }) (fun j=>k-j) 0 (Nat.zero_le _) ?_ ?_)
    ·exact⟨trivial,⟨x_R,x_R,x_R,x_R,x_R,x_R,x_R,x_R,x_R,trivial⟩,⟨.less _ rfl rfl (outT_wk (hok fun _=>rfl) rfl (x_R)),x_N,x_L⟩,x_S,trivial⟩
    intro j hj;cases j with
    |zero =>
     dsimp only;refine pcK ?_;conv=>whnf
     refine Br.mk (fun h=>?_) (fun h=>?_)
     ·have hjl:0<k:=by
       have:=of_decide_eq_true h;omega
      clear h;conv=>whnf
      refine xK ?_;conv=>whnf
      refine⟨⟨rfl,rfl⟩,⟨Int.natCast_nonneg _,by omega⟩,?_⟩;conv=>whnf
      refine elA_mk nilA (outT_get hDm) ?_;conv=>whnf
      refine cE (c_sEven s) ?_;conv=>whnf
      refine⟨⟨by show 0<1; decide,by show 1<=1099511627776; decide,one_elB rfl⟩,?_⟩;conv=>whnf
      refine⟨⟨rfl,rfl⟩,⟨Int.natCast_nonneg _,by omega⟩,?_⟩;conv=>whnf
      refine elA_mk nilA (outT_get hDm) ?_;conv=>whnf
      refine⟨0+1,hjl,⟨⟨trivial,rfl⟩,⟨x_R,x_R,x_R,x_R,x_R,x_R,x_R,x_R,x_E ((wI (n:=((0:Nat):Int)+1) (by omega) (by omega)).trans rfl),trivial⟩,⟨.less _ (congrArg (fun z=>some (Row.mk 110 1 z)) (outT_set hDm)) (by simp[outT]) (outT_wk (hok fun _=>rfl) rfl (.inr (.inr (.own (5,0) (0+1) rfl)))),x_N,x_L⟩,⟨.same ?_ (okL_enc (fun _=>rfl) (fun _=>rfl) _),x_N,x_L⟩,x_S,trivial⟩,by show k-(0+1)<k-0; omega⟩;refine congrArg (fun z=>some (Row.mk 150 6 z)) ?_;rfl
     ·have:=of_decide_eq_false h;omega
    |succ j =>
     dsimp only;refine pcK ?_;conv=>whnf
     refine Br.mk (fun h=>?_) (fun h=>?_)
     ·have hjl:(j+1)<k:=by
       have:=of_decide_eq_true h;omega
      clear h;conv=>whnf
      refine xK ?_;conv=>whnf
      refine⟨⟨rfl,rfl⟩,⟨Int.natCast_nonneg _,by omega⟩,?_⟩;conv=>whnf
      refine elA_mk (.own (5,0) (j+1)) (outT_get hDm) ?_;conv=>whnf
      refine cE (c_sEven s) ?_;conv=>whnf
      refine⟨⟨by simp,rfl,rfl,by show j+1+1<=1099511627776; omega,one_elB rfl⟩,?_⟩;conv=>whnf
      refine⟨⟨rfl,rfl⟩,⟨Int.natCast_nonneg _,by omega⟩,?_⟩;conv=>whnf
      refine elA_mk (.own (5,0) (j+1)) (outT_get hDm) ?_;conv=>whnf
      refine⟨(j+1)+1,hjl,⟨⟨trivial,rfl⟩,⟨x_R,x_R,x_R,x_R,x_R,x_R,x_R,x_R,x_E ((wI (n:=(((j+1):Nat):Int)+1) (by omega) (by omega)).trans rfl),trivial⟩,⟨.less _ (congrArg (fun z=>some (Row.mk 110 1 z)) (outT_set hDm)) (by simp[outT]) (outT_wk (hok fun _=>rfl) rfl (.inr (.inr (.own (5,0) ((j+1)+1) rfl)))),x_N,x_L⟩,⟨.same ?_ (okL_enc (fun _=>rfl) (fun _=>rfl) _),x_N,x_L⟩,x_S,trivial⟩,by show k-((j+1)+1)<k-(j+1); omega⟩;refine congrArg (fun z=>some (Row.mk 150 6 z)) ?_;show (List.replicate (j+1) (sEven s)).map spa++[spa (sEven s)]=(List.replicate (j+1+1) (sEven s)).map spa;rw[List.replicate_succ' (n:=j+1),List.map_append];rfl
     ·have hjl:j+1=k:=by
       have:=of_decide_eq_false h;omega
      clear h;conv=>whnf
      refine⟨(),trivial,⟨⟨⟨_,rfl⟩,trivial⟩,⟨x_R,x_R,x_R,x_R,x_R,trivial⟩,⟨.less _ rfl (by simp[outT]) (outT_wk (hok fun _=>rfl) rfl (.inr (.inl (.own2 (.head _) rfl (by simp) (closedL_map (fun _=>rfl) _) ?_)))),by show ((1,3):Rid)∉[((5,0):Rid)]; decide,x_L⟩,⟨.same rfl rfl,by show ((0,0):Rid)∉[((5,0):Rid)]; decide,x_L⟩,trivial⟩⟩;rw[<- hZ,hjl]
   ·rintro⟨⟩ _;refine pcK ?_;conv=>whnf
    exact⟨i+1,hlt,⟨trivial,⟨x_R,x_R,x_R,x_R,x_E ((wI (n:=(i:Int)+1) (by omega) (by omega)).trans (by simp)),trivial⟩,⟨.same rfl (ltL_fillV (fun _=>rfl) rfl),x_N,x_L⟩,x_S,trivial⟩,by show k-(i+1)<k-i; omega⟩
  ·have he:i=k:=by
    have:=of_decide_eq_false h;omega
   subst he;clear h;conv=>whnf
   exact⟨(),trivial,⟨trivial,⟨x_R,trivial⟩,⟨.same (congrArg (fun z=>some (Row.mk 110 1 z)) (fillV_full (by simp))) (ltL_map (fun _=>rfl) _),x_N,x_L⟩,trivial⟩⟩
 ·rintro⟨⟩ _;refine pcK ?_;conv=>whnf
  exact .own2 trivial rfl (by simp) (closedL_map (fun _=>rfl) _) rfl
end
section
open Go Go.RowKit Go.Proofs.Tryz
attribute [local irreducible] zMul zAdd zLeft zRight fitZ qMake zDiv dMake dLevel dRound dNear dAdd dMul dRatio dCmp dMin dMax dAbs dLess qCmp sOut qAdd qMul sAdd sMul sNear qSum sSize vUnit vEach vDot vNear qSgn qAbs
def SS:Nat->(Nat->Rat)->Rat
 |0,_=>0
 |n+1,f=>f 0+SS n fun k=>f (k+1)
theorem SS_congr:∀ {n:Nat} {f g:Nat->Rat},(∀ k,k<n->f k=g k)->SS n f=SS n g
 |0,_,_,_=>rfl
 |n+1,f,g,h=>by
  simp only[SS];rw[h 0 (by omega),SS_congr (n:=n) fun k hk=>h (k+1) (by omega)]
theorem SS_zero:∀ n:Nat,SS n (fun _=>0)=0
 |0=>rfl
 |n+1=>by
  simp only[SS];rw[SS_zero n,Rat.zero_add]
theorem SS_add:∀ (n:Nat) (f g:Nat->Rat),SS n (fun k=>f k+g k)=SS n f+SS n g
 |0,f,g=>by simp only[SS]; rw[Rat.zero_add]
 |n+1,f,g=>by
  simp only[SS];rw[SS_add n];have:∀ a b c d:Rat,a+b+(c+d)=a+c+(b+d):=fun a b c d=>by
   rw[Rat.add_assoc,Rat.add_assoc,<- Rat.add_assoc b,Rat.add_comm b c,Rat.add_assoc c]
  exact this _ _ _ _
theorem SS_mul_r (c:Rat):∀ (n:Nat) (f:Nat->Rat),SS n f*c=SS n fun k=>f k*c
 |0,f=>by simp only[SS]; exact Rat.zero_mul _
 |n+1,f=>by
  simp only[SS];rw[Rat.add_mul,SS_mul_r c n]
theorem SS_mul_l (c:Rat) (n:Nat) (f:Nat->Rat):c*SS n f=SS n fun k=>c*f k:=by
 rw[Rat.mul_comm,SS_mul_r];exact SS_congr fun k _=>Rat.mul_comm _ _
theorem SS_swap (m:Nat):∀ (n:Nat) (f:Nat->Nat->Rat),SS n (fun k=>SS m fun l=>f k l)=SS m fun l=>SS n fun k=>f k l
 |0,f=>(SS_zero m).symm
 |n+1,f=>by
  simp only[SS];rw[SS_swap m n fun k l=>f (k+1) l,<- SS_add]
theorem dotR_SS:∀ {x y:List Rat},x.length=y.length->dotR x y=SS x.length fun k=>x.getD k 0*y.getD k 0
 |[],[],_=>rfl
 |a::x,b::y,h=>by
  have h:x.length=y.length:=by simpa using h
  show a*b+dotR x y=_;rw[dotR_SS h];rfl
theorem qs_getD {l:List FQ} {k:Nat}:(qs l).getD k 0=(l.getD k q0).q:=by
 unfold qs;simp only[List.getD,List.getElem?_map];cases l[k]? with
 |none=>rfl
 |some x=>rfl
def Sqr (n:Nat) (a:List (List FQ)):Prop:=a.length=n/\∀ r∈a,r.length=n
def SzT (a:List (List FQ)) (j:Nat):Prop:=∀ r∈a,SzL r j j
def en (a:List (List FQ)) (i j:Nat):Rat:=((a.getD i []).getD j q0).q
theorem Sqr.rect {n:Nat} {a:List (List FQ)} (h:Sqr n a):rect a=true/\colsN a=n:=by
 have hc:colsN a=n:=by
  cases a with
  |nil=>exact h.1
  |cons r l=>exact h.2 r (by simp)
 refine⟨List.all_eq_true.2 fun r hr=>decide_eq_true ?_,hc⟩;rw[hc];exact h.2 r hr
theorem Sqr.rows6 {n:Nat} {a:List (List FQ)} (h:Sqr n a) (hn:n<1000000):Rows6 a:=fun r hr=>by rw[h.2 r hr]; exact hn
theorem Sqr.row {n:Nat} {a:List (List FQ)} (h:Sqr n a) {i:Nat} (hi:i<n):a.getD i []∈a/\(a.getD i []).length=n:=by
 have hi':i<a.length:=by rw[h.1]; exact hi
 have:a.getD i []=a[i]:=by simp[List.getD,hi']
 rw[this];exact⟨List.getElem_mem hi',h.2 _ (List.getElem_mem hi')⟩
theorem assoc_SS (n:Nat) (A B C:Nat->Nat->Rat) (i j:Nat):(SS n fun k=>(SS n fun l=>A i l*B l k)*C k j)=SS n fun l=>A i l*SS n fun k=>B l k*C k j:=by
 have e1:(SS n fun k=>(SS n fun l=>A i l*B l k)*C k j)=SS n fun k=>SS n fun l=>A i l*(B l k*C k j):=SS_congr fun k _=>by
  rw[SS_mul_r];exact SS_congr fun l _=>Rat.mul_assoc _ _ _
 rw[e1,SS_swap];exact SS_congr fun l _=>(SS_mul_l _ _ _).symm
end
end Go.Proofs.YtjdkdcmpifapeaaGreatDoor.Abs
