/- Plain laws of tables: on a list; one; turned round; together; so many times. -/
import Derived.Test.YtjdkdcmpifapeaaGreatDoorMq
import Derived.Test.YtjdkdcmpifapeaaGreatDoorMn
set_option linter.unusedVariables false
set_option linter.unusedSectionVars false
set_option linter.unusedSimpArgs false
set_option maxHeartbeats 4000000
set_option maxRecDepth 20000
namespace Go.Proofs.YtjdkdcmpifapeaaGreatDoor.Abs
section
open Go Go.RowKit Go.Proofs.Tryz
attribute [local irreducible] zMul zAdd zLeft zRight fitZ qMake zDiv dMake dLevel dRound dNear dAdd dMul dRatio dCmp dMin dMax dAbs dLess qCmp sOut qAdd qMul sAdd sMul sNear qSum sSize vEach vDot vNear qSgn qAbs vScale
def ne (x:List FQ) (i:Nat):Rat:=(x.getD i q0).q
theorem get_ne {α:Type} {l:List α} {i:Nat} {d:α} (h:i<l.length):l[i]?=some (l.getD i d):=by simp[List.getD,h]
theorem mem_getD {α:Type} {l:List α} {x d:α} (h:x∈l):∃ i,i<l.length/\l.getD i d=x:=by
 obtain⟨i,hi,rfl⟩:=List.mem_iff_getElem.1 h;exact⟨i,hi,by simp[List.getD,hi]⟩
theorem getD_mem {α:Type} {l:List α} {i:Nat} {d:α} (h:i<l.length):l.getD i d∈l:=List.mem_of_getElem? (get_ne h)
theorem q_one:(qOf 1 1).q=1:=by kernel_rfl
theorem one_ok {n:Nat} (hn:n<=16):Sqr n (mOne n)/\SzT (mOne n) 1/\∀ i j,i<n->j<n->en (mOne n) i j=if i=j then 1 else 0:=by
 have hc:clampN n=n:=by
  have:=clampN_in (n:=(n:Int)) (by omega) (by omega);omega
 refine⟨⟨by simp[mOne,hc],fun r hr=>?_⟩,fun r hr=>?_,fun i j hi hj=>?_⟩
 ·obtain⟨k,_,rfl⟩:=List.mem_map.1 hr;rw[vUnit_len,hc]
 ·obtain⟨k,_,rfl⟩:=List.mem_map.1 hr;exact vUnit_sz _ _
 ·have e:(mOne n).getD i []=vUnit n i:=by
   have:(mOne n)[i]?=some (vUnit n (i:Nat)):=by
    unfold mOne;rw[hc,List.getElem?_map,List.getElem?_range hi];rfl
   simp[List.getD,this]
  unfold en;rw[e];unfold vUnit;rw[hc,if_pos ⟨by omega,by omega⟩,Int.toNat_natCast];simp only[List.getD,List.getElem?_set,List.length_replicate];by_cases h:i=j
  ·rw[if_pos h,if_pos hi,if_pos h];exact q_one
  ·rw[if_neg h,if_neg h];simp only[List.getElem?_replicate,hj,if_true,Option.getD_some];rfl
theorem map_getD {u:List Rat} {j:Nat} {c:Rat} (h1:j<u.length):(u.map (·*c)).getD j 0=u.getD j 0*c:=by
 simp only[List.getD_eq_getElem?_getD,List.getElem?_map];rw[List.getElem?_eq_getElem h1];rfl
end
section
open Go Go.RowKit Go.Proofs.Tryz
attribute [local irreducible] zMul zAdd zLeft zRight fitZ qMake zDiv dMake dLevel dRound dNear dAdd dMul dRatio dCmp dMin dMax dAbs dLess qCmp sOut qAdd qMul sAdd sMul sNear qSum
inductive Hld (K L:Nat):List FS->List Rat->Prop
 |nil:Hld K L [] []
 |cons {s:FS} {x:Rat} {l:List FS} {m:List Rat} (h1:SGr K L s) (h2:In x s) (h:Hld K L l m):Hld K L (s::l) (x::m)
theorem Hld.len {K L:Nat} {l:List FS} {m:List Rat} (h:Hld K L l m):l.length=m.length:=by
 induction h with
 |nil=>rfl
 |cons _ _ _ ih=>simp[ih]
theorem Hld.gr {K L:Nat} {l:List FS} {m:List Rat} (h:Hld K L l m):∀ s∈l,SGr K L s:=by
 induction h with
 |nil=>simp
 |cons h1 _ _ ih =>
  intro s hs;rcases List.mem_cons.1 hs with rfl | hs
  ·exact h1
  ·exact ih s hs
theorem Hld.get {K L:Nat} {l:List FS} {m:List Rat} (h:Hld K L l m):∀ (i:Nat) (s:FS) (x:Rat),l[i]?=some s->m[i]?=some x->In x s:=by
 induction h with
 |nil=>intro i s x h; simp at h
 |cons _ h2 _ ih =>
  intro i s x hs hx;cases i with
  |zero=>simp at hs hx; subst hs hx; exact h2
  |succ i=>exact ih i s x (by simpa using hs) (by simpa using hx)
theorem Hld.of {K L:Nat}:∀ {l:List FS} {m:List Rat},l.length=m.length->(∀ (i:Nat) (s:FS) (x:Rat),l[i]?=some s->m[i]?=some x->SGr K L s/\In x s)->Hld K L l m
 |[],[],_,_=>.nil
 |s::l,x::m,h,g=>.cons (g 0 s x rfl rfl).1 (g 0 s x rfl rfl).2 (Hld.of (by simpa using h) fun i s' x' h1 h2=>g (i+1) s' x' (by simpa using h1) (by simpa using h2))
 |[],_::_,h,_=>by cases h
 |_::_,[],h,_=>by cases h
theorem vNear_hld {l:List FQ} {j k:Nat} {bits:Int} (hb:bitsOk bits=true) (hl:SzL l j k) (h:bits.toNat+k+2<=16384) (hj:j<=16384):∃ r,vNear l bits=.ok r/\Hld (j+2) (bits.toNat+k) r (qs l):=by
 obtain⟨r,h1,h2,h3⟩:=vNear_ok hb hl h hj;refine⟨r,h1,.of (by rw[h2,qs_len]) fun i s x hs hx=>?_⟩;unfold qs at hx;rw[List.getElem?_map] at hx;cases hq:l[i]? with
 |none=>rw[hq] at hx; cases hx
 |some q =>
  rw[hq] at hx;cases hx;exact h3 i q s hq hs
theorem qAbs_a (a:FQ):(qAbs a).q=absQ a.q:=by
 unfold qAbs absQ;by_cases h:a.q.num<0
 ·rw[if_pos h,if_pos (by
   have:¬ 0<=a.q:=fun g=>by have:=Rat.num_nonneg.2 g; omega
   exact Rat.not_le.1 this)]
  rfl
 ·rw[if_neg h,if_neg (by
   have:0<=a.q:=Rat.num_nonneg.1 (by omega);exact Rat.not_lt.2 this)]
theorem qAbs_sz {a:FQ} {j k:Nat} (h:Sz a.q j k):Sz (qAbs a).q j k:=by
 unfold qAbs;split
 ·exact h.neg
 ·exact h
end
section
open Go Go.RowKit Go.Proofs.Tryz
attribute [local irreducible] zMul zAdd zLeft zRight fitZ qMake zDiv dMake dLevel dRound dNear dAdd dMul dRatio dCmp dMin dMax dAbs dLess qCmp sOut qAdd qMul sAdd sMul sNear qSum sSize vEach vDot vNear qSgn qAbs vScale vPlus vInner
def SqG {α:Type} (n:Nat) (a:List (List α)):Prop:=a.length=n/\∀ r∈a,r.length=n
theorem SqG.rect {α:Type} {n:Nat} {a:List (List α)} (h:SqG n a):rect a=true/\colsN a=n:=by
 have hc:colsN a=n:=by
  cases a with
  |nil=>exact h.1
  |cons r l=>exact h.2 r (by simp)
 refine⟨List.all_eq_true.2 fun r hr=>decide_eq_true ?_,hc⟩;rw[hc];exact h.2 r hr
theorem SqG.rows6 {α:Type} {n:Nat} {a:List (List α)} (h:SqG n a) (hn:n<1000000):Rows6 a:=fun r hr=>by rw[h.2 r hr]; exact hn
theorem SqG.row {α:Type} {n:Nat} {a:List (List α)} (h:SqG n a) {i:Nat} (hi:i<n):(a.getD i []).length=n:=h.2 _ (getD_mem (by rw[h.1]; exact hi))
def HT (n K L:Nat) (p:List (List FS)) (a:List (List FQ)):Prop:=SqG n p/\∀ i,i<n->Hld K L (p.getD i []) (qs (a.getD i []))
theorem near_T {n j k:Nat} {bits:Int} {a:List (List FQ)} (hb:bitsOk bits=true) (ha:Sqr n a) (sa:∀ r∈a,SzL r j k) (h:bits.toNat+k+2<=16384) (hj:j<=16384):∃ p,mNear a bits=.ok p/\HT n (j+2) (bits.toNat+k) p a:=by
 obtain⟨p,p1,p2,p3⟩:=runE_rel (f:=fun r=>vNear r bits) (l:=a) (R:=fun r z=>Hld (j+2) (bits.toNat+k) z (qs r)) (fun r hr=>vNear_hld hb (sa r hr) h hj);have hl:p.length=n:=by rw[p2]; exact ha.1
 have hi:∀ i,i<n->Hld (j+2) (bits.toNat+k) (p.getD i []) (qs (a.getD i [])):=fun i hi=>p3 i _ _ (get_ne (by rw[ha.1]; exact hi)) (get_ne (by rw[hl]; exact hi))
 refine⟨p,p1,⟨hl,fun r hr=>?_⟩,hi⟩;obtain⟨i,h',rfl⟩:=mem_getD (d:=[]) hr;rw[(hi i (by omega)).len,qs_len];exact (ha.row (by omega)).2
theorem Hld.getD {K L:Nat} {l:List FS} {m:List Rat} (h:Hld K L l m) {i:Nat} (hi:i<l.length):SGr K L (l.getD i s0)/\In (m.getD i 0) (l.getD i s0):=by
 have hl:=h.len;exact⟨h.gr _ (getD_mem hi),h.get i _ _ (get_ne hi) (get_ne (by omega))⟩
end
section
open Go Go.RowKit Go.Proofs.Tryz
attribute [local irreducible] zMul zAdd zLeft zRight fitZ qMake zDiv dMake dLevel dRound dNear dAdd dMul dRatio dCmp dMin dMax dAbs dLess qCmp sOut qAdd qMul sAdd sMul sNear vEach vDot vNear qSgn qAbs vScale vPlus vInner
def aSum (r:List FQ):Rat:=sumQ ((qs r).map absQ)
theorem sumQ_abs_nonneg:∀ l:List Rat,0<=sumQ (l.map absQ)
 |[]=>Rat.le_refl
 |x::l=>by
  show 0<=absQ x+sumQ (l.map absQ);have:=absQ_nonneg x;have:=sumQ_abs_nonneg l;grind
theorem aSum_nonneg (r:List FQ):0<=aSum r:=sumQ_abs_nonneg _
theorem aSum_SS:∀ r:List FQ,aSum r=SS r.length fun k=>absQ (ne r k)
 |[]=>rfl
 |x::r=>by
  show absQ x.q+aSum r=_;rw[aSum_SS r];rfl
theorem foldE_abs:∀ (r:List FQ) (s:FQ),foldE absStep s r=foldE qAdd s (r.map qAbs)
 |[],_=>rfl
 |x::r,s=>by
  simp only[List.map_cons,foldE,absStep];cases qAdd s (qAbs x) with
  |error e=>rfl
  |ok t=>exact foldE_abs r t
theorem qs_abs (r:List FQ):qs (r.map qAbs)=(qs r).map absQ:=by
 unfold qs;rw[List.map_map,List.map_map];exact List.map_congr_left fun x _=>qAbs_a x
theorem abs_szL {r:List FQ} {j k:Nat} (h:SzL r j k):SzL (r.map qAbs) j k:=fun x hx=>by
 obtain⟨y,hy,rfl⟩:=List.mem_map.1 hx;exact qAbs_sz (h y hy)
theorem rowAbs_ok {r:List FQ} {m:Nat} (h:SzL r m m) (hl:(m+1)*r.length+1<=16384):∃ s,rowAbs r=.ok s/\s.q=aSum r/\Sz s.q ((m+1)*r.length+1) ((m+1)*r.length+1):=by
 obtain⟨s,h1,h2,h3⟩:=qSum_ok (abs_szL h) (by rw[List.length_map]; exact hl);rw[List.length_map] at h3;refine⟨s,(foldE_abs r q0).trans h1,by rw[h2,qs_abs]; rfl,h3.mono (Nat.le_refl _) (Nat.add_le_add_right (Nat.mul_le_mul_right _ (Nat.le_succ m)) 1)⟩
theorem norm_go {m P n:Nat} (hP:(m+1)*n+1=P) (h2:P+P<=16384):∀ (l:List (List FQ)) (acc:FQ),(∀ r∈l,r.length=n/\SzL r m m)->Sz acc.q P P ->
  ∃ N,foldE normStep acc l=.ok N/\acc.q<=N.q/\(∀ r∈l,aSum r<=N.q)/\(N=acc\/∃ r∈l,aSum r=N.q)/\Sz N.q P P
 |[],acc,_,h=>⟨acc,rfl,Rat.le_refl,by simp,.inl rfl,h⟩
 |r::l,acc,hl,h=>by
  obtain⟨s,s1,s2,s3⟩:=rowAbs_ok (hl r (by simp)).2 (by rw[(hl r (by simp)).1]; omega);rw[(hl r (by simp)).1,hP] at s3;have hc:=qCmp_ok (a:=s) (b:=acc) s3 h h2 h2;have hs:normStep acc r=.ok (if cmpQ s.q acc.q > 0 then s else acc):=by
   unfold normStep;rw[s1];simp only;rw[hc]
  by_cases hg:cmpQ s.q acc.q > 0
  ·rw[if_pos hg] at hs;have hlt:acc.q<=s.q:=by
    have:¬ s.q<=acc.q:=fun q=>by have:=cmpQ_le.2 q; omega
    grind
   obtain⟨N,n1,n2,n3,n4,n5⟩:=norm_go hP h2 l s (fun x hx=>hl x (by simp[hx])) s3;refine⟨N,by simp only[foldE,hs]; exact n1,by grind,fun x hx=>?_,?_,n5⟩
   ·rcases List.mem_cons.1 hx with rfl | hx
    ·rw[<- s2]; exact n2
    ·exact n3 x hx
   ·rcases n4 with rfl | ⟨x,hx,e⟩
    ·exact .inr ⟨r,by simp,s2.symm⟩
    ·exact .inr ⟨x,by simp[hx],e⟩
  ·rw[if_neg hg] at hs;have hle:s.q<=acc.q:=cmpQ_le.1 (by omega);obtain⟨N,n1,n2,n3,n4,n5⟩:=norm_go hP h2 l acc (fun x hx=>hl x (by simp[hx])) h;refine⟨N,by simp only[foldE,hs]; exact n1,n2,fun x hx=>?_,?_,n5⟩
   ·rcases List.mem_cons.1 hx with rfl | hx
    ·rw[<- s2]; grind
    ·exact n3 x hx
   ·rcases n4 with rfl | ⟨x,hx,e⟩
    ·exact .inl rfl
    ·exact .inr ⟨x,by simp[hx],e⟩
theorem norm_ok {m P n:Nat} {a:List (List FQ)} (hP:(m+1)*n+1=P) (h2:P+P<=16384) (ha:Sqr n a) (sa:SzT a m) :
  ∃ N,mNorm a=.ok N/\0<=N.q/\(∀ r∈a,aSum r<=N.q)/\(n=0\/∃ r∈a,aSum r=N.q)/\Sz N.q P P:=by
 obtain⟨N,n1,n2,n3,n4,n5⟩:=norm_go hP h2 a q0 (fun r hr=>⟨ha.2 r hr,sa r hr⟩) (sz_zero.mono (by omega) (by omega));refine⟨N,n1,n2,n3,?_,n5⟩;rcases n4 with rfl | h
 ·cases a with
  |nil=>exact .inl ha.1.symm
  |cons r l =>
   have h1:=n3 r (by simp);have h2:=aSum_nonneg r;have h3:q0.q=0:=rfl;exact .inr ⟨r,by simp,by grind⟩
 ·exact .inr h
end
end Go.Proofs.YtjdkdcmpifapeaaGreatDoor.Abs
