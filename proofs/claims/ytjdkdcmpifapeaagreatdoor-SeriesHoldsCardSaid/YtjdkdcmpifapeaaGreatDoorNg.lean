/- The document's sums: the walk (made by genxsum.py, a program of this session). -/
import Derived.Test.YtjdkdcmpifapeaaGreatDoorNf
set_option linter.unusedVariables false
set_option linter.unusedSectionVars false
set_option linter.unusedSimpArgs false
set_option maxHeartbeats 4000000
set_option maxRecDepth 10000
namespace Go.Proofs.YtjdkdcmpifapeaaGreatDoor.Abs
section
open Go Go.RowKit Go.Proofs.Tryz
theorem one8:l8 [1]=n8 1:=by
 unfold n8;rw[show digs8 1=[1] from by rw[digs_pos8 (by decide)]; simp[B8,digs_zero8]]
theorem dig8 {j:Nat} (h0:0<j) (h:j<256):l8 [j]=n8 j:=by
 unfold n8;rw[digs_pos8 (by omega),Nat.mod_eq_of_lt (by unfold B8; exact h),Nat.div_eq_of_lt (by unfold B8; exact h),digs_zero8]
theorem sum_sizes {A U n s terms:Nat} (hs:s<=terms) (hd:(A+U+n+3)*(terms+2)<=10000):A+U+n+3<=10000/\(A+U+n+3)*(s+1)<=10000/\(U+1)*s+1<=10000:=by
 have h1:(A+U+n+3)*(s+1)<=(A+U+n+3)*(terms+2):=Nat.mul_le_mul_left _ (by omega);have h2:A+U+n+3<=(A+U+n+3)*(terms+2):=Nat.le_mul_of_pos_right _ (by omega);have h3:(U+1)*s<=(A+U+n+3)*s:=Nat.mul_le_mul_right _ (by omega);have h4:(A+U+n+3)*(s+1)=(A+U+n+3)*s+(A+U+n+3):=Nat.mul_succ _ _;exact⟨by omega,by omega,by omega⟩
theorem frz_one {s:AS} {F:Rid->Prop} {i:Rid} {r:Row} {a x:AV} (hF:F i) (h:s.st i=some r) (he:r.els=[a]) (h0:FrzV s F a x):FrzV s F (.own i 1) (.sl [x]) :=
 .own i 1 r [x] hF h (by rw[he]; rfl) rfl fun j u v hu hv=>by
  rw[he] at hu
  match j with
  |0=>cases hu; cases hv; exact h0
  |j+1=>cases hu
theorem frz_two {s:AS} {F:Rid->Prop} {i:Rid} {r:Row} {a b x y:AV} (hF:F i) (h:s.st i=some r) (he:r.els=[a,b]) (h0:FrzV s F a x) (h1:FrzV s F b y):FrzV s F (.own i 2) (.sl [x,y]) :=
 .own i 2 r [x,y] hF h (by rw[he]; rfl) rfl fun j u v hu hv=>by
  rw[he] at hu
  match j with
  |0=>cases hu; cases hv; exact h0
  |1=>cases hu; cases hv; exact h1
  |j+2=>cases hu
theorem frz_three {s:AS} {F:Rid->Prop} {i:Rid} {r:Row} {a b c x y z:AV} (hF:F i) (h:s.st i=some r) (he:r.els=[a,b,c]) (h0:FrzV s F a x) (h1:FrzV s F b y) (h2:FrzV s F c z):FrzV s F (.own i 3) (.sl [x,y,z]) :=
 .own i 3 r [x,y,z] hF h (by rw[he]; rfl) rfl fun j u v hu hv=>by
  rw[he] at hu
  match j with
  |0=>cases hu; cases hv; exact h0
  |1=>cases hu; cases hv; exact h1
  |2=>cases hu; cases hv; exact h2
  |j+3=>cases hu
theorem c_xSum1 {A U u terms first:Nat} {a:List (List XI)} (ha:XT 1 A a) (hu:Dg8 U u) (ht:2<=terms) (hf:1<=first) (hh:terms+first<250) (hd:(A+U+1+3)*(terms+2)<=10000) :
  ACalls prog 107 [lX a,n8 u,i64 (terms:Nat),i64 (first:Nat)] (.tup [lX (xSt 1 a u (terms-2+first) (terms-1)).1,n8 (xSt 1 a u (terms-2+first) (terms-1)).2]):=by
 have la:(((a.map rX).length:Nat):Int)=((1:Nat):Int):=by rw[List.length_map,ha.l]
 have CO:=c_xOne 1 1 (by decide);refine conP func107 rfl (by kernel_rfl) ?_;refine .gk ?_;conv=>whnf
 refine .gk ?_;conv=>whnf
 refine .weaken (i:={ F:=[(1,0)],fr:=[(0,lX a),(1,n8 u),(2,i64 (terms:Nat)),(3,i64 (first:Nat)),(10,n8 1)],st:=[],g:=9 }) ?_ ?_
 ·refine⟨⟨⟨_,rfl⟩,trivial⟩,⟨x_R,x_R,x_R,x_R,.inr (.inl ?_),trivial⟩,trivial⟩;rw[<- one8];exact .own2 (.head _) rfl rfl rfl rfl
 refine .gk ?_;conv=>whnf
 rw[la];refine callS CO rfl rfl ?_;conv=>whnf
 obtain⟨hi,hhi⟩:∃ hi,terms-2+first=hi:=⟨_,rfl⟩
 obtain⟨S,hS⟩:∃ S:Nat->List (List XI)×Nat,xSt 1 a u hi=S:=⟨_,rfl⟩
 have hw0:IntKind.wrap .i64 (IntKind.wrap .i64 ((terms:Int)-2)+(first:Int))=((hi:Nat):Int):=by
  rw[wI (n:=(terms:Int)-2) (by omega) (by omega)];exact (wI (by omega) (by omega)).trans (by omega)
 rw[hhi,hS];refine .cut (fun _:Unit=>True) (fun _=>{ fr:=[(10,n8 (S (terms-1)).2),(11,lX (S (terms-1)).1)],st:=[],g:=60 }) ?_ ?_
 ·refine .gk ?_;conv=>whnf
  refine .block (.loop (fun s:Nat=>s<=terms-1) (fun s=>match s with
   |0=>{ fr:=[(0,lX a),(1,n8 u),(2,i64 (terms:Nat)),(3,i64 (first:Nat)),(10,n8 (S 0).2),(11,lX (S 0).1),(12,i64 ((hi:Int)-((0:Nat):Int)))],st:=[],g:=9 }
   |s+1=>{ F:=[(12,0),(12,1)],fr:=[(0,lX a),(1,n8 u),(2,i64 (terms:Nat)),(3,i64 (first:Nat)),(10,n8 (S (s+1)).2),(11,lX (S (s+1)).1),(12,i64 ((hi:Int)-((s+1:Nat):Int)))],st:=[],g:=9 }) (fun s=>terms-s) 0 (Nat.zero_le _) ?_ ?_)
  ·subst hS;exact⟨trivial,⟨x_R,x_R,x_R,x_R,x_R,x_R,x_E (hw0.trans (by omega)),trivial⟩,trivial⟩
  intro s hs;refine .weaken (i:={ fr:=[(0,lX a),(1,n8 u),(2,i64 (terms:Nat)),(3,i64 (first:Nat)),(10,n8 (S s).2),(11,lX (S s).1),(12,i64 ((hi:Int)-((s:Nat):Int)))],st:=[],g:=9 }) ?_ ?_
  ·cases s with
   |zero=>exact⟨trivial,⟨x_R,x_R,x_R,x_R,x_R,x_R,x_R,trivial⟩,trivial⟩
   |succ s=>exact⟨trivial,⟨x_R,x_R,x_R,x_R,x_R,x_R,x_R,trivial⟩,trivial⟩
  refine .gk ?_;conv=>whnf
  refine Br.mk (fun h=>?_) (fun h=>?_)
  ·have hlt:(first:Int)<=(hi:Int)-(s:Int):=of_decide_eq_true h;conv=>whnf
   obtain⟨hxt,hqd⟩:=xSt_dg ha hu (hi:=hi) (by omega) s;rw[hS] at hxt hqd;obtain⟨p,hp⟩:∃ p,(S s).1=p:=⟨_,rfl⟩
   obtain⟨q,hq⟩:∃ q,(S s).2=q:=⟨_,rfl⟩
   obtain⟨q1,hq1⟩:∃ q1,u*(hi-s)*q=q1:=⟨_,rfl⟩
   have hS1:S (s+1)=(xDiag 1 (xTimes 1 a p) q1,q1):=by rw[<- hq1,<- hS,<- hp,<- hq,<- hS]; rfl
   rw[hp] at hxt;rw[hq] at hqd;rw[hp,hq];refine .cut (fun _:Unit=>True) (fun _=>{ fr:=[(0,lX a),(1,n8 u),(2,i64 (terms:Nat)),(3,i64 (first:Nat)),(10,n8 q1),(11,.own (12,0) 1),(12,i64 ((hi:Int)-((s:Nat):Int)))],st:=[((12,0),⟨178,1,[.own (12,1) 1]⟩),((12,1),⟨185,2,[xi (xAdd (xc a p 0 0 1) (false,q1))]⟩)],g:=60 }) ?_ ?_
   ·refine .block ?_;obtain⟨z1,z2,z3⟩:=sum_sizes (s:=s) (by omega) hd;have hjn:(hi:Int)-(s:Int)=((hi-s:Nat):Int):=by omega
    have hD8:l8 [hi-s]=n8 (hi-s):=dig8 (by omega) (by omega);have hj8:Dg8 1 (hi-s):=Nat.lt_of_lt_of_le (by omega:hi-s<256) (by decide);have hud:=hu.mul hj8;have CM1:=c_rMul u (hi-s) (by have:=hu.len; omega) (by have:=hj8.len; omega);have CM2:=c_rMul (u*(hi-s)) q (by have:=hud.len; omega) (by have:=hqd.len; omega);have hq1d:=hud.mul hqd;rw[hq1] at hq1d;have CT:=c_xTimes1 ha hxt (by omega);have CA:∀ i,ACalls prog 195 [xi (xc a p i i 1),xi (false,q1)] (xi (xAdd (xc a p i i 1) (false,q1))):=fun i=>c_xAdd _ _ ((xc_dg ha hxt i i 1).mono (by omega)) (hq1d.mono (by omega))
    refine .gk ?_;conv=>whnf
    refine callL [(10,2)] [n8 u,n8 (hi-s)] ⟨⟨_,rfl⟩,trivial⟩ ⟨.sh _ _ rfl (.refl _),?_,trivial⟩ CM1 rfl ?_
    ·rw[<- hD8];refine .own2 (.head _) rfl rfl rfl ?_;show _=[i64 ((hi-s:Nat):Int)]
     rw[<- hjn];rfl
    conv=>whnf
    refine callS CM2 rfl rfl ?_;rw[hq1];conv=>whnf
    refine .gk ?_;conv=>whnf
    refine callN CT rfl ?_;conv=>whnf
    refine .gk ?_;conv=>whnf
    refine .block (.loop (fun i:Nat=>i<=1) (fun i=>match i with
     |0=>{ fr:=[(0,lX a),(1,n8 u),(2,i64 (terms:Nat)),(3,i64 (first:Nat)),(10,n8 q1),(11,.own (12,0) 1),(12,i64 ((hi:Int)-((s:Nat):Int))),(13,i64 (0:Nat))],st:=[((12,0),⟨178,1,[.own (12,1) 1]⟩),((12,1),⟨185,2,[xi (xc a p 0 0 1)]⟩)],g:=20 }
     |_+1=>{ fr:=[(0,lX a),(1,n8 u),(2,i64 (terms:Nat)),(3,i64 (first:Nat)),(10,n8 q1),(11,.own (12,0) 1),(12,i64 ((hi:Int)-((s:Nat):Int))),(13,i64 (1:Nat))],st:=[((12,0),⟨178,1,[.own (12,1) 1]⟩),((12,1),⟨185,2,[xi (xAdd (xc a p 0 0 1) (false,q1))]⟩)],g:=20 }) (fun i=>1-i) 0 (Nat.zero_le _) ?_ ?_)
    ·exact⟨trivial,⟨x_R,x_R,x_R,x_R,x_R,x_R,x_R,x_R,trivial⟩,x_S,x_S,trivial⟩
    intro i hi';have hi2:i=0\/i=1:=by omega
    rcases hi2 with rfl | rfl
    ·refine .gk ?_;conv=>whnf
     conv=>whnf
     refine .cut (fun _:Unit=>True) (fun _=>{ fr:=[(0,lX a),(1,n8 u),(2,i64 (terms:Nat)),(3,i64 (first:Nat)),(10,n8 q1),(11,.own (12,0) 1),(12,i64 ((hi:Int)-((s:Nat):Int))),(13,i64 (0:Nat))],st:=[((12,0),⟨178,1,[.own (12,1) 1]⟩),((12,1),⟨185,2,[xi (xAdd (xc a p 0 0 1) (false,q1))]⟩)],g:=50 }) ?_ ?_
     ·refine .block ?_;refine pcK ?_;conv=>whnf
      refine⟨by kernel_rfl,?_⟩;conv=>whnf
      refine⟨⟨rfl,rfl⟩,⟨by decide,by decide⟩,?_⟩;conv=>whnf
      refine⟨⟨rfl,rfl⟩,⟨by decide,by decide⟩,?_⟩;conv=>whnf
      refine⟨⟨rfl,rfl⟩,⟨by decide,by decide⟩,?_⟩;conv=>whnf
      refine callD (CA 0) rfl rfl ?_;conv=>whnf
      refine⟨⟨rfl,rfl⟩,⟨by decide,by decide⟩,?_⟩;conv=>whnf
      exact⟨(),trivial,⟨trivial,⟨x_R,x_R,x_R,x_R,x_R,x_R,x_R,x_R,trivial⟩,x_S,x_S,trivial⟩⟩
     ·rintro⟨⟩ _;refine pcK ?_;conv=>whnf
      exact⟨1,by omega,⟨trivial,⟨x_R,x_R,x_R,x_R,x_R,x_R,x_R,x_E (wI (by omega) (by omega)),trivial⟩,x_S,x_S,trivial⟩,by show 1-1<1-0; omega⟩
    ·refine .gk ?_;conv=>whnf
     conv=>whnf
     exact⟨(),trivial,⟨trivial,⟨x_R,x_R,x_R,x_R,x_R,x_R,x_R,trivial⟩,x_S,x_S,trivial⟩⟩
   ·rintro⟨⟩ _;refine pcK ?_;conv=>whnf
    refine⟨s+1,by omega,?_,by show terms-(s+1)<terms-s; omega⟩;show Wk _ [(12,0),(12,1)] [] [(0,lX a),(1,n8 u),(2,i64 (terms:Nat)),(3,i64 (first:Nat)),(10,n8 (S (s+1)).2),(11,lX (S (s+1)).1),(12,i64 ((hi:Int)-((s+1:Nat):Int)))] [] 9;rw[hS1];refine⟨⟨⟨_,rfl⟩,⟨_,rfl⟩,trivial⟩,⟨x_R,x_R,x_R,x_R,x_R,.inr (.inl ?_),x_E ((wI (n:=(hi:Int)-(s:Int)-1) (by omega) (by omega)).trans (by omega)),trivial⟩,trivial⟩;refine frz_one (r:=⟨178,1,[.own (12,1) 1]⟩) (.head _) rfl rfl (.own2 (.tail _ (.head _)) rfl rfl rfl rfl)
  ·have hge:¬ (first:Int)<=(hi:Int)-(s:Int):=of_decide_eq_false h;obtain rfl:s=terms-1:=by omega
   conv=>whnf
   refine⟨(),trivial,⟨trivial,⟨x_R,x_R,trivial⟩,trivial⟩⟩
 ·rintro⟨⟩ _;refine .gk ?_;conv=>whnf
  refine pcK ?_;conv=>whnf
  exact⟨fin rfl rfl,fin rfl rfl,trivial⟩
theorem c_xSum2 {A U u terms first:Nat} {a:List (List XI)} (ha:XT 2 A a) (hu:Dg8 U u) (ht:2<=terms) (hf:1<=first) (hh:terms+first<250) (hd:(A+U+2+3)*(terms+2)<=10000) :
  ACalls prog 107 [lX a,n8 u,i64 (terms:Nat),i64 (first:Nat)] (.tup [lX (xSt 2 a u (terms-2+first) (terms-1)).1,n8 (xSt 2 a u (terms-2+first) (terms-1)).2]):=by
 have la:(((a.map rX).length:Nat):Int)=((2:Nat):Int):=by rw[List.length_map,ha.l]
 have CO:=c_xOne 2 1 (by decide);refine conP func107 rfl (by kernel_rfl) ?_;refine .gk ?_;conv=>whnf
 refine .gk ?_;conv=>whnf
 refine .weaken (i:={ F:=[(1,0)],fr:=[(0,lX a),(1,n8 u),(2,i64 (terms:Nat)),(3,i64 (first:Nat)),(10,n8 1)],st:=[],g:=9 }) ?_ ?_
 ·refine⟨⟨⟨_,rfl⟩,trivial⟩,⟨x_R,x_R,x_R,x_R,.inr (.inl ?_),trivial⟩,trivial⟩;rw[<- one8];exact .own2 (.head _) rfl rfl rfl rfl
 refine .gk ?_;conv=>whnf
 rw[la];refine callS CO rfl rfl ?_;conv=>whnf
 obtain⟨hi,hhi⟩:∃ hi,terms-2+first=hi:=⟨_,rfl⟩
 obtain⟨S,hS⟩:∃ S:Nat->List (List XI)×Nat,xSt 2 a u hi=S:=⟨_,rfl⟩
 have hw0:IntKind.wrap .i64 (IntKind.wrap .i64 ((terms:Int)-2)+(first:Int))=((hi:Nat):Int):=by
  rw[wI (n:=(terms:Int)-2) (by omega) (by omega)];exact (wI (by omega) (by omega)).trans (by omega)
 rw[hhi,hS];refine .cut (fun _:Unit=>True) (fun _=>{ fr:=[(10,n8 (S (terms-1)).2),(11,lX (S (terms-1)).1)],st:=[],g:=60 }) ?_ ?_
 ·refine .gk ?_;conv=>whnf
  refine .block (.loop (fun s:Nat=>s<=terms-1) (fun s=>match s with
   |0=>{ fr:=[(0,lX a),(1,n8 u),(2,i64 (terms:Nat)),(3,i64 (first:Nat)),(10,n8 (S 0).2),(11,lX (S 0).1),(12,i64 ((hi:Int)-((0:Nat):Int)))],st:=[],g:=9 }
   |s+1=>{ F:=[(12,0),(12,1),(12,2)],fr:=[(0,lX a),(1,n8 u),(2,i64 (terms:Nat)),(3,i64 (first:Nat)),(10,n8 (S (s+1)).2),(11,lX (S (s+1)).1),(12,i64 ((hi:Int)-((s+1:Nat):Int)))],st:=[],g:=9 }) (fun s=>terms-s) 0 (Nat.zero_le _) ?_ ?_)
  ·subst hS;exact⟨trivial,⟨x_R,x_R,x_R,x_R,x_R,x_R,x_E (hw0.trans (by omega)),trivial⟩,trivial⟩
  intro s hs;refine .weaken (i:={ fr:=[(0,lX a),(1,n8 u),(2,i64 (terms:Nat)),(3,i64 (first:Nat)),(10,n8 (S s).2),(11,lX (S s).1),(12,i64 ((hi:Int)-((s:Nat):Int)))],st:=[],g:=9 }) ?_ ?_
  ·cases s with
   |zero=>exact⟨trivial,⟨x_R,x_R,x_R,x_R,x_R,x_R,x_R,trivial⟩,trivial⟩
   |succ s=>exact⟨trivial,⟨x_R,x_R,x_R,x_R,x_R,x_R,x_R,trivial⟩,trivial⟩
  refine .gk ?_;conv=>whnf
  refine Br.mk (fun h=>?_) (fun h=>?_)
  ·have hlt:(first:Int)<=(hi:Int)-(s:Int):=of_decide_eq_true h;conv=>whnf
   obtain⟨hxt,hqd⟩:=xSt_dg ha hu (hi:=hi) (by omega) s;rw[hS] at hxt hqd;obtain⟨p,hp⟩:∃ p,(S s).1=p:=⟨_,rfl⟩
   obtain⟨q,hq⟩:∃ q,(S s).2=q:=⟨_,rfl⟩
   obtain⟨q1,hq1⟩:∃ q1,u*(hi-s)*q=q1:=⟨_,rfl⟩
   have hS1:S (s+1)=(xDiag 2 (xTimes 2 a p) q1,q1):=by rw[<- hq1,<- hS,<- hp,<- hq,<- hS]; rfl
   rw[hp] at hxt;rw[hq] at hqd;rw[hp,hq];refine .cut (fun _:Unit=>True) (fun _=>{ fr:=[(0,lX a),(1,n8 u),(2,i64 (terms:Nat)),(3,i64 (first:Nat)),(10,n8 q1),(11,.own (12,0) 2),(12,i64 ((hi:Int)-((s:Nat):Int)))],st:=[((12,0),⟨178,1,[.own (12,1) 2,.own (12,2) 2]⟩),((12,1),⟨185,2,[xi (xAdd (xc a p 0 0 2) (false,q1)),xi (xc a p 0 1 2)]⟩),((12,2),⟨185,2,[xi (xc a p 1 0 2),xi (xAdd (xc a p 1 1 2) (false,q1))]⟩)],g:=60 }) ?_ ?_
   ·refine .block ?_;obtain⟨z1,z2,z3⟩:=sum_sizes (s:=s) (by omega) hd;have hjn:(hi:Int)-(s:Int)=((hi-s:Nat):Int):=by omega
    have hD8:l8 [hi-s]=n8 (hi-s):=dig8 (by omega) (by omega);have hj8:Dg8 1 (hi-s):=Nat.lt_of_lt_of_le (by omega:hi-s<256) (by decide);have hud:=hu.mul hj8;have CM1:=c_rMul u (hi-s) (by have:=hu.len; omega) (by have:=hj8.len; omega);have CM2:=c_rMul (u*(hi-s)) q (by have:=hud.len; omega) (by have:=hqd.len; omega);have hq1d:=hud.mul hqd;rw[hq1] at hq1d;have CT:=c_xTimes2 ha hxt (by omega);have CA:∀ i,ACalls prog 195 [xi (xc a p i i 2),xi (false,q1)] (xi (xAdd (xc a p i i 2) (false,q1))):=fun i=>c_xAdd _ _ ((xc_dg ha hxt i i 2).mono (by omega)) (hq1d.mono (by omega))
    refine .gk ?_;conv=>whnf
    refine callL [(10,2)] [n8 u,n8 (hi-s)] ⟨⟨_,rfl⟩,trivial⟩ ⟨.sh _ _ rfl (.refl _),?_,trivial⟩ CM1 rfl ?_
    ·rw[<- hD8];refine .own2 (.head _) rfl rfl rfl ?_;show _=[i64 ((hi-s:Nat):Int)]
     rw[<- hjn];rfl
    conv=>whnf
    refine callS CM2 rfl rfl ?_;rw[hq1];conv=>whnf
    refine .gk ?_;conv=>whnf
    refine callN CT rfl ?_;conv=>whnf
    refine .gk ?_;conv=>whnf
    refine .block (.loop (fun i:Nat=>i<=2) (fun i=>match i with
     |0=>{ fr:=[(0,lX a),(1,n8 u),(2,i64 (terms:Nat)),(3,i64 (first:Nat)),(10,n8 q1),(11,.own (12,0) 2),(12,i64 ((hi:Int)-((s:Nat):Int))),(13,i64 (0:Nat))],st:=[((12,0),⟨178,1,[.own (12,1) 2,.own (12,2) 2]⟩),((12,1),⟨185,2,[xi (xc a p 0 0 2),xi (xc a p 0 1 2)]⟩),((12,2),⟨185,2,[xi (xc a p 1 0 2),xi (xc a p 1 1 2)]⟩)],g:=20 }
     |1=>{ fr:=[(0,lX a),(1,n8 u),(2,i64 (terms:Nat)),(3,i64 (first:Nat)),(10,n8 q1),(11,.own (12,0) 2),(12,i64 ((hi:Int)-((s:Nat):Int))),(13,i64 (1:Nat))],st:=[((12,0),⟨178,1,[.own (12,1) 2,.own (12,2) 2]⟩),((12,1),⟨185,2,[xi (xAdd (xc a p 0 0 2) (false,q1)),xi (xc a p 0 1 2)]⟩),((12,2),⟨185,2,[xi (xc a p 1 0 2),xi (xc a p 1 1 2)]⟩)],g:=20 }
     |_+2=>{ fr:=[(0,lX a),(1,n8 u),(2,i64 (terms:Nat)),(3,i64 (first:Nat)),(10,n8 q1),(11,.own (12,0) 2),(12,i64 ((hi:Int)-((s:Nat):Int))),(13,i64 (2:Nat))],st:=[((12,0),⟨178,1,[.own (12,1) 2,.own (12,2) 2]⟩),((12,1),⟨185,2,[xi (xAdd (xc a p 0 0 2) (false,q1)),xi (xc a p 0 1 2)]⟩),((12,2),⟨185,2,[xi (xc a p 1 0 2),xi (xAdd (xc a p 1 1 2) (false,q1))]⟩)],g:=20 }) (fun i=>2-i) 0 (Nat.zero_le _) ?_ ?_)
    ·exact⟨trivial,⟨x_R,x_R,x_R,x_R,x_R,x_R,x_R,x_R,trivial⟩,x_S,x_S,x_S,trivial⟩
    intro i hi';have hi2:i=0\/i=1\/i=2:=by omega
    rcases hi2 with rfl | rfl | rfl
    ·refine .gk ?_;conv=>whnf
     conv=>whnf
     refine .cut (fun _:Unit=>True) (fun _=>{ fr:=[(0,lX a),(1,n8 u),(2,i64 (terms:Nat)),(3,i64 (first:Nat)),(10,n8 q1),(11,.own (12,0) 2),(12,i64 ((hi:Int)-((s:Nat):Int))),(13,i64 (0:Nat))],st:=[((12,0),⟨178,1,[.own (12,1) 2,.own (12,2) 2]⟩),((12,1),⟨185,2,[xi (xAdd (xc a p 0 0 2) (false,q1)),xi (xc a p 0 1 2)]⟩),((12,2),⟨185,2,[xi (xc a p 1 0 2),xi (xc a p 1 1 2)]⟩)],g:=50 }) ?_ ?_
     ·refine .block ?_;refine pcK ?_;conv=>whnf
      refine⟨by kernel_rfl,?_⟩;conv=>whnf
      refine⟨⟨rfl,rfl⟩,⟨by decide,by decide⟩,?_⟩;conv=>whnf
      refine⟨.own (12,1) 2,rfl,?_⟩;conv=>whnf
      refine⟨⟨rfl,rfl⟩,⟨by decide,by decide⟩,?_⟩;conv=>whnf
      refine⟨.own (12,1) 2,rfl,?_⟩;conv=>whnf
      refine⟨⟨rfl,rfl⟩,⟨by decide,by decide⟩,?_⟩;conv=>whnf
      refine⟨xi (xc a p 0 0 2),rfl,?_⟩;conv=>whnf
      refine callD (CA 0) rfl rfl ?_;conv=>whnf
      refine⟨⟨rfl,rfl⟩,⟨by decide,by decide⟩,?_⟩;conv=>whnf
      refine⟨xi (xc a p 0 0 2),rfl,?_⟩;conv=>whnf
      exact⟨(),trivial,⟨trivial,⟨x_R,x_R,x_R,x_R,x_R,x_R,x_R,x_R,trivial⟩,x_S,x_S,x_S,trivial⟩⟩
     ·rintro⟨⟩ _;refine pcK ?_;conv=>whnf
      exact⟨1,by omega,⟨trivial,⟨x_R,x_R,x_R,x_R,x_R,x_R,x_R,x_E (wI (by omega) (by omega)),trivial⟩,x_S,x_S,x_S,trivial⟩,by show 2-1<2-0; omega⟩
    ·refine .gk ?_;conv=>whnf
     conv=>whnf
     refine .cut (fun _:Unit=>True) (fun _=>{ fr:=[(0,lX a),(1,n8 u),(2,i64 (terms:Nat)),(3,i64 (first:Nat)),(10,n8 q1),(11,.own (12,0) 2),(12,i64 ((hi:Int)-((s:Nat):Int))),(13,i64 (1:Nat))],st:=[((12,0),⟨178,1,[.own (12,1) 2,.own (12,2) 2]⟩),((12,1),⟨185,2,[xi (xAdd (xc a p 0 0 2) (false,q1)),xi (xc a p 0 1 2)]⟩),((12,2),⟨185,2,[xi (xc a p 1 0 2),xi (xAdd (xc a p 1 1 2) (false,q1))]⟩)],g:=50 }) ?_ ?_
     ·refine .block ?_;refine pcK ?_;conv=>whnf
      refine⟨by kernel_rfl,?_⟩;conv=>whnf
      refine⟨⟨rfl,rfl⟩,⟨by decide,by decide⟩,?_⟩;conv=>whnf
      refine⟨.own (12,2) 2,rfl,?_⟩;conv=>whnf
      refine⟨⟨rfl,rfl⟩,⟨by decide,by decide⟩,?_⟩;conv=>whnf
      refine⟨.own (12,2) 2,rfl,?_⟩;conv=>whnf
      refine⟨⟨rfl,rfl⟩,⟨by decide,by decide⟩,?_⟩;conv=>whnf
      refine⟨xi (xc a p 1 1 2),rfl,?_⟩;conv=>whnf
      refine callD (CA 1) rfl rfl ?_;conv=>whnf
      refine⟨⟨rfl,rfl⟩,⟨by decide,by decide⟩,?_⟩;conv=>whnf
      refine⟨xi (xc a p 1 1 2),rfl,?_⟩;conv=>whnf
      exact⟨(),trivial,⟨trivial,⟨x_R,x_R,x_R,x_R,x_R,x_R,x_R,x_R,trivial⟩,x_S,x_S,x_S,trivial⟩⟩
     ·rintro⟨⟩ _;refine pcK ?_;conv=>whnf
      exact⟨2,by omega,⟨trivial,⟨x_R,x_R,x_R,x_R,x_R,x_R,x_R,x_E (wI (by omega) (by omega)),trivial⟩,x_S,x_S,x_S,trivial⟩,by show 2-2<2-1; omega⟩
    ·refine .gk ?_;conv=>whnf
     conv=>whnf
     exact⟨(),trivial,⟨trivial,⟨x_R,x_R,x_R,x_R,x_R,x_R,x_R,trivial⟩,x_S,x_S,x_S,trivial⟩⟩
   ·rintro⟨⟩ _;refine pcK ?_;conv=>whnf
    refine⟨s+1,by omega,?_,by show terms-(s+1)<terms-s; omega⟩;show Wk _ [(12,0),(12,1),(12,2)] [] [(0,lX a),(1,n8 u),(2,i64 (terms:Nat)),(3,i64 (first:Nat)),(10,n8 (S (s+1)).2),(11,lX (S (s+1)).1),(12,i64 ((hi:Int)-((s+1:Nat):Int)))] [] 9;rw[hS1];refine⟨⟨⟨_,rfl⟩,⟨_,rfl⟩,⟨_,rfl⟩,trivial⟩,⟨x_R,x_R,x_R,x_R,x_R,.inr (.inl ?_),x_E ((wI (n:=(hi:Int)-(s:Int)-1) (by omega) (by omega)).trans (by omega)),trivial⟩,trivial⟩;refine frz_two (r:=⟨178,1,[.own (12,1) 2,.own (12,2) 2]⟩) (.head _) rfl rfl (.own2 (.tail _ (.head _)) rfl rfl rfl rfl) (.own2 (.tail _ (.tail _ (.head _))) rfl rfl rfl rfl)
  ·have hge:¬ (first:Int)<=(hi:Int)-(s:Int):=of_decide_eq_false h;obtain rfl:s=terms-1:=by omega
   conv=>whnf
   refine⟨(),trivial,⟨trivial,⟨x_R,x_R,trivial⟩,trivial⟩⟩
 ·rintro⟨⟩ _;refine .gk ?_;conv=>whnf
  refine pcK ?_;conv=>whnf
  exact⟨fin rfl rfl,fin rfl rfl,trivial⟩
theorem c_xSum3 {A U u terms first:Nat} {a:List (List XI)} (ha:XT 3 A a) (hu:Dg8 U u) (ht:2<=terms) (hf:1<=first) (hh:terms+first<250) (hd:(A+U+3+3)*(terms+2)<=10000) :
  ACalls prog 107 [lX a,n8 u,i64 (terms:Nat),i64 (first:Nat)] (.tup [lX (xSt 3 a u (terms-2+first) (terms-1)).1,n8 (xSt 3 a u (terms-2+first) (terms-1)).2]):=by
 have la:(((a.map rX).length:Nat):Int)=((3:Nat):Int):=by rw[List.length_map,ha.l]
 have CO:=c_xOne 3 1 (by decide);refine conP func107 rfl (by kernel_rfl) ?_;refine .gk ?_;conv=>whnf
 refine .gk ?_;conv=>whnf
 refine .weaken (i:={ F:=[(1,0)],fr:=[(0,lX a),(1,n8 u),(2,i64 (terms:Nat)),(3,i64 (first:Nat)),(10,n8 1)],st:=[],g:=9 }) ?_ ?_
 ·refine⟨⟨⟨_,rfl⟩,trivial⟩,⟨x_R,x_R,x_R,x_R,.inr (.inl ?_),trivial⟩,trivial⟩;rw[<- one8];exact .own2 (.head _) rfl rfl rfl rfl
 refine .gk ?_;conv=>whnf
 rw[la];refine callS CO rfl rfl ?_;conv=>whnf
 obtain⟨hi,hhi⟩:∃ hi,terms-2+first=hi:=⟨_,rfl⟩
 obtain⟨S,hS⟩:∃ S:Nat->List (List XI)×Nat,xSt 3 a u hi=S:=⟨_,rfl⟩
 have hw0:IntKind.wrap .i64 (IntKind.wrap .i64 ((terms:Int)-2)+(first:Int))=((hi:Nat):Int):=by
  rw[wI (n:=(terms:Int)-2) (by omega) (by omega)];exact (wI (by omega) (by omega)).trans (by omega)
 rw[hhi,hS];refine .cut (fun _:Unit=>True) (fun _=>{ fr:=[(10,n8 (S (terms-1)).2),(11,lX (S (terms-1)).1)],st:=[],g:=60 }) ?_ ?_
 ·refine .gk ?_;conv=>whnf
  refine .block (.loop (fun s:Nat=>s<=terms-1) (fun s=>match s with
   |0=>{ fr:=[(0,lX a),(1,n8 u),(2,i64 (terms:Nat)),(3,i64 (first:Nat)),(10,n8 (S 0).2),(11,lX (S 0).1),(12,i64 ((hi:Int)-((0:Nat):Int)))],st:=[],g:=9 }
   |s+1=>{ F:=[(12,0),(12,1),(12,2),(12,3)],fr:=[(0,lX a),(1,n8 u),(2,i64 (terms:Nat)),(3,i64 (first:Nat)),(10,n8 (S (s+1)).2),(11,lX (S (s+1)).1),(12,i64 ((hi:Int)-((s+1:Nat):Int)))],st:=[],g:=9 }) (fun s=>terms-s) 0 (Nat.zero_le _) ?_ ?_)
  ·subst hS;exact⟨trivial,⟨x_R,x_R,x_R,x_R,x_R,x_R,x_E (hw0.trans (by omega)),trivial⟩,trivial⟩
  intro s hs;refine .weaken (i:={ fr:=[(0,lX a),(1,n8 u),(2,i64 (terms:Nat)),(3,i64 (first:Nat)),(10,n8 (S s).2),(11,lX (S s).1),(12,i64 ((hi:Int)-((s:Nat):Int)))],st:=[],g:=9 }) ?_ ?_
  ·cases s with
   |zero=>exact⟨trivial,⟨x_R,x_R,x_R,x_R,x_R,x_R,x_R,trivial⟩,trivial⟩
   |succ s=>exact⟨trivial,⟨x_R,x_R,x_R,x_R,x_R,x_R,x_R,trivial⟩,trivial⟩
  refine .gk ?_;conv=>whnf
  refine Br.mk (fun h=>?_) (fun h=>?_)
  ·have hlt:(first:Int)<=(hi:Int)-(s:Int):=of_decide_eq_true h;conv=>whnf
   obtain⟨hxt,hqd⟩:=xSt_dg ha hu (hi:=hi) (by omega) s;rw[hS] at hxt hqd;obtain⟨p,hp⟩:∃ p,(S s).1=p:=⟨_,rfl⟩
   obtain⟨q,hq⟩:∃ q,(S s).2=q:=⟨_,rfl⟩
   obtain⟨q1,hq1⟩:∃ q1,u*(hi-s)*q=q1:=⟨_,rfl⟩
   have hS1:S (s+1)=(xDiag 3 (xTimes 3 a p) q1,q1):=by rw[<- hq1,<- hS,<- hp,<- hq,<- hS]; rfl
   rw[hp] at hxt;rw[hq] at hqd;rw[hp,hq];refine .cut (fun _:Unit=>True) (fun _=>{ fr:=[(0,lX a),(1,n8 u),(2,i64 (terms:Nat)),(3,i64 (first:Nat)),(10,n8 q1),(11,.own (12,0) 3),(12,i64 ((hi:Int)-((s:Nat):Int)))],st:=[((12,0),⟨178,1,[.own (12,1) 3,.own (12,2) 3,.own (12,3) 3]⟩),((12,1),⟨185,2,[xi (xAdd (xc a p 0 0 3) (false,q1)),xi (xc a p 0 1 3),xi (xc a p 0 2 3)]⟩),((12,2),⟨185,2,[xi (xc a p 1 0 3),xi (xAdd (xc a p 1 1 3) (false,q1)),xi (xc a p 1 2 3)]⟩),((12,3),⟨185,2,[xi (xc a p 2 0 3),xi (xc a p 2 1 3),xi (xAdd (xc a p 2 2 3) (false,q1))]⟩)],g:=60 }) ?_ ?_
   ·refine .block ?_;obtain⟨z1,z2,z3⟩:=sum_sizes (s:=s) (by omega) hd;have hjn:(hi:Int)-(s:Int)=((hi-s:Nat):Int):=by omega
    have hD8:l8 [hi-s]=n8 (hi-s):=dig8 (by omega) (by omega);have hj8:Dg8 1 (hi-s):=Nat.lt_of_lt_of_le (by omega:hi-s<256) (by decide);have hud:=hu.mul hj8;have CM1:=c_rMul u (hi-s) (by have:=hu.len; omega) (by have:=hj8.len; omega);have CM2:=c_rMul (u*(hi-s)) q (by have:=hud.len; omega) (by have:=hqd.len; omega);have hq1d:=hud.mul hqd;rw[hq1] at hq1d;have CT:=c_xTimes3 ha hxt (by omega);have CA:∀ i,ACalls prog 195 [xi (xc a p i i 3),xi (false,q1)] (xi (xAdd (xc a p i i 3) (false,q1))):=fun i=>c_xAdd _ _ ((xc_dg ha hxt i i 3).mono (by omega)) (hq1d.mono (by omega))
    refine .gk ?_;conv=>whnf
    refine callL [(10,2)] [n8 u,n8 (hi-s)] ⟨⟨_,rfl⟩,trivial⟩ ⟨.sh _ _ rfl (.refl _),?_,trivial⟩ CM1 rfl ?_
    ·rw[<- hD8];refine .own2 (.head _) rfl rfl rfl ?_;show _=[i64 ((hi-s:Nat):Int)]
     rw[<- hjn];rfl
    conv=>whnf
    refine callS CM2 rfl rfl ?_;rw[hq1];conv=>whnf
    refine .gk ?_;conv=>whnf
    refine callN CT rfl ?_;conv=>whnf
    refine .gk ?_;conv=>whnf
    refine .block (.loop (fun i:Nat=>i<=3) (fun i=>match i with
     |0=>{ fr:=[(0,lX a),(1,n8 u),(2,i64 (terms:Nat)),(3,i64 (first:Nat)),(10,n8 q1),(11,.own (12,0) 3),(12,i64 ((hi:Int)-((s:Nat):Int))),(13,i64 (0:Nat))],st:=[((12,0),⟨178,1,[.own (12,1) 3,.own (12,2) 3,.own (12,3) 3]⟩),((12,1),⟨185,2,[xi (xc a p 0 0 3),xi (xc a p 0 1 3),xi (xc a p 0 2 3)]⟩),((12,2),⟨185,2,[xi (xc a p 1 0 3),xi (xc a p 1 1 3),xi (xc a p 1 2 3)]⟩),((12,3),⟨185,2,[xi (xc a p 2 0 3),xi (xc a p 2 1 3),xi (xc a p 2 2 3)]⟩)],g:=20 }
     |1=>{ fr:=[(0,lX a),(1,n8 u),(2,i64 (terms:Nat)),(3,i64 (first:Nat)),(10,n8 q1),(11,.own (12,0) 3),(12,i64 ((hi:Int)-((s:Nat):Int))),(13,i64 (1:Nat))],st:=[((12,0),⟨178,1,[.own (12,1) 3,.own (12,2) 3,.own (12,3) 3]⟩),((12,1),⟨185,2,[xi (xAdd (xc a p 0 0 3) (false,q1)),xi (xc a p 0 1 3),xi (xc a p 0 2 3)]⟩),((12,2),⟨185,2,[xi (xc a p 1 0 3),xi (xc a p 1 1 3),xi (xc a p 1 2 3)]⟩),((12,3),⟨185,2,[xi (xc a p 2 0 3),xi (xc a p 2 1 3),xi (xc a p 2 2 3)]⟩)],g:=20 }
     |2=>{ fr:=[(0,lX a),(1,n8 u),(2,i64 (terms:Nat)),(3,i64 (first:Nat)),(10,n8 q1),(11,.own (12,0) 3),(12,i64 ((hi:Int)-((s:Nat):Int))),(13,i64 (2:Nat))],st:=[((12,0),⟨178,1,[.own (12,1) 3,.own (12,2) 3,.own (12,3) 3]⟩),((12,1),⟨185,2,[xi (xAdd (xc a p 0 0 3) (false,q1)),xi (xc a p 0 1 3),xi (xc a p 0 2 3)]⟩),((12,2),⟨185,2,[xi (xc a p 1 0 3),xi (xAdd (xc a p 1 1 3) (false,q1)),xi (xc a p 1 2 3)]⟩),((12,3),⟨185,2,[xi (xc a p 2 0 3),xi (xc a p 2 1 3),xi (xc a p 2 2 3)]⟩)],g:=20 }
     |_+3=>{ fr:=[(0,lX a),(1,n8 u),(2,i64 (terms:Nat)),(3,i64 (first:Nat)),(10,n8 q1),(11,.own (12,0) 3),(12,i64 ((hi:Int)-((s:Nat):Int))),(13,i64 (3:Nat))],st:=[((12,0),⟨178,1,[.own (12,1) 3,.own (12,2) 3,.own (12,3) 3]⟩),((12,1),⟨185,2,[xi (xAdd (xc a p 0 0 3) (false,q1)),xi (xc a p 0 1 3),xi (xc a p 0 2 3)]⟩),((12,2),⟨185,2,[xi (xc a p 1 0 3),xi (xAdd (xc a p 1 1 3) (false,q1)),xi (xc a p 1 2 3)]⟩),((12,3),⟨185,2,[xi (xc a p 2 0 3),xi (xc a p 2 1 3),xi (xAdd (xc a p 2 2 3) (false,q1))]⟩)],g:=20 }) (fun i=>3-i) 0 (Nat.zero_le _) ?_ ?_)
    ·exact⟨trivial,⟨x_R,x_R,x_R,x_R,x_R,x_R,x_R,x_R,trivial⟩,x_S,x_S,x_S,x_S,trivial⟩
    intro i hi';have hi2:i=0\/i=1\/i=2\/i=3:=by omega
    rcases hi2 with rfl | rfl | rfl | rfl
    ·refine .gk ?_;conv=>whnf
     conv=>whnf
     refine .cut (fun _:Unit=>True) (fun _=>{ fr:=[(0,lX a),(1,n8 u),(2,i64 (terms:Nat)),(3,i64 (first:Nat)),(10,n8 q1),(11,.own (12,0) 3),(12,i64 ((hi:Int)-((s:Nat):Int))),(13,i64 (0:Nat))],st:=[((12,0),⟨178,1,[.own (12,1) 3,.own (12,2) 3,.own (12,3) 3]⟩),((12,1),⟨185,2,[xi (xAdd (xc a p 0 0 3) (false,q1)),xi (xc a p 0 1 3),xi (xc a p 0 2 3)]⟩),((12,2),⟨185,2,[xi (xc a p 1 0 3),xi (xc a p 1 1 3),xi (xc a p 1 2 3)]⟩),((12,3),⟨185,2,[xi (xc a p 2 0 3),xi (xc a p 2 1 3),xi (xc a p 2 2 3)]⟩)],g:=50 }) ?_ ?_
     ·refine .block ?_;refine pcK ?_;conv=>whnf
      refine⟨by kernel_rfl,?_⟩;conv=>whnf
      refine⟨⟨rfl,rfl⟩,⟨by decide,by decide⟩,?_⟩;conv=>whnf
      refine⟨.own (12,1) 3,rfl,?_⟩;conv=>whnf
      refine⟨⟨rfl,rfl⟩,⟨by decide,by decide⟩,?_⟩;conv=>whnf
      refine⟨.own (12,1) 3,rfl,?_⟩;conv=>whnf
      refine⟨⟨rfl,rfl⟩,⟨by decide,by decide⟩,?_⟩;conv=>whnf
      refine⟨xi (xc a p 0 0 3),rfl,?_⟩;conv=>whnf
      refine callD (CA 0) rfl rfl ?_;conv=>whnf
      refine⟨⟨rfl,rfl⟩,⟨by decide,by decide⟩,?_⟩;conv=>whnf
      refine⟨xi (xc a p 0 0 3),rfl,?_⟩;conv=>whnf
      exact⟨(),trivial,⟨trivial,⟨x_R,x_R,x_R,x_R,x_R,x_R,x_R,x_R,trivial⟩,x_S,x_S,x_S,x_S,trivial⟩⟩
     ·rintro⟨⟩ _;refine pcK ?_;conv=>whnf
      exact⟨1,by omega,⟨trivial,⟨x_R,x_R,x_R,x_R,x_R,x_R,x_R,x_E (wI (by omega) (by omega)),trivial⟩,x_S,x_S,x_S,x_S,trivial⟩,by show 3-1<3-0; omega⟩
    ·refine .gk ?_;conv=>whnf
     conv=>whnf
     refine .cut (fun _:Unit=>True) (fun _=>{ fr:=[(0,lX a),(1,n8 u),(2,i64 (terms:Nat)),(3,i64 (first:Nat)),(10,n8 q1),(11,.own (12,0) 3),(12,i64 ((hi:Int)-((s:Nat):Int))),(13,i64 (1:Nat))],st:=[((12,0),⟨178,1,[.own (12,1) 3,.own (12,2) 3,.own (12,3) 3]⟩),((12,1),⟨185,2,[xi (xAdd (xc a p 0 0 3) (false,q1)),xi (xc a p 0 1 3),xi (xc a p 0 2 3)]⟩),((12,2),⟨185,2,[xi (xc a p 1 0 3),xi (xAdd (xc a p 1 1 3) (false,q1)),xi (xc a p 1 2 3)]⟩),((12,3),⟨185,2,[xi (xc a p 2 0 3),xi (xc a p 2 1 3),xi (xc a p 2 2 3)]⟩)],g:=50 }) ?_ ?_
     ·refine .block ?_;refine pcK ?_;conv=>whnf
      refine⟨by kernel_rfl,?_⟩;conv=>whnf
      refine⟨⟨rfl,rfl⟩,⟨by decide,by decide⟩,?_⟩;conv=>whnf
      refine⟨.own (12,2) 3,rfl,?_⟩;conv=>whnf
      refine⟨⟨rfl,rfl⟩,⟨by decide,by decide⟩,?_⟩;conv=>whnf
      refine⟨.own (12,2) 3,rfl,?_⟩;conv=>whnf
      refine⟨⟨rfl,rfl⟩,⟨by decide,by decide⟩,?_⟩;conv=>whnf
      refine⟨xi (xc a p 1 1 3),rfl,?_⟩;conv=>whnf
      refine callD (CA 1) rfl rfl ?_;conv=>whnf
      refine⟨⟨rfl,rfl⟩,⟨by decide,by decide⟩,?_⟩;conv=>whnf
      refine⟨xi (xc a p 1 1 3),rfl,?_⟩;conv=>whnf
      exact⟨(),trivial,⟨trivial,⟨x_R,x_R,x_R,x_R,x_R,x_R,x_R,x_R,trivial⟩,x_S,x_S,x_S,x_S,trivial⟩⟩
     ·rintro⟨⟩ _;refine pcK ?_;conv=>whnf
      exact⟨2,by omega,⟨trivial,⟨x_R,x_R,x_R,x_R,x_R,x_R,x_R,x_E (wI (by omega) (by omega)),trivial⟩,x_S,x_S,x_S,x_S,trivial⟩,by show 3-2<3-1; omega⟩
    ·refine .gk ?_;conv=>whnf
     conv=>whnf
     refine .cut (fun _:Unit=>True) (fun _=>{ fr:=[(0,lX a),(1,n8 u),(2,i64 (terms:Nat)),(3,i64 (first:Nat)),(10,n8 q1),(11,.own (12,0) 3),(12,i64 ((hi:Int)-((s:Nat):Int))),(13,i64 (2:Nat))],st:=[((12,0),⟨178,1,[.own (12,1) 3,.own (12,2) 3,.own (12,3) 3]⟩),((12,1),⟨185,2,[xi (xAdd (xc a p 0 0 3) (false,q1)),xi (xc a p 0 1 3),xi (xc a p 0 2 3)]⟩),((12,2),⟨185,2,[xi (xc a p 1 0 3),xi (xAdd (xc a p 1 1 3) (false,q1)),xi (xc a p 1 2 3)]⟩),((12,3),⟨185,2,[xi (xc a p 2 0 3),xi (xc a p 2 1 3),xi (xAdd (xc a p 2 2 3) (false,q1))]⟩)],g:=50 }) ?_ ?_
     ·refine .block ?_;refine pcK ?_;conv=>whnf
      refine⟨by kernel_rfl,?_⟩;conv=>whnf
      refine⟨⟨rfl,rfl⟩,⟨by decide,by decide⟩,?_⟩;conv=>whnf
      refine⟨.own (12,3) 3,rfl,?_⟩;conv=>whnf
      refine⟨⟨rfl,rfl⟩,⟨by decide,by decide⟩,?_⟩;conv=>whnf
      refine⟨.own (12,3) 3,rfl,?_⟩;conv=>whnf
      refine⟨⟨rfl,rfl⟩,⟨by decide,by decide⟩,?_⟩;conv=>whnf
      refine⟨xi (xc a p 2 2 3),rfl,?_⟩;conv=>whnf
      refine callD (CA 2) rfl rfl ?_;conv=>whnf
      refine⟨⟨rfl,rfl⟩,⟨by decide,by decide⟩,?_⟩;conv=>whnf
      refine⟨xi (xc a p 2 2 3),rfl,?_⟩;conv=>whnf
      exact⟨(),trivial,⟨trivial,⟨x_R,x_R,x_R,x_R,x_R,x_R,x_R,x_R,trivial⟩,x_S,x_S,x_S,x_S,trivial⟩⟩
     ·rintro⟨⟩ _;refine pcK ?_;conv=>whnf
      exact⟨3,by omega,⟨trivial,⟨x_R,x_R,x_R,x_R,x_R,x_R,x_R,x_E (wI (by omega) (by omega)),trivial⟩,x_S,x_S,x_S,x_S,trivial⟩,by show 3-3<3-2; omega⟩
    ·refine .gk ?_;conv=>whnf
     conv=>whnf
     exact⟨(),trivial,⟨trivial,⟨x_R,x_R,x_R,x_R,x_R,x_R,x_R,trivial⟩,x_S,x_S,x_S,x_S,trivial⟩⟩
   ·rintro⟨⟩ _;refine pcK ?_;conv=>whnf
    refine⟨s+1,by omega,?_,by show terms-(s+1)<terms-s; omega⟩;show Wk _ [(12,0),(12,1),(12,2),(12,3)] [] [(0,lX a),(1,n8 u),(2,i64 (terms:Nat)),(3,i64 (first:Nat)),(10,n8 (S (s+1)).2),(11,lX (S (s+1)).1),(12,i64 ((hi:Int)-((s+1:Nat):Int)))] [] 9;rw[hS1];refine⟨⟨⟨_,rfl⟩,⟨_,rfl⟩,⟨_,rfl⟩,⟨_,rfl⟩,trivial⟩,⟨x_R,x_R,x_R,x_R,x_R,.inr (.inl ?_),x_E ((wI (n:=(hi:Int)-(s:Int)-1) (by omega) (by omega)).trans (by omega)),trivial⟩,trivial⟩;refine frz_three (r:=⟨178,1,[.own (12,1) 3,.own (12,2) 3,.own (12,3) 3]⟩) (.head _) rfl rfl (.own2 (.tail _ (.head _)) rfl rfl rfl rfl) (.own2 (.tail _ (.tail _ (.head _))) rfl rfl rfl rfl) (.own2 (.tail _ (.tail _ (.tail _ (.head _)))) rfl rfl rfl rfl)
  ·have hge:¬ (first:Int)<=(hi:Int)-(s:Int):=of_decide_eq_false h;obtain rfl:s=terms-1:=by omega
   conv=>whnf
   refine⟨(),trivial,⟨trivial,⟨x_R,x_R,trivial⟩,trivial⟩⟩
 ·rintro⟨⟩ _;refine .gk ?_;conv=>whnf
  refine pcK ?_;conv=>whnf
  exact⟨fin rfl rfl,fin rfl rfl,trivial⟩
end
end Go.Proofs.YtjdkdcmpifapeaaGreatDoor.Abs
