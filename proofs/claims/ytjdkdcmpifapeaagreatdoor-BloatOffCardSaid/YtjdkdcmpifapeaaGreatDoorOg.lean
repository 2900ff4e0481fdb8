/- What bloat needs of series and grow, for rates up to 32, with sixty bits. -/
import Derived.Test.YtjdkdcmpifapeaaGreatDoorMz
import Derived.Test.YtjdkdcmpifapeaaGreatDoorMw
import Derived.Test.YtjdkdcmpifapeaaGreatDoorNa
import Derived.Test.YtjdkdcmpifapeaaGreatDoorOf
import Derived.Test.YtjdkdcmpifapeaaGreatDoorOc
set_option linter.unusedVariables false
set_option linter.unusedSectionVars false
set_option linter.unusedSimpArgs false
set_option maxHeartbeats 4000000
set_option maxRecDepth 10000
namespace Go.Proofs.YtjdkdcmpifapeaaGreatDoor.Abs
section
open Go Go.RowKit Go.Proofs.Tryz
theorem made6 {k b:Nat} {a:List (List FQ)} {t:FQ} (hb1:8<=b) (hb2:b<=60) (hk1:1<=k) (hk3:k<=3) (ha:Sqr k a) (sa:∀ r∈a,SzL r 33 33) (st:Sz t.q 34 34) (ht:0<=t.q) (hN:RowB k (fun i j=>en a i j*t.q) 32) :
  ∃ p,mMake a t b=.ok p/\Tw k b (en a) t.q 192 8320 600 8700 p:=by
 obtain⟨lam,hT⟩:=terms_T hb1 (by omega);have hk:=hT.hk;have hk60:=hT.k60 hb2;have hl:=hT.hl;obtain⟨M,M1,M2,M3,M4⟩:=scale_full ha sa st (by omega) (by omega);have M5:SzT M 68:=fun r hr=>(M4 r hr).mono (by omega) (by omega)
 have hP2:(68+1)*k+1+((68+1)*k+1)<=16384:=by omega
 have hw1:mTermsK b*(2*k+11)<=18*17:=Nat.mul_le_mul hk60 (by omega);have hw2:mTermsK b*(b+(68+(6+1))+b+20)<=18*215:=Nat.mul_le_mul hk60 (by omega);obtain⟨p,p1,⟨h,h1,h2⟩⟩:=make_T (f:=6) (m:=68) (lam:=lam) (jt:=34) (kt:=34) hb1 (by omega) (by omega) (by omega) (by omega) ha sa st ht (by omega) (by omega) rfl hP2 (by omega) (fun M' N' e1 e2=>by
  rw[M1] at e1;cases e1;have:=norm_le rfl hP2 (by omega) M2 M5 e2 (hN.congr fun i j hi hj=>M3 i j hi hj);have e:(2:Rat)^6*(1/2)=32:=by decide +kernel
  rw[e];exact this) hT (by omega) (by omega)
 refine⟨p,p1,h2.mono ?_ ?_ ?_ ?_⟩
 ·have:2^h<=2^6:=Nat.pow_le_pow_right (by decide) h1;omega
 ·have:2^h<=2^6:=Nat.pow_le_pow_right (by decide) h1;have:=Nat.mul_le_mul this (show lam+b+2<=130 by omega);omega
 ·have:2^h<=2^6:=Nat.pow_le_pow_right (by decide) h1;omega
 ·have:2^h<=2^6:=Nat.pow_le_pow_right (by decide) h1;have:=Nat.mul_le_mul (show 2^h-1<=63 by omega) (show lam+b+2<=130 by omega);omega
theorem made6P {n b:Nat} {a:List (List FQ)} (hb1:16<=b) (hb2:b<=60) (hn0:0<n) (hn:n<=3) (ha:Sqr n a) (sa:∀ r∈a,SzL r 132 132) (h0:∀ i l,i<n->l<n->0<=en a i l) (hN:RowB n (en a) 32) :
  ∃ p,mMake a q1 b=.ok p/\Tw n b (en a) 1 192 8320 600 8700 p:=by
 obtain⟨lam,hT⟩:=terms_T (b:=b) (by omega) (by omega);have hk:=hT.hk;have hk60:=hT.k60 hb2;have hl:=hT.hl;obtain⟨M,M1,M2,M3,M4⟩:=scale_full ha sa q1_sz (by omega) (by omega);rw[q1_q] at M3;have M5:SzT M 133:=fun r hr=>(M4 r hr).mono (by omega) (by omega)
 have hP2:(133+1)*n+1+((133+1)*n+1)<=16384:=by omega
 have hw1:mTermsK b*(133+(6+1)+1+n+22)<=18*166:=Nat.mul_le_mul hk60 (by omega);obtain⟨p,p1,⟨h,h1,h2⟩⟩:=make_TP (f:=6) (m:=133) (lam:=lam) (jt:=1) (kt:=1) (W:=3000) (by omega) (by omega) hn0 (by omega) (by omega) ha sa q1_sz (by rw[q1_q]; decide +kernel) (by omega) (by omega) rfl hP2 (by omega) (fun M' N' e1 e2=>by
  rw[M1] at e1;cases e1;have e:(2:Rat)^6*(1/2)=32:=by decide +kernel
  rw[e];exact norm_leP rfl hP2 hn0 M2 M5 e2 (hN.congr fun i j hi hj=>by rw[M3 i j hi hj]; grind)) hT h0 (by omega) (by omega) (by omega) (by omega) (by omega)
 rw[q1_q] at h2;have hh:2^h<=2^6:=Nat.pow_le_pow_right (by decide) h1;have e2:=Nat.mul_le_mul hh (show lam+b+2<=130 by omega);have e3:=Nat.mul_le_mul (show 2^h-1<=63 by omega) (show lam+b+2<=130 by omega);exact⟨p,p1,h2.monoP (by omega) (by omega) (by omega) (by omega)⟩
theorem gChk6 {r:FQ} {b:Nat} (h1:8<=b) (h2:b<=512) (h0:0<=r.q) (hr:r.q<=32) (hs:Sz r.q 132 132):gArg r b=.ok r:=by
 have hc:gChk r b=0:=by
  unfold gChk;rw[if_neg (by have:=qSgn_nonneg h0; omega)];show (match qCmp r r32 with | .error e=>e+1 | .ok c=>if c > 0 then 1 else 0)=0;rw[qCmp_ok hs r32_sz (by omega) (by omega)];have:cmpQ r.q r32.q<=0:=cmpQ_le.2 (by rw[r32_q]; exact hr);simp only;rw[if_neg (by omega)]
 unfold gArg;rw[hc]
theorem grw6 {r:FQ} {b:Nat} (h1:16<=b) (h2:b<=60) (h0:0<=r.q) (hr:r.q<=31) (hs:Sz r.q 132 132):∃ s,gTwo r b=.ok s/\SGr 192 8320 s/\Lim (fun N=>gS 2 r.q (N-2)) s:=by
 have ha:=gChk6 (r:=r) (b:=b) (by omega) (by omega) h0 (by grind) hs;have s0':Sz q0.q 132 132:=sz_zero.mono (by omega) (by omega);have s1':Sz q1.q 132 132:=q1_sz.mono (by omega) (by omega);have z0:q0.q=0:=rfl;have hen:∀ i l,i<3->l<3->0<=en (twoT r) i l:=fun i l hi hl=>by
  have hi':i=0\/i=1\/i=2:=by omega
  have hl':l=0\/l=1\/l=2:=by omega
  rcases hi' with rfl | rfl | rfl <;> rcases hl' with rfl | rfl | rfl <;>
   first
   |exact h0
   |(show 0<=q1.q; rw[q1_q]; decide +kernel)
   |exact Rat.le_refl
 have hsz:∀ x∈twoT r,SzL x 132 132:=fun x hx=>by
  unfold twoT at hx;intro y hy;simp only[List.mem_cons,List.not_mem_nil,or_false] at hx;rcases hx with rfl | rfl | rfl <;> simp only[List.mem_cons,List.not_mem_nil,or_false] at hy <;> rcases hy with rfl | rfl | rfl <;> assumption
 have a0:absQ q0.q=0:=by rw[z0]; decide +kernel
 have a1:absQ q1.q=1:=by rw[q1_q]; decide +kernel
 obtain⟨p,p1,p2⟩:=made6P (a:=twoT r) h1 h2 (by omega) (by omega) (twoT_sq r) hsz hen (fun i hi=>by
  have hi':i=0\/i=1\/i=2:=by omega
  rcases hi' with rfl | rfl | rfl
  ·show absQ r.q+(absQ q1.q+(absQ q0.q+0))<=32;rw[a0,a1,absQ_pos h0];grind
  ·show absQ q0.q+(absQ q0.q+(absQ q1.q+0))<=32;rw[a0,a1];decide +kernel
  ·show absQ q0.q+(absQ q0.q+(absQ q0.q+0))<=32;rw[a0];decide +kernel)
 have g1:=p2.e.2 0 2 (by omega) (by omega);refine⟨sp p.1 0 2,?_,g1.1,?_⟩
 ·unfold gTwo;rw[ha];show (bnd (mMake (twoT r) q1 b) fun p=>.ok (sp p.1 0 2))=_;rw[p1];rfl
 ·have h:=g1.2;refine h.nul ?_;refine fun ε hε=>⟨2,fun N hN=>?_⟩
  obtain⟨M,rfl⟩:∃ M,N=M+2:=⟨N-2,by omega⟩
  have e:=EN_two (A:=en (twoT r)) (r:=r.q) rfl q1_q rfl rfl rfl q1_q rfl rfl rfl M;show absQ (gS 2 r.q (M+2-2)-EN 3 (en (twoT r)) 1 (M+2) 0 2)<=ε;rw[e,Nat.add_sub_cancel,Rat.sub_self];have:absQ 0=0:=by decide +kernel
  rw[this];exact Rat.le_of_lt hε
end
section
open Go Go.RowKit Go.Proofs.Tryz
theorem gD_lt6 {d:Nat} (hd:d<2^132):∀ m,m<=10->gD 2 d m<=2^(136*m+1)
 |0,_=>by unfold gD; split <;> decide
 |m+1,h=>by
  have h1:=gD_lt6 hd m (by omega);have h2:d*(m+1+2)<=2^132*2^4:=Nat.mul_le_mul (Nat.le_of_lt hd) (Nat.le_trans (by omega:m+1+2<=16) (by decide));have h3:=Nat.mul_le_mul h1 h2;rw[<- Nat.pow_add,<- Nat.pow_add] at h3;exact Nat.le_trans h3 (Nat.pow_le_pow_right (by decide) (by omega))
theorem p132 {p:Nat} (hp:p<2^132) (m:Nat):p^m<=2^(132*m):=by
 rw[Nat.pow_mul];exact Nat.pow_le_pow_left (Nat.le_of_lt hp) m
theorem gN_lt6 {p d:Nat} (hp:p<2^132) (hd:d<2^132):∀ m,m<=10->gN 2 p d m<=2^(137*m)
 |0,_=>Nat.zero_le _
 |m+1,h=>by
  have h1:=gN_lt6 hp hd m (by omega);have h2:d*(m+1+2)<=2^132*2^4:=Nat.mul_le_mul (Nat.le_of_lt hd) (Nat.le_trans (by omega:m+1+2<=16) (by decide));have h4:p^m<=2^(137*m):=Nat.le_trans (p132 hp m) (Nat.pow_le_pow_right (by decide) (by omega));have h5:gN 2 p d m+p^m<=2^(137*m+1):=by
   rw[Nat.pow_succ];omega
  have h3:=Nat.mul_le_mul h5 h2;rw[<- Nat.pow_add,<- Nat.pow_add] at h3;exact Nat.le_trans h3 (Nat.pow_le_pow_right (by decide) (by omega))
theorem gT_sz6 {m:Nat} {r:Rat} (h0:0<=r) (hr:Sz r 132 132) (hm:m<=10):Sz (gT 2 r m) (132*m+1) (136*m+2) :=
 den_sz (gD_pos r.den_pos m) (gT_den (by decide) h0 m) (Nat.lt_of_le_of_lt (p132 hr.1 m) (Nat.pow_lt_pow_right (by decide) (by omega))) (Nat.lt_of_le_of_lt (gD_lt6 hr.2 m hm) (Nat.pow_lt_pow_right (by decide) (by omega)))
theorem gS_sz6 {m:Nat} {r:Rat} (h0:0<=r) (hr:Sz r 132 132) (hm:m<=10):Sz (gS 2 r m) (137*m+1) (136*m+2) :=
 den_sz (gD_pos r.den_pos m) (gS_den (by decide) h0 m) (Nat.lt_of_le_of_lt (gN_lt6 hr.1 hr.2 m hm) (Nat.pow_lt_pow_right (by decide) (by omega))) (Nat.lt_of_le_of_lt (gD_lt6 hr.2 m hm) (Nat.pow_lt_pow_right (by decide) (by omega)))
theorem round6 {m:Nat} {r a t:FQ} (h0:0<=r.q) (hr:Sz r.q 132 132) (hm:m<10) (ha:a.q=gS 2 r.q m) (ht:t.q=gT 2 r.q m) :
  ∃ a' t1 t',qAdd a t=.ok a'/\a'.q=gS 2 r.q (m+1)/\qMul t r=.ok t1/\qMul t1 (qOf 1 (m+3:Nat))=.ok t'/\t'.q=gT 2 r.q (m+1):=by
 have za:Sz a.q (137*m+1) (136*m+2):=by rw[ha]; exact gS_sz6 h0 hr (by omega)
 have zt:Sz t.q (132*m+1) (136*m+2):=by rw[ht]; exact gT_sz6 h0 hr (by omega)
 obtain⟨a',a1,a2,_⟩:=qAdd_ok za zt (t:=273*m+3) (by omega) (by omega) (by omega) (by omega);obtain⟨t1,t2,t3,t4⟩:=qMul_ok zt hr (by omega) (by omega);obtain⟨u1,u2⟩:=unit_q (d:=m+3) (by omega) (by omega);obtain⟨t',t5,t6,_⟩:=qMul_ok t4 u2 (by omega) (by omega);refine⟨a',t1,t',a1,?_,t2,t5,?_⟩
 ·rw[a2,ha,ht];exact (SS_last m _).symm
 ·have h1:=gT_succ 2 r.q m;have e:((m+3:Nat):Rat)=((m+2:Nat):Rat)+1:=by
   rw[show m+3=m+2+1 by omega,Rat.natCast_add];rfl
  have hp:(0:Rat)<((m+2:Nat):Rat)+1:=nat1_pos _;rw[t6,t3,u1,ht,e];generalize ((m+2:Nat):Rat)+1=c at *
  rw[Rat.mul_comm (gT 2 r.q m),<- h1,Rat.mul_comm c,Rat.div_def,Rat.one_mul,Rat.mul_assoc,Rat.mul_inv_cancel _ (by grind),Rat.mul_one]
theorem grown6 {r:FQ} (h0:0<=r.q) (hr:r.q<=31) (hs:Sz r.q 132 132):∃ cu ri,gCurve r 60=.ok cu/\gRise r 60=.ok ri/\Gr 470 8900 cu/\Gr 470 8900 ri/\gS 2 r.q 10*r.q*r.q<=cu.v/\gS 2 r.q 10*r.q<=ri.v:=by
 have hbo:bitsOk (60:Int)=true:=by decide
 obtain⟨t,t1,t2,t3⟩:=grw6 (b:=60) (by omega) (by omega) h0 hr hs;obtain⟨n,n1,n2,n3⟩:=sNear_ok hbo hs (by show 60+132+2<=16384; decide) (by omega);have n2:SGr 134 192 n:=n2;obtain⟨u,u1,u2,u3⟩:=sMul_ok hbo t2 n2 (by omega);obtain⟨w,w1,w2,w3⟩:=sMul_ok hbo u2 n2 (by omega);have lu:=Lim.mul t3 (Lim.of_in n3) u3;have lw:=Lim.mul lu (Lim.of_in n3) w3;have hc:gCurve r 60=.ok (dMax w.hi d0):=by
  unfold gCurve;have t1:gTwo r 60=.ok t:=t1;rw[bnd_ok t1,bnd_ok n1,bnd_ok u1,bnd_ok w1]
 have hd:gRise r 60=.ok (dMax u.hi d0):=by
  unfold gRise;have t1:gTwo r 60=.ok t:=t1;rw[bnd_ok t1,bnd_ok n1,bnd_ok u1]
 refine⟨_,_,hc,hd,dMax_gr (w2.2.mono (by omega) (by omega)) (.d0 _ _),dMax_gr (u2.2.mono (by omega) (by omega)) (.d0 _ _),?_,?_⟩
 ·refine Rat.le_trans ?_ (le_max w.hi d0).1;exact Lim.low (m:=12) lw fun N hN=>Rat.mul_le_mul_of_nonneg_right (Rat.mul_le_mul_of_nonneg_right (gS_mono h0 (by omega)) h0) h0
 ·refine Rat.le_trans ?_ (le_max u.hi d0).1;exact Lim.low (m:=12) lu fun N hN=>Rat.mul_le_mul_of_nonneg_right (gS_mono h0 (by omega)) h0
end
section
open Go Go.RowKit Go.Proofs.Tryz
attribute [local irreducible] zMul zAdd zLeft zRight fitZ qMake zDiv dMake dLevel dRound dNear dAdd dMul dRatio dCmp dMin dMax dAbs dLess qCmp sOut qAdd qMul sAdd sMul sNear qSum sSize vNear dNeg dOf gCurve gRise mMake zReach zTimes zPlus zImage zOf
theorem near_AH {a:List (List FQ)} {n' n:Nat} {bits:Int} (hb:bitsOk bits=true) (ha:a.length=n') (hr:∀ r∈a,r.length=n) (sa:∀ r∈a,SzL r 32 32) (h:bits.toNat+34<=16384):∃ p,mNear a bits=.ok p/\AH n' n 34 (bits.toNat+32) p (fun i j=>qv (a.getD i []) j):=by
 obtain⟨rs,r1,r2,r3⟩:=runE_all (f:=fun r=>vNear r bits) (da:=[]) (d:=[]) (l:=a) (R:=fun i x y=>HF n 34 (bits.toNat+32) y (qv x)) fun i hi=>by
  have hm:a.getD i []∈a:=by
   rw[List.getD_eq_getElem?_getD,List.getElem?_eq_getElem hi];exact List.getElem_mem hi
  exact near_HF hb (hr _ hm) (sa _ hm) (by omega) (by omega)
 exact⟨rs,r1,by omega,fun i hi=>r3 i (by omega)⟩
theorem apply_R {a:List (List FQ)} {x:List FQ} {n' n:Nat} (ha:a.length=n') (hr:∀ r∈a,r.length=n) (hx:x.length=n) (hn:n<=2) (sa:∀ r∈a,SzL r 32 32) (sx:SzL x 32 32) :
  ∃ y,mApply a x=.ok y/\y.length=n'/\SzL y 131 131/\∀ i,i<n'->qv y i=SS n fun k=>qv (a.getD i []) k*qv x k:=by
 obtain⟨rs,r1,r2,r3⟩:=runE_all (f:=fun r=>vDot r x) (da:=[]) (d:=q0) (l:=a) (R:=fun i y z=>Sz z.q 131 131/\z.q=SS n fun k=>qv y k*qv x k) fun i hi=>by
  have hm:a.getD i []∈a:=by
   rw[List.getD_eq_getElem?_getD,List.getElem?_eq_getElem hi];exact List.getElem_mem hi
  have hl:=hr _ hm;obtain⟨z,z1,z2,z3⟩:=vDot_ok (a:=a.getD i []) (b:=x) (m:=64) (by rw[hl,hx]) (sa _ hm) sx (by omega) (by omega) (by omega) (by rw[hl]; omega);rw[hl] at z3;refine⟨z,z1,z3.mono (by omega) (by omega),?_⟩;rw[z2,dotR_SS (by rw[qs_len,qs_len,hl,hx]),qs_len,hl];exact SS_congr fun k _=>by rw[qs_getD,qs_getD]; rfl
 refine⟨rs,r1,by omega,fun z hz=>?_,fun i hi=>?_⟩
 ·exact (mem_iff_getD (da:=q0) (P:=fun z:FQ=>Sz z.q 131 131)).2 (fun i hi=>(r3 i (by omega)).1) z hz
 ·exact (r3 i (by omega)).2
def bigStep (most y:FQ):FQ:=match qCmp (qAbs y) most with
 |.ok c=>if c > 0 then qAbs y else most
 |.error _=>most
def bigg (l:List FQ):FQ:=l.foldl bigStep q0
theorem bigg_acc {j:Nat} (hj:j+j<=16384):∀ (l:List FQ) (m:FQ),SzL l j j->Sz m.q j j->0<=m.q->Sz (l.foldl bigStep m).q j j/\0<=(l.foldl bigStep m).q/\∀ c,m.q<=c->(∀ y∈l,absQ y.q<=c)->(l.foldl bigStep m).q<=c
 |[],m,_,h1,h2=>⟨h1,h2,fun c hc _=>hc⟩
 |y::l,m,h0,h1,h2=>by
  have hy:=h0 y (.head _);have ha:=qAbs_sz hy;have e:qCmp (qAbs y) m=.ok (cmpQ (qAbs y).q m.q):=qCmp_ok ha h1 hj hj;have hs:bigStep m y=if cmpQ (qAbs y).q m.q > 0 then qAbs y else m:=by unfold bigStep; rw[e]
  have e':(y::l).foldl bigStep m=l.foldl bigStep (bigStep m y):=rfl;rw[e'];by_cases hc:cmpQ (qAbs y).q m.q > 0
  ·rw[hs,if_pos hc];obtain⟨a1,a2,a3⟩:=bigg_acc hj l (qAbs y) (fun x hx=>h0 x (.tail _ hx)) ha (by rw[qAbs_a]; exact absQ_nonneg _);exact⟨a1,a2,fun c hc hl=>a3 c (by rw[qAbs_a]; exact hl y (.head _)) fun x hx=>hl x (.tail _ hx)⟩
  ·rw[hs,if_neg hc];obtain⟨a1,a2,a3⟩:=bigg_acc hj l m (fun x hx=>h0 x (.tail _ hx)) h1 h2;exact⟨a1,a2,fun c hc' hl=>a3 c hc' fun x hx=>hl x (.tail _ hx)⟩
theorem bigg_ok {l:List FQ} {j:Nat} (hj:j+j<=16384) (h1:1<=j) (h:SzL l j j):Sz (bigg l).q j j/\0<=(bigg l).q/\∀ c,0<=c->(∀ i,i<l.length->absQ (qv l i)<=c)->(bigg l).q<=c:=by
 obtain⟨a1,a2,a3⟩:=bigg_acc hj l q0 h (sz_zero.mono (by omega) (by omega)) Rat.le_refl;refine⟨a1,a2,fun c hc hl=>a3 c hc fun y hy=>?_⟩;obtain⟨i,hi,rfl⟩:=List.getElem_of_mem hy;have:=hl i hi;unfold qv at this;rw[List.getD_eq_getElem?_getD,List.getElem?_eq_getElem hi] at this;exact this
structure BIn (m:MD):Prop where
 len:MLen m
 d3:m.dim<=3
 i2:m.inp<=2
 pos:0<m.stp.q
 A:∀ r∈m.A,∀ x∈r,Sz x.q 32 32/\absQ x.q<=3
 B:∀ r∈m.B,∀ x∈r,Sz x.q 32 32/\absQ x.q<=3
 C:∀ x∈m.C,Sz x.q 32 32/\absQ x.q<=3
 sc:∀ x∈m.st.c,Sz x.q 32 32/\absQ x.q<=3
 ic:∀ x∈m.iz.c,Sz x.q 32 32/\absQ x.q<=3
 stp:Sz m.stp.q 32 32/\absQ m.stp.q<=3
 sg:∀ r∈m.st.g,∀ x∈r,Sz x.q 32 32
 ig:∀ r∈m.iz.g,∀ x∈r,Sz x.q 32 32
theorem SS_le_n {n:Nat} {f:Nat->Rat} {c:Rat} (h:∀ k,k<n->f k<=c) (hn:n<=3) (hc:0<=c):SS n f<=3*c:=by
 have:n=0\/n=1\/n=2\/n=3:=by omega
 rcases this with rfl | rfl | rfl | rfl
 ·show 0<=_; grind
 ·have h0:=h 0 (by omega);show f 0+0<=_;grind
 ·have h0:=h 0 (by omega);have h1:=h 1 (by omega);show f 0+(f 1+0)<=_;grind
 ·have h0:=h 0 (by omega);have h1:=h 1 (by omega);have h2:=h 2 (by omega);show f 0+(f 1+(f 2+0))<=_;grind
structure BofS (m:MD) (s:BS) (N r:FQ) (y:Rat) (x:Rat) (ri cu:FD):Prop where
 fm:bMake 60 m m.stp=.ok s
 nn:mNorm m.A=.ok N
 nr:qMul N m.stp=.ok r
 r0:0<=r.q
 rs:Sz r.q 132 132
 fg:Gr 800 9200 s.fi
 lg:Gr 800 9200 s.la
 y0:0<=y
 x0:0<=x
 yv:∀ i,i<m.dim->absQ ((SS m.inp fun k=>qv (m.B.getD i []) k*qv m.iz.c k)+qv m.C i)<=y
 xv:∀ i,i<m.dim->absQ (qv m.st.c i)<=x
 la:gS 2 r.q 10*r.q*m.stp.q*y<=s.la.v
 fi:gS 2 r.q 10*r.q*r.q*x+s.la.v<=s.fi.v
theorem dTimes_ok {bits:Int} (hb:bitsOk bits=true) {a b:FD} {K L K' L':Nat} (ha:Gr K L a) (hb':Gr K' L' b) (h:K+L+(K'+L')+1<=16384):∃ d,dTimes bits a b=.ok d/\Gr (K+K'+1) (L+L') d/\a.v*b.v<=d.v:=by
 obtain⟨s,s1,s2,s3⟩:=sMul_ok hb (pt_gr ha) (pt_gr hb') h;refine⟨s.hi,?_,s2.2,(s3 _ _ (In.pt a) (In.pt b)).2⟩;unfold dTimes;rw[s1];rfl
theorem mul_mono2 {a b c d:Rat} (h1:a<=b) (h2:c<=d) (h3:0<=c) (h4:0<=b):a*c<=b*d:=Rat.le_trans (Rat.mul_le_mul_of_nonneg_right h1 h3) (Rat.mul_le_mul_of_nonneg_left h2 h4)
theorem bof_T {m:MD} (h:BIn m):∃ s N r y x ri cu,BofS m s N r y x ri cu:=by
 have hbo:bitsOk (60:Int)=true:=by decide
 have d1:=h.len.d1;have d3:=h.d3;have i2:=h.i2;have sA:∀ r∈m.A,SzL r 32 32:=fun r hr x hx=>(h.A r hr x hx).1
 have sB:∀ r∈m.B,SzL r 32 32:=fun r hr x hx=>(h.B r hr x hx).1
 have sqA:Sqr m.dim m.A:=h.len.A;have t0:0<=m.stp.q:=Rat.le_of_lt h.pos;have t3:m.stp.q<=3:=by
  have:=h.stp.2;rw[absQ_pos t0] at this;exact this
 -- the rate
 obtain⟨N,n1,n2,n3,n4,n5⟩:=norm_ok (m:=32) (n:=m.dim) rfl (by omega) sqA sA;have hP:(32+1)*m.dim+1<=100:=by omega
 have n5:Sz N.q 100 100:=n5.mono hP hP;have rowA:∀ i,i<m.dim->(SS m.dim fun j=>absQ (en m.A i j))<=9:=fun i hi=>by
  have hm:m.A.getD i []∈m.A:=(sqA.row hi).1;have hl:(m.A.getD i []).length=m.dim:=(sqA.row hi).2;have:=SS_le_n (n:=m.dim) (f:=fun j=>absQ (en m.A i j)) (c:=3) (fun j hj=>by
   show absQ ((m.A.getD i []).getD j q0).q<=3;exact (h.A _ hm _ (getD_mem (by rw[hl]; exact hj))).2) d3 (by decide)
  grind
 have N9:N.q<=9:=by
  rcases n4 with h0 | ⟨r,hr,e⟩
  ·omega
  ·obtain⟨i,hi,rfl⟩:=mem_getD (d:=[]) hr;have hi':i<m.dim:=by rw[<- sqA.1]; exact hi
   rw[<- e,aSum_SS,(sqA.row hi').2];exact rowA i hi'
 obtain⟨r,r1,r2,r3⟩:=qMul_ok n5 h.stp.1 (by omega) (by omega);have r0:0<=r.q:=by rw[r2]; exact Rat.mul_nonneg n2 t0
 have r27:r.q<=31:=by
  rw[r2];have:=mul_mono2 N9 t3 t0 (by decide:(0:Rat)<=9);grind
 -- Make's parts
 obtain⟨p,p1,p2⟩:=made6 (b:=60) (t:=m.stp) (by omega) (by omega) d1 d3 sqA (fun r hr=>(sA r hr).mono (by omega) (by omega)) (h.stp.1.mono (by omega) (by omega)) t0 (fun i hi=>by
  have e:(SS m.dim fun j=>absQ (en m.A i j*m.stp.q))=(SS m.dim fun j=>absQ (en m.A i j))*m.stp.q:=by
   rw[SS_mul_r];exact SS_congr fun j _=>by rw[absQ_mul,absQ_pos t0]
  rw[e];have:=mul_mono2 (rowA i hi) t3 t0 (by decide:(0:Rat)<=9);grind)
 have p1:mMake m.A m.stp 60=.ok p:=p1;have hg1:=h.len.st.2.1;have hg2:=h.len.iz.2.1;obtain⟨st,s1,s2,s3,s4,s5⟩:=zOf_ok hbo (z:=m.st) (n:=m.dim) (j:=32) (k:=32) ⟨h.len.st.1,h.len.st.2.2,fun x hx=>(h.sc x hx).1,fun g hg x hx=>h.sg g hg x hx⟩ (by show 32+2*m.st.g.length+60+32+16<=16384; omega);have s2:ZS m.dim 102 93 st:=s2.mono (by omega) (by show 60+32+1<=93; decide);obtain⟨b,b1,b2⟩:=near_AH hbo h.len.B.1 h.len.B.2 sB (by show 60+34<=16384; decide);have b2:AH m.dim m.inp 34 92 b (fun i j=>qv (m.B.getD i []) j):=b2;obtain⟨u,u1,u2,u3,u4,u5⟩:=zOf_ok hbo (z:=m.iz) (n:=m.inp) (j:=32) (k:=32) ⟨h.len.iz.1,h.len.iz.2.2,fun x hx=>(h.ic x hx).1,fun g hg x hx=>h.ig g hg x hx⟩ (by show 32+2*m.iz.g.length+60+32+16<=16384; omega);have u2:ZS m.inp 102 93 u:=u2.mono (by omega) (by show 60+32+1<=93; decide);obtain⟨v,v1,v2,v3,v4⟩:=zImage_ok hbo b2 u2 u4 (by omega);have v2:ZS m.dim 212 186 v:=v2.mono (by omega) (by omega);obtain⟨c,c1,c2,c3,c4,c5⟩:=zOf_ok hbo (z:=⟨m.C,[]⟩) (n:=m.dim) (j:=32) (k:=32) ⟨h.len.C,fun g hg=>(by cases hg),fun x hx=>(h.C x hx).1,fun g hg=>(by cases hg)⟩ (by show 32+2*0+60+32+16<=16384; decide);have c2:ZS m.dim 212 186 c:=c2.mono (by show 32+6+2*0<=212; decide) (by show 60+32+1<=186; decide);have c3:c.g.length=0:=c3;obtain⟨w,w1,w2,w3,w4⟩:=zPlus_ok hbo v2 c2 (by omega) (by omega);have zero1:∀ k:Nat,absQ ((fun _:Nat=>(0:Rat)) k)<=1:=fun _=>abs01
 have gq0:∀ (l:List (List FQ)) (i:Nat),gq l (fun _=>0) i=0:=fun l i=>by
  induction l with
  |nil=>rfl
  |cons g l ih =>
   show 0*qv g i+gq l (fun _=>0) i=0;rw[ih];grind
 have mw:ZM m.dim w (fun i=>(SS m.inp fun k=>qv (m.B.getD i []) k*qv m.iz.c k)+qv m.C i):=by
  refine (w4 _ _ (v4 _ (u5 _ zero1)) (c5 _ zero1)).congr fun i hi=>?_
  have e1:∀ k,MM m.iz (fun _=>0) k=qv m.iz.c k:=fun k=>by
   show qv m.iz.c k+gq m.iz.g (fun _=>0) k=_;rw[gq0];grind
  have e2:MM ⟨m.C,[]⟩ (fun _=>0) i=qv m.C i:=by
   show qv m.C i+0=_;grind
  rw[e2];congr 1;exact SS_congr fun k _=>by rw[e1]
 have hdrive:zDrive 60 m=.ok w:=by
  unfold zDrive;rw[bnd_ok b1,bnd_ok u1,bnd_ok v1,bnd_ok c1];exact w1
 obtain⟨nr,k1,k2,k3⟩:=sNear_ok hbo h.stp.1 (by show 60+32+2<=16384; decide) (by omega);have k2:SGr 34 92 nr:=k2;obtain⟨dr,q1,q2,q3,q4⟩:=zTimes_ok hbo k2 k3 w2 mw.nn (by omega)
 -- by how much
 obtain⟨cu,ri,g1,g2,g3,g4,g5,g6⟩:=grown6 r0 r27 r3;have hrate:gRate m.A m.stp=.ok r:=by
  unfold gRate;rw[bnd_ok n1];exact r1
 obtain⟨x,x1,x2,x3,x4⟩:=zReach_ok hbo s2 (by omega);obtain⟨y,y1,y2,y3,y4⟩:=zReach_ok hbo w2 (by omega);have x2:Gr 168 93 x:=x2.mono (by omega) (by omega);have y2:Gr 288 187 y:=y2.mono (by omega) (by omega);obtain⟨ne',e1,e2,e3,e4,_⟩:=dNear_ok true hbo h.stp.1 (by show 60+32+2<=16384; decide) (by omega);have e2:Gr 34 92 ne':=e2;have e4:m.stp.q<=ne'.v:=e4 rfl;obtain⟨on,o1,o2,o3⟩:=dTimes_ok hbo g4 e2 (by omega);obtain⟨la,l1,l2,l3⟩:=dTimes_ok hbo o2 y2 (by omega);obtain⟨fi,f1,f2,f3⟩:=dTimes_ok hbo g3 x2 (by omega);have l2':Gr 798 9200 la:=l2.mono (by omega) (by omega);have f2':Gr 798 9200 fi:=f2.mono (by omega) (by omega);obtain⟨bo,a1,a2,a3,a4⟩:=sAdd_ok hbo (pt_gr f2') (pt_gr l2') (by omega);have hoff:bOff 60 m.A m.stp st w=.ok (bo.hi,la):=by
  unfold bOff;rw[bnd_ok hrate,bnd_ok g1,bnd_ok g2,bnd_ok x1,bnd_ok y1,bnd_ok e1,bnd_ok o1,bnd_ok l1,bnd_ok f1,bnd_ok a1]
 have hmk:bMake 60 m m.stp=.ok ⟨p.1,p.2,st,dr,bo.hi,la⟩:=by
  unfold bMake;rw[bnd_ok p1,bnd_ok s1,bnd_ok hdrive,bnd_ok k1,bnd_ok q1,bnd_ok hoff]
 have S0:0<=gS 2 r.q 10:=SS_nonneg fun k _=>gT_nonneg r0 k
 have S1:0<=gS 2 r.q 10*r.q:=Rat.mul_nonneg S0 r0;have S2:0<=gS 2 r.q 10*r.q*r.q:=Rat.mul_nonneg S1 r0;refine⟨_,N,r,y.v,x.v,ri,cu,hmk,n1,r1,r0,r3,a2.2,l2.mono (by omega) (by omega),y3,x3,y4 _ mw,fun i hi=>?_,?_,?_⟩
 ·have:=x4 _ (s5 _ zero1) i hi;have e:MM m.st (fun _=>0) i=qv m.st.c i:=by
   show qv m.st.c i+gq m.st.g (fun _=>0) i=_;rw[gq0];grind
  rw[e] at this;exact this
 ·have h1:gS 2 r.q 10*r.q*m.stp.q<=on.v:=Rat.le_trans (mul_mono2 g6 e4 t0 (Rat.le_trans S1 g6)) o3;exact Rat.le_trans (Rat.mul_le_mul_of_nonneg_right h1 y3) l3
 ·have h1:gS 2 r.q 10*r.q*r.q*x.v<=fi.v:=Rat.le_trans (Rat.mul_le_mul_of_nonneg_right g5 x3) f3;have e1:(sPoint fi).hi.v=fi.v:=rfl;have e2:(sPoint la).hi.v=la.v:=rfl;rw[e1,e2] at a4;show _+la.v<=bo.hi.v;grind
structure BofR (m:MD) (s:BS) (r su ri cu:FQ) (v0 v:List FQ) (la1 la2 fi1 fi2:FQ) (a b:Int):Prop where
 h1:qMul su r=.ok ri
 h2:qMul ri r=.ok cu
 h3:mApply m.B m.iz.c=.ok v0
 h4:vEach qAdd v0 m.C=.ok v
 h5:qMul ri m.stp=.ok la1
 h6:qMul la1 (bigg v)=.ok la2
 h7:qMul cu (bigg m.st.c)=.ok fi1
 h8:qAdd fi1 la2=.ok fi2
 h9:dCmpQ s.fi fi2=.ok a
 h10:dCmpQ s.la la2=.ok b
 ha:a ≥ 0
 hb:b ≥ 0
 v6:v.length<1000000
 v0l:v0.length<1000000
theorem bof_R {m:MD} (h:BIn m) {s:BS} {N r:FQ} {y x:Rat} {ri' cu':FD} (hs:BofS m s N r y x ri' cu') {su:FQ} (hsu:su.q=gS 2 r.q 10):∃ ri cu v0 v la1 la2 fi1 fi2 a b,BofR m s r su ri cu v0 v la1 la2 fi1 fi2 a b:=by
 have d3:=h.d3;have t0:0<=m.stp.q:=Rat.le_of_lt h.pos;have zs:Sz su.q 1371 1362:=by rw[hsu]; exact gS_sz6 hs.r0 hs.rs (by omega)
 obtain⟨ri,a1,a2,a3⟩:=qMul_ok zs hs.rs (by omega) (by omega);obtain⟨cu,b1,b2,b3⟩:=qMul_ok a3 hs.rs (by omega) (by omega);obtain⟨v0,c1,c2,c3,c4⟩:=apply_R h.len.B.1 h.len.B.2 h.len.iz.1 h.i2 (fun r hr x hx=>(h.B r hr x hx).1) (fun x hx=>(h.ic x hx).1);obtain⟨v,e1,e2,e3,e4⟩:=vAdd_ok (a:=v0) (b:=m.C) (t:=163) (by rw[c2,h.len.C]) c3 (fun x hx=>(h.C x hx).1) (by omega) (by omega) (by omega) (by omega);have e4:SzL v 164 164:=e4.mono (by omega) (by omega);have vl:v.length=m.dim:=by rw[e2,c2]
 have vq:∀ i,i<m.dim->qv v i=(SS m.inp fun k=>qv (m.B.getD i []) k*qv m.iz.c k)+qv m.C i:=fun i hi=>by
  have h1:(qs v).getD i 0=qv v i:=qs_getD;rw[<- h1,e3];have h2:(qs v0).getD i 0=qv v0 i:=qs_getD;have h3:(qs m.C).getD i 0=qv m.C i:=qs_getD;rw[<- c4 i hi,<- h2,<- h3];rw[List.getD_eq_getElem?_getD,List.getElem?_zipWith,List.getElem?_eq_getElem (by rw[qs_len,c2]; exact hi),List.getElem?_eq_getElem (by rw[qs_len,h.len.C]; exact hi),List.getD_eq_getElem?_getD,List.getD_eq_getElem?_getD,List.getElem?_eq_getElem (by rw[qs_len,c2]; exact hi),List.getElem?_eq_getElem (by rw[qs_len,h.len.C]; exact hi)];rfl
 obtain⟨k1,k2,k3⟩:=bigg_ok (l:=v) (j:=164) (by omega) (by omega) e4;obtain⟨j1,j2,j3⟩:=bigg_ok (l:=m.st.c) (j:=32) (by omega) (by omega) (fun x hx=>(h.sc x hx).1);have ky:=k3 y hs.y0 fun i hi=>by
  rw[vq i (by omega)];exact hs.yv i (by omega)
 have jx:=j3 x hs.x0 fun i hi=>hs.xv i (by rw[<- h.len.st.1]; exact hi)
 obtain⟨la1,f1,f2,f3⟩:=qMul_ok a3 h.stp.1 (by omega) (by omega);obtain⟨la2,g1,g2,g3⟩:=qMul_ok f3 k1 (by omega) (by omega);obtain⟨fi1,i1,i2,i3⟩:=qMul_ok b3 j1 (by omega) (by omega);obtain⟨fi2,l1,l2,l3⟩:=qAdd_ok i3 g3 (t:=3400) (by omega) (by omega) (by omega) (by omega);have S0:0<=gS 2 r.q 10:=SS_nonneg fun k _=>gT_nonneg hs.r0 k
 have S1:0<=gS 2 r.q 10*r.q:=Rat.mul_nonneg S0 hs.r0;have S2:0<=gS 2 r.q 10*r.q*r.q:=Rat.mul_nonneg S1 hs.r0;have hla:la2.q<=s.la.v:=by
  rw[g2,f2,a2,hsu];exact Rat.le_trans (Rat.mul_le_mul_of_nonneg_left ky (Rat.mul_nonneg S1 t0)) hs.la
 have hfi:fi2.q<=s.fi.v:=by
  have h1:fi1.q<=gS 2 r.q 10*r.q*r.q*x:=by
   rw[i2,b2,a2,hsu];exact Rat.mul_le_mul_of_nonneg_left jx S2
  have h2:=hs.fi;rw[l2];grind
 exact⟨ri,cu,v0,v,la1,la2,fi1,fi2,_,_,a1,b1,c1,e1,f1,g1,i1,l1,dCmpQ_ok hs.fg l3 (by omega) (by omega),dCmpQ_ok hs.lg g3 (by omega) (by omega),cmpQ_ge.2 hfi,cmpQ_ge.2 hla,by omega,by omega⟩
end
end Go.Proofs.YtjdkdcmpifapeaaGreatDoor.Abs
