/- GrowRefuses: the walk. -/
import Derived.Test.YtjdkdcmpifapeaaGreatDoorMx
import Derived.Test.YtjdkdcmpifapeaaGreatDoorMn
import Derived.Test.YtjdkdcmpifapeaaGreatDoorMy
set_option linter.unusedVariables false
set_option linter.unusedSectionVars false
set_option linter.unusedSimpArgs false
set_option maxHeartbeats 4000000
set_option maxRecDepth 20000
namespace Go.Proofs.YtjdkdcmpifapeaaGreatDoor.Abs
section
open Go Go.RowKit Go.Proofs.Tryz
def r32:FQ:=qOf 32 1
theorem r32_q:r32.q=32:=by kernel_rfl
theorem r32_sz:Sz r32.q 6 1:=⟨by rw[r32_q]; decide +kernel,by rw[r32_q]; decide +kernel⟩
attribute [local irreducible] gTwo gCurve gRise qSgn qCmp
end
section
open Go Go.RowKit Go.Proofs.Tryz
theorem norm_leP {n m P:Nat} {M:List (List FQ)} {N:FQ} {c:Rat} (hP:(m+1)*n+1=P) (h2:P+P<=16384) (hn:0<n) (hM:Sqr n M) (sM:SzT M m) (h:mNorm M=.ok N) (hr:RowB n (en M) c):N.q<=c:=by
 obtain⟨N',n1,_,_,n4,_⟩:=norm_ok hP h2 hM sM;rw[h] at n1;cases n1;rcases n4 with rfl | ⟨r,hr',e⟩
 ·omega
 ·obtain⟨i,hi,rfl⟩:=mem_getD (d:=[]) hr';have hi':i<n:=by rw[<- hM.1]; exact hi
  rw[<- e,aSum_SS,(hM.row hi').2];exact hr i hi'
theorem Tw.monoP {n:Nat} {bits:Int} {A:Nat->Nat->Rat} {t:Rat} {KE LE KS LS KE' LE' KS' LS':Nat} {p:Gw} (h:Tw n bits A t KE LE KS LS p) (h1:KE<=KE') (h2:LE<=LE') (h3:KS<=KS') (h4:LS<=LS'):Tw n bits A t KE' LE' KS' LS' p:=by
 obtain⟨e,s,⟨M,m1,m2,m3⟩,⟨M',k1,k2,k3⟩⟩:=h;exact⟨e.mono h1 h2,s.mono h3 h4,⟨M,m1,m2,Std.lt_of_lt_of_le m3 (zpow_le2 (by omega))⟩,⟨M',k1,k2,Std.lt_of_lt_of_le k3 (zpow_le2 (by omega))⟩⟩
theorem q1_q:q1.q=1:=q_one
theorem q1_sz:Sz q1.q 1 1:=⟨by rw[q1_q]; decide,by rw[q1_q]; decide⟩
def gT (s:Nat) (r:Rat) (m:Nat):Rat:=ex (m+s) 1*r^m
theorem gT_nonneg {s:Nat} {r:Rat} (h:0<=r) (m:Nat):0<=gT s r m:=Rat.mul_nonneg (ex_nonneg (by decide +kernel) _) (Rat.pow_nonneg h)
theorem gT_succ (s:Nat) (r:Rat) (m:Nat):(((m+s:Nat):Rat)+1)*gT s r (m+1)=r*gT s r m:=by
 unfold gT;have h:=ex_succ (m+s) 1;rw[show m+1+s=m+s+1 by omega,Rat.pow_succ];rw[Rat.one_mul] at h;have:(((m+s:Nat):Rat)+1)*(ex (m+s+1) 1*(r^m*r))=((((m+s:Nat):Rat)+1)*ex (m+s+1) 1)*(r^m*r):=by grind
 rw[this,h];grind
def gS (s:Nat) (r:Rat) (N:Nat):Rat:=SS N (gT s r)
theorem gS_mono {s:Nat} {r:Rat} (h0:0<=r) {N M:Nat} (h:N<=M):gS s r N<=gS s r M:=SS_mono h fun k=>gT_nonneg h0 k
theorem Lim.low {f:Nat->Rat} {s:FS} {x:Rat} {m:Nat} (h:Lim f s) (hx:∀ n,m<=n->x<=f n):x<=s.hi.v:=by
 obtain⟨k,k1,k2⟩:=h;apply Classical.byContradiction;intro c;obtain⟨n0,hn⟩:=k2 ((x-s.hi.v)/2) (by grind);have h1:=hn (n0+m) (by omega);have h2:=(k1 (n0+m)).2;have h3:=hx (n0+m) (by omega);rw[absQ_le] at h1;grind
theorem Lim.top {f:Nat->Rat} {s:FS} {x:Rat} {m:Nat} (h:Lim f s) (hx:∀ n,m<=n->f n<=x):s.lo.v<=x:=by
 obtain⟨k,k1,k2⟩:=h;apply Classical.byContradiction;intro c;obtain⟨n0,hn⟩:=k2 ((s.lo.v-x)/2) (by grind);have h1:=hn (n0+m) (by omega);have h2:=(k1 (n0+m)).1;have h3:=hx (n0+m) (by omega);rw[absQ_le] at h1;grind
theorem Lim.below {f g:Nat->Rat} {s t:FS} {m:Nat} (hf:Lim f s) (hg:Lim g t) (h:∀ n,m<=n->f n<=g n):s.lo.v<=t.hi.v:=by
 obtain⟨k,k1,k2⟩:=hf;obtain⟨l,l1,l2⟩:=hg;apply Classical.byContradiction;intro c;obtain⟨n0,hn⟩:=k2 ((s.lo.v-t.hi.v)/4) (by grind);obtain⟨n1,hn1⟩:=l2 ((s.lo.v-t.hi.v)/4) (by grind);have h1:=hn (n0+n1+m) (by omega);have h2:=hn1 (n0+n1+m) (by omega);have h3:=(k1 (n0+n1+m)).1;have h4:=(l1 (n0+n1+m)).2;have h5:=h (n0+n1+m) (by omega);rw[absQ_le] at h1 h2;grind
theorem pw_two {A:Nat->Nat->Rat} {r:Rat} (a00:A 0 0=r) (a01:A 0 1=1) (a02:A 0 2=0) (a10:A 1 0=0) (a11:A 1 1=0) (a12:A 1 2=1) (a20:A 2 0=0) (a21:A 2 1=0) (a22:A 2 2=0) :
  ∀ m:Nat,pw 3 A (m+2) 0 0=r^(m+2)/\pw 3 A (m+2) 0 1=r^(m+1)/\pw 3 A (m+2) 0 2=r^m:=by
 have step:∀ m j,pw 3 A (m+1) 0 j=pw 3 A m 0 0*A 0 j+(pw 3 A m 0 1*A 1 j+(pw 3 A m 0 2*A 2 j+0)):=fun m j=>rfl
 have z0:pw 3 A 0 0 0=1/\pw 3 A 0 0 1=0/\pw 3 A 0 0 2=0:=⟨rfl,rfl,rfl⟩
 have z1:pw 3 A 1 0 0=r/\pw 3 A 1 0 1=1/\pw 3 A 1 0 2=0:=by
  refine⟨?_,?_,?_⟩ <;> rw[step 0,z0.1,z0.2.1,z0.2.2] <;> grind
 intro m
 induction m with
 |zero =>
  refine⟨?_,?_,?_⟩ <;> rw[show 0+2=1+1 from rfl,step 1,z1.1,z1.2.1,z1.2.2] <;> simp only[Rat.pow_succ,Rat.pow_zero] <;> grind
 |succ m ih =>
  refine⟨?_,?_,?_⟩ <;> rw[show m+1+2=m+2+1 from rfl,step (m+2),ih.1,ih.2.1,ih.2.2] <;> simp only[Rat.pow_succ] <;> grind
theorem EN_two {A:Nat->Nat->Rat} {r:Rat} (a00:A 0 0=r) (a01:A 0 1=1) (a02:A 0 2=0) (a10:A 1 0=0) (a11:A 1 1=0) (a12:A 1 2=1) (a20:A 2 0=0) (a21:A 2 1=0) (a22:A 2 2=0) (N:Nat):EN 3 A 1 (N+2) 0 2=gS 2 r N:=by
 have h:=pw_two a00 a01 a02 a10 a11 a12 a20 a21 a22;show ex 0 1*pw 3 A 0 0 2+(ex 1 1*pw 3 A 1 0 2+SS N fun m=>ex (m+2) 1*pw 3 A (m+2) 0 2)=_;have z0:pw 3 A 0 0 2=0:=rfl;have z1:pw 3 A 1 0 2=0:=by
  show pw 3 A 0 0 0*A 0 2+(pw 3 A 0 0 1*A 1 2+(pw 3 A 0 0 2*A 2 2+0))=0;have e0:pw 3 A 0 0 0=1:=rfl;have e1:pw 3 A 0 0 1=0:=rfl;rw[e0,e1,z0,a02,a12,a22];grind
 rw[z0,z1,Rat.mul_zero,Rat.mul_zero,Rat.zero_add,Rat.zero_add];exact SS_congr fun m _=>by
  rw[(h m).2.2];rfl
end
section
open Go Go.RowKit Go.Proofs.Tryz
def r8:FQ:=qOf 8 1
attribute [local irreducible] qSgn qCmp
end
end Go.Proofs.YtjdkdcmpifapeaaGreatDoor.Abs
