/- What sums come to: sequences of ratios that a span holds in the end. -/
import Derived.Test.YtjdkdcmpifapeaaGreatDoorMq
set_option linter.unusedVariables false
set_option linter.unusedSectionVars false
set_option linter.unusedSimpArgs false
set_option maxHeartbeats 4000000
namespace Go.Proofs.YtjdkdcmpifapeaaGreatDoor.Abs
section
open Go Go.RowKit Go.Proofs.Tryz
def Nul (f:Nat->Rat):Prop:=∀ e:Rat,0<e->∃ n0,∀ n,n0<=n->absQ (f n)<=e
def Bd (f:Nat->Rat):Prop:=∃ m:Rat,0<m/\∀ n,absQ (f n)<=m
theorem Nul.zero:Nul fun _=>0:=fun e he=>⟨0,fun _ _=>by
 rw[absQ_pos Rat.le_refl];exact Rat.le_of_lt he⟩
theorem Nul.congr {f g:Nat->Rat} (h:Nul f) (e:∀ n,g n=f n):Nul g:=by
 have:g=f:=funext e;rw[this];exact h
theorem Nul.add {f g:Nat->Rat} (hf:Nul f) (hg:Nul g):Nul fun n=>f n+g n:=fun e he=>by
 obtain⟨a,ha⟩:=hf (e/2) (by grind);obtain⟨b,hb⟩:=hg (e/2) (by grind);refine⟨a+b,fun n hn=>?_⟩;have h1:=ha n (by omega);have h2:=hb n (by omega);have h3:=absQ_add (f n) (g n);grind
theorem Nul.neg {f:Nat->Rat} (hf:Nul f):Nul fun n=>-f n:=fun e he=>by
 obtain⟨a,ha⟩:=hf e he;exact⟨a,fun n hn=>by rw[absQ_neg]; exact ha n hn⟩
theorem Nul.sub {f g:Nat->Rat} (hf:Nul f) (hg:Nul g):Nul fun n=>f n-g n:=(hf.add hg.neg).congr fun n=>by grind
theorem Nul.mul {f g:Nat->Rat} (hf:Nul f) (hg:Bd g):Nul fun n=>f n*g n:=fun e he=>by
 obtain⟨m,hm,hg⟩:=hg;obtain⟨a,ha⟩:=hf (e/m) (by rw[Rat.div_def]; exact Rat.mul_pos he (Rat.inv_pos.2 hm));refine⟨a,fun n hn=>?_⟩;rw[absQ_mul];have h1:=ha n hn;have h2:=hg n;have h3:absQ (f n)*absQ (g n)<=absQ (f n)*m:=Rat.mul_le_mul_of_nonneg_left h2 (absQ_nonneg _);have h4:absQ (f n)*m<=e/m*m:=Rat.mul_le_mul_of_nonneg_right h1 (Rat.le_of_lt hm);have h5:e/m*m=e:=Rat.div_mul_cancel (by grind);rw[h5] at h4;exact Rat.le_trans h3 h4
theorem Nul.mul_l {f g:Nat->Rat} (hf:Bd f) (hg:Nul g):Nul fun n=>f n*g n:=(hg.mul hf).congr fun n=>Rat.mul_comm _ _
theorem Bd.const (c:Rat):Bd fun _=>c:=⟨absQ c+1,by have:=absQ_nonneg c; grind,fun _=>by grind⟩
theorem Bd.in {f:Nat->Rat} {s:FS} (h:∀ n,In (f n) s):Bd f:=by
 refine⟨absQ s.lo.v+absQ s.hi.v+1,?_,fun n=>?_⟩
 ·have h1:=absQ_nonneg s.lo.v;have h2:=absQ_nonneg s.hi.v;grind
 ·have h1:=(h n).1;have h2:=(h n).2;have h3:absQ s.lo.v<=absQ s.lo.v:=Rat.le_refl;have h4:absQ s.hi.v<=absQ s.hi.v:=Rat.le_refl;rw[absQ_le] at h3 h4;rw[absQ_le];have h5:=absQ_nonneg s.lo.v;have h6:=absQ_nonneg s.hi.v;constructor <;> grind
theorem Nul.mul_nul {f g:Nat->Rat} (hf:Nul f) (hg:Nul g):Nul fun n=>f n*g n:=fun e he=>by
 obtain⟨a,ha⟩:=hf e he;obtain⟨b,hb⟩:=hg 1 (by grind);refine⟨a+b,fun n hn=>?_⟩;rw[absQ_mul];have h1:=ha n (by omega);have h2:=hb n (by omega);have h3:absQ (f n)*absQ (g n)<=absQ (f n)*1:=Rat.mul_le_mul_of_nonneg_left h2 (absQ_nonneg _);rw[Rat.mul_one] at h3;exact Rat.le_trans h3 h1
def Lim (f:Nat->Rat) (s:FS):Prop:=∃ g:Nat->Rat,(∀ n,In (g n) s)/\Nul fun n=>f n-g n
theorem Lim.of_in {x:Rat} {s:FS} (h:In x s):Lim (fun _=>x) s:=⟨fun _=>x,fun _=>h,Nul.zero.congr fun _=>by grind⟩
theorem Lim.nul {f g:Nat->Rat} {s:FS} (h:Lim f s) (e:Nul fun n=>g n-f n):Lim g s:=by
 obtain⟨k,k1,k2⟩:=h;exact⟨k,k1,(e.add k2).congr fun n=>by grind⟩
theorem Lim.add {f g:Nat->Rat} {a b r:FS} (hf:Lim f a) (hg:Lim g b) (h1:r.lo.v<=a.lo.v+b.lo.v) (h2:a.hi.v+b.hi.v<=r.hi.v):Lim (fun n=>f n+g n) r:=by
 obtain⟨k,k1,k2⟩:=hf;obtain⟨l,l1,l2⟩:=hg;exact⟨fun n=>k n+l n,fun n=>In.add (k1 n) (l1 n) h1 h2,(k2.add l2).congr fun n=>by grind⟩
theorem Lim.mul {f g:Nat->Rat} {a b r:FS} (hf:Lim f a) (hg:Lim g b) (h:∀ x y,In x a->In y b->In (x*y) r):Lim (fun n=>f n*g n) r:=by
 obtain⟨k,k1,k2⟩:=hf;obtain⟨l,l1,l2⟩:=hg;refine⟨fun n=>k n*l n,fun n=>h _ _ (k1 n) (l1 n),(((k2.mul_nul l2).add (k2.mul (Bd.in l1))).add (Nul.mul_l (Bd.in k1) l2)).congr fun n=>?_⟩;have:∀ x y u v:Rat,x*y-u*v=(x-u)*(y-v)+(x-u)*v+u*(y-v):=fun x y u v=>by grind
 exact this _ _ _ _
theorem Lim.const {x:Rat} {s:FS} (h:Lim (fun _=>x) s):In x s:=by
 obtain⟨k,k1,k2⟩:=h;constructor
 ·apply Classical.byContradiction;intro c;obtain⟨n0,hn⟩:=k2 ((s.lo.v-x)/2) (by grind);have h1:=hn n0 (Nat.le_refl _);have h2:=(k1 n0).1;rw[absQ_le] at h1;grind
 ·apply Classical.byContradiction;intro c;obtain⟨n0,hn⟩:=k2 ((x-s.hi.v)/2) (by grind);have h1:=hn n0 (Nat.le_refl _);have h2:=(k1 n0).2;rw[absQ_le] at h1;grind
theorem Lim.near {f:Nat->Rat} {s:FS} {x r:Rat} {m:Nat} (h:Lim f s) (hx:∀ n,m<=n->absQ (f n-x)<=r):s.lo.v<=x+r/\x-r<=s.hi.v:=by
 obtain⟨k,k1,k2⟩:=h;constructor
 ·apply Classical.byContradiction;intro c;obtain⟨n0,hn⟩:=k2 ((s.lo.v-(x+r))/2) (by grind);have h1:=hn (n0+m) (by omega);have h2:=(k1 (n0+m)).1;have h3:=hx (n0+m) (by omega);rw[absQ_le] at h1 h3;grind
 ·apply Classical.byContradiction;intro c;obtain⟨n0,hn⟩:=k2 ((x-r-s.hi.v)/2) (by grind);have h1:=hn (n0+m) (by omega);have h2:=(k1 (n0+m)).2;have h3:=hx (n0+m) (by omega);rw[absQ_le] at h1 h3;grind
end
section
open Go Go.RowKit Go.Proofs.Tryz
theorem SS_last:∀ (n:Nat) (f:Nat->Rat),SS (n+1) f=SS n f+f n
 |0,f=>by simp only[SS]; rw[Rat.add_zero,Rat.zero_add]
 |n+1,f=>by
  have:=SS_last n fun k=>f (k+1)
  show f 0+SS (n+1) (fun k=>f (k+1))=(f 0+SS n fun k=>f (k+1))+f (n+1);rw[this,Rat.add_assoc]
theorem SS_nonneg:∀ {n:Nat} {f:Nat->Rat},(∀ k,k<n->0<=f k)->0<=SS n f
 |0,_,_=>Rat.le_refl
 |n+1,f,h=>by
  have h1:=h 0 (by omega);have h2:=SS_nonneg (n:=n) (f:=fun k=>f (k+1)) fun k hk=>h (k+1) (by omega)
  simp only[SS];grind
def ex:Nat->Rat->Rat
 |0,_=>1
 |j+1,x=>ex j x*x/((j:Rat)+1)
theorem nat1_pos (j:Nat):(0:Rat)<(j:Rat)+1:=by
 have:(0:Rat)<=(j:Rat):=Rat.natCast_nonneg;grind
theorem ex_succ (j:Nat) (x:Rat):((j:Rat)+1)*ex (j+1) x=x*ex j x:=by
 have h:=nat1_pos j;show ((j:Rat)+1)*(ex j x*x/((j:Rat)+1))=_;rw[Rat.mul_comm,Rat.div_mul_cancel (by grind),Rat.mul_comm]
theorem ex_nonneg {x:Rat} (hx:0<=x):∀ j,0<=ex j x
 |0=>by show (0:Rat)<=1; grind
 |j+1=>by
  show 0<=ex j x*x/((j:Rat)+1);rw[Rat.div_def];exact Rat.mul_nonneg (Rat.mul_nonneg (ex_nonneg hx j) hx) (Rat.le_of_lt (Rat.inv_pos.2 (nat1_pos j)))
theorem absQ_ex (x:Rat):∀ j,absQ (ex j x)=ex j (absQ x)
 |0=>absQ_pos (by show (0:Rat)<=1; grind)
 |j+1=>by
  show absQ (ex j x*x/((j:Rat)+1))=ex j (absQ x)*absQ x/((j:Rat)+1);have h:0<=((j:Rat)+1)⁻¹:=Rat.le_of_lt (Rat.inv_pos.2 (nat1_pos j));rw[Rat.div_def,Rat.div_def,absQ_mul,absQ_mul,absQ_ex x j,absQ_pos h]
def cv (m:Nat) (s t:Rat):Rat:=SS (m+1) fun i=>ex i s*ex (m-i) t
theorem cv_succ (m:Nat) (s t:Rat):((m:Rat)+1)*cv (m+1) s t=(s+t)*cv m s t:=by
 unfold cv;have e0:∀ i,i<m+1+1->((m:Rat)+1)*(ex i s*ex (m+1-i) t)=(i:Rat)*ex i s*ex (m+1-i) t+ex i s*(((m+1-i:Nat):Rat)*ex (m+1-i) t):=fun i hi=>by
  have:((m:Rat)+1)=(i:Rat)+((m+1-i:Nat):Rat):=by
   rw[<- Rat.natCast_add,show i+(m+1-i)=m+1 by omega,Rat.natCast_add];rfl
  rw[this];grind
 rw[SS_mul_l,SS_congr e0,SS_add];have e1:(SS (m+1+1) fun i=>(i:Rat)*ex i s*ex (m+1-i) t)=s*SS (m+1) fun i=>ex i s*ex (m-i) t:=by
  show ((0:Nat):Rat)*ex 0 s*ex (m+1-0) t+(SS (m+1) fun i=>((i+1:Nat):Rat)*ex (i+1) s*ex (m+1-(i+1)) t)=_;rw[SS_mul_l];have:((0:Nat):Rat)*ex 0 s*ex (m+1-0) t=0:=by
   have:((0:Nat):Rat)=0:=rfl;rw[this];grind
  rw[this,Rat.zero_add];refine SS_congr fun i hi=>?_
  have h:=ex_succ i s;have e:((i+1:Nat):Rat)=(i:Rat)+1:=by rw[Rat.natCast_add]; rfl
  rw[e,h,show m+1-(i+1)=m-i by omega,Rat.mul_assoc]
 have e2:(SS (m+1+1) fun i=>ex i s*(((m+1-i:Nat):Rat)*ex (m+1-i) t))=t*SS (m+1) fun i=>ex i s*ex (m-i) t:=by
  rw[SS_last,SS_mul_l];have:ex (m+1) s*(((m+1-(m+1):Nat):Rat)*ex (m+1-(m+1)) t)=0:=by
   rw[Nat.sub_self];have:((0:Nat):Rat)=0:=rfl;rw[this];grind
  rw[this,Rat.add_zero];refine SS_congr fun i hi=>?_
  have h:=ex_succ (m-i) t;have e:((m+1-i:Nat):Rat)=((m-i:Nat):Rat)+1:=by rw[show m+1-i=(m-i)+1 by omega,Rat.natCast_add]; rfl
  rw[show m+1-i=(m-i)+1 by omega] at e ⊢;rw[e,h];grind
 rw[e1,e2,Rat.add_mul]
theorem cv_ex (s t:Rat):∀ m,cv m s t=ex m (s+t)
 |0=>by
  show (1:Rat)*1+0=1;grind
 |m+1=>by
  have h1:=cv_succ m s t;rw[cv_ex s t m,<- ex_succ m (s+t)] at h1;have h:=nat1_pos m;have h2:((m:Rat)+1)⁻¹*(((m:Rat)+1)*cv (m+1) s t)=((m:Rat)+1)⁻¹*(((m:Rat)+1)*ex (m+1) (s+t)):=by rw[h1]
  rw[<- Rat.mul_assoc,<- Rat.mul_assoc,Rat.inv_mul_cancel _ (by grind),Rat.one_mul,Rat.one_mul] at h2;exact h2
theorem ex_half {x:Rat} (hx:0<=x) {j:Nat} (h:2*x<=(j:Rat)+1):ex (j+1) x<=ex j x/2:=by
 have h1:=ex_succ j x;have h2:=ex_nonneg hx j;have h3:x*ex j x<=(((j:Rat)+1)/2)*ex j x:=Rat.mul_le_mul_of_nonneg_right (by grind) h2;have h4:((j:Rat)+1)*ex (j+1) x<=((j:Rat)+1)*(ex j x/2):=by grind
 exact Rat.le_of_mul_le_mul_left h4 (nat1_pos j)
theorem ex_tail {x:Rat} (hx:0<=x):∀ (k j:Nat),2*x<=(j:Rat)+1->(SS k fun i=>ex (j+i) x)<=2*ex j x
 |0,j,_=>by
  have:=ex_nonneg hx j;show (0:Rat)<=_;grind
 |k+1,j,h=>by
  have h1:=ex_half hx h;have e:((j+1:Nat):Rat)=(j:Rat)+1:=by rw[Rat.natCast_add]; rfl
  have h2:=ex_tail hx k (j+1) (by rw[e]; grind);have e2:(SS k fun i=>ex (j+(i+1)) x)=SS k fun i=>ex (j+1+i) x:=SS_congr fun i _=>by rw[show j+(i+1)=j+1+i by omega]
  show ex (j+0) x+(SS k fun i=>ex (j+(i+1)) x)<=_;rw[e2,Nat.add_zero];grind
theorem ex_shrink {x:Rat} (hx:0<=x) {j:Nat} (h:2*x<=(j:Rat)+1):∀ k:Nat,((k:Rat)+1)*ex (j+k) x<=ex j x
 |0=>by
  show (((0:Nat):Rat)+1)*ex (j+0) x<=_;have:((0:Nat):Rat)=0:=rfl;rw[this,Nat.add_zero];grind
 |k+1=>by
  have ih:=ex_shrink hx h k;have e:((j+k:Nat):Rat)=(j:Rat)+(k:Rat):=Rat.natCast_add _ _;have hk:(0:Rat)<=(k:Rat):=Rat.natCast_nonneg;have h1:=ex_half hx (j:=j+k) (by rw[e]; grind);have h2:=ex_nonneg hx (j+k);have e2:((k+1:Nat):Rat)=(k:Rat)+1:=by rw[Rat.natCast_add]; rfl
  rw[e2];have h3:((k:Rat)+1+1)*ex (j+k+1) x<=((k:Rat)+1+1)*(ex (j+k) x/2):=Rat.mul_le_mul_of_nonneg_left h1 (by grind);have h4:(k:Rat)*ex (j+k) x ≥ 0:=Rat.mul_nonneg hk h2;show ((k:Rat)+1+1)*ex (j+k+1) x<=_;grind
theorem nat_above (x:Rat):∃ n:Nat,x<=(n:Rat):=by
 refine⟨x.ceil.toNat,Rat.le_trans Rat.le_ceil ?_⟩;have:x.ceil<=((x.ceil.toNat:Nat):Int):=Int.self_le_toNat _;have h:((x.ceil:Int):Rat)<=(((x.ceil.toNat:Nat):Int):Rat):=Rat.intCast_le_intCast.2 this;exact h
theorem ex_nul {x:Rat} (hx:0<=x):Nul fun j=>ex j x:=fun e he=>by
 obtain⟨j,hj⟩:=nat_above (2*x);obtain⟨k,hk⟩:=nat_above (ex j x/e);refine⟨j+k,fun n hn=>?_⟩;obtain⟨i,rfl⟩:∃ i,n=j+i:=⟨n-j,by omega⟩
 rw[absQ_pos (ex_nonneg hx _)];have h1:=ex_shrink hx (j:=j) (by grind) i;have h2:(k:Rat)<=(i:Rat):=by
  have:k<=i:=by omega
  exact_mod_cast this
 have h3:ex j x<=(k:Rat)*e:=by
  have:=Rat.mul_le_mul_of_nonneg_right hk (Rat.le_of_lt he);rw[Rat.div_mul_cancel (by grind)] at this;exact this
 have h4:(k:Rat)*e<=(i:Rat)*e:=Rat.mul_le_mul_of_nonneg_right h2 (Rat.le_of_lt he);apply Classical.byContradiction;intro c;have h5:((i:Rat)+1)*e<((i:Rat)+1)*ex (j+i) x:=Rat.mul_lt_mul_of_pos_left (by grind) (nat1_pos i);grind
end
section
open Go Go.RowKit Go.Proofs.Tryz
theorem SS_split:∀ (a b:Nat) (f:Nat->Rat),SS (a+b) f=SS a f+SS b fun i=>f (a+i)
 |a,0,f=>by
  show SS a f=SS a f+0;rw[Rat.add_zero]
 |a,b+1,f=>by
  rw[<- Nat.add_assoc,SS_last,SS_split a b,SS_last,Rat.add_assoc]
theorem SS_mono {n m:Nat} {f:Nat->Rat} (h:n<=m) (hf:∀ k,0<=f k):SS n f<=SS m f:=by
 obtain⟨b,rfl⟩:∃ b,m=n+b:=⟨m-n,by omega⟩
 rw[SS_split];have:=SS_nonneg (n:=b) (f:=fun i=>f (n+i)) fun k _=>hf _
 grind
theorem SS_le':∀ {n:Nat} {f g:Nat->Rat},(∀ k,k<n->f k<=g k)->SS n f<=SS n g
 |0,_,_,_=>Rat.le_refl
 |n+1,f,g,h=>by
  simp only[SS];have h1:=h 0 (by omega);have h2:=SS_le' (n:=n) (f:=fun k=>f (k+1)) (g:=fun k=>g (k+1)) fun k hk=>h (k+1) (by omega)
  grind
theorem SS_abs':∀ (n:Nat) (f:Nat->Rat),absQ (SS n f)<=SS n fun k=>absQ (f k)
 |0,_=>by simp only[SS]; exact (absQ_pos Rat.le_refl)▸Rat.le_refl
 |n+1,f=>by
  simp only[SS];have h1:=absQ_add (f 0) (SS n fun k=>f (k+1));have h2:=SS_abs' n fun k=>f (k+1)
  grind
theorem SS_sub (n:Nat) (f g:Nat->Rat):SS n (fun k=>f k-g k)=SS n f-SS n g:=by
 have h:SS n (fun k=>f k-g k)+SS n g=SS n f:=by
  rw[<- SS_add];exact SS_congr fun k _=>by grind
 grind
theorem SS_tri (f:Nat->Nat->Rat):∀ N:Nat,(SS N fun m=>SS (m+1) fun p=>f p (m-p))=SS N fun p=>SS (N-p) fun q=>f p q
 |0=>rfl
 |N+1=>by
  rw[SS_last,SS_tri f N];have e1:(SS (N+1) fun p=>SS (N+1-p) fun q=>f p q)=SS (N+1) fun p=>(SS (N-p) fun q=>f p q)+f p (N-p):=SS_congr fun p hp=>by
   rw[show N+1-p=(N-p)+1 by omega,SS_last]
  rw[e1,SS_add,SS_last N fun p=>SS (N-p) fun q=>f p q,Nat.sub_self];show _=_+0+_;rw[Rat.add_zero]
theorem pow_add' (c:Rat) (a:Nat):∀ b:Nat,c^(a+b)=c^a*c^b
 |0=>by rw[Nat.add_zero,Rat.pow_zero,Rat.mul_one]
 |b+1=>by rw[<- Nat.add_assoc,Rat.pow_succ,Rat.pow_succ,pow_add' c a b,Rat.mul_assoc]
def mm (n:Nat) (A B:Nat->Nat->Rat) (i j:Nat):Rat:=SS n fun k=>A i k*B k j
def idm (i j:Nat):Rat:=if i=j then 1 else 0
def pw (n:Nat) (A:Nat->Nat->Rat):Nat->Nat->Nat->Rat
 |0=>idm
 |m+1=>mm n (pw n A m) A
theorem mm_congr {n:Nat} {A A' B B':Nat->Nat->Rat} {i j:Nat} (h1:∀ k,k<n->A i k=A' i k) (h2:∀ k,k<n->B k j=B' k j):mm n A B i j=mm n A' B' i j:=SS_congr fun k hk=>by rw[h1 k hk,h2 k hk]
theorem mm_assoc (n:Nat) (A B C:Nat->Nat->Rat) (i j:Nat):mm n (mm n A B) C i j=mm n A (mm n B C) i j:=assoc_SS n A B C i j
theorem SS_del:∀ {n i:Nat} {f:Nat->Rat},i<n->(SS n fun k=>(if i=k then 1 else 0)*f k)=f i
|0,i,f,h=>by omega
|n+1,0,f,h=>by
 simp only[SS];have:(SS n fun k=>(if 0=k+1 then (1:Rat) else 0)*f (k+1))=SS n fun _=>0:=SS_congr fun k _=>by rw[if_neg (by omega),Rat.zero_mul]
 rw[this,SS_zero,Rat.add_zero];show (if (0:Nat)=0 then (1:Rat) else 0)*f 0=f 0;rw[if_pos rfl,Rat.one_mul]
|n+1,i+1,f,h=>by
 simp only[SS];have:(SS n fun k=>(if i+1=k+1 then (1:Rat) else 0)*f (k+1))=SS n fun k=>(if i=k then 1 else 0)*f (k+1):=SS_congr fun k _=>by
  by_cases e:i=k
  ·rw[if_pos (by omega),if_pos e]
  ·rw[if_neg (by omega),if_neg e]
 rw[this,SS_del (by omega),if_neg (by omega),Rat.zero_mul,Rat.zero_add]
theorem mm_one {n:Nat} (A:Nat->Nat->Rat) {i j:Nat} (hj:j<n):mm n A idm i j=A i j:=by
 have:mm n A idm i j=SS n fun k=>(if j=k then 1 else 0)*A i k:=SS_congr fun k _=>by
  unfold idm;rw[Rat.mul_comm];by_cases e:j=k
  ·rw[if_pos e,if_pos e.symm]
  ·rw[if_neg e,if_neg fun q=>e q.symm]
 rw[this];exact SS_del hj
theorem pw_add {n:Nat} (A:Nat->Nat->Rat) (a:Nat):∀ (b:Nat) {i j:Nat},i<n->j<n->mm n (pw n A a) (pw n A b) i j=pw n A (a+b) i j
 |0,i,j,_,hj=>mm_one _ hj
 |b+1,i,j,hi,hj=>by
  show mm n (pw n A a) (mm n (pw n A b) A) i j=mm n (pw n A (a+b)) A i j;rw[<- mm_assoc];exact mm_congr (fun k hk=>pw_add A a b hi hk) fun _ _=>rfl
def RowB (n:Nat) (A:Nat->Nat->Rat) (c:Rat):Prop:=∀ i,i<n->(SS n fun k=>absQ (A i k))<=c
theorem RowB.mm {n:Nat} {A B:Nat->Nat->Rat} {c d:Rat} (ha:RowB n A c) (hb:RowB n B d) (hd:0<=d):RowB n (mm n A B) (c*d):=fun i hi=>by
 have e1:(SS n fun j=>absQ (Abs.mm n A B i j))<=SS n fun j=>SS n fun k=>absQ (A i k)*absQ (B k j):=SS_le' fun j hj=>by
  refine Rat.le_trans (SS_abs' _ _) (SS_le' fun k _=>?_);rw[absQ_mul];exact Rat.le_refl
 rw[SS_swap] at e1;have e2:(SS n fun k=>SS n fun j=>absQ (A i k)*absQ (B k j))<=SS n fun k=>absQ (A i k)*d:=SS_le' fun k hk=>by
  rw[<- SS_mul_l];exact Rat.mul_le_mul_of_nonneg_left (hb k hk) (absQ_nonneg _)
 rw[<- SS_mul_r] at e2;exact Rat.le_trans e1 (Rat.le_trans e2 (Rat.mul_le_mul_of_nonneg_right (ha i hi) hd))
theorem idm_row (n:Nat):RowB n idm 1:=fun i hi=>by
 have:(SS n fun k=>absQ (idm i k))=SS n fun k=>(if i=k then 1 else 0)*1:=SS_congr fun k _=>by
  unfold idm;by_cases e:i=k
  ·rw[if_pos e,Rat.mul_one];exact absQ_pos (by grind)
  ·rw[if_neg e,Rat.mul_one];exact absQ_pos Rat.le_refl
 rw[this,SS_del (f:=fun _=>1) hi];exact Rat.le_refl
theorem pw_row {n:Nat} {A:Nat->Nat->Rat} {c:Rat} (ha:RowB n A c) (hc:0<=c):∀ m:Nat,RowB n (pw n A m) (c^m)
 |0=>by
  rw[Rat.pow_zero];exact idm_row n
 |m+1=>by
  rw[Rat.pow_succ];exact (pw_row ha hc m).mm ha hc
theorem RowB.at {n:Nat} {A:Nat->Nat->Rat} {c:Rat} (h:RowB n A c) {i j:Nat} (hi:i<n) (hj:j<n):absQ (A i j)<=c:=by
 have h1:=h i hi;have h2:SS (j+1) (fun k=>absQ (A i k))<=SS n fun k=>absQ (A i k):=SS_mono hj fun k=>absQ_nonneg _
 rw[SS_last] at h2;have h3:=SS_nonneg (n:=j) (f:=fun k=>absQ (A i k)) fun k _=>absQ_nonneg _
 grind
def PS (n:Nat) (A:Nat->Nat->Rat) (a:Nat->Rat) (N i j:Nat):Rat:=SS N fun m=>a m*pw n A m i j
def conv (a b:Nat->Rat) (m:Nat):Rat:=SS (m+1) fun p=>a p*b (m-p)
def Sml (a:Nat->Rat) (c K u:Rat):Prop:=∀ m,absQ (a m)*c^m<=K*ex m u
theorem PS_mul (n:Nat) (A:Nat->Nat->Rat) (a b:Nat->Rat) (N:Nat) {i j:Nat} (hi:i<n) (hj:j<n):mm n (PS n A a N) (PS n A b N) i j=SS N fun p=>SS N fun q=>a p*b q*pw n A (p+q) i j:=by
 unfold mm PS;have e1:(SS n fun k=>(SS N fun m=>a m*pw n A m i k)*SS N fun m=>b m*pw n A m k j)=SS n fun k=>SS N fun p=>SS N fun q=>a p*b q*(pw n A p i k*pw n A q k j):=SS_congr fun k _=>by
  rw[SS_mul_r];refine SS_congr fun p _=>?_
  rw[SS_mul_l];exact SS_congr fun q _=>by grind
 rw[e1,SS_swap];refine SS_congr fun p _=>?_
 rw[SS_swap];refine SS_congr fun q _=>?_
 rw[<- SS_mul_l,<- pw_add A p q hi hj];rfl
theorem PS_conv (n:Nat) (A:Nat->Nat->Rat) (a b:Nat->Rat) (N i j:Nat):PS n A (conv a b) N i j=SS N fun p=>SS (N-p) fun q=>a p*b q*pw n A (p+q) i j:=by
 unfold PS conv;rw[<- SS_tri fun p q=>a p*b q*pw n A (p+q) i j];refine SS_congr fun m _=>?_
 rw[SS_mul_r];exact SS_congr fun p hp=>by rw[show p+(m-p)=m by omega]
theorem PS_diff (n:Nat) (A:Nat->Nat->Rat) (a b:Nat->Rat) (N:Nat) {i j:Nat} (hi:i<n) (hj:j<n):mm n (PS n A a N) (PS n A b N) i j-PS n A (conv a b) N i j=SS N fun p=>SS p fun r=>a p*b (N-p+r)*pw n A (N+r) i j:=by
 rw[PS_mul n A a b N hi hj,PS_conv,<- SS_sub];refine SS_congr fun p hp=>?_
 have e:N=(N-p)+p:=by omega
 have h:=SS_split (N-p) p fun q=>a p*b q*pw n A (p+q) i j
 rw[<- e] at h;rw[h];have e2:(SS p fun r=>a p*b (N-p+r)*pw n A (p+(N-p+r)) i j)=SS p fun r=>a p*b (N-p+r)*pw n A (N+r) i j:=SS_congr fun r _=>by rw[show p+(N-p+r)=N+r by omega]
 rw[e2];grind
theorem PS_nul {n:Nat} {A:Nat->Nat->Rat} {a b:Nat->Rat} {c K u L v:Rat} (ha:RowB n A c) (hc:0<=c) (hK:0<=K) (hL:0<=L) (hu:0<=u) (hv:0<=v) (sa:Sml a c K u) (sb:Sml b c L v) {i j:Nat} (hi:i<n) (hj:j<n) :
  Nul fun N=>mm n (PS n A a N) (PS n A b N) i j-PS n A (conv a b) N i j:=by
 obtain⟨n0,hn0⟩:=nat_above (2*(u+v));have hb:∀ N,n0<=N->absQ (mm n (PS n A a N) (PS n A b N) i j-PS n A (conv a b) N i j)<=K*L*(2*ex N (u+v)):=by
  intro N hN;rw[PS_diff n A a b N hi hj];have t1:∀ p r,r<p->p<N->absQ (a p*b (N-p+r)*pw n A (N+r) i j)<=K*L*(ex p u*ex (N+r-p) v):=fun p r hr hp=>by
   have h1:=(pw_row ha hc (N+r)).at hi hj;have h2:=sa p;have h3:=sb (N-p+r);have e1:c^(N+r)=c^p*c^(N-p+r):=by rw[<- pow_add',show p+(N-p+r)=N+r by omega]
   rw[absQ_mul,absQ_mul];have g0:0<=absQ (a p)*absQ (b (N-p+r)):=Rat.mul_nonneg (absQ_nonneg _) (absQ_nonneg _);have g1:absQ (a p)*absQ (b (N-p+r))*absQ (pw n A (N+r) i j)<=absQ (a p)*absQ (b (N-p+r))*c^(N+r):=Rat.mul_le_mul_of_nonneg_left h1 g0;have e2:absQ (a p)*absQ (b (N-p+r))*c^(N+r)=(absQ (a p)*c^p)*(absQ (b (N-p+r))*c^(N-p+r)):=by
    rw[e1];have:∀ x y z w:Rat,x*y*(z*w)=(x*z)*(y*w):=fun x y z w=>by grind
    exact this _ _ _ _
   have p1:0<=absQ (b (N-p+r))*c^(N-p+r):=Rat.mul_nonneg (absQ_nonneg _) (Rat.pow_nonneg hc);have p2:0<=K*ex p u:=Rat.mul_nonneg hK (ex_nonneg hu p);have g2:(absQ (a p)*c^p)*(absQ (b (N-p+r))*c^(N-p+r))<=(K*ex p u)*(L*ex (N-p+r) v) :=
    Rat.le_trans (Rat.mul_le_mul_of_nonneg_right h2 p1) (Rat.mul_le_mul_of_nonneg_left h3 p2)
   have e3:(K*ex p u)*(L*ex (N-p+r) v)=K*L*(ex p u*ex (N+r-p) v):=by
    rw[show N-p+r=N+r-p by omega];have:∀ x y z w:Rat,(x*y)*(z*w)=x*z*(y*w):=fun x y z w=>by grind
    exact this _ _ _ _
   rw[e2] at g1;rw[e3] at g2;exact Rat.le_trans g1 g2
  have hKL:0<=K*L:=Rat.mul_nonneg hK hL;have t2:absQ (SS N fun p=>SS p fun r=>a p*b (N-p+r)*pw n A (N+r) i j)<=SS N fun p=>SS N fun r=>if r<p then K*L*(ex p u*ex (N+r-p) v) else 0:=by
   refine Rat.le_trans (SS_abs' _ _) (SS_le' fun p hp=>?_);refine Rat.le_trans (SS_abs' _ _) ?_;have h1:(SS p fun r=>absQ (a p*b (N-p+r)*pw n A (N+r) i j))<=SS p fun r=>if r<p then K*L*(ex p u*ex (N+r-p) v) else 0:=SS_le' fun r hr=>by
    rw[if_pos hr];exact t1 p r hr hp
   refine Rat.le_trans h1 (SS_mono (by omega) fun r=>?_);split
   ·exact Rat.mul_nonneg hKL (Rat.mul_nonneg (ex_nonneg hu _) (ex_nonneg hv _))
   ·exact Rat.le_refl
  rw[SS_swap] at t2;have t3:(SS N fun r=>SS N fun p=>if r<p then K*L*(ex p u*ex (N+r-p) v) else 0)<=SS N fun r=>K*L*ex (N+r) (u+v):=SS_le' fun r hr=>by
   have h1:(SS N fun p=>if r<p then K*L*(ex p u*ex (N+r-p) v) else 0)<=SS N fun p=>K*L*(ex p u*ex (N+r-p) v):=SS_le' fun p hp=>by
    split
    ·exact Rat.le_refl
    ·exact Rat.mul_nonneg hKL (Rat.mul_nonneg (ex_nonneg hu _) (ex_nonneg hv _))
   have h2:(SS N fun p=>K*L*(ex p u*ex (N+r-p) v))<=SS (N+r+1) fun p=>K*L*(ex p u*ex (N+r-p) v):=SS_mono (by omega) fun p=>Rat.mul_nonneg hKL (Rat.mul_nonneg (ex_nonneg hu _) (ex_nonneg hv _))
   have h3:(SS (N+r+1) fun p=>K*L*(ex p u*ex (N+r-p) v))=K*L*ex (N+r) (u+v):=by
    rw[<- SS_mul_l,<- cv_ex u v (N+r)];rfl
   rw[h3] at h2;exact Rat.le_trans h1 h2
  have t4:(SS N fun r=>K*L*ex (N+r) (u+v))<=K*L*(2*ex N (u+v)):=by
   rw[<- SS_mul_l];refine Rat.mul_le_mul_of_nonneg_left (ex_tail (by grind) N N ?_) hKL;have:(n0:Rat)<=(N:Rat):=Rat.natCast_le_natCast.2 hN;grind
  exact Rat.le_trans t2 (Rat.le_trans t3 t4)
 intro e he;obtain⟨n1,hn1⟩:=(Nul.mul_l (Bd.const (K*L*2)) (ex_nul (x:=u+v) (by grind))) e he;refine⟨n0+n1,fun N hN=>Rat.le_trans (hb N (by omega)) ?_⟩;have h1:=hn1 N (by omega);have h2:K*L*2*ex N (u+v)<=absQ (K*L*2*ex N (u+v)):=by
  have:=Rat.le_refl (a:=absQ (K*L*2*ex N (u+v)));rw[absQ_le] at this;exact this.2
 have e4:K*L*(2*ex N (u+v))=K*L*2*ex N (u+v):=by grind
 rw[e4];exact Rat.le_trans h2 h1
end
section
open Go Go.RowKit Go.Proofs.Tryz
theorem ex_mul (x c:Rat):∀ m,ex m x*c^m=ex m (x*c)
 |0=>by
  rw[Rat.pow_zero];show (1:Rat)*1=1;grind
 |m+1=>by
  show ex m x*x/((m:Rat)+1)*c^(m+1)=ex m (x*c)*(x*c)/((m:Rat)+1);rw[<- ex_mul x c m,Rat.pow_succ,Rat.div_def,Rat.div_def];grind
theorem sml_E {c t:Rat} (hc:0<=c):Sml (fun m=>ex m t) c 1 (absQ t*c):=fun m=>by
 show absQ (ex m t)*c^m<=_;rw[absQ_ex,ex_mul,Rat.one_mul];exact Rat.le_refl
theorem ex_up {x:Rat} (hx:0<=x) (m:Nat):ex (m+1) x<=x*ex m x:=by
 have h1:=ex_succ m x;have h2:=ex_nonneg hx (m+1);have h3:(0:Rat)<=(m:Rat):=Rat.natCast_nonneg;have h4:0<=(m:Rat)*ex (m+1) x:=Rat.mul_nonneg h3 h2;grind
theorem sml_U {c t:Rat} (hc:0<=c):Sml (fun m=>ex (m+1) t) c (absQ t) (absQ t*c):=fun m=>by
 show absQ (ex (m+1) t)*c^m<=_;rw[absQ_ex,<- ex_mul];have h1:=ex_up (absQ_nonneg t) m;have h2:=Rat.mul_le_mul_of_nonneg_right h1 (Rat.pow_nonneg hc (n:=m));rw[Rat.mul_assoc] at h2;exact h2
def EN (n:Nat) (A:Nat->Nat->Rat) (t:Rat) (N i j:Nat):Rat:=PS n A (fun m=>ex m t) N i j
def UN (n:Nat) (A:Nat->Nat->Rat) (t:Rat) (N i j:Nat):Rat:=PS n A (fun m=>ex (m+1) t) N i j
theorem PS_congr {n:Nat} {A:Nat->Nat->Rat} {a b:Nat->Rat} {N i j:Nat} (h:∀ m,m<N->a m=b m):PS n A a N i j=PS n A b N i j:=SS_congr fun m hm=>by rw[h m hm]
theorem PS_sub (n:Nat) (A:Nat->Nat->Rat) (a b:Nat->Rat) (N i j:Nat):PS n A (fun m=>a m-b m) N i j=PS n A a N i j-PS n A b N i j:=by
 unfold PS;rw[<- SS_sub];exact SS_congr fun m _=>by grind
theorem conv_EE (s t:Rat) (m:Nat):conv (fun m=>ex m s) (fun m=>ex m t) m=ex m (s+t):=cv_ex s t m
theorem conv_EU (s t:Rat) (m:Nat):conv (fun m=>ex m s) (fun m=>ex (m+1) t) m=ex (m+1) (s+t)-ex (m+1) s:=by
 have h:=cv_ex s t (m+1);unfold cv at h;rw[SS_last,Nat.sub_self] at h;have e:(SS (m+1) fun i=>ex i s*ex (m+1-i) t)=conv (fun m=>ex m s) (fun m=>ex (m+1) t) m:=SS_congr fun i hi=>by rw[show m+1-i=m-i+1 by omega]
 rw[e] at h;have e2:ex 0 t=1:=rfl;rw[e2] at h;grind
section
variable {n:Nat} {A:Nat->Nat->Rat} {c:Rat}
theorem EE_nul (ha:RowB n A c) (hc:0<=c) (s t:Rat) {i j:Nat} (hi:i<n) (hj:j<n):Nul fun N=>mm n (EN n A s N) (EN n A t N) i j-EN n A (s+t) N i j:=by
 have h:=PS_nul ha hc (by grind) (by grind) (Rat.mul_nonneg (absQ_nonneg s) hc) (Rat.mul_nonneg (absQ_nonneg t) hc) (sml_E hc) (sml_E hc) hi hj;refine h.congr fun N=>?_
 show _-PS n A _ N i j=_-PS n A _ N i j;rw[PS_congr fun m _=>(conv_EE s t m).symm];rfl
theorem EU_nul (ha:RowB n A c) (hc:0<=c) (s t:Rat) {i j:Nat} (hi:i<n) (hj:j<n):Nul fun N=>UN n A s N i j+mm n (EN n A s N) (UN n A t N) i j-UN n A (s+t) N i j:=by
 have h:=PS_nul ha hc (by grind) (absQ_nonneg t) (Rat.mul_nonneg (absQ_nonneg s) hc) (Rat.mul_nonneg (absQ_nonneg t) hc) (sml_E hc) (sml_U hc) hi hj;refine h.congr fun N=>?_
 have e:PS n A (conv (fun m=>ex m s) (fun m=>ex (m+1) t)) N i j=UN n A (s+t) N i j-UN n A s N i j:=by
  rw[PS_congr fun m _=>conv_EU s t m];exact PS_sub n A (fun m=>ex (m+1) (s+t)) (fun m=>ex (m+1) s) N i j
 show _=mm n (PS n A (fun m=>ex m s) N) (PS n A (fun m=>ex (m+1) t) N) i j-PS n A (conv (fun m=>ex m s) (fun m=>ex (m+1) t)) N i j;rw[e];show _=mm n (EN n A s N) (UN n A t N) i j-_;grind
theorem term_le (ha:RowB n A c) (hc:0<=c) (t:Rat) (m:Nat) {i j:Nat} (hi:i<n) (hj:j<n):absQ (ex m t*pw n A m i j)<=ex m (absQ t*c):=by
 rw[absQ_mul,absQ_ex,<- ex_mul];exact Rat.mul_le_mul_of_nonneg_left ((pw_row ha hc m).at hi hj) (ex_nonneg (absQ_nonneg t) m)
theorem EN_left (ha:RowB n A c) (hc:0<=c) (t:Rat) {M:Nat} (hM:2*(absQ t*c)<=(M:Rat)+1) {N:Nat} (hN:M<=N) {i j:Nat} (hi:i<n) (hj:j<n):absQ (EN n A t N i j-EN n A t M i j)<=2*ex M (absQ t*c):=by
 obtain⟨b,rfl⟩:∃ b,N=M+b:=⟨N-M,by omega⟩
 have e:EN n A t (M+b) i j-EN n A t M i j=SS b fun r=>ex (M+r) t*pw n A (M+r) i j:=by
  unfold EN PS;rw[SS_split];grind
 rw[e];refine Rat.le_trans (SS_abs' _ _) (Rat.le_trans (SS_le' fun r _=>term_le ha hc t (M+r) hi hj) ?_);exact ex_tail (Rat.mul_nonneg (absQ_nonneg t) hc) b M hM
theorem UN_left (ha:RowB n A c) (hc:0<=c) (t:Rat) {M:Nat} (hM:2*(absQ t*c)<=(M:Rat)+1) {N:Nat} (hN:M<=N) {i j:Nat} (hi:i<n) (hj:j<n):absQ (UN n A t N i j-UN n A t M i j)<=absQ t*(2*ex M (absQ t*c)):=by
 obtain⟨b,rfl⟩:∃ b,N=M+b:=⟨N-M,by omega⟩
 have e:UN n A t (M+b) i j-UN n A t M i j=SS b fun r=>ex (M+r+1) t*pw n A (M+r) i j:=by
  unfold UN PS;rw[SS_split];grind
 rw[e];have h1:∀ r,r<b->absQ (ex (M+r+1) t*pw n A (M+r) i j)<=absQ t*ex (M+r) (absQ t*c):=fun r _=>by
  have h:=sml_U (t:=t) hc (M+r);rw[absQ_mul];exact Rat.le_trans (Rat.mul_le_mul_of_nonneg_left ((pw_row ha hc (M+r)).at hi hj) (absQ_nonneg _)) h
 refine Rat.le_trans (SS_abs' _ _) (Rat.le_trans (SS_le' h1) ?_);rw[<- SS_mul_l];exact Rat.mul_le_mul_of_nonneg_left (ex_tail (Rat.mul_nonneg (absQ_nonneg t) hc) b M hM) (absQ_nonneg t)
end
end
end Go.Proofs.YtjdkdcmpifapeaaGreatDoor.Abs
