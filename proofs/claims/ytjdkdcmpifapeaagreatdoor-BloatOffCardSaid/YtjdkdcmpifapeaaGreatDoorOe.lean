/- Models: whether one may be. -/
import Derived.Test.YtjdkdcmpifapeaaGreatDoorOd
import Derived.Test.YtjdkdcmpifapeaaGreatDoorOb
import Derived.Test.YtjdkdcmpifapeaaGreatDoorMx
import Derived.Test.YtjdkdcmpifapeaaGreatDoorMp
set_option linter.unusedVariables false
set_option linter.unusedSectionVars false
set_option linter.unusedSimpArgs false
set_option maxHeartbeats 4000000
set_option maxRecDepth 10000
namespace Go.Proofs.YtjdkdcmpifapeaaGreatDoor.Abs
section
open Go Go.RowKit Go.Proofs.Tryz
attribute [local irreducible] zLeft zRight qMake zDiv qCmp qAdd qMul qSum rawCheck vCheck mCheckR zCheckR mSteps qSgn
theorem zMul_z {a b r:FZ} (h:zMul a b=.ok r):r.z=a.z*b.z:=by
 unfold zMul fitZ at h;split at h
 ·cases h; rfl
 ·cases h
theorem qDiv_q {a b q:FQ} (h:qDiv a b=.ok q):q.q=Rat.divInt (a.q.num*(b.q.den:Int)) ((a.q.den:Int)*b.q.num):=by
 unfold qDiv at h;cases h1:zMul (qNum a) (qDen b) with
 |error e=>rw[h1] at h; cases h
 |ok n =>
  rw[h1,bnd_okk'] at h;cases h2:zMul (qDen a) (qNum b) with
  |error e=>rw[h2] at h; cases h
  |ok d =>
   rw[h2,bnd_okk'] at h;unfold qMake at h;split at h
   ·cases h
   ·cases h;rw[qMk_q,zMul_z h1,zMul_z h2];rfl
attribute [local irreducible] zMul zAdd fitZ qDiv
theorem qDiv_nn {a b q:FQ} (ha:¬ qSgn a<=0) (hb:¬ qSgn b<=0) (h:qDiv a b=.ok q):0<=q.q:=by
 have pos:∀ x:FQ,¬ qSgn x<=0->0<x.q.num:=fun x hx=>by
  unfold qSgn sgnZ at hx;split at hx
  ·exact absurd (Int.le_refl 0) hx
  ·split at hx
   ·exact absurd (by decide) hx
   ·omega
 rw[qDiv_q h];have h1:=pos a ha;have h2:=pos b hb;exact Rat.divInt_nonneg (Int.mul_nonneg (by omega) (by omega)) (Int.mul_nonneg (by omega) (by omega))
structure MOk (m:RawM):Prop where
 d:¬ (m.dim<1\/m.dim > 16\/m.inp<0\/m.inp > 16)
 A:mCheckR m.A m.dim m.dim=0
 B:mCheckR m.B m.dim m.inp=0
 C:vCheck m.C m.dim=0
 st:zCheckR m.st m.dim=0
 iz:zCheckR m.iz m.inp=0
 hor:rawCheck m.hor=0
 stp:rawCheck m.stp=0
 in':∃ (h s:FQ) (n:Nat),rawQ h=m.hor/\rawQ s=m.stp/\¬ qSgn h<=0/\¬ qSgn s<=0/\mSteps h s=.ok n/\m.cl.length<=32/\∀ c∈m.cl,ClOk c m.dim h
theorem claims_e {α:Type} {P:α->Int->Prop}:∀ {l:List α},(∀ x∈l,∃ e,P x e)->∃ es:List Int,es.length=l.length/\∀ i (h:i<l.length),P l[i] (es.getD i 0)
 |[],_=>⟨[],rfl,fun i h=>absurd h (Nat.not_lt_zero _)⟩
 |x::l,h=>by
  obtain⟨e,he⟩:=h x (.head _);obtain⟨es,h1,h2⟩:=claims_e (l:=l) fun y hy=>h y (.tail _ hy)
  refine⟨e::es,by simp[h1],fun i hi=>?_⟩;cases i with
  |zero=>exact he
  |succ i=>exact h2 i (Nat.lt_of_succ_lt_succ hi)
theorem c_mdCheck (m:RawM) (mb:MBd m):∃ e:Int,ACalls prog 34 [rmd m] (i64 e)/\(e=0↔MOk m):=by
 by_cases hd:m.dim<1\/m.dim > 16\/m.inp<0\/m.inp > 16
 ·refine⟨20,?_,fun q=>by omega,fun q=>absurd hd q.d⟩;refine conP func34 rfl (by kernel_rfl) ?_;by_cases d1:m.dim<1
  ·repeat ((first | refine .gF ?_ | refine .eF ?_ | rw[decide_eq_true d1] | refine xK ?_ | rw[decide_eq_true (by omega)] | rw[decide_eq_false (by omega)]); conv=>whnf)
   exact fin rfl rfl
  ·by_cases d2:m.dim > 16
   ·repeat ((first | refine .gF ?_ | refine .eF ?_ | rw[decide_eq_false d1] | rw[decide_eq_true d2] | refine xK ?_ | rw[decide_eq_true (by omega)] | rw[decide_eq_false (by omega)]); conv=>whnf)
    exact fin rfl rfl
   ·by_cases d3:m.inp<0
    ·repeat ((first | refine .gF ?_ | refine .eF ?_ | rw[decide_eq_false d1] | rw[decide_eq_false d2] | rw[decide_eq_true d3] | refine xK ?_ | rw[decide_eq_true (by omega)] | rw[decide_eq_false (by omega)]); conv=>whnf)
     exact fin rfl rfl
    ·have d4:m.inp > 16:=by omega
     repeat ((first | refine .gF ?_ | refine .eF ?_ | rw[decide_eq_false d1] | rw[decide_eq_false d2] | rw[decide_eq_false d3] | rw[decide_eq_true d4] | refine xK ?_ | rw[decide_eq_true (by omega)] | rw[decide_eq_false (by omega)]); conv=>whnf)
     exact fin rfl rfl
 have d1:¬ m.dim<1:=fun q=>hd (.inl q)
 have d2:¬ m.dim > 16:=fun q=>hd (.inr (.inl q))
 have d3:¬ m.inp<0:=fun q=>hd (.inr (.inr (.inl q)))
 have d4:¬ m.inp > 16:=fun q=>hd (.inr (.inr (.inr q)))
 have C1:=c_mCheckR m.A m.dim m.dim mb.A;have C2:=c_mCheckR m.B m.dim m.inp mb.B;have C3:=c_vCheck m.C m.dim (fun x hx=>(mb.C.2 x hx).ok) mb.C.1;have C4:=c_zCheckR m.st m.dim mb.st;have C5:=c_zCheckR m.iz m.inp mb.iz;have C6:=c_rawCheck mb.hor;have C7:=c_rawCheck mb.stp;by_cases he1:firstE [mCheckR m.A m.dim m.dim,mCheckR m.B m.dim m.inp,vCheck m.C m.dim,zCheckR m.st m.dim,zCheckR m.iz m.inp,rawCheck m.hor,rawCheck m.stp]=0
 ·have hz:=firstE_zero he1;have h1:mCheckR m.A m.dim m.dim=0:=hz _ (by simp);have h2:mCheckR m.B m.dim m.inp=0:=hz _ (by simp);have h3:vCheck m.C m.dim=0:=hz _ (by simp);have h4:zCheckR m.st m.dim=0:=hz _ (by simp);have h5:zCheckR m.iz m.inp=0:=hz _ (by simp);have h6:rawCheck m.hor=0:=hz _ (by simp);have h7:rawCheck m.stp=0:=hz _ (by simp);rw[h1] at C1;rw[h2] at C2;rw[h3] at C3;rw[h4] at C4;rw[h5] at C5;rw[h6] at C6;rw[h7] at C7;obtain⟨h,hh⟩:=raw_q mb.hor.2.2.1 mb.hor.2.2.2 h6;obtain⟨s,hs⟩:=raw_q mb.stp.2.2.1 mb.stp.2.2.2 h7;have hiff:MOk m↔¬ qSgn h<=0/\¬ qSgn s<=0/\(∃ n,mSteps h s=.ok n)/\m.cl.length<=32/\∀ c∈m.cl,ClOk c m.dim h:=by
   constructor
   ·rintro⟨_,_,_,_,_,_,_,_,h',s',n,e1,e2,e3,e4,e5,e6,e7⟩;rw[<- hh] at e1;rw[<- hs] at e2;rw[rawQ_inj' e1] at e3 e5 e7;rw[rawQ_inj' e2] at e4 e5;exact⟨e3,e4,⟨n,e5⟩,e6,e7⟩
   ·rintro⟨e3,e4,⟨n,e5⟩,e6,e7⟩;exact⟨hd,h1,h2,h3,h4,h5,h6,h7,h,s,n,hh,hs,e3,e4,e5,e6,e7⟩
  rw[hiff];have hclb:=mb.cl;clear hz he1 hiff h1 h2 h3 h4 h5 h6 h7 mb hd;obtain⟨dim,inp,ta,tb,tc,st,iz,hor,stp,cl⟩:=m;dsimp only at d1 d2 d3 d4 hclb hh hs C1 C2 C3 C4 C5 C6 C7 ⊢;subst hh hs;rw[rawv_rawQ] at C6 C7;change ACalls prog _ [rat h.q] _ at C6;change ACalls prog _ [rat s.q] _ at C7;have S1:=c_qSign h;have S2:=c_qSign s;have hstart:∀ {r:Int},Pc prog f34.ntmps (Code.at' (bodyOf f34) [true,true,true]) [(1,.ptr (0,0) 0 0)] [((0,0),⟨68,16,[rmd ⟨dim,inp,ta,tb,tc,st,iz,rawQ h,rawQ s,cl⟩]⟩)] 60 (nresA ty f34.results.toList (i64 r))->ACalls prog 34 [rmd ⟨dim,inp,ta,tb,tc,st,iz,rawQ h,rawQ s,cl⟩] (i64 r):=by
   intro r H;refine conP func34 rfl (by kernel_rfl) ?_;repeat ((first | refine .gF ?_ | refine .eF ?_ | refine cE C1 ?_ | refine cE C2 ?_ | refine cE C3 ?_ | refine cE C4 ?_ | refine cE C5 ?_ | refine cE C6 ?_ | refine cE C7 ?_ | rw[decide_eq_false d1] | rw[decide_eq_false d2] | rw[decide_eq_false d3] | rw[decide_eq_false d4] | refine xK ?_ | rw[decide_eq_true (by omega)] | rw[decide_eq_false (by omega)]); conv=>whnf)
   refine .cut (fun _:Unit=>True) (fun _=>{ fr:=[(1,.ptr (0,0) 0 0)],st:=[((0,0),⟨68,16,[rmd ⟨dim,inp,ta,tb,tc,st,iz,rawQ h,rawQ s,cl⟩]⟩)],g:=60 }) ?_ (fun _ _=>H);repeat ((first | refine .gF ?_ | refine .eF ?_ | refine cE C1 ?_ | refine cE C2 ?_ | refine cE C3 ?_ | refine cE C4 ?_ | refine cE C5 ?_ | refine cE C6 ?_ | refine cE C7 ?_ | refine xK ?_ | rw[decide_eq_true (by omega)] | rw[decide_eq_false (by omega)]); conv=>whnf)
   refine .block (.loop (fun i:Nat=>i<=7) (fun i=>{ fr:=[(1,.ptr (0,0) 0 0),(63,.agg [i64 0,i64 0,i64 0,i64 0,i64 0,i64 0,i64 0]),(64,i64 (i:Nat))],st:=[((0,0),⟨68,16,[rmd ⟨dim,inp,ta,tb,tc,st,iz,rawQ h,rawQ s,cl⟩]⟩)],g:=20 }) (fun i=>7-i) 0 (Nat.zero_le _) ?_ ?_)
   ·repeat' (first | exact trivial | exact .inl ⟨.refl _,rfl⟩ | exact⟨.same rfl rfl,nMb rfl,x_L⟩ | exact⟨_,rfl⟩ | exact x_W | exact rfl | exact nMb rfl | exact Nat.le_of_ble_eq_true rfl | refine⟨?_,?_⟩)
    trace_state
   intro i hi;have:i=0\/i=1\/i=2\/i=3\/i=4\/i=5\/i=6\/i=7:=by omega
   rcases this with rfl | rfl | rfl | rfl | rfl | rfl | rfl | rfl
   ·repeat ((first | refine .gF ?_ | refine .eF ?_ | refine xK ?_ | rw[decide_eq_true (by omega)] | rw[decide_eq_false (by omega)]); conv=>whnf)
    refine .cut (fun _:Unit=>True) (fun _=>{ fr:=[(1,.ptr (0,0) 0 0),(63,.agg [i64 0,i64 0,i64 0,i64 0,i64 0,i64 0,i64 0]),(64,i64 0)],st:=[((0,0),⟨68,16,[rmd ⟨dim,inp,ta,tb,tc,st,iz,rawQ h,rawQ s,cl⟩]⟩)],g:=20 }) ?_ ?_
    ·refine .block ?_;repeat ((first | refine .gF ?_ | refine .eF ?_ | refine⟨⟨by decide,by decide⟩,?_⟩ | refine xK ?_ | rw[decide_eq_true (by omega)] | rw[decide_eq_false (by omega)]); conv=>whnf)
     refine⟨(),trivial,?_⟩;repeat' (first | exact trivial | exact .inl ⟨.refl _,rfl⟩ | exact⟨.same rfl rfl,nMb rfl,x_L⟩ | exact⟨_,rfl⟩ | exact x_W | exact rfl | exact nMb rfl | exact Nat.le_of_ble_eq_true rfl | refine⟨?_,?_⟩)
     trace_state
    ·rintro⟨⟩ _;repeat ((first | refine .gF ?_ | refine .eF ?_ | refine xK ?_ | rw[decide_eq_true (by omega)] | rw[decide_eq_false (by omega)]); conv=>whnf)
     refine⟨0+1,by decide,?_,by decide⟩;repeat' (first | exact trivial | exact .inl ⟨.refl _,rfl⟩ | exact⟨.same rfl rfl,nMb rfl,x_L⟩ | exact⟨_,rfl⟩ | exact x_W | exact rfl | exact nMb rfl | exact Nat.le_of_ble_eq_true rfl | refine⟨?_,?_⟩)
     trace_state
   ·repeat ((first | refine .gF ?_ | refine .eF ?_ | refine xK ?_ | rw[decide_eq_true (by omega)] | rw[decide_eq_false (by omega)]); conv=>whnf)
    refine .cut (fun _:Unit=>True) (fun _=>{ fr:=[(1,.ptr (0,0) 0 0),(63,.agg [i64 0,i64 0,i64 0,i64 0,i64 0,i64 0,i64 0]),(64,i64 1)],st:=[((0,0),⟨68,16,[rmd ⟨dim,inp,ta,tb,tc,st,iz,rawQ h,rawQ s,cl⟩]⟩)],g:=20 }) ?_ ?_
    ·refine .block ?_;repeat ((first | refine .gF ?_ | refine .eF ?_ | refine⟨⟨by decide,by decide⟩,?_⟩ | refine xK ?_ | rw[decide_eq_true (by omega)] | rw[decide_eq_false (by omega)]); conv=>whnf)
     refine⟨(),trivial,?_⟩;repeat' (first | exact trivial | exact .inl ⟨.refl _,rfl⟩ | exact⟨.same rfl rfl,nMb rfl,x_L⟩ | exact⟨_,rfl⟩ | exact x_W | exact rfl | exact nMb rfl | exact Nat.le_of_ble_eq_true rfl | refine⟨?_,?_⟩)
     trace_state
    ·rintro⟨⟩ _;repeat ((first | refine .gF ?_ | refine .eF ?_ | refine xK ?_ | rw[decide_eq_true (by omega)] | rw[decide_eq_false (by omega)]); conv=>whnf)
     refine⟨1+1,by decide,?_,by decide⟩;repeat' (first | exact trivial | exact .inl ⟨.refl _,rfl⟩ | exact⟨.same rfl rfl,nMb rfl,x_L⟩ | exact⟨_,rfl⟩ | exact x_W | exact rfl | exact nMb rfl | exact Nat.le_of_ble_eq_true rfl | refine⟨?_,?_⟩)
     trace_state
   ·repeat ((first | refine .gF ?_ | refine .eF ?_ | refine xK ?_ | rw[decide_eq_true (by omega)] | rw[decide_eq_false (by omega)]); conv=>whnf)
    refine .cut (fun _:Unit=>True) (fun _=>{ fr:=[(1,.ptr (0,0) 0 0),(63,.agg [i64 0,i64 0,i64 0,i64 0,i64 0,i64 0,i64 0]),(64,i64 2)],st:=[((0,0),⟨68,16,[rmd ⟨dim,inp,ta,tb,tc,st,iz,rawQ h,rawQ s,cl⟩]⟩)],g:=20 }) ?_ ?_
    ·refine .block ?_;repeat ((first | refine .gF ?_ | refine .eF ?_ | refine⟨⟨by decide,by decide⟩,?_⟩ | refine xK ?_ | rw[decide_eq_true (by omega)] | rw[decide_eq_false (by omega)]); conv=>whnf)
     refine⟨(),trivial,?_⟩;repeat' (first | exact trivial | exact .inl ⟨.refl _,rfl⟩ | exact⟨.same rfl rfl,nMb rfl,x_L⟩ | exact⟨_,rfl⟩ | exact x_W | exact rfl | exact nMb rfl | exact Nat.le_of_ble_eq_true rfl | refine⟨?_,?_⟩)
     trace_state
    ·rintro⟨⟩ _;repeat ((first | refine .gF ?_ | refine .eF ?_ | refine xK ?_ | rw[decide_eq_true (by omega)] | rw[decide_eq_false (by omega)]); conv=>whnf)
     refine⟨2+1,by decide,?_,by decide⟩;repeat' (first | exact trivial | exact .inl ⟨.refl _,rfl⟩ | exact⟨.same rfl rfl,nMb rfl,x_L⟩ | exact⟨_,rfl⟩ | exact x_W | exact rfl | exact nMb rfl | exact Nat.le_of_ble_eq_true rfl | refine⟨?_,?_⟩)
     trace_state
   ·repeat ((first | refine .gF ?_ | refine .eF ?_ | refine xK ?_ | rw[decide_eq_true (by omega)] | rw[decide_eq_false (by omega)]); conv=>whnf)
    refine .cut (fun _:Unit=>True) (fun _=>{ fr:=[(1,.ptr (0,0) 0 0),(63,.agg [i64 0,i64 0,i64 0,i64 0,i64 0,i64 0,i64 0]),(64,i64 3)],st:=[((0,0),⟨68,16,[rmd ⟨dim,inp,ta,tb,tc,st,iz,rawQ h,rawQ s,cl⟩]⟩)],g:=20 }) ?_ ?_
    ·refine .block ?_;repeat ((first | refine .gF ?_ | refine .eF ?_ | refine⟨⟨by decide,by decide⟩,?_⟩ | refine xK ?_ | rw[decide_eq_true (by omega)] | rw[decide_eq_false (by omega)]); conv=>whnf)
     refine⟨(),trivial,?_⟩;repeat' (first | exact trivial | exact .inl ⟨.refl _,rfl⟩ | exact⟨.same rfl rfl,nMb rfl,x_L⟩ | exact⟨_,rfl⟩ | exact x_W | exact rfl | exact nMb rfl | exact Nat.le_of_ble_eq_true rfl | refine⟨?_,?_⟩)
     trace_state
    ·rintro⟨⟩ _;repeat ((first | refine .gF ?_ | refine .eF ?_ | refine xK ?_ | rw[decide_eq_true (by omega)] | rw[decide_eq_false (by omega)]); conv=>whnf)
     refine⟨3+1,by decide,?_,by decide⟩;repeat' (first | exact trivial | exact .inl ⟨.refl _,rfl⟩ | exact⟨.same rfl rfl,nMb rfl,x_L⟩ | exact⟨_,rfl⟩ | exact x_W | exact rfl | exact nMb rfl | exact Nat.le_of_ble_eq_true rfl | refine⟨?_,?_⟩)
     trace_state
   ·repeat ((first | refine .gF ?_ | refine .eF ?_ | refine xK ?_ | rw[decide_eq_true (by omega)] | rw[decide_eq_false (by omega)]); conv=>whnf)
    refine .cut (fun _:Unit=>True) (fun _=>{ fr:=[(1,.ptr (0,0) 0 0),(63,.agg [i64 0,i64 0,i64 0,i64 0,i64 0,i64 0,i64 0]),(64,i64 4)],st:=[((0,0),⟨68,16,[rmd ⟨dim,inp,ta,tb,tc,st,iz,rawQ h,rawQ s,cl⟩]⟩)],g:=20 }) ?_ ?_
    ·refine .block ?_;repeat ((first | refine .gF ?_ | refine .eF ?_ | refine⟨⟨by decide,by decide⟩,?_⟩ | refine xK ?_ | rw[decide_eq_true (by omega)] | rw[decide_eq_false (by omega)]); conv=>whnf)
     refine⟨(),trivial,?_⟩;repeat' (first | exact trivial | exact .inl ⟨.refl _,rfl⟩ | exact⟨.same rfl rfl,nMb rfl,x_L⟩ | exact⟨_,rfl⟩ | exact x_W | exact rfl | exact nMb rfl | exact Nat.le_of_ble_eq_true rfl | refine⟨?_,?_⟩)
     trace_state
    ·rintro⟨⟩ _;repeat ((first | refine .gF ?_ | refine .eF ?_ | refine xK ?_ | rw[decide_eq_true (by omega)] | rw[decide_eq_false (by omega)]); conv=>whnf)
     refine⟨4+1,by decide,?_,by decide⟩;repeat' (first | exact trivial | exact .inl ⟨.refl _,rfl⟩ | exact⟨.same rfl rfl,nMb rfl,x_L⟩ | exact⟨_,rfl⟩ | exact x_W | exact rfl | exact nMb rfl | exact Nat.le_of_ble_eq_true rfl | refine⟨?_,?_⟩)
     trace_state
   ·repeat ((first | refine .gF ?_ | refine .eF ?_ | refine xK ?_ | rw[decide_eq_true (by omega)] | rw[decide_eq_false (by omega)]); conv=>whnf)
    refine .cut (fun _:Unit=>True) (fun _=>{ fr:=[(1,.ptr (0,0) 0 0),(63,.agg [i64 0,i64 0,i64 0,i64 0,i64 0,i64 0,i64 0]),(64,i64 5)],st:=[((0,0),⟨68,16,[rmd ⟨dim,inp,ta,tb,tc,st,iz,rawQ h,rawQ s,cl⟩]⟩)],g:=20 }) ?_ ?_
    ·refine .block ?_;repeat ((first | refine .gF ?_ | refine .eF ?_ | refine⟨⟨by decide,by decide⟩,?_⟩ | refine xK ?_ | rw[decide_eq_true (by omega)] | rw[decide_eq_false (by omega)]); conv=>whnf)
     refine⟨(),trivial,?_⟩;repeat' (first | exact trivial | exact .inl ⟨.refl _,rfl⟩ | exact⟨.same rfl rfl,nMb rfl,x_L⟩ | exact⟨_,rfl⟩ | exact x_W | exact rfl | exact nMb rfl | exact Nat.le_of_ble_eq_true rfl | refine⟨?_,?_⟩)
     trace_state
    ·rintro⟨⟩ _;repeat ((first | refine .gF ?_ | refine .eF ?_ | refine xK ?_ | rw[decide_eq_true (by omega)] | rw[decide_eq_false (by omega)]); conv=>whnf)
     refine⟨5+1,by decide,?_,by decide⟩;repeat' (first | exact trivial | exact .inl ⟨.refl _,rfl⟩ | exact⟨.same rfl rfl,nMb rfl,x_L⟩ | exact⟨_,rfl⟩ | exact x_W | exact rfl | exact nMb rfl | exact Nat.le_of_ble_eq_true rfl | refine⟨?_,?_⟩)
     trace_state
   ·repeat ((first | refine .gF ?_ | refine .eF ?_ | refine xK ?_ | rw[decide_eq_true (by omega)] | rw[decide_eq_false (by omega)]); conv=>whnf)
    refine .cut (fun _:Unit=>True) (fun _=>{ fr:=[(1,.ptr (0,0) 0 0),(63,.agg [i64 0,i64 0,i64 0,i64 0,i64 0,i64 0,i64 0]),(64,i64 6)],st:=[((0,0),⟨68,16,[rmd ⟨dim,inp,ta,tb,tc,st,iz,rawQ h,rawQ s,cl⟩]⟩)],g:=20 }) ?_ ?_
    ·refine .block ?_;repeat ((first | refine .gF ?_ | refine .eF ?_ | refine⟨⟨by decide,by decide⟩,?_⟩ | refine xK ?_ | rw[decide_eq_true (by omega)] | rw[decide_eq_false (by omega)]); conv=>whnf)
     refine⟨(),trivial,?_⟩;repeat' (first | exact trivial | exact .inl ⟨.refl _,rfl⟩ | exact⟨.same rfl rfl,nMb rfl,x_L⟩ | exact⟨_,rfl⟩ | exact x_W | exact rfl | exact nMb rfl | exact Nat.le_of_ble_eq_true rfl | refine⟨?_,?_⟩)
     trace_state
    ·rintro⟨⟩ _;repeat ((first | refine .gF ?_ | refine .eF ?_ | refine xK ?_ | rw[decide_eq_true (by omega)] | rw[decide_eq_false (by omega)]); conv=>whnf)
     refine⟨6+1,by decide,?_,by decide⟩;repeat' (first | exact trivial | exact .inl ⟨.refl _,rfl⟩ | exact⟨.same rfl rfl,nMb rfl,x_L⟩ | exact⟨_,rfl⟩ | exact x_W | exact rfl | exact nMb rfl | exact Nat.le_of_ble_eq_true rfl | refine⟨?_,?_⟩)
     trace_state
   ·repeat ((first | refine .gF ?_ | refine .eF ?_ | refine xK ?_ | rw[decide_eq_true (by omega)] | rw[decide_eq_false (by omega)]); conv=>whnf)
    refine⟨(),trivial,?_⟩;repeat' (first | exact trivial | exact .inl ⟨.refl _,rfl⟩ | exact⟨.same rfl rfl,nMb rfl,x_L⟩ | exact⟨_,rfl⟩ | exact x_W | exact rfl | exact nMb rfl | exact Nat.le_of_ble_eq_true rfl | refine⟨?_,?_⟩)
    trace_state
  obtain⟨sh,hsh⟩:∃ x,qSgn h=x:=⟨_,rfl⟩
  obtain⟨ss,hss⟩:∃ x,qSgn s=x:=⟨_,rfl⟩
  by_cases g1:qSgn h<=0
  ·refine⟨30,hstart ?_,fun q=>by omega,fun q=>absurd g1 q.1⟩;rw[hsh] at S1 g1;repeat ((first | refine .gF ?_ | refine .eF ?_ | refine cE S1 ?_ | refine cE S2 ?_ | rw[decide_eq_true g1] | refine xK ?_ | rw[decide_eq_true (by omega)] | rw[decide_eq_false (by omega)]); conv=>whnf)
   exact fin rfl rfl
  by_cases g2:qSgn s<=0
  ·refine⟨30,hstart ?_,fun q=>by omega,fun q=>absurd g2 q.2.1⟩;rw[hsh] at S1 g1;rw[hss] at S2 g2;repeat ((first | refine .gF ?_ | refine .eF ?_ | refine cE S1 ?_ | refine cE S2 ?_ | rw[decide_eq_false g1] | rw[decide_eq_true g2] | refine xK ?_ | rw[decide_eq_true (by omega)] | rw[decide_eq_false (by omega)]); conv=>whnf)
   exact fin rfl rfl
  have CN:=c_mSteps dim inp ta tb tc st iz h s cl (fun q hq=>qDiv_nn g1 g2 hq);cases hn:mSteps h s with
  |error e =>
   rw[hn] at CN;refine⟨((e+1:Nat):Int),hstart ?_,fun q=>by omega,fun q=>by obtain⟨_,_,⟨n,q⟩,_⟩:=q; cases q⟩;rw[hsh] at S1 g1;rw[hss] at S2 g2;repeat ((first | refine .gF ?_ | refine .eF ?_ | refine cE S1 ?_ | refine cE S2 ?_ | refine cE CN ?_ | rw[decide_eq_false g1] | rw[decide_eq_false g2] | refine xK ?_ | rw[decide_eq_true (by omega)] | rw[decide_eq_false (by omega)]); conv=>whnf)
   exact fin rfl rfl
  |ok n =>
   rw[hn] at CN;change ACalls prog _ _ (.tup [i64 (n:Nat),i64 0]) at CN;have hlc:(((cl.map rcl).length:Nat):Int)=(cl.length:Int):=by simp
   by_cases g3:cl.length > 32
   ·refine⟨3,hstart ?_,fun q=>by omega,fun q=>by have:=q.2.2.2.1; omega⟩;rw[hsh] at S1 g1;rw[hss] at S2 g2;repeat ((first | refine .gF ?_ | refine .eF ?_ | refine cE S1 ?_ | refine cE S2 ?_ | refine cE CN ?_ | rw[decide_eq_false g1] | rw[decide_eq_false g2] | rw[hlc,decide_eq_true (by omega)] | refine xK ?_ | rw[decide_eq_true (by omega)] | rw[decide_eq_false (by omega)]); conv=>whnf)
    exact fin rfl rfl
   ·obtain⟨es,hl,hP⟩:=claims_e (l:=cl) (P:=fun c e=>ACalls prog 119 [rcl c,rmd ⟨dim,inp,ta,tb,tc,st,iz,rawQ h,rawQ s,cl⟩] (i64 e)/\(e=0↔ClOk c dim h)) fun c hc=>c_claimR c (hclb.2 c hc) dim inp ta tb tc st iz h (rawQ s) cl
    refine⟨firstE es,hstart ?_,?_,?_⟩
    ·rw[hsh] at S1 g1;rw[hss] at S2 g2;repeat ((first | refine .gF ?_ | refine .eF ?_ | refine cE S1 ?_ | refine cE S2 ?_ | refine cE CN ?_ | rw[decide_eq_false g1] | rw[decide_eq_false g2] | rw[hlc,decide_eq_false (by omega)] | refine xK ?_ | rw[decide_eq_true (by omega)] | rw[decide_eq_false (by omega)]); conv=>whnf)
     refine .cut (fun _:Unit=>firstE es=0) (fun _=>{ fr:=[],st:=[],g:=60 }) ?_ ?_
     ·repeat ((first | refine .gF ?_ | refine .eF ?_ | refine xK ?_ | rw[decide_eq_true (by omega)] | rw[decide_eq_false (by omega)]); conv=>whnf)
      rw[hlc];refine .block (.loop (fun i:Nat=>i<=cl.length/\∀ x∈es.take i,x=0) (fun i=>{ fr:=[(1,.ptr (0,0) 0 0),(94,.sl (cl.map rcl)),(95,i64 (cl.length:Nat)),(96,i64 (i:Nat))],st:=[((0,0),⟨68,16,[rmd ⟨dim,inp,ta,tb,tc,st,iz,rawQ h,rawQ s,cl⟩]⟩)],g:=20 }) (fun i=>cl.length-i) 0 ⟨Nat.zero_le _,by simp⟩ ?_ ?_)
      ·repeat' (first | exact trivial | exact .inl ⟨.refl _,rfl⟩ | exact⟨.same rfl rfl,nMb rfl,x_L⟩ | exact⟨_,rfl⟩ | exact x_W | exact rfl | exact nMb rfl | exact Nat.le_of_ble_eq_true rfl | refine⟨?_,?_⟩)
       trace_state
      rintro i ⟨hi,k2⟩;have hi:i<=cl.length:=hi;have k2:∀ x∈es.take i,x=0:=k2;dsimp only;repeat ((first | refine .gF ?_ | refine .eF ?_ | refine xK ?_ | rw[decide_eq_true (by omega)] | rw[decide_eq_false (by omega)]); conv=>whnf)
      refine Br.mk (fun q=>?_) (fun q=>?_)
      ·have hi':i<cl.length:=by
        have:=of_decide_eq_true q;omega
       clear q;have CC:=(hP i hi').1;obtain⟨x,hx⟩:∃ x,cl[i]=x:=⟨_,rfl⟩
       obtain⟨e,he⟩:∃ e,es.getD i 0=e:=⟨_,rfl⟩
       rw[hx,he] at CC;have hI:(cl.map rcl)[((i:Nat):Int).toNat]?=some (rcl x):=by rw[Int.toNat_natCast,List.getElem?_map,List.getElem?_eq_getElem hi',hx]; rfl
       have hie:i<es.length:=by omega
       have hat:=firstE_at (l:=es) (i:=i) (c:=e) hie k2 (by rw[<- he,List.getD_eq_getElem?_getD,List.getElem?_eq_getElem hie]; rfl);conv=>whnf
       by_cases h0:e=0
       ·rw[h0] at CC;refine .cut (fun _:Unit=>True) (fun _=>{ fr:=[(1,.ptr (0,0) 0 0),(94,.sl (cl.map rcl)),(95,i64 (cl.length:Nat)),(96,i64 (i:Nat))],st:=[((0,0),⟨68,16,[rmd ⟨dim,inp,ta,tb,tc,st,iz,rawQ h,rawQ s,cl⟩]⟩)],g:=20 }) ?_ ?_
        ·refine .block ?_;repeat ((first | refine .gF ?_ | refine .eF ?_ | refine cE CC ?_ | refine⟨_,⟨by omega,hI,rfl,rfl⟩,?_⟩ | refine xK ?_ | rw[decide_eq_true (by omega)] | rw[decide_eq_false (by omega)]); conv=>whnf)
         refine⟨(),trivial,?_⟩;repeat' (first | exact trivial | exact .inl ⟨.refl _,rfl⟩ | exact⟨.same rfl rfl,nMb rfl,x_L⟩ | exact⟨_,rfl⟩ | exact x_W | exact rfl | exact nMb rfl | exact Nat.le_of_ble_eq_true rfl | refine⟨?_,?_⟩)
         trace_state
        ·rintro⟨⟩ _;repeat ((first | refine .gF ?_ | refine .eF ?_ | refine xK ?_ | rw[decide_eq_true (by omega)] | rw[decide_eq_false (by omega)]); conv=>whnf)
         refine⟨i+1,⟨hi',hat.2 h0⟩,?_,by show cl.length-(i+1)<cl.length-i; omega⟩;repeat' (first | exact trivial | exact .inl ⟨.refl _,rfl⟩ | exact⟨.same rfl rfl,nMb rfl,x_L⟩ | exact⟨_,rfl⟩ | exact x_W | exact rfl | exact x_E ((wI (n:=(i:Int)+1) (by omega) (by omega)).trans (by simp)) | exact nMb rfl | exact Nat.le_of_ble_eq_true rfl | refine⟨?_,?_⟩)
         trace_state
       ·have hb:(e !=0)=true:=by simpa using h0
        rw[hat.1 h0];refine .cut (fun _:Unit=>False) (fun _=>{ fr:=[],st:=[],g:=20 }) ?_ (fun _ q=>q.elim);refine .block ?_;repeat ((first | refine .gF ?_ | refine .eF ?_ | refine cE CC ?_ | refine⟨_,⟨by omega,hI,rfl,rfl⟩,?_⟩ | rw[hb] | refine xK ?_ | rw[decide_eq_true (by omega)] | rw[decide_eq_false (by omega)]); conv=>whnf)
        exact fin rfl rfl
      ·have hn:i=cl.length:=by
        have:=of_decide_eq_false q;omega
       conv=>whnf
       refine⟨(),firstE_all (fun x hx=>k2 x (by rw[hn,<- hl,List.take_length]; exact hx)),?_⟩;repeat' (first | exact trivial | exact .inl ⟨.refl _,rfl⟩ | exact⟨.same rfl rfl,nMb rfl,x_L⟩ | exact⟨_,rfl⟩ | exact x_W | exact rfl | exact nMb rfl | exact Nat.le_of_ble_eq_true rfl | refine⟨?_,?_⟩)
       trace_state
     ·rintro⟨⟩ hq;have hq:firstE es=0:=hq;rw[hq];repeat ((first | refine .gF ?_ | refine .eF ?_ | refine xK ?_ | rw[decide_eq_true (by omega)] | rw[decide_eq_false (by omega)]); conv=>whnf)
      exact fin rfl rfl
    ·intro q;have hz:=firstE_zero q;refine⟨g1,g2,⟨n,rfl⟩,by omega,fun c hc=>?_⟩;obtain⟨i,hi,rfl⟩:=List.getElem_of_mem hc;refine (hP i hi).2.1 ?_;rw[List.getD_eq_getElem?_getD,List.getElem?_eq_getElem (by omega)];exact hz _ (List.getElem_mem _)
    ·rintro⟨_,_,_,_,q⟩;refine firstE_all fun x hx=>?_
     obtain⟨i,hi,rfl⟩:=List.getElem_of_mem hx;have:=(hP i (by omega)).2.2 (q _ (List.getElem_mem _));rw[List.getD_eq_getElem?_getD,List.getElem?_eq_getElem hi] at this;exact this
 ·refine⟨_,?_,fun q=>absurd q he1,fun q=>absurd (firstE_all ?_) he1⟩
  ·obtain⟨es,hes⟩:∃ es,[mCheckR m.A m.dim m.dim,mCheckR m.B m.dim m.inp,vCheck m.C m.dim,zCheckR m.st m.dim,zCheckR m.iz m.inp,rawCheck m.hor,rawCheck m.stp]=es:=⟨_,rfl⟩
   rw[hes] at he1 ⊢;obtain⟨e0,he⟩:∃ e0,firstE es=e0:=⟨_,rfl⟩
   rw[he] at he1 ⊢;obtain⟨e1,h1⟩:∃ e,mCheckR m.A m.dim m.dim=e:=⟨_,rfl⟩
   obtain⟨e2,h2⟩:∃ e,mCheckR m.B m.dim m.inp=e:=⟨_,rfl⟩
   obtain⟨e3,h3⟩:∃ e,vCheck m.C m.dim=e:=⟨_,rfl⟩
   obtain⟨e4,h4⟩:∃ e,zCheckR m.st m.dim=e:=⟨_,rfl⟩
   obtain⟨e5,h5⟩:∃ e,zCheckR m.iz m.inp=e:=⟨_,rfl⟩
   obtain⟨e6,h6⟩:∃ e,rawCheck m.hor=e:=⟨_,rfl⟩
   obtain⟨e7,h7⟩:∃ e,rawCheck m.stp=e:=⟨_,rfl⟩
   rw[h1] at C1;rw[h2] at C2;rw[h3] at C3;rw[h4] at C4;rw[h5] at C5;rw[h6] at C6;rw[h7] at C7;rw[h1,h2,h3,h4,h5,h6,h7] at hes;refine conP func34 rfl (by kernel_rfl) ?_;repeat ((first | refine .gF ?_ | refine .eF ?_ | refine cE C1 ?_ | refine cE C2 ?_ | refine cE C3 ?_ | refine cE C4 ?_ | refine cE C5 ?_ | refine cE C6 ?_ | refine cE C7 ?_ | rw[decide_eq_false d1] | rw[decide_eq_false d2] | rw[decide_eq_false d3] | rw[decide_eq_false d4] | refine xK ?_ | rw[decide_eq_true (by omega)] | rw[decide_eq_false (by omega)]); conv=>whnf)
   refine .cut (fun _:Unit=>False) (fun _=>{ fr:=[],st:=[],g:=60 }) ?_ (fun _ q=>q.elim);repeat ((first | refine .gF ?_ | refine .eF ?_ | refine cE C1 ?_ | refine cE C2 ?_ | refine cE C3 ?_ | refine cE C4 ?_ | refine cE C5 ?_ | refine cE C6 ?_ | refine cE C7 ?_ | refine xK ?_ | rw[decide_eq_true (by omega)] | rw[decide_eq_false (by omega)]); conv=>whnf)
   refine .block (.loop (fun i:Nat=>i<=7/\∀ x∈es.take i,x=0) (fun i=>{ fr:=[(63,.agg [i64 e1,i64 e2,i64 e3,i64 e4,i64 e5,i64 e6,i64 e7]),(64,i64 (i:Nat))],st:=[],g:=20 }) (fun i=>7-i) 0 ⟨Nat.zero_le _,by simp⟩ ?_ ?_)
   ·repeat' (first | exact trivial | exact .inl ⟨.refl _,rfl⟩ | exact⟨.same rfl rfl,nMb rfl,x_L⟩ | exact⟨_,rfl⟩ | exact x_W | exact rfl | exact nMb rfl | exact Nat.le_of_ble_eq_true rfl | refine⟨?_,?_⟩)
    trace_state
   rintro i ⟨hi,k2⟩;have hi:i<=7:=hi;have k2:∀ x∈es.take i,x=0:=k2;have:i=0\/i=1\/i=2\/i=3\/i=4\/i=5\/i=6\/i=7:=by omega
   rcases this with rfl | rfl | rfl | rfl | rfl | rfl | rfl | rfl
   ·have hat:=firstE_at (l:=es) (i:=0) (c:=e1) (by rw[<- hes]; simp) k2 (by subst hes; rfl);repeat ((first | refine .gF ?_ | refine .eF ?_ | refine xK ?_ | rw[decide_eq_true (by omega)] | rw[decide_eq_false (by omega)]); conv=>whnf)
    by_cases h0:e1=0
    ·refine .cut (fun _:Unit=>True) (fun _=>{ fr:=[(63,.agg [i64 e1,i64 e2,i64 e3,i64 e4,i64 e5,i64 e6,i64 e7]),(64,i64 0)],st:=[],g:=20 }) ?_ ?_
     ·refine .block ?_;rw[h0];repeat ((first | refine .gF ?_ | refine .eF ?_ | refine⟨⟨by decide,by decide⟩,?_⟩ | refine xK ?_ | rw[decide_eq_true (by omega)] | rw[decide_eq_false (by omega)]); conv=>whnf)
      refine⟨(),trivial,?_⟩;repeat' (first | exact trivial | exact .inl ⟨.refl _,rfl⟩ | exact⟨.same rfl rfl,nMb rfl,x_L⟩ | exact⟨_,rfl⟩ | exact x_W | exact rfl | exact nMb rfl | exact Nat.le_of_ble_eq_true rfl | refine⟨?_,?_⟩)
      trace_state
     ·rintro⟨⟩ _;repeat ((first | refine .gF ?_ | refine .eF ?_ | refine xK ?_ | rw[decide_eq_true (by omega)] | rw[decide_eq_false (by omega)]); conv=>whnf)
      refine⟨0+1,⟨by decide,hat.2 h0⟩,?_,by decide⟩;repeat' (first | exact trivial | exact .inl ⟨.refl _,rfl⟩ | exact⟨.same rfl rfl,nMb rfl,x_L⟩ | exact⟨_,rfl⟩ | exact x_W | exact rfl | exact nMb rfl | exact Nat.le_of_ble_eq_true rfl | refine⟨?_,?_⟩)
      trace_state
    ·have he0:e0=e1:=hat.1 h0▸he.symm;have hb:(e1 !=0)=true:=by simpa using h0
     rw[he0];refine .cut (fun _:Unit=>False) (fun _=>{ fr:=[],st:=[],g:=20 }) ?_ (fun _ q=>q.elim);refine .block ?_;repeat ((first | refine .gF ?_ | refine .eF ?_ | refine⟨⟨by decide,by decide⟩,?_⟩ | rw[hb] | refine xK ?_ | rw[decide_eq_true (by omega)] | rw[decide_eq_false (by omega)]); conv=>whnf)
     exact fin rfl rfl
   ·have hat:=firstE_at (l:=es) (i:=1) (c:=e2) (by rw[<- hes]; simp) k2 (by subst hes; rfl);repeat ((first | refine .gF ?_ | refine .eF ?_ | refine xK ?_ | rw[decide_eq_true (by omega)] | rw[decide_eq_false (by omega)]); conv=>whnf)
    by_cases h0:e2=0
    ·refine .cut (fun _:Unit=>True) (fun _=>{ fr:=[(63,.agg [i64 e1,i64 e2,i64 e3,i64 e4,i64 e5,i64 e6,i64 e7]),(64,i64 1)],st:=[],g:=20 }) ?_ ?_
     ·refine .block ?_;rw[h0];repeat ((first | refine .gF ?_ | refine .eF ?_ | refine⟨⟨by decide,by decide⟩,?_⟩ | refine xK ?_ | rw[decide_eq_true (by omega)] | rw[decide_eq_false (by omega)]); conv=>whnf)
      refine⟨(),trivial,?_⟩;repeat' (first | exact trivial | exact .inl ⟨.refl _,rfl⟩ | exact⟨.same rfl rfl,nMb rfl,x_L⟩ | exact⟨_,rfl⟩ | exact x_W | exact rfl | exact nMb rfl | exact Nat.le_of_ble_eq_true rfl | refine⟨?_,?_⟩)
      trace_state
     ·rintro⟨⟩ _;repeat ((first | refine .gF ?_ | refine .eF ?_ | refine xK ?_ | rw[decide_eq_true (by omega)] | rw[decide_eq_false (by omega)]); conv=>whnf)
      refine⟨1+1,⟨by decide,hat.2 h0⟩,?_,by decide⟩;repeat' (first | exact trivial | exact .inl ⟨.refl _,rfl⟩ | exact⟨.same rfl rfl,nMb rfl,x_L⟩ | exact⟨_,rfl⟩ | exact x_W | exact rfl | exact nMb rfl | exact Nat.le_of_ble_eq_true rfl | refine⟨?_,?_⟩)
      trace_state
    ·have he0:e0=e2:=hat.1 h0▸he.symm;have hb:(e2 !=0)=true:=by simpa using h0
     rw[he0];refine .cut (fun _:Unit=>False) (fun _=>{ fr:=[],st:=[],g:=20 }) ?_ (fun _ q=>q.elim);refine .block ?_;repeat ((first | refine .gF ?_ | refine .eF ?_ | refine⟨⟨by decide,by decide⟩,?_⟩ | rw[hb] | refine xK ?_ | rw[decide_eq_true (by omega)] | rw[decide_eq_false (by omega)]); conv=>whnf)
     exact fin rfl rfl
   ·have hat:=firstE_at (l:=es) (i:=2) (c:=e3) (by rw[<- hes]; simp) k2 (by subst hes; rfl);repeat ((first | refine .gF ?_ | refine .eF ?_ | refine xK ?_ | rw[decide_eq_true (by omega)] | rw[decide_eq_false (by omega)]); conv=>whnf)
    by_cases h0:e3=0
    ·refine .cut (fun _:Unit=>True) (fun _=>{ fr:=[(63,.agg [i64 e1,i64 e2,i64 e3,i64 e4,i64 e5,i64 e6,i64 e7]),(64,i64 2)],st:=[],g:=20 }) ?_ ?_
     ·refine .block ?_;rw[h0];repeat ((first | refine .gF ?_ | refine .eF ?_ | refine⟨⟨by decide,by decide⟩,?_⟩ | refine xK ?_ | rw[decide_eq_true (by omega)] | rw[decide_eq_false (by omega)]); conv=>whnf)
      refine⟨(),trivial,?_⟩;repeat' (first | exact trivial | exact .inl ⟨.refl _,rfl⟩ | exact⟨.same rfl rfl,nMb rfl,x_L⟩ | exact⟨_,rfl⟩ | exact x_W | exact rfl | exact nMb rfl | exact Nat.le_of_ble_eq_true rfl | refine⟨?_,?_⟩)
      trace_state
     ·rintro⟨⟩ _;repeat ((first | refine .gF ?_ | refine .eF ?_ | refine xK ?_ | rw[decide_eq_true (by omega)] | rw[decide_eq_false (by omega)]); conv=>whnf)
      refine⟨2+1,⟨by decide,hat.2 h0⟩,?_,by decide⟩;repeat' (first | exact trivial | exact .inl ⟨.refl _,rfl⟩ | exact⟨.same rfl rfl,nMb rfl,x_L⟩ | exact⟨_,rfl⟩ | exact x_W | exact rfl | exact nMb rfl | exact Nat.le_of_ble_eq_true rfl | refine⟨?_,?_⟩)
      trace_state
    ·have he0:e0=e3:=hat.1 h0▸he.symm;have hb:(e3 !=0)=true:=by simpa using h0
     rw[he0];refine .cut (fun _:Unit=>False) (fun _=>{ fr:=[],st:=[],g:=20 }) ?_ (fun _ q=>q.elim);refine .block ?_;repeat ((first | refine .gF ?_ | refine .eF ?_ | refine⟨⟨by decide,by decide⟩,?_⟩ | rw[hb] | refine xK ?_ | rw[decide_eq_true (by omega)] | rw[decide_eq_false (by omega)]); conv=>whnf)
     exact fin rfl rfl
   ·have hat:=firstE_at (l:=es) (i:=3) (c:=e4) (by rw[<- hes]; simp) k2 (by subst hes; rfl);repeat ((first | refine .gF ?_ | refine .eF ?_ | refine xK ?_ | rw[decide_eq_true (by omega)] | rw[decide_eq_false (by omega)]); conv=>whnf)
    by_cases h0:e4=0
    ·refine .cut (fun _:Unit=>True) (fun _=>{ fr:=[(63,.agg [i64 e1,i64 e2,i64 e3,i64 e4,i64 e5,i64 e6,i64 e7]),(64,i64 3)],st:=[],g:=20 }) ?_ ?_
     ·refine .block ?_;rw[h0];repeat ((first | refine .gF ?_ | refine .eF ?_ | refine⟨⟨by decide,by decide⟩,?_⟩ | refine xK ?_ | rw[decide_eq_true (by omega)] | rw[decide_eq_false (by omega)]); conv=>whnf)
      refine⟨(),trivial,?_⟩;repeat' (first | exact trivial | exact .inl ⟨.refl _,rfl⟩ | exact⟨.same rfl rfl,nMb rfl,x_L⟩ | exact⟨_,rfl⟩ | exact x_W | exact rfl | exact nMb rfl | exact Nat.le_of_ble_eq_true rfl | refine⟨?_,?_⟩)
      trace_state
     ·rintro⟨⟩ _;repeat ((first | refine .gF ?_ | refine .eF ?_ | refine xK ?_ | rw[decide_eq_true (by omega)] | rw[decide_eq_false (by omega)]); conv=>whnf)
      refine⟨3+1,⟨by decide,hat.2 h0⟩,?_,by decide⟩;repeat' (first | exact trivial | exact .inl ⟨.refl _,rfl⟩ | exact⟨.same rfl rfl,nMb rfl,x_L⟩ | exact⟨_,rfl⟩ | exact x_W | exact rfl | exact nMb rfl | exact Nat.le_of_ble_eq_true rfl | refine⟨?_,?_⟩)
      trace_state
    ·have he0:e0=e4:=hat.1 h0▸he.symm;have hb:(e4 !=0)=true:=by simpa using h0
     rw[he0];refine .cut (fun _:Unit=>False) (fun _=>{ fr:=[],st:=[],g:=20 }) ?_ (fun _ q=>q.elim);refine .block ?_;repeat ((first | refine .gF ?_ | refine .eF ?_ | refine⟨⟨by decide,by decide⟩,?_⟩ | rw[hb] | refine xK ?_ | rw[decide_eq_true (by omega)] | rw[decide_eq_false (by omega)]); conv=>whnf)
     exact fin rfl rfl
   ·have hat:=firstE_at (l:=es) (i:=4) (c:=e5) (by rw[<- hes]; simp) k2 (by subst hes; rfl);repeat ((first | refine .gF ?_ | refine .eF ?_ | refine xK ?_ | rw[decide_eq_true (by omega)] | rw[decide_eq_false (by omega)]); conv=>whnf)
    by_cases h0:e5=0
    ·refine .cut (fun _:Unit=>True) (fun _=>{ fr:=[(63,.agg [i64 e1,i64 e2,i64 e3,i64 e4,i64 e5,i64 e6,i64 e7]),(64,i64 4)],st:=[],g:=20 }) ?_ ?_
     ·refine .block ?_;rw[h0];repeat ((first | refine .gF ?_ | refine .eF ?_ | refine⟨⟨by decide,by decide⟩,?_⟩ | refine xK ?_ | rw[decide_eq_true (by omega)] | rw[decide_eq_false (by omega)]); conv=>whnf)
      refine⟨(),trivial,?_⟩;repeat' (first | exact trivial | exact .inl ⟨.refl _,rfl⟩ | exact⟨.same rfl rfl,nMb rfl,x_L⟩ | exact⟨_,rfl⟩ | exact x_W | exact rfl | exact nMb rfl | exact Nat.le_of_ble_eq_true rfl | refine⟨?_,?_⟩)
      trace_state
     ·rintro⟨⟩ _;repeat ((first | refine .gF ?_ | refine .eF ?_ | refine xK ?_ | rw[decide_eq_true (by omega)] | rw[decide_eq_false (by omega)]); conv=>whnf)
      refine⟨4+1,⟨by decide,hat.2 h0⟩,?_,by decide⟩;repeat' (first | exact trivial | exact .inl ⟨.refl _,rfl⟩ | exact⟨.same rfl rfl,nMb rfl,x_L⟩ | exact⟨_,rfl⟩ | exact x_W | exact rfl | exact nMb rfl | exact Nat.le_of_ble_eq_true rfl | refine⟨?_,?_⟩)
      trace_state
    ·have he0:e0=e5:=hat.1 h0▸he.symm;have hb:(e5 !=0)=true:=by simpa using h0
     rw[he0];refine .cut (fun _:Unit=>False) (fun _=>{ fr:=[],st:=[],g:=20 }) ?_ (fun _ q=>q.elim);refine .block ?_;repeat ((first | refine .gF ?_ | refine .eF ?_ | refine⟨⟨by decide,by decide⟩,?_⟩ | rw[hb] | refine xK ?_ | rw[decide_eq_true (by omega)] | rw[decide_eq_false (by omega)]); conv=>whnf)
     exact fin rfl rfl
   ·have hat:=firstE_at (l:=es) (i:=5) (c:=e6) (by rw[<- hes]; simp) k2 (by subst hes; rfl);repeat ((first | refine .gF ?_ | refine .eF ?_ | refine xK ?_ | rw[decide_eq_true (by omega)] | rw[decide_eq_false (by omega)]); conv=>whnf)
    by_cases h0:e6=0
    ·refine .cut (fun _:Unit=>True) (fun _=>{ fr:=[(63,.agg [i64 e1,i64 e2,i64 e3,i64 e4,i64 e5,i64 e6,i64 e7]),(64,i64 5)],st:=[],g:=20 }) ?_ ?_
     ·refine .block ?_;rw[h0];repeat ((first | refine .gF ?_ | refine .eF ?_ | refine⟨⟨by decide,by decide⟩,?_⟩ | refine xK ?_ | rw[decide_eq_true (by omega)] | rw[decide_eq_false (by omega)]); conv=>whnf)
      refine⟨(),trivial,?_⟩;repeat' (first | exact trivial | exact .inl ⟨.refl _,rfl⟩ | exact⟨.same rfl rfl,nMb rfl,x_L⟩ | exact⟨_,rfl⟩ | exact x_W | exact rfl | exact nMb rfl | exact Nat.le_of_ble_eq_true rfl | refine⟨?_,?_⟩)
      trace_state
     ·rintro⟨⟩ _;repeat ((first | refine .gF ?_ | refine .eF ?_ | refine xK ?_ | rw[decide_eq_true (by omega)] | rw[decide_eq_false (by omega)]); conv=>whnf)
      refine⟨5+1,⟨by decide,hat.2 h0⟩,?_,by decide⟩;repeat' (first | exact trivial | exact .inl ⟨.refl _,rfl⟩ | exact⟨.same rfl rfl,nMb rfl,x_L⟩ | exact⟨_,rfl⟩ | exact x_W | exact rfl | exact nMb rfl | exact Nat.le_of_ble_eq_true rfl | refine⟨?_,?_⟩)
      trace_state
    ·have he0:e0=e6:=hat.1 h0▸he.symm;have hb:(e6 !=0)=true:=by simpa using h0
     rw[he0];refine .cut (fun _:Unit=>False) (fun _=>{ fr:=[],st:=[],g:=20 }) ?_ (fun _ q=>q.elim);refine .block ?_;repeat ((first | refine .gF ?_ | refine .eF ?_ | refine⟨⟨by decide,by decide⟩,?_⟩ | rw[hb] | refine xK ?_ | rw[decide_eq_true (by omega)] | rw[decide_eq_false (by omega)]); conv=>whnf)
     exact fin rfl rfl
   ·have hat:=firstE_at (l:=es) (i:=6) (c:=e7) (by rw[<- hes]; simp) k2 (by subst hes; rfl);repeat ((first | refine .gF ?_ | refine .eF ?_ | refine xK ?_ | rw[decide_eq_true (by omega)] | rw[decide_eq_false (by omega)]); conv=>whnf)
    by_cases h0:e7=0
    ·refine .cut (fun _:Unit=>True) (fun _=>{ fr:=[(63,.agg [i64 e1,i64 e2,i64 e3,i64 e4,i64 e5,i64 e6,i64 e7]),(64,i64 6)],st:=[],g:=20 }) ?_ ?_
     ·refine .block ?_;rw[h0];repeat ((first | refine .gF ?_ | refine .eF ?_ | refine⟨⟨by decide,by decide⟩,?_⟩ | refine xK ?_ | rw[decide_eq_true (by omega)] | rw[decide_eq_false (by omega)]); conv=>whnf)
      refine⟨(),trivial,?_⟩;repeat' (first | exact trivial | exact .inl ⟨.refl _,rfl⟩ | exact⟨.same rfl rfl,nMb rfl,x_L⟩ | exact⟨_,rfl⟩ | exact x_W | exact rfl | exact nMb rfl | exact Nat.le_of_ble_eq_true rfl | refine⟨?_,?_⟩)
      trace_state
     ·rintro⟨⟩ _;repeat ((first | refine .gF ?_ | refine .eF ?_ | refine xK ?_ | rw[decide_eq_true (by omega)] | rw[decide_eq_false (by omega)]); conv=>whnf)
      refine⟨6+1,⟨by decide,hat.2 h0⟩,?_,by decide⟩;repeat' (first | exact trivial | exact .inl ⟨.refl _,rfl⟩ | exact⟨.same rfl rfl,nMb rfl,x_L⟩ | exact⟨_,rfl⟩ | exact x_W | exact rfl | exact nMb rfl | exact Nat.le_of_ble_eq_true rfl | refine⟨?_,?_⟩)
      trace_state
    ·have he0:e0=e7:=hat.1 h0▸he.symm;have hb:(e7 !=0)=true:=by simpa using h0
     rw[he0];refine .cut (fun _:Unit=>False) (fun _=>{ fr:=[],st:=[],g:=20 }) ?_ (fun _ q=>q.elim);refine .block ?_;repeat ((first | refine .gF ?_ | refine .eF ?_ | refine⟨⟨by decide,by decide⟩,?_⟩ | rw[hb] | refine xK ?_ | rw[decide_eq_true (by omega)] | rw[decide_eq_false (by omega)]); conv=>whnf)
     exact fin rfl rfl
   ·have hl:es.length=7:=by rw[<- hes]; rfl
    exact absurd (he▸firstE_all (fun x hx=>k2 x (by rw[<- hl,List.take_length]; exact hx))) he1
  ·intro x hx;simp only[List.mem_cons,List.not_mem_nil,or_false] at hx;rcases hx with rfl | rfl | rfl | rfl | rfl | rfl | rfl
   ·exact q.A
   ·exact q.B
   ·exact q.C
   ·exact q.st
   ·exact q.iz
   ·exact q.hor
   ·exact q.stp
end
section
open Go Go.RowKit Go.Proofs.Tryz
attribute [local irreducible] dRound dAdd dMul dCmp dMin dMax dAbs dLess sOut sAdd sMul sNear sSize vNear vPlus vInner dOf dNeg sSub sMid mid1 wid1 vNorm mNear zOf zImage zPlus zTimes zReach dNear gRate gCurve gRise sPoint
theorem bnd_okr {α β:Type} {x:α} {f:α->Except Nat β} {R:Except Nat β} (h:bnd (.ok x) f=R):f x=R:=h
structure MD where
 dim:Nat
 inp:Nat
 A:List (List FQ)
 B:List (List FQ)
 C:List FQ
 st:MZ
 iz:MZ
 hor:FQ
 stp:FQ
 cl:List RawC
def mdv (m:MD):AV:=.agg [i64 (m.dim:Nat),i64 (m.inp:Nat),lT m.A,lT m.B,lQ m.C,lQ m.st.c,lT m.st.g,lQ m.iz.c,lT m.iz.g,boo (decide (m.hor.q.num<0)),nat m.hor.q.num.natAbs,nat m.hor.q.den,boo (decide (m.stp.q.num<0)),nat m.stp.q.num.natAbs,nat m.stp.q.den,.sl (m.cl.map rcl)]
def dTimes (bits:Int) (a b:FD):Except Nat FD:=bnd (sMul (sPoint a) (sPoint b) bits) fun s=>.ok s.hi
theorem c_dTimes (a b:FD) (bits:Int) (hb:BOk bits):ACalls prog 206 [dyad a,dyad b,i64 bits] (tD (dTimes bits a b)):=by
 have P1:=c_sPoint a;have P2:=c_sPoint b;have C:=c_sMul (sPoint a) (sPoint b) bits hb;unfold dTimes;cases h:sMul (sPoint a) (sPoint b) bits with
 |error e =>
  rw[h] at C;show ACalls prog _ _ (.tup [dyad d0,i64 ((e+1:Nat):Int)]);refine conP func206 rfl (by kernel_rfl) ?_;repeat ((first | refine .gF ?_ | refine .eF ?_ | refine cE P1 ?_ | refine cE P2 ?_ | refine cE C ?_ | refine xK ?_ | rw[decide_eq_true (by omega)] | rw[decide_eq_false (by omega)]); conv=>whnf)
  exact⟨fin rfl rfl,fin rfl rfl,trivial⟩
 |ok s =>
  rw[h] at C;show ACalls prog _ _ (.tup [dyad s.hi,i64 0]);refine conP func206 rfl (by kernel_rfl) ?_;repeat ((first | refine .gF ?_ | refine .eF ?_ | refine cE P1 ?_ | refine cE P2 ?_ | refine cE C ?_ | refine xK ?_ | rw[decide_eq_true (by omega)] | rw[decide_eq_false (by omega)]); conv=>whnf)
  exact⟨fin rfl rfl,fin rfl rfl,trivial⟩
structure ZLen (n:Nat) (z:ZO):Prop where
 c:z.c.length=n
 r:z.r.length=n
 g:∀ g∈z.g,g.length=n
theorem foldE_inv {σ α:Type} {f:σ->α->Except Nat σ} {P:σ->Prop}:∀ {l:List α} {s t:σ},P s->(∀ s x t,x∈l->P s->f s x=.ok t->P t)->foldE f s l=.ok t->P t
 |[],s,t,h,_,e=>by cases e; exact h
 |x::l,s,t,h,g,e=>by
  unfold foldE at e;cases h1:f s x with
  |error _=>rw[h1] at e; cases e
  |ok u =>
   rw[h1] at e;exact foldE_inv (g s x u (.head _) h h1) (fun s y t hy=>g s y t (.tail _ hy)) e
theorem bnd_some {α β:Type} {r:Except Nat α} {f:α->Except Nat β} {y:β} (h:bnd r f=.ok y):∃ x,r=.ok x/\f x=.ok y:=by
 cases r with
 |error e=>cases h
 |ok x=>exact⟨x,rfl,h⟩
theorem zOf_len {bits:Int} {z:MZ} {w:ZO} (h:zOf bits z=.ok w):ZLen z.c.length w/\w.g.length=z.g.length:=by
 unfold zOf at h;obtain⟨mo,m1,h⟩:=bnd_some h;obtain⟨st,s1,h⟩:=bnd_some h;have hm:=zList_len m1;cases h;have hst:=foldE_inv (P:=fun st:List FD×List (List FD)=>st.1.length=mo.length/\∀ g∈st.2,g.length=mo.length) (by exact⟨by simp,by simp⟩) (fun s x t _ hs ht=>by
  unfold ofStep at ht;split at ht
  ·cases ht
  ·rename_i hx;obtain⟨mo',k1,ht⟩:=bnd_some ht;obtain⟨r,k2,ht⟩:=bnd_some ht;cases ht;have hm':=zList_len k1;have hx:x.length=mo.length:=Classical.byContradiction hx;refine⟨by rw[zWid_len k2 (by simp; omega)]; exact hs.1,fun g hg=>?_⟩;rcases List.mem_append.1 hg with hg | hg
   ·exact hs.2 g hg
   ·rw[List.mem_singleton.1 hg];simp;omega) s1
 have hgl:∀ (l:List (List FQ)) (r:List FD) (o:List (List FD)) (st:List FD×List (List FD)),foldE (ofStep bits mo.length) (r,o) l=.ok st->st.2.length=o.length+l.length:=by
  intro l
  induction l with
  |nil=>intro r o st h; cases h; rfl
  |cons x l ih =>
   intro r o st h;unfold foldE at h;cases h1:ofStep bits mo.length (r,o) x with
   |error _=>rw[h1] at h; cases h
   |ok u =>
    rw[h1] at h;unfold ofStep at h1;split at h1
    ·cases h1
    ·obtain⟨mo',k1,h1⟩:=bnd_some h1;obtain⟨r',k2,h1⟩:=bnd_some h1;cases h1;have:=ih _ _ _ h;simp at this ⊢;omega
 exact⟨⟨by simp[hm],by rw[<- hm]; exact hst.1,fun g hg=>by rw[<- hm]; exact hst.2 g hg⟩,by have:=hgl _ _ _ _ s1; simpa using this⟩
theorem zImage_len {bits:Int} {a:List (List FS)} {z w:ZO} (h:zImage bits a z=.ok w):ZLen a.length w/\w.g.length=z.g.length:=by
 unfold zImage at h;obtain⟨mo,m1,h⟩:=bnd_some h;obtain⟨st,s1,h⟩:=bnd_some h;obtain⟨r,r1,h⟩:=bnd_some h;have hm:=zImg_len m1;cases h;have hst:=foldE_inv (P:=fun st:List FD×List (List FD)=>st.1.length=a.length/\∀ g∈st.2,g.length=a.length) (by exact⟨by simp[hm],by simp⟩) (fun s x t _ hs ht=>by
  unfold imgStep at ht;obtain⟨mo',k1,ht⟩:=bnd_some ht;obtain⟨r,k2,ht⟩:=bnd_some ht;cases ht;have hm':=zImg_len k1;refine⟨by rw[zWid_len k2 (by simp; omega)]; exact hs.1,fun g hg=>?_⟩;rcases List.mem_append.1 hg with hg | hg
  ·exact hs.2 g hg
  ·rw[List.mem_singleton.1 hg];simp;omega) s1
 have hgl:∀ (l:List (List FD)) (r:List FD) (o:List (List FD)) (st:List FD×List (List FD)),foldE (imgStep bits a) (r,o) l=.ok st->st.2.length=o.length+l.length:=by
  intro l
  induction l with
  |nil=>intro r o st h; cases h; rfl
  |cons x l ih =>
   intro r o st h;unfold foldE at h;cases h1:imgStep bits a (r,o) x with
   |error _=>rw[h1] at h; cases h
   |ok u =>
    rw[h1] at h;unfold imgStep at h1;obtain⟨mo',k1,h1⟩:=bnd_some h1;obtain⟨r',k2,h1⟩:=bnd_some h1;cases h1;have:=ih _ _ _ h;simp at this ⊢;omega
 have hr:=runE_length r1;have hr2:r.length=a.length:=by
  have h1:=hst.1;simp at hr;omega
 exact⟨⟨by simp[hm],hr2,hst.2⟩,by have:=hgl _ _ _ _ s1; simpa using this⟩
end
end Go.Proofs.YtjdkdcmpifapeaaGreatDoor.Abs
