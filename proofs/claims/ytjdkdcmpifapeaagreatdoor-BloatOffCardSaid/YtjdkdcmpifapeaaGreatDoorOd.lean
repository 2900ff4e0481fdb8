/- A model, as it comes in. -/
import Derived.Test.YtjdkdcmpifapeaaGreatDoorMn
import Derived.Test.YtjdkdcmpifapeaaGreatDoorOa
import Derived.Test.YtjdkdcmpifapeaaGreatDoorNf
import Derived.Test.YtjdkdcmpifapeaaGreatDoorMm
set_option linter.unusedVariables false
set_option linter.unusedSectionVars false
set_option linter.unusedSimpArgs false
set_option maxHeartbeats 4000000
set_option maxRecDepth 10000
namespace Go.Proofs.YtjdkdcmpifapeaaGreatDoor.Abs
section
open Go Go.RowKit Go.Proofs.Tryz
structure RawZ where
 c:List RawQ
 g:List (List RawQ)
structure RawC where
 nv:Bool
 dir:List RawQ
 bd:RawQ
 fr:RawQ
 to:RawQ
structure RawM where
 dim:Int
 inp:Int
 A:List (List RawQ)
 B:List (List RawQ)
 C:List RawQ
 st:RawZ
 iz:RawZ
 hor:RawQ
 stp:RawQ
 cl:List RawC
def rl (l:List RawQ):AV:=.sl (l.map rawv)
def rt (t:List (List RawQ)):AV:=.sl (t.map rl)
def rzC (z:RawZ):List AV:=[rl z.c,rt z.g]
def rz (z:RawZ):AV:=.agg (rzC z)
def rcl (c:RawC):AV:=.agg [boo c.nv,rl c.dir,boo c.bd.1,lst c.bd.2.1,lst c.bd.2.2,boo c.fr.1,lst c.fr.2.1,lst c.fr.2.2,boo c.to.1,lst c.to.2.1,lst c.to.2.2]
def rmd (m:RawM):AV:=.agg [i64 m.dim,i64 m.inp,rt m.A,rt m.B,rl m.C,rl m.st.c,rt m.st.g,rl m.iz.c,rt m.iz.g,boo m.hor.1,lst m.hor.2.1,lst m.hor.2.2,boo m.stp.1,lst m.stp.2.1,lst m.stp.2.2,.sl (m.cl.map rcl)]
def LBd (l:List RawQ):Prop:=l.length<=9223372036854775807/\∀ x∈l,RawB x
def TBd (t:List (List RawQ)):Prop:=t.length<=9223372036854775807/\∀ r∈t,LBd r
def ZBd (z:RawZ):Prop:=LBd z.c/\TBd z.g
structure CBd (c:RawC):Prop where
 dir:LBd c.dir
 bd:RawB c.bd
 fr:RawB c.fr
 to:RawB c.to
structure MBd (m:RawM):Prop where
 dim:-9223372036854775808<=m.dim/\m.dim<=9223372036854775807
 inp:-9223372036854775808<=m.inp/\m.inp<=9223372036854775807
 A:TBd m.A
 B:TBd m.B
 C:LBd m.C
 st:ZBd m.st
 iz:ZBd m.iz
 hor:RawB m.hor
 stp:RawB m.stp
 cl:m.cl.length<=9223372036854775807/\∀ c∈m.cl,CBd c
theorem rd_table {n:Nat} {cv:List AV} (h:RdC prog (n+6) 30 cv):∃ t,cv=[rt t]/\TBd t:=by
 obtain⟨ess,rfl,h1,h2⟩:=rdc_slice underlying30 h;obtain⟨t,h3,h4,h5⟩:=rd_list (enc:=rl) (ok:=LBd) (fun cv h=>by
  obtain⟨l,rfl,hl⟩:=rd_rats h;exact⟨l,mkV_one ag_rats _,hl⟩) ess h2
 exact⟨t,by rw[h3]; rfl,by rw[h4]; exact h1,h5⟩
theorem rd_zono {n:Nat} {cv:List AV} (h:RdC prog (n+7) 65 cv):∃ z,cv=rzC z/\ZBd z:=by
 obtain⟨d1,r1,rfl,h1,d2,r2,rfl,h2,rfl⟩:=rdc_struct underlying65 h;obtain⟨c,rfl,hc⟩:=rd_rats h1;obtain⟨g,rfl,hg⟩:=rd_table h2;exact⟨⟨c,g⟩,rfl,hc,hg⟩
theorem rd_claim {n:Nat} {cv:List AV} (h:RdC prog (n+7) 124 cv):∃ c:RawC,mkV prog 124 cv=rcl c/\CBd c:=by
 obtain⟨d1,r1,rfl,h1,d2,r2,rfl,h2,d3,r3,rfl,h3,d4,r4,rfl,h4,d5,r5,rfl,h5,rfl⟩:=rdc_struct underlying124 h;obtain⟨b,rfl⟩:=rdc_bool underlying4 h1;obtain⟨dir,rfl,hd⟩:=rd_rats h2;obtain⟨x,_,rfl,hx⟩:=rd_rat h3;obtain⟨y,_,rfl,hy⟩:=rd_rat h4;obtain⟨z,_,rfl,hz⟩:=rd_rat h5;exact⟨⟨b,dir,x,y,z⟩,mkV_agg (isAgg_struct underlying124) _,hd,hx,hy,hz⟩
theorem rd_model {n:Nat} {cv:List AV} (h:RdC prog (n+9) 68 cv):∃ m:RawM,mkV prog 68 cv=rmd m/\MBd m:=by
 obtain⟨d1,r1,rfl,h1,d2,r2,rfl,h2,d3,r3,rfl,h3,d4,r4,rfl,h4,d5,r5,rfl,h5,d6,r6,rfl,h6,d7,r7,rfl,h7,d8,r8,rfl,h8,d9,r9,rfl,h9,d10,r10,rfl,h10,rfl⟩:=rdc_struct underlying68 h;obtain⟨dim,rfl,hdim⟩:=rd_int h1;obtain⟨inp,rfl,hinp⟩:=rd_int h2;obtain⟨A,rfl,hA⟩:=rd_table h3;obtain⟨B,rfl,hB⟩:=rd_table h4;obtain⟨C,rfl,hC⟩:=rd_rats h5;obtain⟨st,rfl,hst⟩:=rd_zono h6;obtain⟨iz,rfl,hiz⟩:=rd_zono h7;obtain⟨hor,_,rfl,hhor⟩:=rd_rat h8;obtain⟨stp,_,rfl,hstp⟩:=rd_rat h9;obtain⟨ess,rfl,hl,hcl⟩:=rdc_slice underlying66 h10;obtain⟨cl,e1,e2,e3⟩:=rd_list (enc:=rcl) (ok:=CBd) (fun cv h=>rd_claim h) ess hcl;refine⟨⟨dim,inp,A,B,C,st,iz,hor,stp,cl⟩,?_,hdim,hinp,hA,hB,hC,hst,hiz,hhor,hstp,by show cl.length<=_; rw[e2]; exact hl,e3⟩;rw[e1];exact mkV_agg (isAgg_struct underlying68) _
end
section
open Go Go.RowKit Go.Proofs.Tryz
attribute [local irreducible] zMul zAdd zLeft zRight fitZ qMake zDiv qCmp qAdd qMul qDiv qSum rawCheck vCheck
theorem RawB.ok {x:RawQ} (h:RawB x):RawOk x:=h
theorem firstE_at {l:List Int} {i:Nat} {c:Int} (hi:i<l.length) (h:∀ x∈l.take i,x=0) (hc:l[i]=c):(c≠0->firstE l=c)/\(c=0->∀ x∈l.take (i+1),x=0):=by
 constructor
 ·intro h0;rw[<- firstE_drop h,List.drop_eq_getElem_cons hi,hc,firstE,if_neg h0]
 ·intro h0 x hx;rw[List.take_succ_eq_append_getElem hi,List.mem_append] at hx;rcases hx with hx | hx
  ·exact h x hx
  ·simp only[List.mem_singleton] at hx;rw[hx,hc,h0]
theorem firstE_end {l:List Int} (h:∀ x∈l.take l.length,x=0):firstE l=0:=by
 rw[<- firstE_drop h,List.drop_length];rfl
def mCheckR (a:List (List RawQ)) (rows cols:Int):Int:=if rows<0\/rows > 16\/(a.length:Int)≠rows then 20 else firstE (a.map fun r=>vCheck r cols)
theorem c_mCheckR (a:List (List RawQ)) (rows cols:Int) (hb:TBd a):ACalls prog 98 [rt a,i64 rows,i64 cols] (i64 (mCheckR a rows cols)):=by
 have hlen:(((a.map rl).length:Nat):Int)=(a.length:Int):=by simp
 unfold mCheckR;refine conN func98 rfl (by kernel_rfl) ?_;conv=>whnf
 by_cases h1:rows<0
 ·rw[decide_eq_true h1,if_pos (.inl h1)];conv=>whnf
  exact fin rfl rfl
 rw[decide_eq_false h1];conv=>whnf
 by_cases h2:rows > 16
 ·rw[decide_eq_true h2,if_pos (.inr (.inl h2))];conv=>whnf
  exact fin rfl rfl
 rw[decide_eq_false h2];conv=>whnf
 refine Br.mk (fun h=>?_) (fun h=>?_)
 ·have h3:(a.length:Int)≠rows:=by simpa using h
  rw[if_pos (.inr (.inr h3))];conv=>whnf
  exact fin rfl rfl
 have h3:(a.length:Int)=rows:=by simpa using h
 have hn:¬ (rows<0\/rows > 16\/(a.length:Int)≠rows):=by omega
 rw[if_neg hn];clear h;conv=>whnf
 refine⟨Nat,fun i=>i<=a.length/\∀ x∈(a.map fun r=>vCheck r cols).take i,x=0,fun i=>{ fr:=[(2,i64 cols),(22,rt a),(23,i64 a.length),(24,i64 i)],g:=9 },fun i=>a.length-i,0,⟨Nat.zero_le _,by simp⟩,
  ⟨trivial,⟨x_R,x_R,x_E hlen,x_R,trivial⟩,trivial⟩,?_⟩
 rintro i ⟨k1,k2⟩;dsimp only at k1 k2 ⊢;conv=>whnf
 refine Br.mk (fun h=>?_) (fun h=>?_)
 ·have hlt:i<a.length:=by simpa using h
  have hr:=hb.2 a[i] (List.getElem_mem hlt);have C:=c_vCheck a[i] cols (fun x hx=>(hr.2 x hx).ok) hr.1;obtain⟨c,hc⟩:∃ c,vCheck a[i] cols=c:=⟨_,rfl⟩
  rw[hc] at C;obtain⟨g1,g2⟩:=firstE_at (l:=a.map fun r=>vCheck r cols) (i:=i) (c:=c) (by simpa using hlt) k2 (by simp[hc]);conv=>whnf
  refine⟨rl a[i],⟨by omega,by simp[hlt],rfl,rfl⟩,?_⟩;conv=>whnf
  refine cE C ?_;conv=>whnf
  refine Br.mk (fun h=>?_) (fun h=>?_)
  ·have h0:c≠0:=by simpa using h
   conv=>whnf
   exact fin rfl (congrArg i64 (g1 h0).symm)
  ·have h0:c=0:=by simpa using h
   conv=>whnf
   exact⟨i+1,⟨hlt,g2 h0⟩,⟨trivial,⟨x_R,x_R,x_R,x_E ((wI (n:=(i:Int)+1) (by omega) (by omega)).trans (by simp)),trivial⟩,trivial⟩,by show a.length-(i+1)<a.length-i; omega⟩
 ·have he:i=a.length:=by
   have:¬ i<a.length:=by simpa using h
   omega
  subst he;conv=>whnf
  exact fin rfl (congrArg i64 (firstE_end (by simpa using k2)).symm)
def zCheckR (z:RawZ) (n:Int):Int:=if z.g.length > 32 then 3 else if vCheck z.c n≠0 then vCheck z.c n else firstE (z.g.map fun g=>vCheck g n)
theorem c_zCheckR (z:RawZ) (n:Int) (hb:ZBd z):ACalls prog 117 [rz z,i64 n] (i64 (zCheckR z n)):=by
 have hlen:(((z.g.map rl).length:Nat):Int)=(z.g.length:Int):=by simp
 have C1:=c_vCheck z.c n (fun x hx=>(hb.1.2 x hx).ok) hb.1.1;unfold zCheckR;obtain⟨c1,hc1⟩:∃ c,vCheck z.c n=c:=⟨_,rfl⟩
 rw[hc1] at C1 ⊢;refine conN func117 rfl (by kernel_rfl) ?_;conv=>whnf
 refine Br.mk (fun h=>?_) (fun h=>?_)
 ·have h1:z.g.length > 32:=by
   have:=of_decide_eq_true h;rw[hlen] at this;omega
  rw[if_pos h1];conv=>whnf
  exact fin rfl rfl
 have h1:¬ z.g.length > 32:=by
  have:=of_decide_eq_false h;rw[hlen] at this;omega
 rw[if_neg h1];clear h;conv=>whnf
 refine cE C1 ?_;conv=>whnf
 refine Br.mk (fun h=>?_) (fun h=>?_)
 ·have h0:c1≠0:=by simpa using h
  rw[if_pos h0];conv=>whnf
  exact fin rfl rfl
 have h0:¬ c1≠0:=by simpa using h
 rw[if_neg h0];clear h;conv=>whnf
 refine⟨Nat,fun i=>i<=z.g.length/\∀ x∈(z.g.map fun r=>vCheck r n).take i,x=0,fun i=>{ fr:=[(1,i64 n),(21,rt z.g),(22,i64 z.g.length),(23,i64 i)],g:=9 },fun i=>z.g.length-i,0,⟨Nat.zero_le _,by simp⟩,
  ⟨trivial,⟨x_R,x_R,x_E hlen,x_R,trivial⟩,trivial⟩,?_⟩
 rintro i ⟨k1,k2⟩;dsimp only at k1 k2 ⊢;conv=>whnf
 refine Br.mk (fun h=>?_) (fun h=>?_)
 ·have hlt:i<z.g.length:=by simpa using h
  have hr:=hb.2.2 z.g[i] (List.getElem_mem hlt);have C:=c_vCheck z.g[i] n (fun x hx=>(hr.2 x hx).ok) hr.1;obtain⟨c,hc⟩:∃ c,vCheck z.g[i] n=c:=⟨_,rfl⟩
  rw[hc] at C;obtain⟨g1,g2⟩:=firstE_at (l:=z.g.map fun r=>vCheck r n) (i:=i) (c:=c) (by simpa using hlt) k2 (by simp[hc]);conv=>whnf
  refine⟨rl z.g[i],⟨by omega,by simp[hlt],rfl,rfl⟩,?_⟩;conv=>whnf
  refine cE C ?_;conv=>whnf
  refine Br.mk (fun h=>?_) (fun h=>?_)
  ·have h0:c≠0:=by simpa using h
   conv=>whnf
   exact fin rfl (congrArg i64 (g1 h0).symm)
  ·have h0:c=0:=by simpa using h
   conv=>whnf
   exact⟨i+1,⟨hlt,g2 h0⟩,⟨trivial,⟨x_R,x_R,x_R,x_E ((wI (n:=(i:Int)+1) (by omega) (by omega)).trans (by simp)),trivial⟩,trivial⟩,by show z.g.length-(i+1)<z.g.length-i; omega⟩
 ·have he:i=z.g.length:=by
   have:¬ i<z.g.length:=by simpa using h
   omega
  subst he;conv=>whnf
  exact fin rfl (congrArg i64 (firstE_end (by simpa using k2)).symm)
def mSteps (h s:FQ):Except Nat Nat:=bnd (qDiv h s) fun q=>if (qCeil q).z > 4096 then .error 30 else .ok (qCeil q).z.toNat
end
section
open Go Go.RowKit Go.Proofs.Tryz
attribute [local irreducible] zMul zAdd zLeft zRight fitZ qMake zDiv qCmp qAdd qMul qDiv qSum rawCheck vCheck
theorem bnd_okk' {α β:Type} (x:α) (f:α->Except Nat β):bnd (.ok x) f=f x:=rfl
def tN (r:Except Nat Nat):AV:=resT (fun n:Nat=>i64 (n:Int)) 0 r
theorem cmp_whole (c:FZ):qCmp (qWhole c) (qOf 4096 1)=.ok (cmpZ c.z 4096):=by
 have h1:(qOf 4096 1).q.num=4096:=by kernel_rfl
 have h2:(qOf 4096 1).q.den=1:=by kernel_rfl
 have e1:zMul (qNum (qWhole c)) (qDen (qOf 4096 1))=.ok c:=by
  have:(qNum (qWhole c)).z*(qDen (qOf 4096 1)).z=c.z:=by
   show (qWhole c).q.num*((qOf 4096 1).q.den:Int)=c.z;rw[qWhole_q,h2];simp
  unfold zMul;rw[this];exact fitZ_ok c.h
 have e2:∃ h,zMul (qNum (qOf 4096 1)) (qDen (qWhole c))=.ok ⟨4096,h⟩:=by
  have:(qNum (qOf 4096 1)).z*(qDen (qWhole c)).z=4096:=by
   show (qOf 4096 1).q.num*((qWhole c).q.den:Int)=4096;rw[qWhole_q,h1];simp
  unfold zMul;rw[this];have hb:(4096:Int).natAbs<Big:=Nat.lt_of_le_of_lt (by decide:(4096:Int).natAbs<=2^12) (by rw[Big_eq]; exact Nat.pow_lt_pow_right (by decide) (by decide));exact⟨hb,fitZ_ok hb⟩
 obtain⟨h,e2⟩:=e2;unfold qCmp;rw[e1,bnd_okk',e2];rfl
theorem or0 {n:Nat} (h:n<=4096):IntKind.i64.wrap ((BitVec.ofInt IntKind.i64.bits (IntKind.i64.wrap (0*2^min 32 IntKind.i64.bits)) ||| BitVec.ofInt IntKind.i64.bits (IntKind.i64.wrap (n:Int))).toNat:Nat)=(n:Int):=by
 have h1:IntKind.i64.wrap (n:Int)=(n:Int):=wI (by omega) (by omega);show IntKind.i64.wrap (((0#64:BitVec 64) ||| BitVec.ofInt 64 (IntKind.i64.wrap (n:Int))).toNat:Nat)=(n:Int)
 rw[h1,BitVec.zero_or,BitVec.ofInt_natCast,BitVec.toNat_ofNat,Nat.mod_eq_of_lt (by omega)];exact h1
theorem ceil_nn {q:FQ} (h:0<=q.q):0<=(qCeil q).z:=by
 show 0<=-((-q.q).num/((-q.q).den:Int))
 rw[Rat.neg_num,Rat.neg_den];have h1:0<=q.q.num:=Rat.num_nonneg.2 h;have h2:(-q.q.num)/(q.q.den:Int)<=0/(q.q.den:Int):=Int.ediv_le_ediv (by have:=q.q.den_pos; omega) (by omega);rw[Int.zero_ediv] at h2;omega
theorem c_mSteps (dim inp:Int) (ta tb:List (List RawQ)) (tc:List RawQ) (st iz:RawZ) (h s:FQ) (cl:List RawC) (hq:∀ q,qDiv h s=.ok q->0<=q.q):ACalls prog 118 [rmd ⟨dim,inp,ta,tb,tc,st,iz,rawQ h,rawQ s,cl⟩] (tN (mSteps h s)):=by
 have C1:=c_qDiv h s;unfold mSteps;cases h1:qDiv h s with
 |error e =>
  rw[h1] at C1;show ACalls prog _ _ (.tup [i64 ((0:Nat):Int),i64 ((e+1:Nat):Int)]);refine conP func118 rfl (by kernel_rfl) ?_;repeat ((first | refine .gF ?_ | refine .eF ?_ | refine cE C1 ?_ | refine xK ?_ | rw[decide_eq_true (by omega)] | rw[decide_eq_false (by omega)]); conv=>whnf)
  exact⟨fin rfl rfl,fin rfl rfl,trivial⟩
 |ok q =>
  rw[h1] at C1;rw[bnd_okk'];have C2:=c_qCeil q;have hnn:=ceil_nn (hq q h1);obtain⟨c,hc⟩:∃ c,qCeil q=c:=⟨_,rfl⟩
  rw[hc] at C2 hnn ⊢;have C3:=c_qWhole c;have C4:ACalls prog 20 [i64 4096,i64 1] (rat (qOf 4096 1).q):=c_qOf 4096 1 (by decide) (by decide) (by decide) (by decide);have C5:=c_qCompare (qWhole c) (qOf 4096 1);rw[cmp_whole] at C5;by_cases hg:c.z > 4096
  ·rw[if_pos hg];have hcmp:cmpZ c.z 4096=1:=by unfold cmpZ; rw[if_neg (by omega),if_neg (by omega)]
   rw[hcmp] at C5;show ACalls prog _ _ (.tup [i64 ((0:Nat):Int),i64 ((31:Nat):Int)]);refine conP func118 rfl (by kernel_rfl) ?_;repeat ((first | refine .gF ?_ | refine .eF ?_ | refine cE C1 ?_ | refine cE C2 ?_ | refine cE C3 ?_ | refine cE C4 ?_ | refine cE C5 ?_ | refine xK ?_ | rw[decide_eq_true (by omega)] | rw[decide_eq_false (by omega)]); conv=>whnf)
   exact⟨fin rfl rfl,fin rfl rfl,trivial⟩
  ·rw[if_neg hg];have hcmp:decide (cmpZ c.z 4096 > 0)=false:=by
    unfold cmpZ;by_cases h:c.z<4096
    ·rw[if_pos h]; rfl
    ·rw[if_neg h,if_pos (by omega)]; rfl
   obtain⟨n,hn⟩:∃ n:Nat,c.z=(n:Int):=⟨c.z.toNat,by omega⟩
   have hn2:n<=4096:=by omega
   obtain⟨m,hm⟩:∃ m,cmpZ c.z 4096=m:=⟨_,rfl⟩
   rw[hm] at hcmp C5;change ACalls prog _ _ (.tup [i64 m,i64 0]) at C5;rw[hn] at C2 C3 ⊢;show ACalls prog _ _ (.tup [i64 (((n:Int).toNat:Nat):Int),i64 0]);rw[Int.toNat_natCast];have hi:int (n:Int)=.agg [boo false,lst (digs n)]:=by
    unfold int;rw[decide_eq_false (by omega),Int.natAbs_natCast];rfl
   rw[hi] at C2 C3;refine conP func118 rfl (by kernel_rfl) ?_;by_cases h0:n=0
   ·subst h0;rw[digs_zero] at C2 C3;repeat ((first | refine .gF ?_ | refine .eF ?_ | refine cE C1 ?_ | refine cE C2 ?_ | refine cE C3 ?_ | refine cE C4 ?_ | refine cE C5 ?_ | rw[hcmp] | refine xK ?_ | rw[decide_eq_true (by omega)] | rw[decide_eq_false (by omega)]); conv=>whnf)
    refine .cut (fun _:Unit=>True) (fun _=>{ fr:=[(8,i64 0)],st:=[],g:=60 }) ?_ ?_
    ·repeat ((first | refine .gF ?_ | refine .eF ?_ | refine xK ?_ | rw[decide_eq_true (by omega)] | rw[decide_eq_false (by omega)]); conv=>whnf)
     refine .block (.loop (fun _:Unit=>True) (fun _=>{ fr:=[(8,i64 0),(9,i64 (-1))],st:=[],g:=20 }) (fun _=>0) () trivial ?_ ?_)
     ·repeat' (first | exact trivial | exact .inl ⟨.refl _,rfl⟩ | exact⟨.same rfl rfl,nMb rfl,x_L⟩ | exact⟨_,rfl⟩ | exact x_W | exact rfl | exact nMb rfl | exact Nat.le_of_ble_eq_true rfl | refine⟨?_,?_⟩)
      trace_state
     rintro⟨⟩ _;repeat ((first | refine .gF ?_ | refine .eF ?_ | refine xK ?_ | rw[decide_eq_true (by omega)] | rw[decide_eq_false (by omega)]); conv=>whnf)
     refine⟨(),trivial,?_⟩;repeat' (first | exact trivial | exact .inl ⟨.refl _,rfl⟩ | exact⟨.same rfl rfl,nMb rfl,x_L⟩ | exact⟨_,rfl⟩ | exact x_W | exact rfl | exact nMb rfl | exact Nat.le_of_ble_eq_true rfl | refine⟨?_,?_⟩)
     trace_state
    ·rintro⟨⟩ _;repeat ((first | refine .gF ?_ | refine .eF ?_ | refine xK ?_ | rw[decide_eq_true (by omega)] | rw[decide_eq_false (by omega)]); conv=>whnf)
     exact⟨fin rfl rfl,fin rfl rfl,trivial⟩
   ·have hd:digs n=[n]:=by
     have hle:(digs n).length<=1:=length_digs_le.2 (by rw[Nat.pow_one]; unfold B; omega);have:(digs n).length=1:=by
      have:digs n≠[]:=fun q=>h0 (digs_eq_nil.1 q)
      have:=List.length_pos_iff.2 this;omega
     exact (digs_one this).1
    rw[hd] at C2 C3;repeat ((first | refine .gF ?_ | refine .eF ?_ | refine cE C1 ?_ | refine cE C2 ?_ | refine cE C3 ?_ | refine cE C4 ?_ | refine cE C5 ?_ | rw[hcmp] | refine xK ?_ | rw[decide_eq_true (by omega)] | rw[decide_eq_false (by omega)]); conv=>whnf)
    refine .cut (fun _:Unit=>True) (fun _=>{ fr:=[(8,i64 (n:Nat))],st:=[],g:=60 }) ?_ ?_
    ·repeat ((first | refine .gF ?_ | refine .eF ?_ | refine xK ?_ | rw[decide_eq_true (by omega)] | rw[decide_eq_false (by omega)]); conv=>whnf)
     refine .block (.loop (fun _:Bool=>True) (fun b=>match b with
      |true=>{ fr:=[(6,.ptr (3,2) 0 0),(8,i64 0),(9,i64 0)],st:=[((3,2),⟨26,2,[.agg [boo false,lst [n]]]⟩)],g:=20 }
      |false=>{ fr:=[(8,i64 (n:Nat)),(9,i64 (-1))],st:=[],g:=20 }) (fun b=>match b with | true=>1 | false=>0) true trivial ?_ ?_)
     ·repeat' (first | exact trivial | exact .inl ⟨.refl _,rfl⟩ | exact⟨.same rfl rfl,nMb rfl,x_L⟩ | exact⟨_,rfl⟩ | exact x_W | exact rfl | exact nMb rfl | exact Nat.le_of_ble_eq_true rfl | refine⟨?_,?_⟩)
      trace_state
     rintro b _;cases b with
     |true =>
      dsimp only;repeat ((first | refine .gF ?_ | refine .eF ?_ | refine xK ?_ | rw[decide_eq_true (by omega)] | rw[decide_eq_false (by omega)]); conv=>whnf)
      refine .cut (fun _:Unit=>True) (fun _=>{ fr:=[(8,i64 (n:Nat)),(9,i64 0)],st:=[],g:=20 }) ?_ ?_
      ·refine .block ?_;repeat ((first | refine .gF ?_ | refine .eF ?_ | refine⟨dg n,⟨by decide,rfl,rfl,rfl⟩,?_⟩ | refine xK ?_ | rw[decide_eq_true (by omega)] | rw[decide_eq_false (by omega)]); conv=>whnf)
       refine⟨(),trivial,?_⟩;repeat' (first | exact trivial | exact .inl ⟨.refl _,rfl⟩ | exact⟨.same rfl rfl,nMb rfl,x_L⟩ | exact⟨_,rfl⟩ | exact x_W | exact rfl | exact x_E (or0 hn2) | exact nMb rfl | exact Nat.le_of_ble_eq_true rfl | refine⟨?_,?_⟩)
      ·rintro⟨⟩ _;repeat ((first | refine .gF ?_ | refine .eF ?_ | refine xK ?_ | rw[decide_eq_true (by omega)] | rw[decide_eq_false (by omega)]); conv=>whnf)
       refine⟨false,trivial,?_,by decide⟩;repeat' (first | exact trivial | exact .inl ⟨.refl _,rfl⟩ | exact⟨.same rfl rfl,nMb rfl,x_L⟩ | exact⟨_,rfl⟩ | exact x_W | exact rfl | exact nMb rfl | exact Nat.le_of_ble_eq_true rfl | refine⟨?_,?_⟩)
       trace_state
     |false =>
      dsimp only;repeat ((first | refine .gF ?_ | refine .eF ?_ | refine xK ?_ | rw[decide_eq_true (by omega)] | rw[decide_eq_false (by omega)]); conv=>whnf)
      refine⟨(),trivial,?_⟩;repeat' (first | exact trivial | exact .inl ⟨.refl _,rfl⟩ | exact⟨.same rfl rfl,nMb rfl,x_L⟩ | exact⟨_,rfl⟩ | exact x_W | exact rfl | exact nMb rfl | exact Nat.le_of_ble_eq_true rfl | refine⟨?_,?_⟩)
      trace_state
    ·rintro⟨⟩ _;repeat ((first | refine .gF ?_ | refine .eF ?_ | refine xK ?_ | rw[decide_eq_true (by omega)] | rw[decide_eq_false (by omega)]); conv=>whnf)
     exact⟨fin rfl rfl,fin rfl rfl,trivial⟩
end
section
open Go Go.RowKit Go.Proofs.Tryz
attribute [local irreducible] zMul zAdd zLeft zRight fitZ qMake zDiv qCmp qAdd qMul qDiv qSum rawCheck vCheck mCheckR zCheckR mSteps qSgn
theorem firstE_zero {l:List Int} (h:firstE l=0):∀ x∈l,x=0:=by
 induction l with
 |nil=>intro x hx; cases hx
 |cons a l ih =>
  unfold firstE at h;by_cases h0:a=0
  ·rw[if_pos h0] at h;intro x hx;rcases List.mem_cons.1 hx with rfl | hx
   ·exact h0
   ·exact ih h x hx
  ·rw[if_neg h0] at h;exact absurd h h0
theorem firstE_all {l:List Int} (h:∀ x∈l,x=0):firstE l=0:=by
 induction l with
 |nil=>rfl
 |cons a l ih =>
  unfold firstE;rw[if_pos (h a (.head _))];exact ih fun x hx=>h x (.tail _ hx)
theorem c_rawCheck {x:RawQ} (h:RawB x):ACalls prog 16 [rawv x] (i64 (rawCheck x)):=by
 unfold rawCheck;exact c_qCheck x.1 x.2.1 x.2.2 h.1 h.2.1 h.2.2.1 h.2.2.2
structure ClOk (c:RawC) (dim:Int) (h:FQ):Prop where
 dir:vCheck c.dir dim=0
 bd:rawCheck c.bd=0
 fr:rawCheck c.fr=0
 to:rawCheck c.to=0
 in':∃ f t:FQ,rawQ f=c.fr/\rawQ t=c.to/\¬ qSgn f<0/\(∃ x,qCmp f t=.ok x/\¬ x > 0)/\∃ y,qCmp t h=.ok y/\¬ y > 0
theorem rawQ_inj' {a b:FQ} (h:rawQ a=rawQ b):a=b:=by
 unfold rawQ at h;simp only[Prod.mk.injEq] at h;have h1:=digs_inj h.2.1;have h2:=digs_inj h.2.2;apply FQ.ext;have hs:a.q.num=b.q.num:=by
  have:=h.1;simp only[decide_eq_decide] at this;omega
 exact Rat.ext hs h2
theorem c_claimR (c:RawC) (cb:CBd c) (dim inp:Int) (ta tb:List (List RawQ)) (tc:List RawQ) (st iz:RawZ) (h:FQ) (stp:RawQ) (cl:List RawC) :
  ∃ e:Int,ACalls prog 119 [rcl c,rmd ⟨dim,inp,ta,tb,tc,st,iz,rawQ h,stp,cl⟩] (i64 e)/\(e=0↔ClOk c dim h):=by
 have C1:=c_vCheck c.dir dim (fun x hx=>(cb.dir.2 x hx).ok) cb.dir.1;have C2:=c_rawCheck cb.bd;have C3:=c_rawCheck cb.fr;have C4:=c_rawCheck cb.to;by_cases he1:firstE [vCheck c.dir dim,rawCheck c.bd,rawCheck c.fr,rawCheck c.to]=0
 ·have hz:=firstE_zero he1;have h1:vCheck c.dir dim=0:=hz _ (by simp);have h2:rawCheck c.bd=0:=hz _ (by simp);have h3:rawCheck c.fr=0:=hz _ (by simp);have h4:rawCheck c.to=0:=hz _ (by simp);rw[h1] at C1;rw[h2] at C2;rw[h3] at C3;rw[h4] at C4;obtain⟨f,hf⟩:=raw_q cb.fr.2.2.1 cb.fr.2.2.2 h3;obtain⟨t,ht⟩:=raw_q cb.to.2.2.1 cb.to.2.2.2 h4;have hiff:ClOk c dim h↔(¬ qSgn f<0/\(∃ x,qCmp f t=.ok x/\¬ x > 0)/\∃ y,qCmp t h=.ok y/\¬ y > 0):=by
   constructor
   ·rintro⟨_,_,_,_,f',t',e1,e2,e3⟩;rw[<- hf] at e1;rw[<- ht] at e2;rw[rawQ_inj' e1,rawQ_inj' e2] at e3;exact e3
   ·intro e;exact⟨h1,h2,h3,h4,f,t,hf,ht,e⟩
  rw[hiff];clear hz he1 hiff h1 h2 h3 h4;obtain⟨nv,dir,bd,fr,to⟩:=c;dsimp only at hf ht C1 C2 C3 C4;subst hf ht;rw[rawv_rawQ] at C3 C4;change ACalls prog _ [rat f.q] _ at C3;change ACalls prog _ [rat t.q] _ at C4;have CA:=c_qCompare f t;have CB:=c_qCompare t h;have CS:=c_qSign f;have hstart:∀ {r:Int},Pc prog f119.ntmps (Code.at' (bodyOf f119) [true,true]) [(2,.ptr (0,0) 0 0),(3,.ptr (0,1) 0 0)] [((0,0),⟨124,11,[rcl ⟨nv,dir,bd,rawQ f,rawQ t⟩]⟩),((0,1),⟨68,16,[rmd ⟨dim,inp,ta,tb,tc,st,iz,rawQ h,stp,cl⟩]⟩)] 60 (nresA ty f119.results.toList (i64 r))->ACalls prog 119 [rcl ⟨nv,dir,bd,rawQ f,rawQ t⟩,rmd ⟨dim,inp,ta,tb,tc,st,iz,rawQ h,stp,cl⟩] (i64 r):=by
   intro r H;refine conP func119 rfl (by kernel_rfl) ?_;repeat ((first | refine .gF ?_ | refine .eF ?_ | refine cE C1 ?_ | refine cE C2 ?_ | refine cE C3 ?_ | refine cE C4 ?_ | refine xK ?_ | rw[decide_eq_true (by omega)] | rw[decide_eq_false (by omega)]); conv=>whnf)
   refine .cut (fun _:Unit=>True) (fun _=>{ fr:=[(2,.ptr (0,0) 0 0),(3,.ptr (0,1) 0 0)],st:=[((0,0),⟨124,11,[rcl ⟨nv,dir,bd,rawQ f,rawQ t⟩]⟩),((0,1),⟨68,16,[rmd ⟨dim,inp,ta,tb,tc,st,iz,rawQ h,stp,cl⟩]⟩)],g:=60 }) ?_ (fun _ _=>H);repeat ((first | refine .gF ?_ | refine .eF ?_ | refine cE C1 ?_ | refine cE C2 ?_ | refine cE C3 ?_ | refine cE C4 ?_ | refine xK ?_ | rw[decide_eq_true (by omega)] | rw[decide_eq_false (by omega)]); conv=>whnf)
   refine .block (.loop (fun i:Nat=>i<=4) (fun i=>{ fr:=[(2,.ptr (0,0) 0 0),(3,.ptr (0,1) 0 0),(24,.agg [i64 0,i64 0,i64 0,i64 0]),(25,i64 (i:Nat))],st:=[((0,0),⟨124,11,[rcl ⟨nv,dir,bd,rawQ f,rawQ t⟩]⟩),((0,1),⟨68,16,[rmd ⟨dim,inp,ta,tb,tc,st,iz,rawQ h,stp,cl⟩]⟩)],g:=20 }) (fun i=>4-i) 0 (Nat.zero_le _) ?_ ?_)
   ·repeat' (first | exact trivial | exact .inl ⟨.refl _,rfl⟩ | exact⟨.same rfl rfl,nMb rfl,x_L⟩ | exact⟨_,rfl⟩ | exact x_W | exact rfl | exact nMb rfl | exact Nat.le_of_ble_eq_true rfl | refine⟨?_,?_⟩)
    trace_state
   intro i hi;have:i=0\/i=1\/i=2\/i=3\/i=4:=by omega
   rcases this with rfl | rfl | rfl | rfl | rfl
   ·repeat ((first | refine .gF ?_ | refine .eF ?_ | refine xK ?_ | rw[decide_eq_true (by omega)] | rw[decide_eq_false (by omega)]); conv=>whnf)
    refine .cut (fun _:Unit=>True) (fun _=>{ fr:=[(2,.ptr (0,0) 0 0),(3,.ptr (0,1) 0 0),(24,.agg [i64 0,i64 0,i64 0,i64 0]),(25,i64 0)],st:=[((0,0),⟨124,11,[rcl ⟨nv,dir,bd,rawQ f,rawQ t⟩]⟩),((0,1),⟨68,16,[rmd ⟨dim,inp,ta,tb,tc,st,iz,rawQ h,stp,cl⟩]⟩)],g:=20 }) ?_ ?_
    ·refine .block ?_;repeat ((first | refine .gF ?_ | refine .eF ?_ | refine⟨⟨by decide,by decide⟩,?_⟩ | refine xK ?_ | rw[decide_eq_true (by omega)] | rw[decide_eq_false (by omega)]); conv=>whnf)
     refine⟨(),trivial,?_⟩;repeat' (first | exact trivial | exact .inl ⟨.refl _,rfl⟩ | exact⟨.same rfl rfl,nMb rfl,x_L⟩ | exact⟨_,rfl⟩ | exact x_W | exact rfl | exact nMb rfl | exact Nat.le_of_ble_eq_true rfl | refine⟨?_,?_⟩)
     trace_state
    ·rintro⟨⟩ _;repeat ((first | refine .gF ?_ | refine .eF ?_ | refine xK ?_ | rw[decide_eq_true (by omega)] | rw[decide_eq_false (by omega)]); conv=>whnf)
     refine⟨0+1,by decide,?_,by decide⟩;repeat' (first | exact trivial | exact .inl ⟨.refl _,rfl⟩ | exact⟨.same rfl rfl,nMb rfl,x_L⟩ | exact⟨_,rfl⟩ | exact x_W | exact rfl | exact nMb rfl | exact Nat.le_of_ble_eq_true rfl | refine⟨?_,?_⟩)
     trace_state
   ·repeat ((first | refine .gF ?_ | refine .eF ?_ | refine xK ?_ | rw[decide_eq_true (by omega)] | rw[decide_eq_false (by omega)]); conv=>whnf)
    refine .cut (fun _:Unit=>True) (fun _=>{ fr:=[(2,.ptr (0,0) 0 0),(3,.ptr (0,1) 0 0),(24,.agg [i64 0,i64 0,i64 0,i64 0]),(25,i64 1)],st:=[((0,0),⟨124,11,[rcl ⟨nv,dir,bd,rawQ f,rawQ t⟩]⟩),((0,1),⟨68,16,[rmd ⟨dim,inp,ta,tb,tc,st,iz,rawQ h,stp,cl⟩]⟩)],g:=20 }) ?_ ?_
    ·refine .block ?_;repeat ((first | refine .gF ?_ | refine .eF ?_ | refine⟨⟨by decide,by decide⟩,?_⟩ | refine xK ?_ | rw[decide_eq_true (by omega)] | rw[decide_eq_false (by omega)]); conv=>whnf)
     refine⟨(),trivial,?_⟩;repeat' (first | exact trivial | exact .inl ⟨.refl _,rfl⟩ | exact⟨.same rfl rfl,nMb rfl,x_L⟩ | exact⟨_,rfl⟩ | exact x_W | exact rfl | exact nMb rfl | exact Nat.le_of_ble_eq_true rfl | refine⟨?_,?_⟩)
     trace_state
    ·rintro⟨⟩ _;repeat ((first | refine .gF ?_ | refine .eF ?_ | refine xK ?_ | rw[decide_eq_true (by omega)] | rw[decide_eq_false (by omega)]); conv=>whnf)
     refine⟨1+1,by decide,?_,by decide⟩;repeat' (first | exact trivial | exact .inl ⟨.refl _,rfl⟩ | exact⟨.same rfl rfl,nMb rfl,x_L⟩ | exact⟨_,rfl⟩ | exact x_W | exact rfl | exact nMb rfl | exact Nat.le_of_ble_eq_true rfl | refine⟨?_,?_⟩)
     trace_state
   ·repeat ((first | refine .gF ?_ | refine .eF ?_ | refine xK ?_ | rw[decide_eq_true (by omega)] | rw[decide_eq_false (by omega)]); conv=>whnf)
    refine .cut (fun _:Unit=>True) (fun _=>{ fr:=[(2,.ptr (0,0) 0 0),(3,.ptr (0,1) 0 0),(24,.agg [i64 0,i64 0,i64 0,i64 0]),(25,i64 2)],st:=[((0,0),⟨124,11,[rcl ⟨nv,dir,bd,rawQ f,rawQ t⟩]⟩),((0,1),⟨68,16,[rmd ⟨dim,inp,ta,tb,tc,st,iz,rawQ h,stp,cl⟩]⟩)],g:=20 }) ?_ ?_
    ·refine .block ?_;repeat ((first | refine .gF ?_ | refine .eF ?_ | refine⟨⟨by decide,by decide⟩,?_⟩ | refine xK ?_ | rw[decide_eq_true (by omega)] | rw[decide_eq_false (by omega)]); conv=>whnf)
     refine⟨(),trivial,?_⟩;repeat' (first | exact trivial | exact .inl ⟨.refl _,rfl⟩ | exact⟨.same rfl rfl,nMb rfl,x_L⟩ | exact⟨_,rfl⟩ | exact x_W | exact rfl | exact nMb rfl | exact Nat.le_of_ble_eq_true rfl | refine⟨?_,?_⟩)
     trace_state
    ·rintro⟨⟩ _;repeat ((first | refine .gF ?_ | refine .eF ?_ | refine xK ?_ | rw[decide_eq_true (by omega)] | rw[decide_eq_false (by omega)]); conv=>whnf)
     refine⟨2+1,by decide,?_,by decide⟩;repeat' (first | exact trivial | exact .inl ⟨.refl _,rfl⟩ | exact⟨.same rfl rfl,nMb rfl,x_L⟩ | exact⟨_,rfl⟩ | exact x_W | exact rfl | exact nMb rfl | exact Nat.le_of_ble_eq_true rfl | refine⟨?_,?_⟩)
     trace_state
   ·repeat ((first | refine .gF ?_ | refine .eF ?_ | refine xK ?_ | rw[decide_eq_true (by omega)] | rw[decide_eq_false (by omega)]); conv=>whnf)
    refine .cut (fun _:Unit=>True) (fun _=>{ fr:=[(2,.ptr (0,0) 0 0),(3,.ptr (0,1) 0 0),(24,.agg [i64 0,i64 0,i64 0,i64 0]),(25,i64 3)],st:=[((0,0),⟨124,11,[rcl ⟨nv,dir,bd,rawQ f,rawQ t⟩]⟩),((0,1),⟨68,16,[rmd ⟨dim,inp,ta,tb,tc,st,iz,rawQ h,stp,cl⟩]⟩)],g:=20 }) ?_ ?_
    ·refine .block ?_;repeat ((first | refine .gF ?_ | refine .eF ?_ | refine⟨⟨by decide,by decide⟩,?_⟩ | refine xK ?_ | rw[decide_eq_true (by omega)] | rw[decide_eq_false (by omega)]); conv=>whnf)
     refine⟨(),trivial,?_⟩;repeat' (first | exact trivial | exact .inl ⟨.refl _,rfl⟩ | exact⟨.same rfl rfl,nMb rfl,x_L⟩ | exact⟨_,rfl⟩ | exact x_W | exact rfl | exact nMb rfl | exact Nat.le_of_ble_eq_true rfl | refine⟨?_,?_⟩)
     trace_state
    ·rintro⟨⟩ _;repeat ((first | refine .gF ?_ | refine .eF ?_ | refine xK ?_ | rw[decide_eq_true (by omega)] | rw[decide_eq_false (by omega)]); conv=>whnf)
     refine⟨3+1,by decide,?_,by decide⟩;repeat' (first | exact trivial | exact .inl ⟨.refl _,rfl⟩ | exact⟨.same rfl rfl,nMb rfl,x_L⟩ | exact⟨_,rfl⟩ | exact x_W | exact rfl | exact nMb rfl | exact Nat.le_of_ble_eq_true rfl | refine⟨?_,?_⟩)
     trace_state
   ·repeat ((first | refine .gF ?_ | refine .eF ?_ | refine xK ?_ | rw[decide_eq_true (by omega)] | rw[decide_eq_false (by omega)]); conv=>whnf)
    refine⟨(),trivial,?_⟩;repeat' (first | exact trivial | exact .inl ⟨.refl _,rfl⟩ | exact⟨.same rfl rfl,nMb rfl,x_L⟩ | exact⟨_,rfl⟩ | exact x_W | exact rfl | exact nMb rfl | exact Nat.le_of_ble_eq_true rfl | refine⟨?_,?_⟩)
    trace_state
  cases hc1:qCmp f t with
  |error e =>
   rw[hc1] at CA;refine⟨((e+1:Nat):Int),hstart ?_,fun q=>by omega,fun q=>by obtain⟨_,⟨x,q,_⟩,_⟩:=q; cases q⟩;repeat ((first | refine .gF ?_ | refine .eF ?_ | refine cE CA ?_ | refine cE CB ?_ | refine cE CS ?_ | refine xK ?_ | rw[decide_eq_true (by omega)] | rw[decide_eq_false (by omega)]); conv=>whnf)
   exact fin rfl rfl
  |ok x =>
   rw[hc1] at CA;change ACalls prog _ _ (.tup [i64 x,i64 0]) at CA;cases hc2:qCmp t h with
   |error e =>
    rw[hc2] at CB;refine⟨((e+1:Nat):Int),hstart ?_,fun q=>by omega,fun q=>by obtain⟨_,_,⟨x,q,_⟩⟩:=q; cases q⟩;repeat ((first | refine .gF ?_ | refine .eF ?_ | refine cE CA ?_ | refine cE CB ?_ | refine cE CS ?_ | refine xK ?_ | rw[decide_eq_true (by omega)] | rw[decide_eq_false (by omega)]); conv=>whnf)
    exact fin rfl rfl
   |ok y =>
    rw[hc2] at CB;change ACalls prog _ _ (.tup [i64 y,i64 0]) at CB;obtain⟨s,hs⟩:∃ s,qSgn f=s:=⟨_,rfl⟩
    rw[hs] at CS ⊢;by_cases g1:s<0
    ·refine⟨30,hstart ?_,fun q=>by omega,fun q=>absurd g1 q.1⟩;repeat ((first | refine .gF ?_ | refine .eF ?_ | refine cE CA ?_ | refine cE CB ?_ | refine cE CS ?_ | rw[decide_eq_true g1] | refine xK ?_ | rw[decide_eq_true (by omega)] | rw[decide_eq_false (by omega)]); conv=>whnf)
     exact fin rfl rfl
    ·by_cases g2:x > 0
     ·refine⟨30,hstart ?_,fun q=>by omega,fun q=>by obtain⟨_,⟨_,q,q2⟩,_⟩:=q; cases q; exact absurd g2 q2⟩;repeat ((first | refine .gF ?_ | refine .eF ?_ | refine cE CA ?_ | refine cE CB ?_ | refine cE CS ?_ | rw[decide_eq_false g1] | rw[decide_eq_true g2] | refine xK ?_ | rw[decide_eq_true (by omega)] | rw[decide_eq_false (by omega)]); conv=>whnf)
      exact fin rfl rfl
     ·by_cases g3:y > 0
      ·refine⟨30,hstart ?_,fun q=>by omega,fun q=>by obtain⟨_,_,⟨_,q,q2⟩⟩:=q; cases q; exact absurd g3 q2⟩;repeat ((first | refine .gF ?_ | refine .eF ?_ | refine cE CA ?_ | refine cE CB ?_ | refine cE CS ?_ | rw[decide_eq_false g1] | rw[decide_eq_false g2] | rw[decide_eq_true g3] | refine xK ?_ | rw[decide_eq_true (by omega)] | rw[decide_eq_false (by omega)]); conv=>whnf)
       exact fin rfl rfl
      ·refine⟨0,hstart ?_,fun _=>⟨g1,⟨x,rfl,g2⟩,⟨y,rfl,g3⟩⟩,fun _=>rfl⟩;repeat ((first | refine .gF ?_ | refine .eF ?_ | refine cE CA ?_ | refine cE CB ?_ | refine cE CS ?_ | rw[decide_eq_false g1] | rw[decide_eq_false g2] | rw[decide_eq_false g3] | refine xK ?_ | rw[decide_eq_true (by omega)] | rw[decide_eq_false (by omega)]); conv=>whnf)
       exact fin rfl rfl
 ·refine⟨_,?_,fun q=>absurd q he1,fun q=>absurd (firstE_all ?_) he1⟩
  ·obtain⟨es,hes⟩:∃ es,[vCheck c.dir dim,rawCheck c.bd,rawCheck c.fr,rawCheck c.to]=es:=⟨_,rfl⟩
   rw[hes] at he1 ⊢;obtain⟨e0,he⟩:∃ e0,firstE es=e0:=⟨_,rfl⟩
   rw[he] at he1 ⊢;obtain⟨e1,h1⟩:∃ e,vCheck c.dir dim=e:=⟨_,rfl⟩
   obtain⟨e2,h2⟩:∃ e,rawCheck c.bd=e:=⟨_,rfl⟩
   obtain⟨e3,h3⟩:∃ e,rawCheck c.fr=e:=⟨_,rfl⟩
   obtain⟨e4,h4⟩:∃ e,rawCheck c.to=e:=⟨_,rfl⟩
   rw[h1] at C1;rw[h2] at C2;rw[h3] at C3;rw[h4] at C4;rw[h1,h2,h3,h4] at hes;refine conP func119 rfl (by kernel_rfl) ?_;repeat ((first | refine .gF ?_ | refine .eF ?_ | refine cE C1 ?_ | refine cE C2 ?_ | refine cE C3 ?_ | refine cE C4 ?_ | refine xK ?_ | rw[decide_eq_true (by omega)] | rw[decide_eq_false (by omega)]); conv=>whnf)
   refine .cut (fun _:Unit=>False) (fun _=>{ fr:=[],st:=[],g:=60 }) ?_ (fun _ q=>q.elim);repeat ((first | refine .gF ?_ | refine .eF ?_ | refine cE C1 ?_ | refine cE C2 ?_ | refine cE C3 ?_ | refine cE C4 ?_ | refine xK ?_ | rw[decide_eq_true (by omega)] | rw[decide_eq_false (by omega)]); conv=>whnf)
   refine .block (.loop (fun i:Nat=>i<=4/\∀ x∈es.take i,x=0) (fun i=>{ fr:=[(24,.agg [i64 e1,i64 e2,i64 e3,i64 e4]),(25,i64 (i:Nat))],st:=[],g:=20 }) (fun i=>4-i) 0 ⟨Nat.zero_le _,by simp⟩ ?_ ?_)
   ·repeat' (first | exact trivial | exact .inl ⟨.refl _,rfl⟩ | exact⟨.same rfl rfl,nMb rfl,x_L⟩ | exact⟨_,rfl⟩ | exact x_W | exact rfl | exact nMb rfl | exact Nat.le_of_ble_eq_true rfl | refine⟨?_,?_⟩)
    trace_state
   rintro i ⟨hi,k2⟩;have hi:i<=4:=hi;have k2:∀ x∈es.take i,x=0:=k2;have:i=0\/i=1\/i=2\/i=3\/i=4:=by omega
   rcases this with rfl | rfl | rfl | rfl | rfl
   ·have hat:=firstE_at (l:=es) (i:=0) (c:=e1) (by rw[<- hes]; simp) k2 (by subst hes; rfl);repeat ((first | refine .gF ?_ | refine .eF ?_ | refine xK ?_ | rw[decide_eq_true (by omega)] | rw[decide_eq_false (by omega)]); conv=>whnf)
    by_cases h0:e1=0
    ·refine .cut (fun _:Unit=>True) (fun _=>{ fr:=[(24,.agg [i64 e1,i64 e2,i64 e3,i64 e4]),(25,i64 0)],st:=[],g:=20 }) ?_ ?_
     ·refine .block ?_;rw[h0];repeat ((first | refine .gF ?_ | refine .eF ?_ | refine⟨⟨by decide,by decide⟩,?_⟩ | refine xK ?_ | rw[decide_eq_true (by omega)] | rw[decide_eq_false (by omega)]); conv=>whnf)
      refine⟨(),trivial,?_⟩;repeat' (first | exact trivial | exact .inl ⟨.refl _,rfl⟩ | exact⟨.same rfl rfl,nMb rfl,x_L⟩ | exact⟨_,rfl⟩ | exact x_W | exact rfl | exact nMb rfl | exact Nat.le_of_ble_eq_true rfl | refine⟨?_,?_⟩)
      trace_state
     ·rintro⟨⟩ _;repeat ((first | refine .gF ?_ | refine .eF ?_ | refine xK ?_ | rw[decide_eq_true (by omega)] | rw[decide_eq_false (by omega)]); conv=>whnf)
      refine⟨0+1,⟨by decide,hat.2 h0⟩,?_,by decide⟩;repeat' (first | exact trivial | exact .inl ⟨.refl _,rfl⟩ | exact⟨.same rfl rfl,nMb rfl,x_L⟩ | exact⟨_,rfl⟩ | exact x_W | exact rfl | exact nMb rfl | exact Nat.le_of_ble_eq_true rfl | refine⟨?_,?_⟩)
      trace_state
    ·have he0:e0=e1:=hat.1 h0▸he.symm;have hb:(e1 !=0)=true:=by simpa using h0
     rw[he0];refine .cut (fun _:Unit=>False) (fun _=>{ fr:=[],st:=[],g:=20 }) ?_ (fun _ q=>q.elim);refine .block ?_;repeat ((first | refine .gF ?_ | refine .eF ?_ | refine⟨⟨by decide,by decide⟩,?_⟩ | rw[hb] | refine xK ?_ | rw[decide_eq_true (by omega)] | rw[decide_eq_false (by omega)]); conv=>whnf)
     exact fin rfl rfl
   ·have hat:=firstE_at (l:=es) (i:=1) (c:=e2) (by rw[<- hes]; simp) k2 (by subst hes; rfl);repeat ((first | refine .gF ?_ | refine .eF ?_ | refine xK ?_ | rw[decide_eq_true (by omega)] | rw[decide_eq_false (by omega)]); conv=>whnf)
    by_cases h0:e2=0
    ·refine .cut (fun _:Unit=>True) (fun _=>{ fr:=[(24,.agg [i64 e1,i64 e2,i64 e3,i64 e4]),(25,i64 1)],st:=[],g:=20 }) ?_ ?_
     ·refine .block ?_;rw[h0];repeat ((first | refine .gF ?_ | refine .eF ?_ | refine⟨⟨by decide,by decide⟩,?_⟩ | refine xK ?_ | rw[decide_eq_true (by omega)] | rw[decide_eq_false (by omega)]); conv=>whnf)
      refine⟨(),trivial,?_⟩;repeat' (first | exact trivial | exact .inl ⟨.refl _,rfl⟩ | exact⟨.same rfl rfl,nMb rfl,x_L⟩ | exact⟨_,rfl⟩ | exact x_W | exact rfl | exact nMb rfl | exact Nat.le_of_ble_eq_true rfl | refine⟨?_,?_⟩)
      trace_state
     ·rintro⟨⟩ _;repeat ((first | refine .gF ?_ | refine .eF ?_ | refine xK ?_ | rw[decide_eq_true (by omega)] | rw[decide_eq_false (by omega)]); conv=>whnf)
      refine⟨1+1,⟨by decide,hat.2 h0⟩,?_,by decide⟩;repeat' (first | exact trivial | exact .inl ⟨.refl _,rfl⟩ | exact⟨.same rfl rfl,nMb rfl,x_L⟩ | exact⟨_,rfl⟩ | exact x_W | exact rfl | exact nMb rfl | exact Nat.le_of_ble_eq_true rfl | refine⟨?_,?_⟩)
      trace_state
    ·have he0:e0=e2:=hat.1 h0▸he.symm;have hb:(e2 !=0)=true:=by simpa using h0
     rw[he0];refine .cut (fun _:Unit=>False) (fun _=>{ fr:=[],st:=[],g:=20 }) ?_ (fun _ q=>q.elim);refine .block ?_;repeat ((first | refine .gF ?_ | refine .eF ?_ | refine⟨⟨by decide,by decide⟩,?_⟩ | rw[hb] | refine xK ?_ | rw[decide_eq_true (by omega)] | rw[decide_eq_false (by omega)]); conv=>whnf)
     exact fin rfl rfl
   ·have hat:=firstE_at (l:=es) (i:=2) (c:=e3) (by rw[<- hes]; simp) k2 (by subst hes; rfl);repeat ((first | refine .gF ?_ | refine .eF ?_ | refine xK ?_ | rw[decide_eq_true (by omega)] | rw[decide_eq_false (by omega)]); conv=>whnf)
    by_cases h0:e3=0
    ·refine .cut (fun _:Unit=>True) (fun _=>{ fr:=[(24,.agg [i64 e1,i64 e2,i64 e3,i64 e4]),(25,i64 2)],st:=[],g:=20 }) ?_ ?_
     ·refine .block ?_;rw[h0];repeat ((first | refine .gF ?_ | refine .eF ?_ | refine⟨⟨by decide,by decide⟩,?_⟩ | refine xK ?_ | rw[decide_eq_true (by omega)] | rw[decide_eq_false (by omega)]); conv=>whnf)
      refine⟨(),trivial,?_⟩;repeat' (first | exact trivial | exact .inl ⟨.refl _,rfl⟩ | exact⟨.same rfl rfl,nMb rfl,x_L⟩ | exact⟨_,rfl⟩ | exact x_W | exact rfl | exact nMb rfl | exact Nat.le_of_ble_eq_true rfl | refine⟨?_,?_⟩)
      trace_state
     ·rintro⟨⟩ _;repeat ((first | refine .gF ?_ | refine .eF ?_ | refine xK ?_ | rw[decide_eq_true (by omega)] | rw[decide_eq_false (by omega)]); conv=>whnf)
      refine⟨2+1,⟨by decide,hat.2 h0⟩,?_,by decide⟩;repeat' (first | exact trivial | exact .inl ⟨.refl _,rfl⟩ | exact⟨.same rfl rfl,nMb rfl,x_L⟩ | exact⟨_,rfl⟩ | exact x_W | exact rfl | exact nMb rfl | exact Nat.le_of_ble_eq_true rfl | refine⟨?_,?_⟩)
      trace_state
    ·have he0:e0=e3:=hat.1 h0▸he.symm;have hb:(e3 !=0)=true:=by simpa using h0
     rw[he0];refine .cut (fun _:Unit=>False) (fun _=>{ fr:=[],st:=[],g:=20 }) ?_ (fun _ q=>q.elim);refine .block ?_;repeat ((first | refine .gF ?_ | refine .eF ?_ | refine⟨⟨by decide,by decide⟩,?_⟩ | rw[hb] | refine xK ?_ | rw[decide_eq_true (by omega)] | rw[decide_eq_false (by omega)]); conv=>whnf)
     exact fin rfl rfl
   ·have hat:=firstE_at (l:=es) (i:=3) (c:=e4) (by rw[<- hes]; simp) k2 (by subst hes; rfl);repeat ((first | refine .gF ?_ | refine .eF ?_ | refine xK ?_ | rw[decide_eq_true (by omega)] | rw[decide_eq_false (by omega)]); conv=>whnf)
    by_cases h0:e4=0
    ·refine .cut (fun _:Unit=>True) (fun _=>{ fr:=[(24,.agg [i64 e1,i64 e2,i64 e3,i64 e4]),(25,i64 3)],st:=[],g:=20 }) ?_ ?_
     ·refine .block ?_;rw[h0];repeat ((first | refine .gF ?_ | refine .eF ?_ | refine⟨⟨by decide,by decide⟩,?_⟩ | refine xK ?_ | rw[decide_eq_true (by omega)] | rw[decide_eq_false (by omega)]); conv=>whnf)
      refine⟨(),trivial,?_⟩;repeat' (first | exact trivial | exact .inl ⟨.refl _,rfl⟩ | exact⟨.same rfl rfl,nMb rfl,x_L⟩ | exact⟨_,rfl⟩ | exact x_W | exact rfl | exact nMb rfl | exact Nat.le_of_ble_eq_true rfl | refine⟨?_,?_⟩)
      trace_state
     ·rintro⟨⟩ _;repeat ((first | refine .gF ?_ | refine .eF ?_ | refine xK ?_ | rw[decide_eq_true (by omega)] | rw[decide_eq_false (by omega)]); conv=>whnf)
      refine⟨3+1,⟨by decide,hat.2 h0⟩,?_,by decide⟩;repeat' (first | exact trivial | exact .inl ⟨.refl _,rfl⟩ | exact⟨.same rfl rfl,nMb rfl,x_L⟩ | exact⟨_,rfl⟩ | exact x_W | exact rfl | exact nMb rfl | exact Nat.le_of_ble_eq_true rfl | refine⟨?_,?_⟩)
      trace_state
    ·have he0:e0=e4:=hat.1 h0▸he.symm;have hb:(e4 !=0)=true:=by simpa using h0
     rw[he0];refine .cut (fun _:Unit=>False) (fun _=>{ fr:=[],st:=[],g:=20 }) ?_ (fun _ q=>q.elim);refine .block ?_;repeat ((first | refine .gF ?_ | refine .eF ?_ | refine⟨⟨by decide,by decide⟩,?_⟩ | rw[hb] | refine xK ?_ | rw[decide_eq_true (by omega)] | rw[decide_eq_false (by omega)]); conv=>whnf)
     exact fin rfl rfl
   ·have hl:es.length=4:=by rw[<- hes]; rfl
    exact absurd (he▸firstE_all (fun x hx=>k2 x (by rw[<- hl,List.take_length]; exact hx))) he1
  ·intro x hx;simp only[List.mem_cons,List.not_mem_nil,or_false] at hx;rcases hx with rfl | rfl | rfl | rfl
   ·exact q.dir
   ·exact q.bd
   ·exact q.fr
   ·exact q.to
end
end Go.Proofs.YtjdkdcmpifapeaaGreatDoor.Abs
