/- Limbs: Left. -/
import Derived.Test.YtjdkdcmpifapeaaGreatDoorMe
set_option linter.unusedVariables false
set_option linter.unusedSectionVars false
set_option linter.unusedSimpArgs false
set_option maxHeartbeats 4000000
namespace Go.Proofs.YtjdkdcmpifapeaaGreatDoor.Abs
section
open Go Go.RowKit Go.Proofs.Tryz
theorem or_low {s v x:Nat} (hs:s<32) (hv:v<2^s) (hx:x<B) :
  IntKind.wrap .u32 (((BitVec.ofInt IntKind.u32.bits ((v:Nat):Int) ||| BitVec.ofInt IntKind.u32.bits ((x*2^s%B:Nat):Int)).toNat:Nat):Int)=((v+x*2^s%B:Nat):Int)/\v+x*2^s%B<B:=by
 have hp:2^s<=2^31:=Nat.pow_le_pow_right (by decide) (by omega);have hB:B=2^s*2^(32-s):=by rw[<- Nat.pow_add,Nat.add_sub_cancel' (by omega)]; rfl
 have hm:x*2^s%B=2^s*(x%2^(32-s)):=by rw[Nat.mul_comm,hB,Nat.mul_mod_mul_left]
 have hlt:x*2^s%B<B:=Nat.mod_lt _ Bpos;have hsum:v+x*2^s%B<B:=by
  have h1:x%2^(32-s)<2^(32-s):=Nat.mod_lt _ (Nat.pow_pos (by decide));have h2:2^s*(x%2^(32-s)+1)<=2^s*2^(32-s):=Nat.mul_le_mul_left _ h1;rw[<- hB,Nat.mul_add] at h2;rw[hm];omega
 have b:∀ z:Nat,z<B->(BitVec.ofInt IntKind.u32.bits (z:Int)).toNat=z:=fun z hz=>by
  show (BitVec.ofInt 32 (z:Int)).toNat=z;rw[BitVec.ofInt_natCast,BitVec.toNat_ofNat];exact Nat.mod_eq_of_lt hz
 refine⟨?_,hsum⟩;rw[BitVec.toNat_or,b v (by unfold B; omega),b _ hlt];have:v ||| x*2^s%B=v+x*2^s%B:=by
  rw[hm,Nat.or_comm,<- Nat.two_pow_add_eq_or_of_lt hv,Nat.add_comm]
 rw[this,w32];exact congrArg Int.ofNat (Nat.mod_eq_of_lt hsum)
theorem shl_wide {s x:Nat} (hs:s<32) (hx:x<B):IntKind.wrap .u64 (IntKind.wrap .u64 (x:Int)*2^(min s IntKind.u64.bits))=((x*2^s:Nat):Int)/\x*2^s/B<2^s:=by
 have hp:2^s<=2^31:=Nat.pow_le_pow_right (by decide) (by omega);have hm:x*2^s<=x*2^31:=Nat.mul_le_mul_left _ hp;unfold B at *
 constructor
 ·rw[wU,Nat.mod_eq_of_lt (by omega),show min s IntKind.u64.bits=s from Nat.min_eq_left (show s<=64 by omega)];have:((x:Nat):Int)*2^s=((x*2^s:Nat):Int):=by simp
  rw[this,wU,Nat.mod_eq_of_lt (by omega)]
 ·rw[Nat.div_lt_iff_lt_mul (by decide),Nat.mul_comm];exact Nat.mul_lt_mul_of_pos_left hx (Nat.pow_pos (by decide))
theorem shl_step {o:List Nat} {j s x:Nat} (hs:s<32) (hx:x<B) (hj:j+1<o.length) (ho:∀ y∈o,y<B) (hv:o[j]<2^s) (h0:o[j+1]=0) :
  val ((o.set j (o[j]+x*2^s%B)).set (j+1) (x*2^s/B))=val o+B^j*(x*2^s):=by
 have e1:=val_set (o:=o) (j:=j) (v:=o[j]+x*2^s%B) (by omega);have e2:=val_set (o:=o.set j (o[j]+x*2^s%B)) (j:=j+1) (v:=x*2^s/B) (by simp; omega);have e3:(o.set j (o[j]+x*2^s%B))[j+1]'(by simp; omega)=0:=by rw[List.getElem_set_ne (by omega)]; exact h0
 rw[e3] at e2;have hm:=Nat.mod_add_div (x*2^s) B;have e4:B^j*(x*2^s)=B^j*(x*2^s%B)+B^(j+1)*(x*2^s/B):=by
  conv=>lhs; rw[<- hm]
  rw[Nat.mul_add,Nat.pow_succ,Nat.mul_assoc]
 rw[Nat.mul_add] at e1;omega
def leftN (a n:Nat):Except Nat Nat:=if a=0 then .ok 0 else if n > 16384 then .error eLimbs else fitN (a*2^n)
set_option maxHeartbeats 1000000 in
theorem c_Left (a n:Nat) (ha:a<Big) (hn:n<9223372036854775808):ACalls prog 173 [nat a,i64 n] (resN (leftN a n)):=by
 refine con func173 rfl (by kernel_rfl) ?_;have hA:=len_fit ha;have hda:∀ x∈digs a,x<B:=fun x=>digs_lt
 have hva:val (digs a)=a:=val_digs a;have hnil:digs a=[]↔a=0:=digs_eq_nil;show awp _ _ _ _ (initS [lst (digs a),i64 n]) _;generalize digs a=A at *
 conv=>whnf
 have hneg:decide ((n:Int)<0)=false:=by simp
 rw[hneg];conv=>whnf
 cases hz:(((A.map dg).length:Nat):Int)==0
 case true =>
  have:A=[]:=by simpa using hz
  have:a=0:=by rw[<- hva,this]; rfl
  subst this;conv=>whnf
  have e:leftN 0 n=.ok 0:=by simp[leftN]
  rw[e];exact⟨.sh _ _ rfl le_nil,fin rfl rfl,trivial⟩
 have ha0:a≠0:=by
  intro h;rw[hnil.2 h] at hz;simp at hz
 conv=>whnf
 cases hbig:decide ((n:Int) > 16384)
 case true =>
  have h1:n > 16384:=by simp at hbig; omega
  conv=>whnf
  have e:leftN a n=.error eLimbs:=by simp[leftN,ha0,h1]
  rw[e];exact⟨.sh _ _ rfl le_nil,fin rfl rfl,trivial⟩
 have h1:n<=16384:=by simp at hbig; omega
 have hs:n%32<32:=Nat.mod_lt _ (by decide);have hq:IntKind.wrap .i64 ((n:Int).tdiv 32)=((n/32:Nat):Int):=by
  rw[wI (n:=(n:Int).tdiv 32)] <;> rw[Int.tdiv_eq_ediv_of_nonneg (by omega)] <;> omega
 have hlen:IntKind.wrap .i64 (IntKind.wrap .i64 ((((A.map dg).length:Nat):Int)+IntKind.wrap .i64 ((n:Int).tdiv 32))+1)=((A.length+n/32+1:Nat):Int):=by
  rw[hq,wI (n:=(((A.map dg).length:Nat):Int)+_),wI] <;> simp <;> omega
 conv=>whnf
 rw[hlen];refine⟨⟨by omega,rfl,by simp only[lenLim]; omega⟩,?_⟩;conv=>whnf
 have el:leftN a n=fitN (a*2^n):=by
  unfold leftN;rw[if_neg ha0,if_neg (by omega)]
 rw[el];refine⟨Nat×List Nat,fun q=>q.1<=A.length/\q.2.length=A.length+n/32+1/\(∀ x∈q.2,x<B)/\val q.2=B^(n/32)*(2^(n%32)*val (A.take q.1))/\(∀ y,q.2[q.1+n/32]?=some y->y<2^(n%32))/\∀ x∈q.2.drop (q.1+n/32+1),x=0,
   fun q=>{ fr:=[(1,i64 n),(6,.own (4,6) (A.length+n/32+1)),(27,lst A),(28,i64 A.length),(29,i64 q.1)],st:=[((4,6),⟨207,1,q.2.map dg⟩)],g:=9 },
   fun q=>A.length-q.1,(0,List.replicate (A.length+n/32+1) 0),⟨Nat.zero_le _,by simp,?_,?_,?_,?_⟩,?_,?_⟩
 ·intro x hx;rw[(List.mem_replicate.1 hx).2];exact Bpos
 ·have:val (List.replicate (A.length+n/32+1) 0)=val ((List.replicate (A.length+n/32+1) 0).take 0):=(val_take (by simp)).symm;rw[this];simp[val]
 ·intro y hy;have:y=0:=(List.mem_replicate.1 (List.mem_of_getElem? hy)).2;rw[this];exact Nat.pow_pos (by decide)
 ·intro x hx;exact (List.mem_replicate.1 (List.mem_of_mem_drop hx)).2
 ·refine⟨trivial,⟨x_R,x_R,x_R,x_E (by simp),x_R,trivial⟩,⟨.same ?_ (ltL_dg _),x_N,x_L⟩,trivial⟩;refine congrArg (fun z=>some (Row.mk 207 1 z)) ?_;rw[List.map_replicate];rfl
 rintro⟨i,o⟩ ⟨k1,k2,k3,k4,k5,k6⟩;dsimp only at k1 k2 k3 k4 k5 k6 ⊢;conv=>whnf
 cases hb:decide ((i:Int)<(A.length:Int))
 ·have hi:i=A.length:=by simp at hb; omega
  conv=>whnf
  have hv:val o=a*2^n:=by
   rw[k4,hi,List.take_of_length_le (Nat.le_refl _),hva,<- Nat.mul_assoc,Nat.mul_comm];congr 1;rw[show B^(n/32)=2^(32*(n/32)) by rw[Nat.pow_mul]; rfl,<- Nat.pow_add,Nat.div_add_mod]
  have hc:=c_fits o k3 (by omega);rw[hv] at hc;refine callL [(4,6)] [lst o] ⟨⟨_,rfl⟩,trivial⟩ ⟨.own2 (.head _) rfl (by simp[k2]) (closedL_dg _) rfl,trivial⟩ hc (closed_resN (fitN (a*2^n))) ?_;cases fitN (a*2^n) <;> (conv=>whnf) <;> exact⟨.sh _ _ rfl (.refl _),.sh _ _ rfl (.refl _),trivial⟩
 ·have hi:i<A.length:=by simpa using hb
  have hx:A[i]<B:=hda _ (List.getElem_mem hi);have hj1:i+n/32+1<o.length:=by omega
  have hj:i+n/32<o.length:=by omega
  have hv:=k5 o[i+n/32] (by simp[hj]);have h0:o[i+n/32+1]=0:=by
   refine k6 _ ?_;rw[List.drop_eq_getElem_cons hj1];exact .head _
  obtain⟨w1,w2⟩:=shl_wide hs hx;obtain⟨r1,r2⟩:=or_low hs hv hx;have hji:IntKind.wrap .i64 ((i:Int)+IntKind.wrap .i64 ((n:Int).tdiv 32))=((i+n/32:Nat):Int):=by rw[hq,wI] <;> omega
  conv=>whnf
  refine⟨dg A[i],⟨by omega,get_dg hi,rfl,rfl⟩,?_⟩;conv=>whnf
  have hji1:IntKind.wrap .i64 (IntKind.wrap .i64 ((i:Int)+IntKind.wrap .i64 ((n:Int).tdiv 32))+1)=((i+n/32+1:Nat):Int):=by rw[hji,wI] <;> omega
  have elow:IntKind.wrap .u32 (IntKind.wrap .u64 (IntKind.wrap .u64 ((A[i]:Nat):Int)*2^(min (n%32) IntKind.u64.bits)))=((A[i]*2^(n%32)%B:Nat):Int):=by rw[w1,w32]; rfl
  have ehigh:AV.lit (.int .u32 (IntKind.wrap .u32 ((IntKind.wrap .u64 (IntKind.wrap .u64 ((A[i]:Nat):Int)*2^(min (n%32) IntKind.u64.bits))).fdiv (2^(min 32 IntKind.u64.bits)))))=dg (A[i]*2^(n%32)/B):=by
   rw[w1,fdiv_B,dgE,Nat.mod_eq_of_lt];exact Nat.lt_of_lt_of_le w2 (Nat.pow_le_pow_right (by decide) (by omega:n%32<=32))
  have row1:(o.map dg).set (IntKind.wrap .i64 ((i:Int)+IntKind.wrap .i64 ((n:Int).tdiv 32))).toNat (AV.lit (.int .u32 (IntKind.wrap .u32 (((BitVec.ofInt IntKind.u32.bits ((o[i+n/32]:Nat):Int) ||| BitVec.ofInt IntKind.u32.bits (IntKind.wrap .u32 (IntKind.wrap .u64 (IntKind.wrap .u64 ((A[i]:Nat):Int)*2^(min (n%32) IntKind.u64.bits))))).toNat:Nat):Int))))=(o.set (i+n/32) (o[i+n/32]+A[i]*2^(n%32)%B)).map dg:=by
   rw[elow,r1,hji];exact set_dg
  refine⟨⟨rfl,rfl⟩,⟨by omega,by omega⟩,?_⟩;conv=>whnf
  refine elA_mk (dg o[i+n/32]) (by rw[hji]; exact get_dg hj) ?_;conv=>whnf
  refine⟨⟨rfl,rfl⟩,⟨by omega,by omega⟩,?_⟩;conv=>whnf
  refine elA_mk (dg o[i+n/32]) (by rw[hji]; exact get_dg hj) ?_;conv=>whnf
  refine⟨⟨rfl,rfl⟩,⟨by omega,by omega⟩,?_⟩;conv=>whnf
  refine elA_mk (dg 0) ((congrArg (fun z=>z[(IntKind.wrap .i64 (IntKind.wrap .i64 ((i:Int)+IntKind.wrap .i64 ((n:Int).tdiv 32))+1)).toNat]?) row1).trans (by
   simp only[hji1];rw[get_dg (by simp; omega),List.getElem_set_ne (by omega),h0])) ?_
  conv=>whnf
  refine⟨(i+1,(o.set (i+n/32) (o[i+n/32]+A[i]*2^(n%32)%B)).set (i+n/32+1) (A[i]*2^(n%32)/B)),⟨hi,by simp[k2],lt_set (lt_set k3 r2) ?_,?_,?_,?_⟩,⟨trivial,⟨x_R,x_R,x_R,x_R,x_E ?_,trivial⟩,⟨.same ?_ (ltL_dg _),x_N,x_L⟩,trivial⟩,?_⟩
  ·exact Nat.lt_of_lt_of_le w2 (Nat.pow_le_pow_right (by decide) (by omega:n%32<=32))
  ·show val _=B^(n/32)*(2^(n%32)*val (A.take (i+1)))
   rw[shl_step hs hx hj1 k3 hv h0,k4,val_take_succ hi,Nat.mul_add,Nat.mul_add];congr 1;rw[Nat.add_comm i,Nat.pow_add,Nat.mul_assoc];congr 1;rw[Nat.mul_comm A[i],Nat.mul_left_comm]
  ·intro y hy;dsimp only at hy;rw[show i+1+n/32=i+n/32+1 by omega,List.getElem?_set_self (by simp; omega)] at hy;cases hy;exact w2
  ·intro x hx;dsimp only at hx;rw[List.drop_set_of_lt (by omega),List.drop_set_of_lt (by omega)] at hx;refine k6 x ?_;rw[List.drop_eq_getElem_cons hj1];exact .tail _ (by rwa [show i+1+n/32+1=i+n/32+1+1 by omega] at hx)
  ·exact wI (n:=(i:Int)+1) (by omega) (by omega)
  ·refine congrArg (fun z=>some (Row.mk 207 1 z)) ?_;refine (congrArg (fun z=>z.set (IntKind.wrap .i64 (IntKind.wrap .i64 ((i:Int)+IntKind.wrap .i64 ((n:Int).tdiv 32))+1)).toNat (AV.lit (.int .u32 (IntKind.wrap .u32 ((IntKind.wrap .u64 (IntKind.wrap .u64 ((A[i]:Nat):Int)*2^(min (n%32) IntKind.u64.bits))).fdiv (2^(min 32 IntKind.u64.bits))))))) row1).trans ?_;simp only[ehigh,hji1];exact set_dg
  ·show A.length-(i+1)<A.length-i;omega
end
section
open Go Go.RowKit Go.Proofs.Tryz
def padD:Nat->Nat->List Nat
 |0,_=>[]
 |k+1,n=>n%B::padD k (n/B)
theorem padD_length:∀ (k n:Nat),(padD k n).length=k
 |0,_=>rfl
 |k+1,n=>by simp[padD,padD_length k]
theorem padD_lt:∀ {k n x:Nat},x∈padD k n->x<B
 |0,_,_,h=>by simp[padD] at h
 |k+1,n,x,h=>by
  simp only[padD,List.mem_cons] at h;rcases h with rfl | h
  ·exact Nat.mod_lt _ Bpos
  ·exact padD_lt h
theorem padD_val:∀ {l:List Nat},(∀ x∈l,x<B)->padD l.length (val l)=l
 |[],_=>rfl
 |x::l,h=>by
  have hx:=h x (by simp);simp only[List.length_cons,padD,val];rw[Nat.add_mul_mod_self_left,Nat.mod_eq_of_lt hx,Nat.add_mul_div_left _ _ Bpos,Nat.div_eq_of_lt hx,Nat.zero_add,padD_val fun y hy=>h y (by simp[hy])]
theorem val_padD:∀ {k n:Nat},n<B^k->val (padD k n)=n
 |0,n,h=>by simp at h; subst h; rfl
 |k+1,n,h=>by
  rw[padD,val,val_padD ((Nat.div_lt_iff_lt_mul Bpos).2 (by rwa [Nat.pow_succ] at h))];exact Nat.mod_add_div n B
set_option maxHeartbeats 1000000 in
theorem c_moved (A:List Nat) (s:Nat) (hA:A.length<=600) (hda:∀ x∈A,x<B) (hs:s<32):ACallsO prog 272 [lst A,i64 s] ⟨207,1,(padD (A.length+1) (val A*2^s)).map dg⟩:=by
 refine conO func272 rfl (by kernel_rfl) ?_;have hlen:IntKind.wrap .i64 ((((A.map dg).length:Nat):Int)+1)=((A.length+1:Nat):Int):=by rw[wI] <;> simp <;> omega
 conv=>whnf
 rw[hlen];refine⟨⟨by omega,rfl,by simp only[lenLim]; omega⟩,?_⟩;conv=>whnf
 refine⟨Nat×List Nat,fun q=>q.1<=A.length/\q.2.length=A.length+1/\(∀ x∈q.2,x<B)/\val q.2=2^s*val (A.take q.1)/\(∀ y,q.2[q.1]?=some y->y<2^s)/\∀ x∈q.2.drop (q.1+1),x=0,
   fun q=>{ fr:=[(1,i64 s),(5,.own (1,3) (A.length+1)),(13,lst A),(14,i64 A.length),(15,i64 q.1)],st:=[((1,3),⟨207,1,q.2.map dg⟩)],g:=9 },
   fun q=>A.length-q.1,(0,List.replicate (A.length+1) 0),⟨Nat.zero_le _,by simp,?_,?_,?_,?_⟩,?_,?_⟩
 ·intro x hx;rw[(List.mem_replicate.1 hx).2];exact Bpos
 ·have:val (List.replicate (A.length+1) 0)=val ((List.replicate (A.length+1) 0).take 0):=(val_take (by simp)).symm;rw[this];simp[val]
 ·intro y hy;have:y=0:=(List.mem_replicate.1 (List.mem_of_getElem? hy)).2;rw[this];exact Nat.pow_pos (by decide)
 ·intro x hx;exact (List.mem_replicate.1 (List.mem_of_mem_drop hx)).2
 ·refine⟨trivial,⟨x_R,x_R,x_R,x_E (by simp),x_R,trivial⟩,⟨.same ?_ (ltL_dg _),x_N,x_L⟩,trivial⟩;refine congrArg (fun z=>some (Row.mk 207 1 z)) ?_;rw[List.map_replicate];rfl
 rintro⟨i,o⟩ ⟨k1,k2,k3,k4,k5,k6⟩;dsimp only at k1 k2 k3 k4 k5 k6 ⊢;conv=>whnf
 cases hb:decide ((i:Int)<(A.length:Int))
 ·have hi:i=A.length:=by simp at hb; omega
  conv=>whnf
  have e:o=padD (A.length+1) (val A*2^s):=by
   rw[<- k2,Nat.mul_comm];have:=padD_val k3;rw[k4,hi,List.take_of_length_le (Nat.le_refl _)] at this;exact this.symm
  refine⟨(1,3),?_,?_,?_⟩
  ·rw[<- e];exact congrArg (AV.own (1,3)) (by simp[k2])
  ·rw[<- e];rfl
  ·intro x hx;obtain⟨y,_,rfl⟩:=List.mem_map.1 hx;rfl
 ·have hi:i<A.length:=by simpa using hb
  have hx:A[i]<B:=hda _ (List.getElem_mem hi);have hj1:i+1<o.length:=by omega
  have hj:i<o.length:=by omega
  have hv:=k5 o[i] (by simp[hj]);have h0:o[i+1]=0:=by
   refine k6 _ ?_;rw[List.drop_eq_getElem_cons hj1];exact .head _
  obtain⟨w1,w2⟩:=shl_wide hs hx;obtain⟨r1,r2⟩:=or_low hs hv hx;conv=>whnf
  refine⟨dg A[i],⟨by omega,get_dg hi,rfl,rfl⟩,?_⟩;conv=>whnf
  have hji1:IntKind.wrap .i64 ((i:Int)+1)=((i+1:Nat):Int):=by rw[wI] <;> omega
  have elow:IntKind.wrap .u32 (IntKind.wrap .u64 (IntKind.wrap .u64 ((A[i]:Nat):Int)*2^(min s IntKind.u64.bits)))=((A[i]*2^s%B:Nat):Int):=by rw[w1,w32]; rfl
  have ehigh:AV.lit (.int .u32 (IntKind.wrap .u32 ((IntKind.wrap .u64 (IntKind.wrap .u64 ((A[i]:Nat):Int)*2^(min s IntKind.u64.bits))).fdiv (2^(min 32 IntKind.u64.bits)))))=dg (A[i]*2^s/B):=by
   rw[w1,fdiv_B,dgE,Nat.mod_eq_of_lt];exact Nat.lt_of_lt_of_le w2 (Nat.pow_le_pow_right (by decide) (by omega:s<=32))
  have row1:(o.map dg).set ((i:Int)).toNat (AV.lit (.int .u32 (IntKind.wrap .u32 (((BitVec.ofInt IntKind.u32.bits ((o[i]:Nat):Int) ||| BitVec.ofInt IntKind.u32.bits (IntKind.wrap .u32 (IntKind.wrap .u64 (IntKind.wrap .u64 ((A[i]:Nat):Int)*2^(min s IntKind.u64.bits))))).toNat:Nat):Int))))=(o.set (i) (o[i]+A[i]*2^s%B)).map dg:=by
   rw[elow,r1];exact set_dg
  refine⟨⟨rfl,rfl⟩,⟨by omega,by omega⟩,?_⟩;conv=>whnf
  refine elA_mk (dg o[i]) (get_dg hj) ?_;conv=>whnf
  refine⟨⟨rfl,rfl⟩,⟨by omega,by omega⟩,?_⟩;conv=>whnf
  refine elA_mk (dg o[i]) (get_dg hj) ?_;conv=>whnf
  refine⟨⟨rfl,rfl⟩,⟨by omega,by omega⟩,?_⟩;conv=>whnf
  refine elA_mk (dg 0) ((congrArg (fun z=>z[(IntKind.wrap .i64 ((i:Int)+1)).toNat]?) row1).trans (by
   simp only[hji1];rw[get_dg (by simp; omega),List.getElem_set_ne (by omega),h0])) ?_
  conv=>whnf
  refine⟨(i+1,(o.set (i) (o[i]+A[i]*2^s%B)).set (i+1) (A[i]*2^s/B)),⟨hi,by simp[k2],lt_set (lt_set k3 r2) ?_,?_,?_,?_⟩,⟨trivial,⟨x_R,x_R,x_R,x_R,x_E ?_,trivial⟩,⟨.same ?_ (ltL_dg _),x_N,x_L⟩,trivial⟩,?_⟩
  ·exact Nat.lt_of_lt_of_le w2 (Nat.pow_le_pow_right (by decide) (by omega:s<=32))
  ·show val _=2^s*val (A.take (i+1));rw[shl_step hs hx hj1 k3 hv h0,k4,val_take_succ hi,Nat.mul_add];congr 1;rw[Nat.mul_comm A[i],Nat.mul_left_comm]
  ·intro y hy;dsimp only at hy;rw[List.getElem?_set_self (by simp; omega)] at hy;cases hy;exact w2
  ·intro x hx;dsimp only at hx;rw[List.drop_set_of_lt (by omega),List.drop_set_of_lt (by omega)] at hx;refine k6 x ?_;rw[List.drop_eq_getElem_cons hj1];exact .tail _ hx
  ·exact wI (n:=(i:Int)+1) (by omega) (by omega)
  ·refine congrArg (fun z=>some (Row.mk 207 1 z)) ?_;refine (congrArg (fun z=>z.set (IntKind.wrap .i64 ((i:Int)+1)).toNat (AV.lit (.int .u32 (IntKind.wrap .u32 ((IntKind.wrap .u64 (IntKind.wrap .u64 ((A[i]:Nat):Int)*2^(min s IntKind.u64.bits))).fdiv (2^(min 32 IntKind.u64.bits))))))) row1).trans ?_;simp only[ehigh,hji1];exact set_dg
  ·show A.length-(i+1)<A.length-i;omega
end
section
open Go Go.RowKit Go.Proofs.Tryz
theorem padD_succ:∀ (k n:Nat),padD (k+1) n=padD k n++[n/B^k%B]
 |0,n=>by simp[padD]
 |k+1,n=>by
  rw[padD,padD_succ k (n/B),padD,Nat.div_div_eq_div_mul,Nat.pow_succ,Nat.mul_comm];rfl
theorem or64 {x y:Nat} (hx:x<B) (hy:y<B):IntKind.wrap .u64 (((BitVec.ofInt IntKind.u64.bits (x:Int) ||| BitVec.ofInt IntKind.u64.bits ((y*B:Nat):Int)).toNat:Nat):Int)=((x+B*y:Nat):Int):=by
 have b:∀ z:Nat,z<18446744073709551616->(BitVec.ofInt IntKind.u64.bits (z:Int)).toNat=z:=fun z hz=>by
  show (BitVec.ofInt 64 (z:Int)).toNat=z;rw[BitVec.ofInt_natCast,BitVec.toNat_ofNat];exact Nat.mod_eq_of_lt hz
 have h:x ||| y*B=x+B*y:=by
  rw[Nat.or_comm,Nat.mul_comm y B];exact (Nat.two_pow_add_eq_or_of_lt (i:=32) hx y).symm.trans (Nat.add_comm _ _)
 unfold B at hx hy;rw[BitVec.toNat_or,b x (by omega),b _ (by unfold B; omega),h,wU];unfold B;exact congrArg Int.ofNat (Nat.mod_eq_of_lt (by omega))
theorem drop_val {l:List Nat} {k:Nat} (h:∀ x∈l,x<B):val l/B^k=val (l.drop k):=by
 rcases Nat.le_total k l.length with hk | hk
 ·have e:val l=val (l.take k++l.drop k):=by rw[List.take_append_drop]
  have hlt:=val_lt (l:=l.take k) fun x hx=>h x (List.mem_of_mem_take hx)
  rw[List.length_take,Nat.min_eq_left hk] at hlt;rw[e,val_append,List.length_take,Nat.min_eq_left hk,Nat.add_mul_div_left _ _ (Nat.pow_pos Bpos),Nat.div_eq_of_lt hlt,Nat.zero_add]
 ·rw[List.drop_eq_nil_of_le hk,Nat.div_eq_of_lt]
  ·rfl
  ·exact Nat.lt_of_lt_of_le (val_lt h) (Nat.pow_le_pow_right Bpos hk)
theorem right_digit {l:List Nat} {n i:Nat} (h:∀ x∈l,x<B) (hi:i+n/32<l.length) :
  val l/2^n/B^i%B=(l[i+n/32]+B*(l[i+n/32+1]?).getD 0)/2^(n%32)%B:=by
 have e1:val l/2^n/B^i=val (l.drop (i+n/32))/2^(n%32):=by
  rw[<- drop_val h,Nat.div_div_eq_div_mul,Nat.div_div_eq_div_mul];congr 1;have:2^n=B^(n/32)*2^(n%32):=by
   rw[show B^(n/32)=2^(32*(n/32)) by rw[Nat.pow_mul]; rfl,<- Nat.pow_add,Nat.div_add_mod]
  rw[this,Nat.pow_add,Nat.mul_comm,Nat.mul_assoc]
 rw[e1,List.drop_eq_getElem_cons hi,val];have hP:B=2^(n%32)*2^(32-n%32):=by rw[<- Nat.pow_add,Nat.add_sub_cancel' (by omega)]; rfl
 have key:∀ V y:Nat,(l[i+n/32]+B*(y+B*V))/2^(n%32)%B=(l[i+n/32]+B*y)/2^(n%32)%B:=by
  intro V y;have:l[i+n/32]+B*(y+B*V)=(l[i+n/32]+B*y)+2^(n%32)*(B*(2^(32-n%32)*V)):=by
   have:B*(B*V)=2^(n%32)*(B*(2^(32-n%32)*V)):=by
    have hW:∀ W:Nat,B*W=2^(n%32)*(2^(32-n%32)*W):=fun W=>by rw[<- Nat.mul_assoc,<- hP]
    rw[hW (B*V),Nat.mul_left_comm (2^(32-n%32)) B V]
   rw[Nat.mul_add,this];omega
  rw[this,Nat.add_mul_div_left _ _ (Nat.pow_pos (by decide)),Nat.add_mul_mod_self_left]
 rcases Nat.lt_or_ge (i+n/32+1) l.length with h1 | h1
 ·rw[List.drop_eq_getElem_cons h1,val,key,List.getElem?_eq_getElem h1];rfl
 ·rw[List.drop_eq_nil_of_le h1,List.getElem?_eq_none h1];rfl
set_option maxHeartbeats 1000000 in
theorem c_Right (a n:Nat) (ha:a<Big) (hn:n<9223372036854775808):ACalls prog 265 [nat a,i64 n] (resN (.ok (a/2^n))):=by
 refine con func265 rfl (by kernel_rfl) ?_;have hA:=len_fit ha;have hda:∀ x∈digs a,x<B:=fun x=>digs_lt
 have hva:val (digs a)=a:=val_digs a;show awp _ _ _ _ (initS [lst (digs a),i64 n]) _;generalize digs a=A at *
 conv=>whnf
 have hneg:decide ((n:Int)<0)=false:=by simp
 rw[hneg];have hq:IntKind.wrap .i64 ((n:Int).tdiv 32)=((n/32:Nat):Int):=by
  rw[wI (n:=(n:Int).tdiv 32)] <;> rw[Int.tdiv_eq_ediv_of_nonneg (by omega)] <;> omega
 conv=>whnf
 refine Br.mk (fun h=>?_) (fun h=>?_)
 ·have h1:A.length<=n/32:=by
   rw[hq] at h;simp at h;omega
  have h2:a/2^n=0:=by
   have hlt:=val_lt hda;rw[hva] at hlt;refine Nat.div_eq_of_lt (Nat.lt_of_lt_of_le hlt ?_);rw[show B^A.length=2^(32*A.length) by rw[Nat.pow_mul]; rfl];exact Nat.pow_le_pow_right (by decide) (by omega)
  rw[h2];conv=>whnf
  exact⟨.sh _ _ rfl le_nil,fin rfl rfl,trivial⟩
 have h1:n/32<A.length:=by
  rw[hq] at h;simp at h;omega
 have hlen:IntKind.wrap .i64 ((((A.map dg).length:Nat):Int)-IntKind.wrap .i64 ((n:Int).tdiv 32))=((A.length-n/32:Nat):Int):=by
  rw[hq,wI] <;> simp <;> omega
 conv=>whnf
 rw[hlen];refine⟨⟨by omega,rfl,by simp only[lenLim]; omega⟩,?_⟩;conv=>whnf
 obtain⟨R,hR⟩:∃ R,a/2^n=R:=⟨_,rfl⟩
 have hRb:R<B^(A.length-n/32):=by
  have hlt:=val_lt hda;rw[hva] at hlt;rw[<- hR,Nat.div_lt_iff_lt_mul (Nat.pow_pos (by decide))];refine Nat.lt_of_lt_of_le hlt ?_;have:2^n=B^(n/32)*2^(n%32):=by
   rw[show B^(n/32)=2^(32*(n/32)) by rw[Nat.pow_mul]; rfl,<- Nat.pow_add,Nat.div_add_mod]
  rw[this,<- Nat.mul_assoc,<- Nat.pow_add,Nat.sub_add_cancel (by omega)];exact Nat.le_mul_of_pos_right _ (Nat.pow_pos (by decide))
 refine⟨Nat,fun i=>i<=A.length-n/32,
   fun i=>{ fr:=[(0,lst A),(1,i64 n),(6,.own (3,5) (A.length-n/32)),(23,i64 ((A.length-n/32:Nat):Int)),(24,i64 i)],st:=[((3,5),⟨207,1,(padD i R++List.replicate (A.length-n/32-(padD i R).length) 0).map dg⟩)],g:=9 },
   fun i=>A.length-n/32-i,0,Nat.zero_le _,?_,?_⟩
 ·refine⟨trivial,⟨x_R,x_R,x_R,x_R,x_R,trivial⟩,⟨.same ?_ (ltL_dg _),x_N,x_L⟩,trivial⟩;refine congrArg (fun z=>some (Row.mk 207 1 z)) ?_;show List.replicate (A.length-n/32) _=List.map dg (List.replicate (A.length-n/32) 0);rw[List.map_replicate];rfl
 intro i k1;conv=>whnf
 cases hb:decide ((i:Int)<((A.length-n/32:Nat):Int))
 ·have hi:i=A.length-n/32:=by simp at hb; omega
  conv=>whnf
  have hc:=c_fits (padD i R) (fun x=>padD_lt) (by rw[padD_length]; omega);rw[hi,val_padD hRb,fitN_ok (Nat.lt_of_le_of_lt (by rw[<- hR]; exact Nat.div_le_self _ _) ha)] at hc;have e2:(padD i R++List.replicate (A.length-n/32-(padD i R).length) 0).map dg=(padD (A.length-n/32) R).map dg:=by
   rw[padD_length,hi,Nat.sub_self];simp
  rw[hR];refine callL [(3,5)] [lst (padD (A.length-n/32) R)] ⟨⟨_,rfl⟩,trivial⟩ ⟨.own2 (.head _) rfl ?_ ?_ e2,trivial⟩ hc rfl ?_
  ·exact (congrArg List.length e2).trans (by simp[padD_length])
  ·exact (congrArg AV.closedL e2).trans (closedL_dg _)
  conv=>whnf
  exact⟨fin rfl rfl,fin rfl rfl,trivial⟩
 ·have hi:i<A.length-n/32:=by simpa using hb
  have hj:i+n/32<A.length:=by omega
  have hx:A[i+n/32]<B:=hda _ (List.getElem_mem hj);have hji:IntKind.wrap .i64 ((i:Int)+IntKind.wrap .i64 ((n:Int).tdiv 32))=((i+n/32:Nat):Int):=by rw[hq,wI] <;> omega
  have hji1:IntKind.wrap .i64 (IntKind.wrap .i64 ((i:Int)+IntKind.wrap .i64 ((n:Int).tdiv 32))+1)=((i+n/32+1:Nat):Int):=by rw[hji,wI] <;> omega
  have hd:=right_digit (n:=n) (i:=i) hda hj;rw[hva,hR] at hd;have done:∀ (y:Nat) (T:Int),T=((A[i+n/32]+B*y:Nat):Int)->(A[i+n/32+1]?).getD 0=y ->
    (((padD i R++List.replicate (A.length-n/32-(padD i R).length) 0).map dg).set ((i:Int).toNat) (AV.lit (.int .u32 (IntKind.wrap .u32 (T.fdiv (2^(min (n%32) IntKind.u64.bits)))))))=(padD (i+1) R++List.replicate (A.length-n/32-(padD (i+1) R).length) 0).map dg:=by
   rintro y T rfl hy;rw[show min (n%32) IntKind.u64.bits=n%32 from Nat.min_eq_left (show n%32<=64 by omega),fdivP,dgE,<- hy,<- hd,padD_succ];have:=setRow (l:=padD i R) (m:=A.length-n/32) (v:=R/B^i%B) (by rw[padD_length]; exact hi);rw[padD_length] at this;rw[padD_length];exact this
  have stp:∀ (y:Nat) (T:Int),T=((A[i+n/32]+B*y:Nat):Int)->(A[i+n/32+1]?).getD 0=y->True:=fun _ _ _ _=>trivial
  have getz:((padD i R++List.replicate (A.length-n/32-(padD i R).length) 0).map dg)[(i:Int).toNat]?=some (dg 0):=by
   have:=getRow (l:=padD i R) (m:=A.length-n/32) (by rw[padD_length]; exact hi);rw[padD_length] at this ⊢;exact this
  conv=>whnf
  refine⟨dg A[i+n/32],⟨by omega,by rw[hji]; exact get_dg hj,rfl,rfl⟩,?_⟩;conv=>whnf
  refine Br.mk (fun h2=>?_) (fun h2=>?_)
  ·have hj1:i+n/32+1<A.length:=by
    rw[hji1] at h2;simp at h2;omega
   have hy:A[i+n/32+1]<B:=hda _ (List.getElem_mem hj1);conv=>whnf
   refine⟨dg A[i+n/32+1],⟨by omega,by rw[hji1]; exact get_dg hj1,rfl,rfl⟩,?_⟩;conv=>whnf
   refine⟨⟨rfl,rfl⟩,⟨by omega,by omega⟩,?_⟩;conv=>whnf
   refine elA_mk (dg 0) getz ?_;conv=>whnf
   refine⟨i+1,hi,⟨trivial,⟨x_R,x_R,x_R,x_R,x_E (wI (n:=(i:Int)+1) (by omega) (by omega)),trivial⟩,⟨.same ?_ (ltL_dg _),x_N,x_L⟩,trivial⟩,(by omega:A.length-n/32-(i+1)<A.length-n/32-i)⟩;refine congrArg (fun z=>some (Row.mk 207 1 z)) (done A[i+n/32+1] _ ?_ (by simp[hj1]));have u:∀ x:Nat,x<B->IntKind.wrap .u64 (x:Int)=(x:Int):=fun x hx=>by rw[wU,Nat.mod_eq_of_lt (by unfold B at hx; omega)]
   rw[u _ hx,u _ hy];have:IntKind.wrap .u64 (((A[i+n/32+1]:Nat):Int)*2^(min 32 IntKind.u64.bits))=((A[i+n/32+1]*B:Nat):Int):=by
    rw[show ((A[i+n/32+1]:Nat):Int)*2^(min 32 IntKind.u64.bits)=((A[i+n/32+1]*B:Nat):Int) by rw[Int.natCast_mul]; rfl,wU,Nat.mod_eq_of_lt (by unfold B at *; omega)]
   rw[this];exact or64 hx hy
  ·have hj1:A.length<=i+n/32+1:=by
    rw[hji1] at h2;simp at h2;omega
   conv=>whnf
   refine⟨⟨rfl,rfl⟩,⟨by omega,by omega⟩,?_⟩;conv=>whnf
   refine elA_mk (dg 0) getz ?_;conv=>whnf
   refine⟨i+1,hi,⟨trivial,⟨x_R,x_R,x_R,x_R,x_E (wI (n:=(i:Int)+1) (by omega) (by omega)),trivial⟩,⟨.same ?_ (ltL_dg _),x_N,x_L⟩,trivial⟩,(by omega:A.length-n/32-(i+1)<A.length-n/32-i)⟩;refine congrArg (fun z=>some (Row.mk 207 1 z)) (done 0 _ ?_ (by simp[List.getElem?_eq_none hj1]));rw[wU,Nat.mod_eq_of_lt (by unfold B at hx; omega)];simp
end
section
open Go Go.RowKit Go.Proofs.Tryz
theorem elB_dg {l:List Nat}:∀ v∈l.map dg,elB 1 v=true:=fun v hv=>by
 obtain⟨x,_,rfl⟩:=List.mem_map.1 hv;rfl
theorem c_CloneL (l:List Nat) (hl:l.length<=1099511627776):ACalls prog 121 [lst l] (lst l):=by
 refine ACalls.nilOr (pre:=[]) (post:=[]) (fun h=>?_) ?_
 ·refine con func121 rfl (by kernel_rfl) ?_;conv=>whnf
  have:l=[]:=by simpa using h
  subst this;refine⟨trivial,?_⟩;conv=>whnf
  exact .sh _ _ rfl .nil
 ·refine con func121 rfl (by kernel_rfl) ?_;conv=>whnf
  refine⟨trivial,?_⟩;conv=>whnf
  refine⟨⟨rfl,rfl,rfl,?_,elB_dg⟩,?_⟩
  ·simp only[lenLim,List.length_map];omega
  conv=>whnf
  exact .own2 trivial rfl (by simp) (closedL_dg _) rfl
theorem c_Clone (n:Nat) (h:n<Big):ACalls prog 121 [nat n] (nat n):=c_CloneL (digs n) (by have:=len_fit h; omega)
end
section
open Go Go.RowKit Go.Proofs.Tryz
theorem conM {f:FuncId} {fn:Func} {c:Code} {args:List AV} {rows rows':List Row} {res:AV} (hf:prog.funcs[f]?=some fn) (hb:fn.body=some c)
  (hc:((fn.name == "runtime.NumGoroutine")==false&&codeN fn.ntmps c&&Nat.ble args.length fn.ntmps&&Nat.beq rows.length rows'.length)=true)
  (h:awp prog ty fn.ntmps c (initM args rows) (resM ty fn.results.toList res rows')):ACallsM prog f args rows res rows':=ACallsM.of ty_ok hm hf hb hc h
theorem padD_add:∀ (k n t:Nat),padD k (n+B^k*t)=padD k n
 |0,_,_=>rfl
 |k+1,n,t=>by
  have e:n+B^(k+1)*t=n+B*(B^k*t):=by rw[Nat.pow_succ,Nat.mul_comm (B^k) B,Nat.mul_assoc]
  rw[padD,padD,e,Nat.add_mul_mod_self_left,Nat.add_mul_div_left _ _ Bpos,padD_add k]
theorem padD_app {l:List Nat} {t:Nat} (h:∀ x∈l,x<B):padD (l.length+1) (val l+B^l.length*t)=l++[t%B]:=by
 rw[padD_succ,padD_add,padD_val h,Nat.add_mul_div_left _ _ (Nat.pow_pos Bpos),Nat.div_eq_of_lt (val_lt h),Nat.zero_add]
theorem set_mid {pre l r post:List Nat} {x d:Nat}:(pre++(l++x::r)++post).set (pre.length+l.length) d=pre++(l++d::r)++post:=by
 simp[List.set_append_right]
theorem get_mid {pre l r post:List Nat} {x:Nat}:(pre++(l++x::r)++post)[pre.length+l.length]?=some x:=by
 simp[List.getElem?_append_right]
theorem set_midD {pre l r post:List Nat} {x d:Nat}:((pre++(l++x::r)++post).map dg).set (pre.length+((l.length:Nat):Int).toNat) (dg d)=(pre++(l++d::r)++post).map dg:=by
 rw[Int.toNat_natCast,<- List.map_set,set_mid]
theorem get_midD {pre l r post:List Nat} {x:Nat}:((pre++(l++x::r)++post).map dg)[pre.length+((l.length:Nat):Int).toNat]?=some (dg x):=by
 rw[Int.toNat_natCast,List.getElem?_map,get_mid];rfl
theorem c_back (u v pre post:List Nat) (hu:u.length=v.length+1) (hul:∀ x∈u,x<B) (hvl:∀ x∈v,x<B) (hv:v.length<100000) (hp:pre.length<100000) :
  ACallsM prog 274 [.osl (0,0) pre.length u.length,lst v] [⟨207,1,(pre++u++post).map dg⟩] (.tup [])
   [⟨207,1,(pre++padD u.length (val u+val v)++post).map dg⟩]:=by
 refine conM func274 rfl (by kernel_rfl) ?_;conv=>whnf
 refine⟨List Nat×Nat,fun q=>q.1.length<=v.length/\(∀ x∈q.1,x<B)/\q.2<=1/\val q.1+q.2*B^q.1.length=val (u.take q.1.length)+val (v.take q.1.length),
   fun q=>{ fr:=[(0,.osl (0,0) pre.length u.length),(1,lst v),(4,u64 q.2),(7,lst v),(8,i64 v.length),(9,i64 q.1.length)],st:=[((0,0),⟨207,1,(pre++(q.1++u.drop q.1.length)++post).map dg⟩)],g:=9 },
   fun q=>v.length-q.1.length,([],0),⟨Nat.zero_le _,by simp,by decide,by simp[val]⟩,?_,?_⟩
 ·exact⟨trivial,⟨x_R,x_R,x_R,x_R,x_E (by simp),x_R,trivial⟩,⟨.same rfl (ltL_dg _),x_N,x_L⟩,trivial⟩
 rintro⟨l,c⟩ ⟨h1,h2,h3,h4⟩;dsimp only at h1 h2 h3 h4 ⊢;conv=>whnf
 cases hb:decide ((l.length:Int)<(v.length:Int))
 ·have hll:l.length=v.length:=by simp at hb; omega
  have hm:l.length<u.length:=by omega
  have hux:u[l.length]<B:=hul _ (List.getElem_mem hm);have hidx:((((v.map dg).length:Nat):Int)).toNat=((l.length:Nat):Int).toNat:=by simp[hll]
  have hdrop:u.drop l.length=[u[l.length]]:=by rw[List.drop_eq_getElem_cons hm,List.drop_eq_nil_of_le (by omega)]
  have hgd:((pre++(l++u.drop l.length)++post).map dg)[pre.length+((((v.map dg).length:Nat):Int)).toNat]?=some (dg u[l.length]):=by
   rw[hidx,hdrop];exact get_midD
  have e1:AV.lit (.int .u32 (IntKind.wrap .u32 (((u[l.length]:Nat):Int)+IntKind.wrap .u32 (c:Int))))=dg ((u[l.length]+c)%B):=by
   rw[w32,<- Int.natCast_add,dgE];have:c%4294967296=c:=by omega
   rw[this]
  have e2:padD u.length (val u+val v)=l++[(u[l.length]+c)%B]:=by
   have hv1:val u=val (u.take l.length)+B^l.length*u[l.length]:=by rw[<- val_take_succ hm,List.take_of_length_le (by omega)]
   have hv2:val v=val (v.take l.length):=by rw[List.take_of_length_le (by omega)]
   have e3:val u+val v=val l+B^l.length*(u[l.length]+c):=by
    rw[hv1,hv2,Nat.mul_add,Nat.mul_comm _ c];omega
   rw[e3,show u.length=l.length+1 by omega];exact padD_app h2
  have erow:((pre++(l++u.drop l.length)++post).map dg).set (pre.length+((((v.map dg).length:Nat):Int)).toNat) (AV.lit (.int .u32 (IntKind.wrap .u32 (((u[l.length]:Nat):Int)+IntKind.wrap .u32 (c:Int)))))=(pre++padD u.length (val u+val v)++post).map dg:=by
   rw[e1,hidx,e2,hdrop];exact set_midD
  conv=>whnf
  refine⟨⟨rfl,rfl⟩,⟨by omega,by simp; omega⟩,?_⟩;conv=>whnf
  refine elA_mk (dg u[l.length]) hgd ?_;conv=>whnf
  refine⟨⟨rfl,rfl⟩,⟨by omega,by simp; omega⟩,?_⟩;conv=>whnf
  refine elA_mk (dg u[l.length]) hgd ?_;conv=>whnf
  exact⟨trivial,⟨congrArg (fun z=>some (Row.mk 207 1 z)) erow,closedL_dg _⟩,trivial⟩
 ·have hlt:l.length<v.length:=by simpa using hb
  conv=>whnf
  refine⟨dg v[l.length],⟨by omega,get_dg hlt,rfl,rfl⟩,?_⟩;have hm:l.length<u.length:=by omega
  have hux:u[l.length]<B:=hul _ (List.getElem_mem hm);have hvx:v[l.length]<B:=hvl _ (List.getElem_mem hlt);have hdrop:u.drop l.length=u[l.length]::u.drop (l.length+1):=List.drop_eq_getElem_cons hm;have hgd:((pre++(l++u.drop l.length)++post).map dg)[pre.length+((l.length:Nat):Int).toNat]?=some (dg u[l.length]):=by
   rw[hdrop];exact get_midD
  have uu:∀ x:Nat,x<B->IntKind.wrap .u64 (x:Int)=(x:Int):=fun x hx=>by rw[wU,Nat.mod_eq_of_lt (by unfold B at hx; omega)]
  have ht:IntKind.wrap .u64 ((c:Int)+IntKind.wrap .u64 (IntKind.wrap .u64 ((u[l.length]:Nat):Int)+IntKind.wrap .u64 ((v[l.length]:Nat):Int)))=((c+(u[l.length]+v[l.length]):Nat):Int):=by
   rw[uu _ hux,uu _ hvx,<- Int.natCast_add,wU,Nat.mod_eq_of_lt (by unfold B at hux hvx; omega),<- Int.natCast_add,wU,Nat.mod_eq_of_lt (by unfold B at hux hvx; omega)]
  obtain⟨t,htt⟩:∃ t,c+(u[l.length]+v[l.length])=t:=⟨_,rfl⟩
  rw[htt] at ht;conv=>whnf
  refine⟨⟨rfl,rfl⟩,⟨by omega,by omega⟩,?_⟩;conv=>whnf
  refine elA_mk (dg u[l.length]) hgd ?_;conv=>whnf
  refine⟨⟨rfl,rfl⟩,⟨by omega,by omega⟩,?_⟩;conv=>whnf
  refine elA_mk (dg u[l.length]) hgd ?_;conv=>whnf
  refine⟨(l++[t%B],t/B),⟨by simp; omega,?_,?_,?_⟩,⟨trivial,⟨x_R,x_R,.inl ⟨.of_eq (congrArg (fun z=>AV.lit (.int .u64 z)) ?_),rfl⟩,x_R,x_R,x_E ?_,trivial⟩,⟨.same ?_ (ltL_dg _),x_N,x_L⟩,trivial⟩,?_⟩
  ·intro x hx;simp only[List.mem_append,List.mem_singleton] at hx;rcases hx with hx | rfl
   ·exact h2 x hx
   ·exact Nat.mod_lt _ Bpos
  ·have:t/B<2:=(Nat.div_lt_iff_lt_mul Bpos).2 (by unfold B at *; omega);show t/B<=1;omega
  ·simp only[List.length_append,List.length_cons,List.length_nil,Nat.zero_add];rw[val_take_succ hm,val_take_succ hlt,val_append];simp only[val,Nat.mul_zero,Nat.add_zero];have hm2:=Nat.mod_add_div t B;have e3:B^l.length*(t%B)+B^l.length*(B*(t/B))=B^l.length*c+(B^l.length*u[l.length]+B^l.length*v[l.length]):=by
    rw[<- Nat.mul_add,hm2,<- htt,Nat.mul_add,Nat.mul_add]
   have e4:t/B*B^(l.length+1)=B^l.length*(B*(t/B)):=by rw[Nat.pow_succ,Nat.mul_comm,Nat.mul_assoc]
   rw[e4];rw[Nat.mul_comm c] at h4;omega
  ·rw[ht];exact fdiv_B t
  ·exact (wI (n:=(l.length:Int)+1) (by omega) (by omega)).trans (by simp)
  ·refine congrArg (fun z=>some (Row.mk 207 1 z)) ?_;rw[ht,dgE,hdrop];refine set_midD.trans ?_;simp
  ·show v.length-(l++[t%B]).length<v.length-l.length;simp;omega
end
section
open Go Go.RowKit Go.Proofs.Tryz
theorem sub_digit {x t o:Nat} (hx:x<B) (ht:t<B) (ho:o<=1) :
  ∃ r o',r<B/\o'<=1/\r+(t+o)=x+B*o' /\
   (IntKind.wrap .u64 (IntKind.wrap .u64 ((x:Int)-(t:Int))-(o:Int))).fdiv (2^(min 63 IntKind.u64.bits))=(o':Int) /\
   IntKind.wrap .u32 (IntKind.wrap .u64 (IntKind.wrap .u64 ((x:Int)-(t:Int))-(o:Int)))=(r:Int):=by
 have hw:∀ z:Int,IntKind.wrap .u64 z=z%18446744073709551616:=fun z=>by simp[IntKind.wrap,IntKind.bits,IntKind.signed]
 have hw2:∀ z:Int,IntKind.wrap .u32 z=z%4294967296:=fun z=>by simp[IntKind.wrap,IntKind.bits,IntKind.signed]
 rw[hw,hw,shr63 _ (by omega),hw2];unfold B at *
 by_cases h:t+o<=x
 ·exact⟨x-(t+o),0,by omega,by omega,by omega,by omega,by omega⟩
 ·exact⟨4294967296+x-(t+o),1,by omega,by omega,by omega,by omega,by omega⟩
def lessV (n U T:Nat):Nat:=if T<=U then U-T else B^n+U-T
set_option maxHeartbeats 1000000 in
theorem c_less (u v pre post:List Nat) (d:Nat) (hd:d<B) (hu:u.length=v.length+1) (hul:∀ x∈u,x<B) (hvl:∀ x∈v,x<B) (hv:v.length<100000) (hp:pre.length<100000) :
  ACallsM prog 273 [.osl (0,0) pre.length u.length,lst v,u64 d] [⟨207,1,(pre++u++post).map dg⟩] (boo (decide (val u<d*val v)))
   [⟨207,1,(pre++padD u.length (lessV u.length (val u) (d*val v))++post).map dg⟩]:=by
 refine conM func273 rfl (by kernel_rfl) ?_;conv=>whnf
 refine⟨List Nat×Nat×Nat,fun q=>q.1.length<=v.length/\(∀ x∈q.1,x<B)/\q.2.1<B/\q.2.2<=1/\val (u.take q.1.length)+(q.2.1+q.2.2)*B^q.1.length=val q.1+d*val (v.take q.1.length),
   fun q=>{ fr:=[(0,.osl (0,0) pre.length u.length),(1,lst v),(2,u64 d),(7,u64 q.2.1),(8,u64 q.2.2),(13,lst v),(14,i64 v.length),(15,i64 q.1.length)],st:=[((0,0),⟨207,1,(pre++(q.1++u.drop q.1.length)++post).map dg⟩)],g:=9 },
   fun q=>v.length-q.1.length,([],0,0),⟨Nat.zero_le _,by simp,Bpos,by simp,by simp[val]⟩,?_,?_⟩
 ·exact⟨trivial,⟨x_R,x_R,x_R,x_R,x_R,x_R,x_E (by simp),x_R,trivial⟩,⟨.same rfl (ltL_dg _),x_N,x_L⟩,trivial⟩
 rintro⟨l,c,o⟩ ⟨h1,h2,h3,h3o,h4⟩;dsimp only at h1 h2 h3 h3o h4 ⊢;conv=>whnf
 cases hb:decide ((l.length:Int)<(v.length:Int))
 ·have hll:l.length=v.length:=by simp at hb; omega
  have hm:l.length<u.length:=by omega
  have hux:u[l.length]<B:=hul _ (List.getElem_mem hm);have hidx:((((v.map dg).length:Nat):Int)).toNat=((l.length:Nat):Int).toNat:=by simp[hll]
  have hdrop:u.drop l.length=[u[l.length]]:=by rw[List.drop_eq_getElem_cons hm,List.drop_eq_nil_of_le (by omega)]
  have hgd:((pre++(l++u.drop l.length)++post).map dg)[pre.length+((((v.map dg).length:Nat):Int)).toNat]?=some (dg u[l.length]):=by
   rw[hidx,hdrop];exact get_midD
  have uu:∀ x:Nat,x<B->IntKind.wrap .u64 (x:Int)=(x:Int):=fun x hx=>by rw[wU,Nat.mod_eq_of_lt (by unfold B at hx; omega)]
  obtain⟨r,o',r1,r2,r3,r4,r5⟩:=sub_digit hux h3 h3o;have hv1:val u=val (u.take l.length)+B^l.length*u[l.length]:=by rw[<- val_take_succ hm,List.take_of_length_le (by omega)]
  have hv2:val v=val (v.take l.length):=by rw[List.take_of_length_le (by omega)]
  have hlr:∀ x∈l++[r],x<B:=by
   intro x hx;simp only[List.mem_append,List.mem_singleton] at hx;rcases hx with hx | rfl
   ·exact h2 x hx
   ·exact r1
  have hlen:(l++[r]).length=u.length:=by simp; omega
  have e3:val u+B^u.length*o'=val (l++[r])+d*val v:=by
   have e4:B^l.length*r+B^l.length*(c+o)=B^l.length*u[l.length]+B^u.length*o':=by
    rw[show u.length=l.length+1 by omega,Nat.pow_succ,Nat.mul_assoc,<- Nat.mul_add,<- Nat.mul_add,r3]
   rw[hv1,hv2,val_append];simp only[val,Nat.mul_zero,Nat.add_zero];rw[Nat.mul_comm (c+o)] at h4;omega
  have hlt:=val_lt hlr;rw[hlen] at hlt;have e5:lessV u.length (val u) (d*val v)=val (l++[r])/\decide (val u<d*val v)=((o':Int)==1):=by
   unfold lessV;rcases Nat.eq_zero_or_pos o' with h0 | h0
   ·subst h0;have:d*val v<=val u:=by omega
    rw[if_pos this];exact⟨by omega,by simp; omega⟩
   ·have h1':o'=1:=by omega
    subst h1';have:¬ d*val v<=val u:=by omega
    rw[if_neg this];exact⟨by omega,by simp; omega⟩
  have e2:padD u.length (lessV u.length (val u) (d*val v))=l++[r]:=by
   rw[e5.1,<- hlen];exact padD_val hlr
  have erow:((pre++(l++u.drop l.length)++post).map dg).set (pre.length+((((v.map dg).length:Nat):Int)).toNat) (AV.lit (.int .u32 (IntKind.wrap .u32 (IntKind.wrap .u64 (IntKind.wrap .u64 (IntKind.wrap .u64 ((u[l.length]:Nat):Int)-(c:Int))-(o:Int))))))=(pre++padD u.length (lessV u.length (val u) (d*val v))++post).map dg:=by
   rw[uu _ hux,r5,hidx,e2,hdrop];exact set_midD
  have eres:AV.lit (.bool ((IntKind.wrap .u64 (IntKind.wrap .u64 (IntKind.wrap .u64 ((u[l.length]:Nat):Int)-(c:Int))-(o:Int))).fdiv (2^(min 63 IntKind.u64.bits))==1))=boo (decide (val u<d*val v)):=by
   rw[uu _ hux,r4,e5.2];rfl
  conv=>whnf
  refine⟨⟨rfl,rfl⟩,⟨by omega,by simp; omega⟩,?_⟩;conv=>whnf
  refine elA_mk (dg u[l.length]) hgd ?_;conv=>whnf
  refine⟨⟨rfl,rfl⟩,⟨by omega,by simp; omega⟩,?_⟩;conv=>whnf
  refine elA_mk (dg u[l.length]) hgd ?_;conv=>whnf
  exact⟨fin rfl eres,⟨congrArg (fun z=>some (Row.mk 207 1 z)) erow,closedL_dg _⟩,trivial⟩
 ·have hlt:l.length<v.length:=by simpa using hb
  have hm:l.length<u.length:=by omega
  have hux:u[l.length]<B:=hul _ (List.getElem_mem hm);have hvx:v[l.length]<B:=hvl _ (List.getElem_mem hlt);have hdrop:u.drop l.length=u[l.length]::u.drop (l.length+1):=List.drop_eq_getElem_cons hm;have hgd:((pre++(l++u.drop l.length)++post).map dg)[pre.length+((l.length:Nat):Int).toNat]?=some (dg u[l.length]):=by
   rw[hdrop];exact get_midD
  have uu:∀ x:Nat,x<B->IntKind.wrap .u64 (x:Int)=(x:Int):=fun x hx=>by rw[wU,Nat.mod_eq_of_lt (by unfold B at hx; omega)]
  have hprod:d*v[l.length]<=(B-1)*(B-1):=Nat.mul_le_mul (by omega) (by omega);have hB2:(B-1)*(B-1)+2*(B-1)+1=18446744073709551616:=by decide
  have ht:IntKind.wrap .u64 ((c:Int)+IntKind.wrap .u64 ((d:Int)*IntKind.wrap .u64 ((v[l.length]:Nat):Int)))=((c+d*v[l.length]:Nat):Int):=by
   rw[uu _ hvx,<- Int.natCast_mul,wU,Nat.mod_eq_of_lt (by omega),<- Int.natCast_add,wU,Nat.mod_eq_of_lt (by omega)]
  have hq:(c+d*v[l.length])/B<B:=(Nat.div_lt_iff_lt_mul Bpos).2 (by unfold B at *; omega);obtain⟨t,htt⟩:∃ t,c+d*v[l.length]=t:=⟨_,rfl⟩
  rw[htt] at ht hq;have hlow:IntKind.wrap .u64 (IntKind.wrap .u32 (t:Int))=((t%B:Nat):Int):=by
   rw[w32];exact uu _ (Nat.mod_lt _ Bpos)
  obtain⟨r,o',r1,r2,r3,r4,r5⟩:=sub_digit hux (Nat.mod_lt t Bpos) h3o;conv=>whnf
  refine⟨dg v[l.length],⟨by omega,get_dg hlt,rfl,rfl⟩,?_⟩;conv=>whnf
  refine⟨⟨rfl,rfl⟩,⟨by omega,by omega⟩,?_⟩;conv=>whnf
  refine elA_mk (dg u[l.length]) hgd ?_;conv=>whnf
  refine⟨⟨rfl,rfl⟩,⟨by omega,by omega⟩,?_⟩;conv=>whnf
  refine elA_mk (dg u[l.length]) hgd ?_;conv=>whnf
  refine⟨(l++[r],t/B,o'),⟨by simp; omega,?_,hq,r2,?_⟩,⟨trivial,⟨x_R,x_R,x_R,.inl ⟨.of_eq (congrArg (fun z=>AV.lit (.int .u64 z)) ?_),rfl⟩,.inl ⟨.of_eq (congrArg (fun z=>AV.lit (.int .u64 z)) ?_),rfl⟩,x_R,x_R,x_E ?_,trivial⟩,⟨.same ?_ (ltL_dg _),x_N,x_L⟩,trivial⟩,?_⟩
  ·intro x hx;simp only[List.mem_append,List.mem_singleton] at hx;rcases hx with hx | rfl
   ·exact h2 x hx
   ·exact r1
  ·simp only[List.length_append,List.length_cons,List.length_nil,Nat.zero_add];rw[val_take_succ hm,val_take_succ hlt,val_append];simp only[val,Nat.mul_zero,Nat.add_zero];have hm2:=Nat.mod_add_div t B;have e3:B^l.length*u[l.length]+B^l.length*(B*(t/B+o'))=B^l.length*r+(B^l.length*(d*v[l.length])+B^l.length*(c+o)):=by
    rw[<- Nat.mul_add,<- Nat.mul_add,<- Nat.mul_add,Nat.mul_add B];congr 1;omega
   have e4:(t/B+o')*B^(l.length+1)=B^l.length*(B*(t/B+o')):=by rw[Nat.pow_succ,Nat.mul_comm,Nat.mul_assoc]
   have e5:d*(val (v.take l.length)+B^l.length*v[l.length])=d*val (v.take l.length)+B^l.length*(d*v[l.length]):=by rw[Nat.mul_add,Nat.mul_left_comm]
   rw[e4,e5];rw[Nat.mul_comm (c+o)] at h4;omega
  ·rw[ht];exact fdiv_B t
  ·rw[ht,hlow,uu _ hux];exact r4
  ·exact (wI (n:=(l.length:Int)+1) (by omega) (by omega)).trans (by simp)
  ·refine congrArg (fun z=>some (Row.mk 207 1 z)) ?_;rw[ht,hlow,uu _ hux,r5,hdrop];refine set_midD.trans ?_;simp
  ·show v.length-(l++[r]).length<v.length-l.length;simp;omega
end
end Go.Proofs.YtjdkdcmpifapeaaGreatDoor.Abs
