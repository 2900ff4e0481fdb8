/- The document's digits: products. -/
import Derived.Test.YtjdkdcmpifapeaaGreatDoorNc
import Derived.Test.YtjdkdcmpifapeaaGreatDoorMe
import Derived.Test.YtjdkdcmpifapeaaGreatDoorMm
set_option linter.unusedVariables false
set_option linter.unusedSectionVars false
set_option linter.unusedSimpArgs false
set_option maxHeartbeats 4000000
namespace Go.Proofs.YtjdkdcmpifapeaaGreatDoor.Abs
section
open Go Go.RowKit Go.Proofs.Tryz
theorem val8_set:∀ {L:List Nat} {j v:Nat},j<L.length->val8 (L.set j v)+256^j*L.getD j 0=val8 L+256^j*v
 |x::L,0,v,_=>by simp[val8]; omega
 |x::L,j+1,v,h=>by
  have ih:=val8_set (L:=L) (j:=j) (v:=v) (by simpa using h);have e:=congrArg (256*·) ih;simp only[Nat.mul_add] at e;have p:∀ y:Nat,256^(j+1)*y=256*(256^j*y):=fun y=>by rw[Nat.pow_succ,Nat.mul_comm (256^j),Nat.mul_assoc]
  show x+256*val8 (L.set j v)+256^(j+1)*L.getD j 0=x+256*val8 L+256^(j+1)*v;rw[p,p];omega
theorem getD_set {L:List Nat} {j k v:Nat} (h:j<L.length):(L.set j v).getD k 0=if k=j then v else L.getD k 0:=by
 simp only[List.getD,List.getElem?_set];by_cases e:j=k
 ·subst e;simp[h]
 ·simp[e,Ne.symm e]
theorem i8_ltL {n:Nat}:∀ l:List Nat,AV.ltL n (l.map i8)=true
 |[]=>rfl
 |a::l=>by show (true&&_)=true; rw[i8_ltL l]; rfl
theorem i8_closed:∀ l:List Nat,AV.closedL (l.map i8)=true
 |[]=>rfl
 |a::l=>by show (true&&_)=true; rw[i8_closed l]; rfl
theorem set8 {L:List Nat} {j v:Nat}:(L.map i8).set ((j:Nat):Int).toNat (i8 v)=(L.set j v).map i8:=by
 rw[Int.toNat_natCast,List.map_set]
theorem mem_lt8 {L:List Nat} {n c:Nat} (hn:L.length=n) (h:∀ j,j<n->L.getD j 0<c):∀ x∈L,x<c:=fun x hx=>by
 obtain⟨j,hj,rfl⟩:=List.mem_iff_getElem.1 hx;have:=h j (by omega);simpa [hj] using this
structure MuP (A D:List Nat) (i k:Nat) (L:List Nat):Prop where
 l:L.length=A.length+D.length+1
 v:val8 L=val8 (A.take i)*val8 D+256^i*(A.getD i 0*val8 (D.take k))
 hi:∀ j,L.getD j 0<=65280
 lo:∀ j,i+k<=j->L.getD j 0<256
theorem MuP.next {A D L:List Nat} {i k:Nat} (h:MuP A D i k L) (hA:∀ x∈A,x<B8) (hD:∀ x∈D,x<B8) (hi:i<A.length) (hk:k<D.length):MuP A D i (k+1) (L.set (i+k) (L.getD (i+k) 0+A.getD i 0*D.getD k 0)):=by
 have hj:i+k<L.length:=by rw[h.l]; omega
 have ga:=getD_lt8 hA i;have gd:=getD_lt8 hD k;have hp:A.getD i 0*D.getD k 0<=255*255:=Nat.mul_le_mul (by omega) (by omega);have hl:=h.lo (i+k) (Nat.le_refl _);refine⟨by rw[List.length_set]; exact h.l,?_,fun j=>?_,fun j hj2=>?_⟩
 ·have e:=val8_set (v:=L.getD (i+k) 0+A.getD i 0*D.getD k 0) hj;rw[Nat.mul_add] at e;rw[val8_take,Nat.mul_add,Nat.mul_add];have hv:=h.v;have q:256^i*(A.getD i 0*(256^k*D.getD k 0))=256^(i+k)*(A.getD i 0*D.getD k 0):=by
   rw[Nat.pow_add];simp only[Nat.mul_assoc,Nat.mul_left_comm]
  rw[q];omega
 ·rw[getD_set hj];split
  ·omega
  ·exact h.hi j
 ·rw[getD_set hj];split
  ·omega
  ·exact h.lo j (by omega)
structure MuC (V n k:Nat) (L:List Nat):Prop where
 l:L.length=n
 v:val8 L=V
 lo:∀ j,j<k->L.getD j 0<256
 at':L.getD k 0<=65536
 hi:∀ j,k<j->L.getD j 0<=65280
theorem MuC.next {V n k:Nat} {L:List Nat} (h:MuC V n k L) (hk:k+1<n):MuC V n (k+1) ((L.set (k+1) (L.getD (k+1) 0+L.getD k 0/256)).set k (L.getD k 0%256)):=by
 have h1:k+1<L.length:=by rw[h.l]; exact hk
 have h2:k<(L.set (k+1) (L.getD (k+1) 0+L.getD k 0/256)).length:=by rw[List.length_set]; omega
 have g:(L.set (k+1) (L.getD (k+1) 0+L.getD k 0/256)).getD k 0=L.getD k 0:=by rw[getD_set h1,if_neg (by omega)]
 have a:=h.at';have b:=h.hi (k+1) (by omega);refine⟨by rw[List.length_set,List.length_set]; exact h.l,?_,fun j hj=>?_,?_,fun j hj=>?_⟩
 ·have e1:=val8_set (v:=L.getD (k+1) 0+L.getD k 0/256) h1;have e2:=val8_set (v:=L.getD k 0%256) h2;rw[g] at e2;have e3:=congrArg (256^k*·) (Nat.mod_add_div (L.getD k 0) 256);simp only[Nat.mul_add] at e3;rw[Nat.mul_add] at e1;have p:256^(k+1)*(L.getD k 0/256)=256^k*(256*(L.getD k 0/256)):=by rw[Nat.pow_succ,Nat.mul_assoc]
  rw[p] at e1;have hv:=h.v;omega
 ·rw[getD_set h2];split
  ·omega
  ·rw[getD_set h1,if_neg (by omega)];exact h.lo j (by omega)
 ·rw[getD_set h2,if_neg (by omega),getD_set h1,if_pos rfl];omega
 ·rw[getD_set h2,if_neg (by omega),getD_set h1,if_neg (by omega)];exact h.hi j (by omega)
theorem MuC.done {V n k:Nat} {L:List Nat} (h:MuC V n k L) (hk:n<=k+1) (hV:V<256^n):∀ j,j<n->L.getD j 0<256:=by
 intro j hj;by_cases hjk:j<k
 ·exact h.lo j hjk
 ·have e:j+1=n:=by omega
  have h1:=val8_split L j;rw[val8_drop,h.v] at h1;have h2:256^j*L.getD j 0<=V:=by
   rw[h1,Nat.mul_add];omega
  apply Nat.lt_of_not_le;intro g;have h3:256^j*256<=256^j*L.getD j 0:=Nat.mul_le_mul_left _ g;rw[<- Nat.pow_succ,show j.succ=n from e] at h3;omega
end
section
open Go Go.RowKit Go.Proofs.Tryz
theorem val8_rep:∀ n,val8 (List.replicate n 0)=0
 |0=>rfl
 |n+1=>by rw[List.replicate_succ]; simp[val8,val8_rep n]
theorem muV_lt {A D:List Nat} (hA:∀ x∈A,x<B8) (hD:∀ x∈D,x<B8) (i:Nat):val8 (A.take i)*val8 D<256^(A.length+D.length+1):=by
 have h1:=val_lt8 (l:=A.take i) fun x hx=>hA x (List.mem_of_mem_take hx)
 have h1:val8 (A.take i)<256^(A.take i).length:=h1;have h2:=val_lt8 hD;have h2:val8 D<256^D.length:=h2;have h3:256^(A.take i).length<=256^A.length:=Nat.pow_le_pow_right (by decide) (by rw[List.length_take]; omega);have h4:=Nat.mul_lt_mul'' (Nat.lt_of_lt_of_le h1 h3) h2;rw[<- Nat.pow_add] at h4;exact Nat.lt_of_lt_of_le h4 (Nat.pow_le_pow_right (by decide) (by omega))
def muR (n:Nat) (L:List Nat):List (Rid×Row):=[((1,6),⟨3,1,L.map i8⟩)]
theorem c_rMul (a b:Nat) (ha:(digs8 a).length<30000) (hb:(digs8 b).length<30000):ACalls prog 193 [n8 a,n8 b] (n8 (a*b)):=by
 have main:∀ (A D:List Nat),(∀ x∈A,x<B8)->(∀ x∈D,x<B8)->A.length<30000->D.length<30000->ACalls prog 193 [l8 A,l8 D] (n8 (val8 A*val8 D)):=by
  intro A D hA8 hD8 hAn hDn;obtain⟨n,hn⟩:∃ n,A.length+D.length+1=n:=⟨_,rfl⟩
  have hs1:IntKind.wrap .i64 ((((A.map i8).length:Nat):Int)+(((D.map i8).length:Nat):Int))=((A.length+D.length:Nat):Int):=by rw[wI] <;> simp <;> omega
  have hs2:IntKind.wrap .i64 (((A.length+D.length:Nat):Int)+1)=((n:Nat):Int):=by rw[wI] <;> omega
  refine conP func193 rfl (by kernel_rfl) ?_;refine .gk ?_;conv=>whnf
  refine .gk ?_;conv=>whnf
  rw[hs1,hs2];refine⟨⟨by omega,rfl,by simp only[lenLim]; omega⟩,?_⟩;conv=>whnf
  refine .cut (fun L:List Nat=>L.length=n/\(∀ j,j<n->L.getD j 0<256)/\val8 L=val8 A*val8 D) (fun L=>{ fr:=[(5,.own (1,6) n)],st:=muR n L,g:=60 }) ?_ ?_
  ·refine .gk ?_;conv=>whnf
   refine .block (.loop (fun q:Nat×List Nat=>q.1<=A.length/\q.2.length=n/\(∀ j,q.2.getD j 0<256)/\val8 q.2=val8 (A.take q.1)*val8 D) (fun q=>{ fr:=[(0,l8 A),(1,l8 D),(5,.own (1,6) n),(6,i64 (q.1:Nat))],st:=muR n q.2,g:=9 }) (fun q=>A.length-q.1) (0,List.replicate n 0) ⟨Nat.zero_le _,by simp,fun j=>?_,?_⟩ ?_ ?_)
   ·simp[List.getD,List.getElem?_replicate];split <;> simp
   ·show val8 (List.replicate n 0)=0*val8 D;rw[Nat.zero_mul];exact val8_rep n
   ·refine⟨trivial,⟨x_R,x_R,x_R,x_R,trivial⟩,⟨.same ?_ (i8_ltL _),x_N,x_L⟩,trivial⟩;refine congrArg (fun z=>some (Row.mk 3 1 z)) ?_;rw[List.map_replicate];rfl
   rintro⟨i,L⟩ ⟨h1,h2,h3,h4⟩;dsimp only at h1 h2 h3 h4 ⊢;refine .gk ?_;conv=>whnf
   by_cases hi:i<A.length
   ·rw[decide_eq_true (lt8.2 hi)];conv=>whnf
    refine .cut (fun L':List Nat=>L'.length=n/\(∀ j,j<n->L'.getD j 0<256)/\val8 L'=val8 (A.take (i+1))*val8 D) (fun L'=>{ fr:=[(0,l8 A),(1,l8 D),(5,.own (1,6) n),(6,i64 (i:Nat))],st:=muR n L',g:=60 }) ?_ ?_
    ·refine .block ?_;refine .cut (fun L1:List Nat=>MuP A D i D.length L1) (fun L1=>{ fr:=[(0,l8 A),(1,l8 D),(5,.own (1,6) n),(6,i64 (i:Nat))],st:=muR n L1,g:=40 }) ?_ ?_
     ·refine .gk ?_;conv=>whnf
      refine .block (.loop (fun q:Nat×List Nat=>q.1<=D.length/\MuP A D i q.1 q.2) (fun q=>{ fr:=[(0,l8 A),(1,l8 D),(5,.own (1,6) n),(6,i64 (i:Nat)),(7,i64 (q.1:Nat))],st:=muR n q.2,g:=20 }) (fun q=>D.length-q.1) (0,L) ⟨Nat.zero_le _,⟨by rw[hn]; exact h2,by rw[h4]; simp[val8],fun j=>Nat.le_trans (Nat.le_of_lt (h3 j)) (by decide),fun j _=>h3 j⟩⟩ ?_ ?_)
      ·exact⟨trivial,⟨x_R,x_R,x_R,x_R,x_R,trivial⟩,⟨.same rfl (i8_ltL _),x_N,x_L⟩,trivial⟩
      rintro⟨k,L⟩ ⟨k1,hP⟩;dsimp only at k1 hP ⊢;refine .gk ?_;conv=>whnf
      by_cases hk:k<D.length
      ·have hL:=hP.l;have hw:IntKind.wrap .i64 ((i:Int)+(k:Int))=((i+k:Nat):Int):=(wI (by omega) (by omega)).trans (by simp);rw[decide_eq_true (lt8.2 hk)];conv=>whnf
       refine pcK ?_;conv=>whnf
       refine⟨by kernel_rfl,?_⟩;conv=>whnf
       have hj:i+k<L.length:=by omega
       have gl:=hP.lo (i+k) (Nat.le_refl _);have ga:=getD_lt8 hA8 i;have gd:=getD_lt8 hD8 k;have hp:A.getD i 0*D.getD k 0<=255*255:=Nat.mul_le_mul (by omega) (by omega);have hm:IntKind.wrap .i64 (((L.getD (i+k) 0:Nat):Int)+IntKind.wrap .i64 (((A.getD i 0:Nat):Int)*((D.getD k 0:Nat):Int)))=((L.getD (i+k) 0+A.getD i 0*D.getD k 0:Nat):Int):=by
        have hm1:IntKind.wrap .i64 (((A.getD i 0:Nat):Int)*((D.getD k 0:Nat):Int))=((A.getD i 0*D.getD k 0:Nat):Int):=by
         rw[<- Int.natCast_mul];exact wI (by omega) (by omega)
        rw[hm1,<- Int.natCast_add];exact wI (by omega) (by omega)
       rw[hw];refine⟨⟨rfl,rfl⟩,⟨by omega,by omega⟩,?_⟩;conv=>whnf
       refine elA_mk (i8 (L.getD (i+k) 0)) (get8 hj) ?_;conv=>whnf
       refine⟨i8 (A.getD i 0),⟨Int.natCast_nonneg _,get8 hi,rfl,rfl⟩,?_⟩;conv=>whnf
       refine⟨i8 (D.getD k 0),⟨Int.natCast_nonneg _,get8 hk,rfl,rfl⟩,?_⟩;conv=>whnf
       rw[hm];refine⟨⟨rfl,rfl⟩,⟨by omega,by omega⟩,?_⟩;conv=>whnf
       refine elA_mk (i8 (L.getD (i+k) 0)) (get8 hj) ?_;conv=>whnf
       refine⟨(k+1,L.set (i+k) (L.getD (i+k) 0+A.getD i 0*D.getD k 0)),⟨hk,hP.next hA8 hD8 hi hk⟩,?_,by show D.length-(k+1)<D.length-k; omega⟩;refine⟨trivial,⟨x_R,x_R,x_R,x_R,x_E ((wI (n:=(k:Int)+1) (by omega) (by omega)).trans (by simp)),trivial⟩,⟨.same ?_ (i8_ltL _),x_N,x_L⟩,trivial⟩;refine congrArg (fun z=>some (Row.mk 3 1 z)) ?_;exact set8
      ·have e:k=D.length:=by omega
       subst e;rw[decide_eq_false (fun h=>hk (lt8.1 h))];conv=>whnf
       refine⟨L,hP,?_⟩;exact⟨trivial,⟨x_R,x_R,x_R,x_R,trivial⟩,⟨.same rfl (i8_ltL _),x_N,x_L⟩,trivial⟩
     ·rintro L1 hP;have hV:val8 L1=val8 (A.take (i+1))*val8 D:=by
       rw[hP.v,val8_take,Nat.add_mul,List.take_of_length_le (Nat.le_refl D.length),Nat.mul_assoc]
      refine .gk ?_;conv=>whnf
      refine .block (.loop (fun q:Nat×List Nat=>q.1+1<=n/\MuC (val8 (A.take (i+1))*val8 D) n q.1 q.2) (fun q=>{ fr:=[(0,l8 A),(1,l8 D),(5,.own (1,6) n),(6,i64 (i:Nat)),(8,i64 (q.1:Nat))],st:=muR n q.2,g:=20 }) (fun q=>n-q.1) (0,L1) ⟨by show 0+1<=n; omega,⟨by rw[hP.l]; exact hn,hV,fun j hj=>absurd hj (by omega),Nat.le_trans (hP.hi 0) (by decide),fun j _=>hP.hi j⟩⟩ ?_ ?_)
      ·exact⟨trivial,⟨x_R,x_R,x_R,x_R,x_R,trivial⟩,⟨.same rfl (i8_ltL _),x_N,x_L⟩,trivial⟩
      rintro⟨k,L⟩ ⟨k1,hC⟩;dsimp only at k1 hC ⊢;have hk1:IntKind.wrap .i64 ((k:Int)+1)=((k+1:Nat):Int):=(wI (by omega) (by omega)).trans (by simp);refine .gk ?_;conv=>whnf
      rw[hk1];have hL:=hC.l;by_cases hk:k+1<n
      ·have hj:k+1<L.length:=by omega
       have hj0:k<L.length:=by omega
       have a:=hC.at';have b:=hC.hi (k+1) (by omega);have hq:(((L.getD k 0:Nat):Int)).tdiv 256=((L.getD k 0/256:Nat):Int):=rfl;have hm:IntKind.wrap .i64 (((L.getD (k+1) 0:Nat):Int)+IntKind.wrap .i64 ((((L.getD k 0:Nat):Int)).tdiv 256))=((L.getD (k+1) 0+L.getD k 0/256:Nat):Int):=by
        have h1:IntKind.wrap .i64 ((((L.getD k 0:Nat):Int)).tdiv 256)=((L.getD k 0/256:Nat):Int):=by
         rw[hq];exact wI (by omega) (by omega)
        rw[h1,<- Int.natCast_add];exact wI (by omega) (by omega)
       have hj2:k<(L.set (k+1) (L.getD (k+1) 0+L.getD k 0/256)).length:=by rw[List.length_set]; omega
       have g2:(L.set (k+1) (L.getD (k+1) 0+L.getD k 0/256)).getD k 0=L.getD k 0:=by rw[getD_set hj,if_neg (by omega)]
       rw[decide_eq_true (by omega:((k+1:Nat):Int)<((n:Nat):Int))];conv=>whnf
       refine pcK ?_;conv=>whnf
       refine⟨by kernel_rfl,?_⟩;conv=>whnf
       rw[hk1];refine⟨⟨rfl,rfl⟩,⟨by omega,by omega⟩,?_⟩;conv=>whnf
       refine elA_mk (i8 (L.getD (k+1) 0)) (get8 hj) ?_;conv=>whnf
       refine⟨⟨rfl,rfl⟩,⟨by omega,by omega⟩,?_⟩;conv=>whnf
       refine elA_mk (i8 (L.getD k 0)) (get8 hj0) ?_;conv=>whnf
       rw[hm];refine⟨⟨rfl,rfl⟩,⟨by omega,by omega⟩,?_⟩;conv=>whnf
       refine elA_mk (i8 (L.getD (k+1) 0)) (get8 hj) ?_;conv=>whnf
       have gk:((L.map i8).set ((k+1:Nat):Int).toNat (i8 (L.getD (k+1) 0+L.getD k 0/256)))[((k:Nat):Int).toNat]?=some (i8 (L.getD k 0)):=by
        rw[set8,get8 hj2,g2]
       refine⟨⟨rfl,rfl⟩,⟨by omega,by omega⟩,?_⟩;conv=>whnf
       refine elA_mk (i8 (L.getD k 0)) gk ?_;conv=>whnf
       refine⟨⟨rfl,rfl⟩,⟨by omega,by omega⟩,?_⟩;conv=>whnf
       refine elA_mk (i8 (L.getD k 0)) gk ?_;conv=>whnf
       refine⟨(k+1,(L.set (k+1) (L.getD (k+1) 0+L.getD k 0/256)).set k (L.getD k 0%256)),⟨by show k+1+1<=n; omega,hC.next hk⟩,?_,by show n-(k+1)<n-k; omega⟩;refine⟨trivial,⟨x_R,x_R,x_R,x_R,x_E hk1,trivial⟩,⟨.same ?_ (i8_ltL _),x_N,x_L⟩,trivial⟩;refine congrArg (fun z=>some (Row.mk 3 1 z)) ?_;show ((L.map i8).set ((k+1:Nat):Int).toNat (i8 (L.getD (k+1) 0+L.getD k 0/256))).set ((k:Nat):Int).toNat (i8 (L.getD k 0%256))=_;rw[set8,set8]
      ·rw[decide_eq_false (by omega:¬ ((k+1:Nat):Int)<((n:Nat):Int))];conv=>whnf
       have hV2:val8 (A.take (i+1))*val8 D<256^n:=by rw[<- hn]; exact muV_lt hA8 hD8 (i+1)
       refine⟨L,⟨hC.l,hC.done (by omega) hV2,hC.v⟩,?_⟩;exact⟨trivial,⟨x_R,x_R,x_R,x_R,trivial⟩,⟨.same rfl (i8_ltL _),x_N,x_L⟩,trivial⟩
    ·rintro L' ⟨g1,g2,g3⟩;refine pcK ?_;conv=>whnf
     refine⟨(i+1,L'),⟨hi,g1,fun j=>?_,g3⟩,?_,by show A.length-(i+1)<A.length-i; omega⟩
     ·by_cases hj:j<n
      ·exact g2 j hj
      ·show L'.getD j 0<256;rw[getD_out (by omega)];omega
     ·exact⟨trivial,⟨x_R,x_R,x_R,x_E ((wI (n:=(i:Int)+1) (by omega) (by omega)).trans (by simp)),trivial⟩,⟨.same rfl (i8_ltL _),x_N,x_L⟩,trivial⟩
   ·rw[decide_eq_false (fun h=>hi (lt8.1 h))];conv=>whnf
    have e:i=A.length:=by omega
    subst e;refine⟨L,⟨h2,fun j _=>h3 j,by rw[h4,List.take_of_length_le (Nat.le_refl _)]⟩,?_⟩;exact⟨trivial,⟨x_R,trivial⟩,⟨.same rfl (i8_ltL _),x_N,x_L⟩,trivial⟩
  ·rintro L ⟨h1,h2,h3⟩;have CC:=c_rCut L (mem_lt8 h1 h2) (by omega);rw[h3] at CC;refine pcK ?_;conv=>whnf
   refine callL [(1,6)] [l8 L] ⟨⟨_,rfl⟩,trivial⟩ ⟨.own2 (.head _) rfl (by simp[h1]) (i8_closed _) rfl,trivial⟩ CC rfl ?_;conv=>whnf
   exact fin rfl rfl
 have:=main (digs8 a) (digs8 b) (fun x hx=>digs_lt8 hx) (fun x hx=>digs_lt8 hx) ha hb;rwa [val_digs8,val_digs8] at this
end
section
open Go Go.RowKit Go.Proofs.Tryz
abbrev XI:=Bool×Nat
def XI.v (x:XI):Int:=if x.1 then -(x.2:Int) else (x.2:Int)
def xi (x:XI):AV:=.agg [boo x.1,n8 x.2]
def xAdd (a b:XI):XI:=if a.1=b.1 then (a.1,a.2+b.2) else if b.2<=a.2 then (a.1,a.2-b.2) else (b.1,b.2-a.2)
def xMul (a b:XI):XI:=(a.1 !=b.1,a.2*b.2)
theorem xAdd_v (a b:XI):(xAdd a b).v=a.v+b.v:=by
 obtain⟨m,a⟩:=a;obtain⟨n,b⟩:=b;unfold xAdd XI.v;cases m <;> cases n <;> simp
 ·split <;> simp <;> omega
 ·split <;> simp <;> omega
 ·omega
theorem xMul_v (a b:XI):(xMul a b).v=a.v*b.v:=by
 obtain⟨m,a⟩:=a;obtain⟨n,b⟩:=b;unfold xMul XI.v;cases m <;> cases n <;> simp[Int.neg_mul,Int.mul_neg]
def Dg8 (m n:Nat):Prop:=n<256^m
theorem Dg8.len {m n:Nat} (h:Dg8 m n):(digs8 n).length<=m:=length_digs_le8.2 h
theorem Dg8.mono {m k n:Nat} (h:Dg8 m n) (hk:m<=k):Dg8 k n:=Nat.lt_of_lt_of_le h (Nat.pow_le_pow_right (by decide) hk)
theorem Dg8.mul {m k a b:Nat} (ha:Dg8 m a) (hb:Dg8 k b):Dg8 (m+k) (a*b):=by
 unfold Dg8 at *
 rw[Nat.pow_add];exact Nat.mul_lt_mul'' ha hb
theorem Dg8.add {m a b:Nat} (ha:Dg8 m a) (hb:Dg8 m b):Dg8 (m+1) (a+b):=by
 unfold Dg8 at *
 rw[Nat.pow_succ];omega
theorem xAdd_dg {m:Nat} {a b:XI} (ha:Dg8 m a.2) (hb:Dg8 m b.2):Dg8 (m+1) (xAdd a b).2:=by
 have h:=ha.add hb;unfold xAdd;split
 ·exact h
 ·split
  ·exact Nat.lt_of_le_of_lt (by show a.2-b.2<=a.2+b.2; omega) h
  ·exact Nat.lt_of_le_of_lt (by show b.2-a.2<=a.2+b.2; omega) h
theorem c_xMul (a b:XI) (ha:Dg8 20000 a.2) (hb:Dg8 20000 b.2):ACalls prog 212 [xi a,xi b] (xi (xMul a b)):=by
 obtain⟨m,a⟩:=a;obtain⟨n,b⟩:=b;have CM:=c_rMul a b (Nat.lt_of_le_of_lt ha.len (by decide)) (Nat.lt_of_le_of_lt hb.len (by decide));refine conP func212 rfl (by kernel_rfl) ?_;refine .gk ?_;conv=>whnf
 refine .gk ?_;conv=>whnf
 refine⟨by kernel_rfl,?_⟩;conv=>whnf
 refine⟨trivial,?_⟩;conv=>whnf
 refine callD CM rfl rfl ?_;conv=>whnf
 refine pcK ?_;conv=>whnf
 exact .sh _ _ rfl (.refl _)
theorem c_xAdd (a b:XI) (ha:Dg8 20000 a.2) (hb:Dg8 20000 b.2):ACalls prog 195 [xi a,xi b] (xi (xAdd a b)):=by
 obtain⟨m,a⟩:=a;obtain⟨n,b⟩:=b;have la:(digs8 a).length<100000:=Nat.lt_of_le_of_lt ha.len (by decide);have lb:(digs8 b).length<100000:=Nat.lt_of_le_of_lt hb.len (by decide);have CA:=c_rAdd a b la lb;have CC:=c_rCompare a b la lb;obtain⟨R,hR⟩:∃ R,xAdd (m,a) (n,b)=R:=⟨_,rfl⟩
 rw[hR];unfold xAdd at hR;refine conP func195 rfl (by kernel_rfl) ?_;refine .gk ?_;conv=>whnf
 by_cases hs:m=n
 ·rw[if_pos hs] at hR;subst hs hR;refine .gk ?_;conv=>whnf
  refine⟨trivial,?_⟩;conv=>whnf
  have e:(m==m)=true:=by cases m <;> rfl
  rw[e];conv=>whnf
  refine⟨by kernel_rfl,?_⟩;conv=>whnf
  refine callD CA rfl rfl ?_;conv=>whnf
  exact .sh _ _ rfl (.refl _)
 ·rw[if_neg hs] at hR;have e:(m==n)=false:=by cases m <;> cases n <;> first | rfl | exact absurd rfl hs
  refine .gk ?_;conv=>whnf
  refine⟨trivial,?_⟩;conv=>whnf
  rw[e];conv=>whnf
  by_cases hle:b<=a
  ·rw[if_pos hle] at hR;subst hR;have CS:=c_rSub a b hle la;refine .gk ?_;conv=>whnf
   refine callS CC rfl rfl ?_;conv=>whnf
   rw[decide_eq_true (by unfold cmpN8; split <;> (try split) <;> omega:cmpN8 a b ≥ 0)];conv=>whnf
   refine⟨by kernel_rfl,?_⟩;conv=>whnf
   refine callD CS rfl rfl ?_;conv=>whnf
   exact .sh _ _ rfl (.refl _)
  ·rw[if_neg hle] at hR;subst hR;have CS:=c_rSub b a (by omega) lb;refine .gk ?_;conv=>whnf
   refine callS CC rfl rfl ?_;conv=>whnf
   rw[decide_eq_false (by unfold cmpN8; rw[if_pos (by omega)]; omega:¬ cmpN8 a b ≥ 0)];conv=>whnf
   refine pcK ?_;conv=>whnf
   refine⟨by kernel_rfl,?_⟩;conv=>whnf
   refine callD CS rfl rfl ?_;conv=>whnf
   exact .sh _ _ rfl (.refl _)
end
section
open Go Go.RowKit Go.Proofs.Tryz
def x0:AV:=.agg [boo false,nilA]
theorem le_x0:Le x0 (xi (false,0)):=.ag ⟨.refl _,le_nil8,trivial⟩
def rX (r:List XI):AV:=.sl (r.map xi)
def lX (m:List (List XI)):AV:=.sl (m.map rX)
def oneX (n q i:Nat):List XI:=(List.range n).map fun j=>if j=i then (false,q) else (false,0)
def oneXs (n q m:Nat):List (List XI):=(List.range m).map (oneX n q)
def xz:AV:=AV.ofVal (ty 185).zero
theorem oneX_row (n q i:Nat):∀ (j:Nat) (x y:AV),((List.replicate n xz).set i (xi (false,q)))[j]?=some x->((oneX n q i).map xi)[j]?=some y->(x=xi (false,q)/\y=xi (false,q))\/(x=xz/\y=xi (false,0)):=by
 intro j x y hx hy;have hj:j<n:=by
  have:=(List.getElem?_eq_some_iff.1 hx).1;simpa using this
 rw[List.getElem?_set] at hx;have hy':y=xi (if j=i then (false,q) else (false,0)):=by
  simp[oneX,hj] at hy;exact hy.symm
 by_cases e:i=j
 ·subst e;rw[if_pos rfl,if_pos (by simpa using hj)] at hx;rw[if_pos rfl] at hy';exact .inl ⟨(Option.some.inj hx).symm,hy'⟩
 ·rw[if_neg e,List.getElem?_replicate,if_pos hj] at hx;rw[if_neg (Ne.symm e)] at hy';exact .inr ⟨(Option.some.inj hx).symm,hy'⟩
theorem one_frz {s:AS} {F:Rid->Prop} {i:Rid} {n q k:Nat} (hF:F i) (h:s.st i=some ⟨185,2,(List.replicate n xz).set k (xi (false,q))⟩):FrzV s F (.own i n) (rX (oneX n q k)) :=
 .own i n _ _ hF h (by simp) (by simp[oneX]) fun j x y hx hy=>by
  rcases oneX_row n q k j x y hx hy with ⟨rfl,rfl⟩ | ⟨rfl,rfl⟩
  ·exact .refl rfl
  ·exact .sh _ _ rfl le_x0
theorem oneXs_succ (n q m:Nat):(oneXs n q (m+1)).map rX=(oneXs n q m).map rX++[rX (oneX n q m)]:=by simp[oneXs,List.range_succ]
theorem oneXs_len (n q m:Nat):((oneXs n q m).map rX).length=m:=by simp[oneXs]
theorem rX_ltL {n:Nat}:∀ l:List (List XI),AV.ltL n (l.map rX)=true
 |[]=>rfl
 |a::l=>by show (true&&_)=true; rw[rX_ltL l]; rfl
theorem rX_closed:∀ l:List (List XI),AV.closedL (l.map rX)=true
 |[]=>rfl
 |a::l=>by show (true&&_)=true; rw[rX_closed l]; rfl
def onI (n q m:Nat):Inv:=match m with
 |0=>{ fr:=[(0,i64 (n:Nat)),(1,n8 q),(5,nilA),(6,i64 (0:Nat))],st:=[],g:=9 }
 |m+1=>{ F:=[(10,1)],ren:=[((12,3),(5,0))],fr:=[(0,i64 (n:Nat)),(1,n8 q),(5,.own (5,0) (m+1)),(6,i64 (m+1:Nat))],st:=[((5,0),⟨178,1,(oneXs n q (m+1)).map rX⟩)],g:=9 }
theorem c_xOne (n q:Nat) (hn:n<1000):ACalls prog 192 [i64 (n:Nat),n8 q] (lX (oneXs n q n)):=by
 refine conP func192 rfl (by kernel_rfl) ?_;refine .gk ?_;conv=>whnf
 refine .gk ?_;conv=>whnf
 refine .cut (fun _:Unit=>True) (fun _=>match n with
  |0=>{ fr:=[(5,nilA)],st:=[],g:=60 }
  |m+1=>{ fr:=[(5,.own (5,0) (m+1))],st:=[((5,0),⟨178,1,(oneXs n q (m+1)).map rX⟩)],g:=60 }) ?_ ?_
 ·refine .gk ?_;conv=>whnf
  refine .block (.loop (fun i:Nat=>i<=n) (onI n q) (fun i=>n-i) 0 (Nat.zero_le _) ?_ ?_)
  ·exact⟨trivial,⟨x_R,x_R,x_R,x_R,trivial⟩,trivial⟩
  intro i hi;cases i with
  |zero =>
   refine .gk ?_;conv=>whnf
   by_cases hl:0<n
   ·rw[decide_eq_true (by omega:((0:Nat):Int)<((n:Nat):Int))];conv=>whnf
    refine pcK ?_;conv=>whnf
    refine⟨⟨by omega,rfl,by simp only[lenLim]; omega⟩,?_⟩;conv=>whnf
    refine⟨⟨rfl,rfl⟩,⟨by omega,by omega⟩,?_⟩;conv=>whnf
    refine elA_mk xz (by show (List.replicate n xz)[0]?=some xz; simp[hl]) ?_;conv=>whnf
    refine⟨⟨by show 0<1; decide,by show 1<=1099511627776; decide,trivial⟩,?_⟩;conv=>whnf
    refine⟨0+1,by omega,?_,by show n-(0+1)<n-0; omega⟩;refine⟨⟨⟨⟨_,rfl⟩,trivial⟩,rfl⟩,⟨x_R,x_R,.inr (.inr (.own (5,0) (0+1) rfl)),x_E ((wI (n:=((0:Nat):Int)+1) (by omega) (by omega)).trans (by simp)),trivial⟩,⟨.less _ rfl rfl (fun j x y hx hy=>?_),by show ((12,3):Rid)∉[((10,1):Rid)]; decide,x_L⟩,trivial⟩;cases j with
    |zero =>
     have ex:AV.own (10,1) n=x:=Option.some.inj hx;have ey:rX (oneX n q 0)=y:=by
      have:=hy;simp[oneXs] at this;exact this
     rw[<- ex,<- ey];exact .inr (.inl (one_frz (.head _) rfl))
    |succ j=>exact absurd hx (by show ¬ ([]:List AV)[j]?=some x; simp)
   ·rw[decide_eq_false (by omega:¬ ((0:Nat):Int)<((n:Nat):Int))];conv=>whnf
    have:n=0:=by omega
    subst this;exact⟨(),trivial,⟨trivial,⟨x_R,trivial⟩,trivial⟩⟩
  |succ m =>
   refine .gk ?_;conv=>whnf
   by_cases hl:m+1<n
   ·rw[decide_eq_true (by omega:((m+1:Nat):Int)<((n:Nat):Int))];conv=>whnf
    refine pcK ?_;conv=>whnf
    refine⟨⟨by omega,rfl,by simp only[lenLim]; omega⟩,?_⟩;conv=>whnf
    refine⟨⟨rfl,rfl⟩,⟨by omega,by show ((m+1:Nat):Int)<(((n:Nat):Int).toNat:Int); omega⟩,?_⟩;conv=>whnf
    refine elA_mk xz (by show (List.replicate n xz)[((m+1:Nat):Int).toNat]?=some xz; simp[hl]) ?_;conv=>whnf
    refine⟨⟨oneXs_len n q (m+1),rfl,rfl,by show m+1+1<=1099511627776; omega,trivial⟩,?_⟩;conv=>whnf
    refine⟨m+1+1,by omega,?_,by show n-(m+1+1)<n-(m+1); omega⟩;refine⟨⟨⟨⟨_,rfl⟩,trivial⟩,rfl⟩,⟨x_R,x_R,.inr (.inr (.own (5,0) (m+1+1) rfl)),x_E ((wI (n:=((m+1:Nat):Int)+1) (by omega) (by omega)).trans (by simp)),trivial⟩,⟨.less ((oneXs n q (m+1)).map rX++[.own (10,1) n]) rfl (by simp[oneXs]) (fun j x y hx hy=>?_),by show ((12,3):Rid)∉[((10,1):Rid)]; decide,x_L⟩,trivial⟩;have hy:((oneXs n q (m+1+1)).map rX)[j]?=some y:=hy;rw[oneXs_succ n q (m+1)] at hy;by_cases hj:j<m+1
    ·rw[List.getElem?_append_left (by rw[oneXs_len]; exact hj)] at hx hy;rw[hx] at hy;cases hy;obtain⟨r,_,rfl⟩:=List.mem_map.1 (List.mem_of_getElem? hx);exact .inl ⟨.refl _,rfl⟩
    ·rw[List.getElem?_append_right (by rw[oneXs_len]; omega),oneXs_len] at hx hy;have h0:j-(m+1)=0:=by
      have:=(List.getElem?_eq_some_iff.1 hx).1;simp at this;omega
     rw[h0] at hx hy;have ex:AV.own (10,1) n=x:=Option.some.inj hx;have ey:rX (oneX n q (m+1))=y:=Option.some.inj hy;rw[<- ex,<- ey];refine .inr (.inl (one_frz (.head _) ?_));exact congrArg (fun k:Nat=>some (Row.mk 185 2 ((List.replicate n xz).set k (xi (false,q))))) (Int.toNat_natCast (m+1))
   ·have:n=m+1:=by omega
    subst this;rw[decide_eq_false (by omega:¬ ((m+1:Nat):Int)<((m+1:Nat):Int))];conv=>whnf
    exact⟨(),trivial,⟨trivial,⟨x_R,trivial⟩,⟨.same rfl (rX_ltL _),x_N,x_L⟩,trivial⟩⟩
 ·rintro⟨⟩ _;cases n with
  |zero =>
   refine .gk ?_;conv=>whnf
   refine pcK ?_;conv=>whnf
   exact .sh _ _ rfl .nil
  |succ m =>
   refine .gk ?_;conv=>whnf
   refine pcK ?_;conv=>whnf
   exact .own2 trivial rfl (oneXs_len _ _ _) (rX_closed _) rfl
end
section
open Go Go.RowKit Go.Proofs.Tryz
def xg (m:List (List XI)) (i j:Nat):XI:=(m.getD i []).getD j (false,0)
def xc (a b:List (List XI)) (i k:Nat):Nat->XI
 |0=>(false,0)
 |j+1=>xAdd (xc a b i k j) (xMul (xg a i j) (xg b j k))
def xrow (a b:List (List XI)) (n i m:Nat):List XI:=(List.range m).map fun k=>xc a b i k n
theorem xrow_len (a b:List (List XI)) (n i m:Nat):(xrow a b n i m).length=m:=by simp[xrow]
theorem xrow_succ (a b:List (List XI)) (n i m:Nat):xrow a b n i (m+1)=xrow a b n i m++[xc a b i m n]:=by simp[xrow,List.range_succ]
structure XT (n D:Nat) (m:List (List XI)):Prop where
 l:m.length=n
 r:∀ r∈m,r.length=n
 d:∀ i j,Dg8 D (xg m i j).2
theorem XT.row {n D:Nat} {m:List (List XI)} (h:XT n D m) {i:Nat} (hi:i<n):(m.map rX)[((i:Nat):Int).toNat]?=some (rX (m.getD i []))/\(m.getD i []).length=n:=by
 have hl:i<m.length:=by rw[h.l]; exact hi
 refine⟨by simp[hl],?_⟩;have:m.getD i []=m[i]:=by simp[hl]
 rw[this];exact h.r _ (List.getElem_mem _)
theorem XT.at {n D:Nat} {m:List (List XI)} (h:XT n D m) {i j:Nat} (hi:i<n) (hj:j<n):((m.getD i []).map xi)[((j:Nat):Int).toNat]?=some (xi (xg m i j)):=by
 have hl:=(h.row hi).2;have hj':j<(m.getD i []).length:=by rw[hl]; exact hj
 unfold xg;generalize m.getD i []=r at hj';simp[hj']
theorem xc_dg {n A D:Nat} {a b:List (List XI)} (ha:XT n A a) (hb:XT n D b) (i k:Nat):∀ j,Dg8 (A+D+j) (xc a b i k j).2
 |0=>Nat.pow_pos (by decide)
 |j+1=>xAdd_dg (xc_dg ha hb i k j) (((ha.d i j).mul (hb.d j k)).mono (Nat.le_add_right _ _))
theorem xi_ltL {n:Nat}:∀ l:List XI,AV.ltL n (l.map xi)=true
 |[]=>rfl
 |a::l=>by show (true&&_)=true; rw[xi_ltL l]; rfl
theorem xi_closed:∀ l:List XI,AV.closedL (l.map xi)=true
 |[]=>rfl
 |a::l=>by show (true&&_)=true; rw[xi_closed l]; rfl
theorem fx_ltL {g n:Nat} (l:List XI):AV.ltL g (fillV xi xz n l)=true:=by
 unfold fillV;have rep:∀ k:Nat,AV.ltL g (List.replicate k xz)=true:=fun k=>by
  induction k with
  |zero=>rfl
  |succ k ih=>rw[List.replicate_succ]; show (true&&_)=true; rw[ih]; rfl
 have app:∀ l r:List AV,AV.ltL g l=true->AV.ltL g r=true->AV.ltL g (l++r)=true:=fun l r h1 h2=>by
  induction l with
  |nil=>exact h2
  |cons x l ih =>
   simp only[AV.ltL,Bool.and_eq_true] at h1;show (x.lt g&&AV.ltL g (l++r))=true;rw[h1.1,ih h1.2];rfl
 exact app _ _ (xi_ltL l) (rep _)
def xpart (a b:List (List XI)) (n i k:Nat):Nat->List AV
 |0=>fillV xi xz n (xrow a b n i k)
 |j+1=>fillV xi xz n (xrow a b n i k++[xc a b i k (j+1)])
theorem xpart_ltL {g:Nat} (a b:List (List XI)) (n i k j:Nat):AV.ltL g (xpart a b n i k j)=true:=by
 cases j with
 |zero=>exact fx_ltL _
 |succ j=>exact fx_ltL _
theorem xpart_get {a b:List (List XI)} {n i k:Nat} (hk:k<n) (j:Nat):∃ e,(xpart a b n i k j)[((k:Nat):Int).toNat]?=some e/\((e=xz/\xc a b i k j=(false,0))\/e=xi (xc a b i k j)):=by
 have hl:=xrow_len a b n i k;cases j with
 |zero =>
  refine⟨xz,?_,.inl ⟨rfl,rfl⟩⟩;have:=fillV_get (enc:=xi) (z:=xz) (n:=n) (l:=xrow a b n i k) (by omega);rw[hl] at this;exact this
 |succ j =>
  refine⟨xi (xc a b i k (j+1)),?_,.inr rfl⟩;show (fillV xi xz n (xrow a b n i k++[xc a b i k (j+1)]))[((k:Nat):Int).toNat]?=_;unfold fillV;rw[Int.toNat_natCast,List.getElem?_append_left (by simp[hl]),List.map_append,List.getElem?_append_right (by simp[hl])];simp[hl]
theorem xpart_set {a b:List (List XI)} {n i k:Nat} (hk:k<n) (j:Nat):(xpart a b n i k j).set ((k:Nat):Int).toNat (xi (xc a b i k (j+1)))=xpart a b n i k (j+1):=by
 have hl:=xrow_len a b n i k;rw[Int.toNat_natCast];cases j with
 |zero =>
  have:=fillV_set (enc:=xi) (z:=xz) (n:=n) (l:=xrow a b n i k) (x:=xc a b i k 1) (by omega);rw[hl] at this;exact this
 |succ j =>
  show (fillV xi xz n (xrow a b n i k++[xc a b i k (j+1)])).set k _=fillV xi xz n (xrow a b n i k++[xc a b i k (j+1+1)]);unfold fillV;rw[List.set_append,if_pos (by simp[hl]),List.map_append,List.set_append,if_neg (by simp[hl])];simp[hl]
theorem xpart_done {a b:List (List XI)} {n i k:Nat} (hn:0<n):xpart a b n i k n=fillV xi xz n (xrow a b n i (k+1)):=by
 obtain⟨m,rfl⟩:∃ m,n=m+1:=⟨n-1,by omega⟩
 rw[xrow_succ];rfl
theorem xrow_full (a b:List (List XI)) (n i:Nat):fillV xi xz n (xrow a b n i n)=(xrow a b n i n).map xi:=fillV_full (xrow_len a b n i n)
end
end Go.Proofs.YtjdkdcmpifapeaaGreatDoor.Abs
