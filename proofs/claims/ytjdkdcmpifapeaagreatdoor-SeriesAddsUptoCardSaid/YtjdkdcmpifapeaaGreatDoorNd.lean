/- The document's digits: products. -/
import Derived.Test.YtjdkdcmpifapeaaGreatDoorNc
import Derived.Test.YtjdkdcmpifapeaaGreatDoorMe
import Derived.Test.YtjdkdcmpifapeaaGreatDoorMm
set_option linter.unusedVariables false
set_option linter.unusedSectionVars false
set_option linter.unusedSimpArgs false
set_option maxHeartbeats 4000000
namespace Go.Proofs.YtjdkdcmpifapeaaGreatDoor.Abs
section
open Go Go.RowKit Go.Proofs.Tryz
theorem val8_set:∀ {L:List Nat} {j v:Nat},j<L.length->val8 (L.set j v)+256^j*L.getD j 0=val8 L+256^j*v
 |x::L,0,v,_=>by simp[val8]; omega
 |x::L,j+1,v,h=>by
  have ih:=val8_set (L:=L) (j:=j) (v:=v) (by simpa using h);have e:=congrArg (256*·) ih;simp only[Nat.mul_add] at e;have p:∀ y:Nat,256^(j+1)*y=256*(256^j*y):=fun y=>by rw[Nat.pow_succ,Nat.mul_comm (256^j),Nat.mul_assoc]
  show x+256*val8 (L.set j v)+256^(j+1)*L.getD j 0=x+256*val8 L+256^(j+1)*v;rw[p,p];omega
theorem getD_set {L:List Nat} {j k v:Nat} (h:j<L.length):(L.set j v).getD k 0=if k=j then v else L.getD k 0:=by
 simp only[List.getD,List.getElem?_set];by_cases e:j=k
 ·subst e;simp[h]
 ·simp[e,Ne.symm e]
structure MuP (A D:List Nat) (i k:Nat) (L:List Nat):Prop where
 l:L.length=A.length+D.length+1
 v:val8 L=val8 (A.take i)*val8 D+256^i*(A.getD i 0*val8 (D.take k))
 hi:∀ j,L.getD j 0<=65280
 lo:∀ j,i+k<=j->L.getD j 0<256
theorem MuP.next {A D L:List Nat} {i k:Nat} (h:MuP A D i k L) (hA:∀ x∈A,x<B8) (hD:∀ x∈D,x<B8) (hi:i<A.length) (hk:k<D.length):MuP A D i (k+1) (L.set (i+k) (L.getD (i+k) 0+A.getD i 0*D.getD k 0)):=by
 have hj:i+k<L.length:=by rw[h.l]; omega
 have ga:=getD_lt8 hA i;have gd:=getD_lt8 hD k;have hp:A.getD i 0*D.getD k 0<=255*255:=Nat.mul_le_mul (by omega) (by omega);have hl:=h.lo (i+k) (Nat.le_refl _);refine⟨by rw[List.length_set]; exact h.l,?_,fun j=>?_,fun j hj2=>?_⟩
 ·have e:=val8_set (v:=L.getD (i+k) 0+A.getD i 0*D.getD k 0) hj;rw[Nat.mul_add] at e;rw[val8_take,Nat.mul_add,Nat.mul_add];have hv:=h.v;have q:256^i*(A.getD i 0*(256^k*D.getD k 0))=256^(i+k)*(A.getD i 0*D.getD k 0):=by
   rw[Nat.pow_add];simp only[Nat.mul_assoc,Nat.mul_left_comm]
  rw[q];omega
 ·rw[getD_set hj];split
  ·omega
  ·exact h.hi j
 ·rw[getD_set hj];split
  ·omega
  ·exact h.lo j (by omega)
structure MuC (V n k:Nat) (L:List Nat):Prop where
 l:L.length=n
 v:val8 L=V
 lo:∀ j,j<k->L.getD j 0<256
 at':L.getD k 0<=65536
 hi:∀ j,k<j->L.getD j 0<=65280
theorem MuC.next {V n k:Nat} {L:List Nat} (h:MuC V n k L) (hk:k+1<n):MuC V n (k+1) ((L.set (k+1) (L.getD (k+1) 0+L.getD k 0/256)).set k (L.getD k 0%256)):=by
 have h1:k+1<L.length:=by rw[h.l]; exact hk
 have h2:k<(L.set (k+1) (L.getD (k+1) 0+L.getD k 0/256)).length:=by rw[List.length_set]; omega
 have g:(L.set (k+1) (L.getD (k+1) 0+L.getD k 0/256)).getD k 0=L.getD k 0:=by rw[getD_set h1,if_neg (by omega)]
 have a:=h.at';have b:=h.hi (k+1) (by omega);refine⟨by rw[List.length_set,List.length_set]; exact h.l,?_,fun j hj=>?_,?_,fun j hj=>?_⟩
 ·have e1:=val8_set (v:=L.getD (k+1) 0+L.getD k 0/256) h1;have e2:=val8_set (v:=L.getD k 0%256) h2;rw[g] at e2;have e3:=congrArg (256^k*·) (Nat.mod_add_div (L.getD k 0) 256);simp only[Nat.mul_add] at e3;rw[Nat.mul_add] at e1;have p:256^(k+1)*(L.getD k 0/256)=256^k*(256*(L.getD k 0/256)):=by rw[Nat.pow_succ,Nat.mul_assoc]
  rw[p] at e1;have hv:=h.v;omega
 ·rw[getD_set h2];split
  ·omega
  ·rw[getD_set h1,if_neg (by omega)];exact h.lo j (by omega)
 ·rw[getD_set h2,if_neg (by omega),getD_set h1,if_pos rfl];omega
 ·rw[getD_set h2,if_neg (by omega),getD_set h1,if_neg (by omega)];exact h.hi j (by omega)
theorem MuC.done {V n k:Nat} {L:List Nat} (h:MuC V n k L) (hk:n<=k+1) (hV:V<256^n):∀ j,j<n->L.getD j 0<256:=by
 intro j hj;by_cases hjk:j<k
 ·exact h.lo j hjk
 ·have e:j+1=n:=by omega
  have h1:=val8_split L j;rw[val8_drop,h.v] at h1;have h2:256^j*L.getD j 0<=V:=by
   rw[h1,Nat.mul_add];omega
  apply Nat.lt_of_not_le;intro g;have h3:256^j*256<=256^j*L.getD j 0:=Nat.mul_le_mul_left _ g;rw[<- Nat.pow_succ,show j.succ=n from e] at h3;omega
end
section
open Go Go.RowKit Go.Proofs.Tryz
def muR (n:Nat) (L:List Nat):List (Rid×Row):=[((1,6),⟨3,1,L.map i8⟩)]
end
section
open Go Go.RowKit Go.Proofs.Tryz
abbrev XI:=Bool×Nat
def XI.v (x:XI):Int:=if x.1 then -(x.2:Int) else (x.2:Int)
def xi (x:XI):AV:=.agg [boo x.1,n8 x.2]
def xAdd (a b:XI):XI:=if a.1=b.1 then (a.1,a.2+b.2) else if b.2<=a.2 then (a.1,a.2-b.2) else (b.1,b.2-a.2)
def xMul (a b:XI):XI:=(a.1 !=b.1,a.2*b.2)
def Dg8 (m n:Nat):Prop:=n<256^m
theorem Dg8.len {m n:Nat} (h:Dg8 m n):(digs8 n).length<=m:=length_digs_le8.2 h
theorem Dg8.mono {m k n:Nat} (h:Dg8 m n) (hk:m<=k):Dg8 k n:=Nat.lt_of_lt_of_le h (Nat.pow_le_pow_right (by decide) hk)
theorem Dg8.mul {m k a b:Nat} (ha:Dg8 m a) (hb:Dg8 k b):Dg8 (m+k) (a*b):=by
 unfold Dg8 at *
 rw[Nat.pow_add];exact Nat.mul_lt_mul'' ha hb
theorem Dg8.add {m a b:Nat} (ha:Dg8 m a) (hb:Dg8 m b):Dg8 (m+1) (a+b):=by
 unfold Dg8 at *
 rw[Nat.pow_succ];omega
end
section
open Go Go.RowKit Go.Proofs.Tryz
def x0:AV:=.agg [boo false,nilA]
def rX (r:List XI):AV:=.sl (r.map xi)
def lX (m:List (List XI)):AV:=.sl (m.map rX)
def oneX (n q i:Nat):List XI:=(List.range n).map fun j=>if j=i then (false,q) else (false,0)
def oneXs (n q m:Nat):List (List XI):=(List.range m).map (oneX n q)
def xz:AV:=AV.ofVal (ty 185).zero
def onI (n q m:Nat):Inv:=match m with
 |0=>{ fr:=[(0,i64 (n:Nat)),(1,n8 q),(5,nilA),(6,i64 (0:Nat))],st:=[],g:=9 }
 |m+1=>{ F:=[(10,1)],ren:=[((12,3),(5,0))],fr:=[(0,i64 (n:Nat)),(1,n8 q),(5,.own (5,0) (m+1)),(6,i64 (m+1:Nat))],st:=[((5,0),⟨178,1,(oneXs n q (m+1)).map rX⟩)],g:=9 }
end
section
open Go Go.RowKit Go.Proofs.Tryz
def xg (m:List (List XI)) (i j:Nat):XI:=(m.getD i []).getD j (false,0)
def xc (a b:List (List XI)) (i k:Nat):Nat->XI
 |0=>(false,0)
 |j+1=>xAdd (xc a b i k j) (xMul (xg a i j) (xg b j k))
def xrow (a b:List (List XI)) (n i m:Nat):List XI:=(List.range m).map fun k=>xc a b i k n
structure XT (n D:Nat) (m:List (List XI)):Prop where
 l:m.length=n
 r:∀ r∈m,r.length=n
 d:∀ i j,Dg8 D (xg m i j).2
theorem XT.row {n D:Nat} {m:List (List XI)} (h:XT n D m) {i:Nat} (hi:i<n):(m.map rX)[((i:Nat):Int).toNat]?=some (rX (m.getD i []))/\(m.getD i []).length=n:=by
 have hl:i<m.length:=by rw[h.l]; exact hi
 refine⟨by simp[hl],?_⟩;have:m.getD i []=m[i]:=by simp[hl]
 rw[this];exact h.r _ (List.getElem_mem _)
theorem XT.at {n D:Nat} {m:List (List XI)} (h:XT n D m) {i j:Nat} (hi:i<n) (hj:j<n):((m.getD i []).map xi)[((j:Nat):Int).toNat]?=some (xi (xg m i j)):=by
 have hl:=(h.row hi).2;have hj':j<(m.getD i []).length:=by rw[hl]; exact hj
 unfold xg;generalize m.getD i []=r at hj';simp[hj']
def xpart (a b:List (List XI)) (n i k:Nat):Nat->List AV
 |0=>fillV xi xz n (xrow a b n i k)
 |j+1=>fillV xi xz n (xrow a b n i k++[xc a b i k (j+1)])
end
end Go.Proofs.YtjdkdcmpifapeaaGreatDoor.Abs
