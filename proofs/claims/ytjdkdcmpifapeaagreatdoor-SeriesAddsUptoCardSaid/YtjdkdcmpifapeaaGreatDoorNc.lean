/- The document's digits, to the base 256 (the first part made by genref.py, a program of this session). -/
import Derived.Test.YtjdkdcmpifapeaaGreatDoorMe
import Derived.Test.YtjdkdcmpifapeaaGreatDoorMc
set_option linter.unusedVariables false
set_option linter.unusedSectionVars false
set_option linter.unusedSimpArgs false
set_option maxHeartbeats 4000000
namespace Go.Proofs.YtjdkdcmpifapeaaGreatDoor.Abs
section
open Go Go.RowKit Go.Proofs.Tryz
def B8:Nat:=256
theorem Bpos8:0<B8:=by decide
theorem B18:1<B8:=by decide
def val8:List Nat->Nat
 |[]=>0
 |x::l=>x+B8*val8 l
def digs8 (n:Nat):List Nat:=if h:n=0 then [] else n%B8::digs8 (n/B8)
termination_by n
decreasing_by exact Nat.div_lt_self (Nat.pos_of_ne_zero h) B18
theorem digs_zero8:digs8 0=[]:=by rw[digs8]; rfl
theorem digs_pos8 {n:Nat} (h:n≠0):digs8 n=n%B8::digs8 (n/B8):=by rw[digs8]; simp[h]
theorem val_digs8 (n:Nat):val8 (digs8 n)=n:=by
 induction n using Nat.strongRecOn with
 |_ n ih =>
  by_cases h:n=0
  ·subst h; rw[digs_zero8]; rfl
  ·rw[digs_pos8 h,val8,ih _ (Nat.div_lt_self (Nat.pos_of_ne_zero h) B18)];exact Nat.mod_add_div n B8
theorem digs_eq_nil8 {n:Nat}:digs8 n=[]↔n=0:=by
 constructor
 ·intro h;have:=val_digs8 n;rw[h] at this;exact this.symm
 ·rintro rfl; exact digs_zero8
def Can8 (l:List Nat):Prop:=(∀ x∈l,x<B8)/\l.getLast?≠some 0
theorem val_append8 (l r:List Nat):val8 (l++r)=val8 l+B8^l.length*val8 r:=by
 induction l with
 |nil=>simp[val8]
 |cons x l ih =>
  simp only[List.cons_append,val8,ih,List.length_cons,Nat.pow_succ];rw[Nat.mul_add,<- Nat.mul_assoc,Nat.mul_comm B8 (B8^l.length)];omega
theorem length_digs_le8 {n k:Nat}:(digs8 n).length<=k↔n<B8^k:=by
 induction k generalizing n with
 |zero =>
  rw[Nat.le_zero,List.length_eq_zero_iff,digs_eq_nil8];simp
 |succ k ih =>
  by_cases h0:n=0
  ·subst h0;rw[digs_zero8];exact⟨fun _=>Nat.pow_pos (show 0<B8 by decide),fun _=>Nat.zero_le _⟩
  ·rw[digs_pos8 h0,List.length_cons,Nat.add_le_add_iff_right,ih,Nat.pow_succ];exact Nat.div_lt_iff_lt_mul Bpos8
def i8 (x:Nat):AV:=i64 (x:Nat)
def l8 (l:List Nat):AV:=.sl (l.map i8)
def n8 (n:Nat):AV:=l8 (digs8 n)
end
section
open Go Go.RowKit Go.Proofs.Tryz
def oR (g:Nat->Nat) (m:Nat):List AV:=(List.range m).map fun k=>i8 (g k)
def ob (A:List Nat) (j:Nat):Nat:=A.getD (j/4) 0/256^(j%4)%256
def ofI (A:List Nat) (x i k:Nat):Inv:=match 4*i+k with
 |0=>{ fr:=[(0,lst A),(3,nilA),(4,i64 (i:Nat)),(5,i64 (x/256^k:Nat)),(6,i64 (k:Nat))],st:=[],g:=9 }
 |m+1=>{ ren:=[((10,4),(5,0))],fr:=[(0,lst A),(3,.own (5,0) (m+1)),(4,i64 (i:Nat)),(5,i64 (x/256^k:Nat)),(6,i64 (k:Nat))],st:=[((5,0),⟨3,1,oR (ob A) (m+1)⟩)],g:=9 }
def ofO (A:List Nat) (c i:Nat):Inv:=match c with
 |0=>{ fr:=[(0,lst A),(3,nilA),(4,i64 (i:Nat))],st:=[],g:=60 }
 |m+1=>{ fr:=[(0,lst A),(3,.own (5,0) (m+1)),(4,i64 (i:Nat))],st:=[((5,0),⟨3,1,oR (ob A) (m+1)⟩)],g:=60 }
noncomputable def ofCode (l:List Bool):Code:=Code.at' (bodyOf f104) l
end
section
open Go Go.RowKit Go.Proofs.Tryz
theorem val8_snoc (l:List Nat) (x:Nat):val8 (l++[x])=val8 l+256^l.length*x:=by
 rw[val_append8];simp[val8,B8]
theorem val8_take (A:List Nat) (i:Nat):val8 (A.take (i+1))=val8 (A.take i)+256^i*A.getD i 0:=by
 by_cases h:i<A.length
 ·rw[List.take_succ_eq_append_getElem h,val8_snoc,List.length_take,Nat.min_eq_left (by omega)];simp[h]
 ·rw[List.take_of_length_le (by omega),List.take_of_length_le (by omega)];simp[List.getD,h]
def aC (A D:List Nat):Nat->Nat
 |0=>0
 |i+1=>(aC A D i+A.getD i 0+D.getD i 0)/256
def aG (A D:List Nat) (i:Nat):Nat:=(aC A D i+A.getD i 0+D.getD i 0)%256
theorem getD_lt8 {A:List Nat} (h:∀ x∈A,x<B8) (i:Nat):A.getD i 0<256:=by
 by_cases hi:i<A.length
 ·have:=h A[i] (List.getElem_mem hi);simpa [List.getD,hi,B8] using this
 ·simp[List.getD,hi]
def adI (A D:List Nat) (i:Nat):Inv:=match i with
 |0=>{ fr:=[(0,l8 A),(1,l8 D),(5,nilA),(6,i64 (aC A D 0:Nat)),(7,i64 (0:Nat))],st:=[],g:=9 }
 |m+1=>{ ren:=[((14,4),(5,0)),((13,4),(5,0)),((12,4),(5,0))],fr:=[(0,l8 A),(1,l8 D),(5,.own (5,0) (m+1)),(6,i64 (aC A D (m+1):Nat)),(7,i64 (m+1:Nat))],st:=[((5,0),⟨3,1,oR (aG A D) (m+1)⟩)],g:=9 }
def adO (A D:List Nat) (i:Nat):Inv:=match i with
 |0=>{ fr:=[(5,nilA)],st:=[],g:=60 }
 |m+1=>{ fr:=[(5,.own (5,0) (m+1))],st:=[((5,0),⟨3,1,oR (aG A D) (m+1)⟩)],g:=60 }
end
section
open Go Go.RowKit Go.Proofs.Tryz
theorem val8_drop (A:List Nat) (i:Nat):val8 (A.drop i)=A.getD i 0+256*val8 (A.drop (i+1)):=by
 by_cases h:i<A.length
 ·rw[List.drop_eq_getElem_cons h];simp[val8,B8,h]
 ·rw[List.drop_of_length_le (by omega),List.drop_of_length_le (by omega)];simp[val8,List.getD,h]
theorem val8_split (A:List Nat) (i:Nat):val8 A=val8 (A.take i)+256^i*val8 (A.drop i):=by
 by_cases h:i<=A.length
 ·conv=>lhs; rw[<- List.take_append_drop i A,val_append8]
  rw[List.length_take,Nat.min_eq_left h];rfl
 ·rw[List.take_of_length_le (by omega),List.drop_of_length_le (by omega)];simp[val8]
def cmpN8 (a b:Nat):Int:=if a<b then -1 else if b<a then 1 else 0
end
section
open Go Go.RowKit Go.Proofs.Tryz
def sO (A D:List Nat):Nat->Nat
 |0=>0
 |i+1=>if A.getD i 0<sO A D i+D.getD i 0 then 1 else 0
def sG (A D:List Nat) (i:Nat):Nat:=(A.getD i 0+256-sO A D i-D.getD i 0)%256
def suI (A D:List Nat) (i:Nat):Inv:=match i with
 |0=>{ fr:=[(0,l8 A),(1,l8 D),(5,nilA),(6,i64 (sO A D 0:Nat)),(7,i64 (0:Nat))],st:=[],g:=9 }
 |m+1=>{ ren:=[((14,3),(5,0)),((15,3),(5,0)),((16,3),(5,0)),((17,3),(5,0))],fr:=[(0,l8 A),(1,l8 D),(5,.own (5,0) (m+1)),(6,i64 (sO A D (m+1):Nat)),(7,i64 (m+1:Nat))],st:=[((5,0),⟨3,1,oR (sG A D) (m+1)⟩)],g:=9 }
def suO (A D:List Nat) (i:Nat):Inv:=match i with
 |0=>{ fr:=[(5,nilA)],st:=[],g:=60 }
 |m+1=>{ fr:=[(5,.own (5,0) (m+1))],st:=[((5,0),⟨3,1,oR (sG A D) (m+1)⟩)],g:=60 }
end
section
open Go Go.RowKit Go.Proofs.Tryz
def bH (A:List Nat) (m:Nat):Nat->Nat
 |0=>0
 |s+1=>bH A m s*256+A.getD (4*m+(3-s)) 0
def bG (A:List Nat) (m:Nat):Nat:=bH A m 4
def dR (g:Nat->Nat) (m:Nat):List AV:=(List.range m).map fun k=>dg (g k)
def bkI (A:List Nat) (m s:Nat):Inv:=match m with
 |0=>{ fr:=[(0,l8 A),(3,nilA),(4,i64 (0:Nat)),(5,i64 (bH A 0 s:Nat)),(6,i64 (3-(s:Int)))],st:=[],g:=30 }
 |m+1=>{ fr:=[(0,l8 A),(3,.own (5,0) (m+1)),(4,i64 (4*(m+1):Nat)),(5,i64 (bH A (m+1) s:Nat)),(6,i64 (3-(s:Int)))],st:=[((5,0),⟨207,1,dR (bG A) (m+1)⟩)],g:=30 }
def bkO (A:List Nat) (m:Nat):Inv:=match m with
 |0=>{ fr:=[(0,l8 A),(3,nilA),(4,i64 (0:Nat))],st:=[],g:=9 }
 |m+1=>{ ren:=[((40,4),(5,0))],fr:=[(0,l8 A),(3,.own (5,0) (m+1)),(4,i64 (4*(m+1):Nat))],st:=[((5,0),⟨207,1,dR (bG A) (m+1)⟩)],g:=9 }
def bkX (A:List Nat) (m:Nat):Inv:=match m with
 |0=>{ fr:=[(0,l8 A),(3,nilA),(4,i64 (0:Nat)),(5,i64 (bG A 0:Nat))],st:=[],g:=40 }
 |m+1=>{ fr:=[(0,l8 A),(3,.own (5,0) (m+1)),(4,i64 (4*(m+1):Nat)),(5,i64 (bG A (m+1):Nat))],st:=[((5,0),⟨207,1,dR (bG A) (m+1)⟩)],g:=40 }
def bkY (A:List Nat) (m:Nat):Inv:={ ren:=[((40,4),(5,0))],fr:=[(0,l8 A),(3,.own (5,0) (m+1)),(4,i64 (4*m:Nat))],st:=[((5,0),⟨207,1,dR (bG A) (m+1)⟩)],g:=50 }
def bkE (A:List Nat) (m:Nat):Inv:=match m with
 |0=>{ fr:=[(3,nilA)],st:=[],g:=60 }
 |m+1=>{ fr:=[(3,.own (5,0) (m+1))],st:=[((5,0),⟨207,1,dR (bG A) (m+1)⟩)],g:=60 }
end
end Go.Proofs.YtjdkdcmpifapeaaGreatDoor.Abs
