/- MADE BY gen_ty.py (a program of this session): the types of the program, as a table. -/
import Derived.Test.YtjdkdcmpifapeaaGreatDoorMa
import Derived.Test.YtjdkdcmpifapeaaGreatDoorProg
import Derived.Test.YtjdkdcmpifapeaaGreatDoorMc
import Derived.IntWalk
import Derived.RangeFuncBox
import Derived.RangeFuncLeaves
import Derived.RangeFuncFrom
import Derived.Shelf.Abstract
import Derived.WalkKit
import Derived.OwnWalkIn
import Derived.TacticsInMore
import Derived.LoopNIn
import Derived.LoopIn
import Derived.Lib.TrailingZeros
set_option linter.unusedVariables false
set_option linter.unusedSimpArgs false
set_option linter.unusedSectionVars false
set_option maxHeartbeats 4000000
namespace Go.Proofs.YtjdkdcmpifapeaaGreatDoor.Abs
section
set_option maxRecDepth 100000
open Go Go.Proofs.Tryz
def noTy:Ty:=⟨0,0,.tuple #[],.other,false⟩
def tab0:List Ty:=[⟨1,0,.tuple #[],.other,true⟩,
noTy,
⟨1,8,.int .i64 0,.int .i64,true⟩,
⟨1,8,.int .i64 0,.int .i64,true⟩,
⟨1,1,.bool false,.bool,true⟩,
⟨1,1,.int .u8 0,.int .u8,true⟩,
⟨1,1,.int .u8 0,.int .u8,true⟩,
⟨4,24,.agg #[.int .i64 0,.int .i64 0,.bool false,.int .u8 0],.struct [(0,2),(1,3),(2,4),(3,6)],true⟩,
⟨4,24,.agg #[.int .i64 0,.int .i64 0,.bool false,.int .u8 0],.struct [(0,2),(1,3),(2,4),(3,6)],true⟩,
⟨1,16,.string { data:=#[] },.str,true⟩,
⟨1,16,.string { data:=#[] },.str,true⟩,
⟨1,16,.string { data:=#[] },.str,true⟩,
⟨1,8,.int .u64 0,.int .u64,true⟩,
noTy,
noTy,
noTy,
noTy,
noTy,
noTy,
noTy,
noTy,
noTy,
⟨1,24,.slice none 0 0,.slice 28,true⟩,
noTy,
⟨1,24,.slice none 0 0,.slice 207,true⟩,
noTy,
⟨2,32,.agg #[.bool false,.slice none 0 0],.struct [(0,4),(1,24)],true⟩,
noTy,
⟨3,56,.agg #[.bool false,.slice none 0 0,.slice none 0 0],.struct [(0,26),(2,24)],true⟩,
noTy,
⟨1,24,.slice none 0 0,.slice 22,true⟩,
noTy,
⟨1,8,.int .i64 0,.int .i64,true⟩,
noTy,
⟨1,0,.tuple #[.slice none 0 0,.int .i64 0],.other,true⟩,
noTy,
⟨1,0,.tuple #[.agg #[.bool false,.slice none 0 0,.slice none 0 0],.int .i64 0],.other,true⟩,
noTy,
⟨1,0,.tuple #[.int .i64 0,.int .i64 0],.other,true⟩,
noTy]
def tab1:List Ty:=[noTy,
noTy,
⟨1,24,.slice none 0 0,.slice 110,true⟩,
noTy,
⟨2,48,.agg #[.slice none 0 0,.slice none 0 0],.struct [(0,42),(1,42)],true⟩,
⟨1,0,.tuple #[.agg #[.slice none 0 0,.slice none 0 0],.int .i64 0],.other,true⟩,
noTy,
noTy,
noTy,
noTy,
noTy,
noTy,
noTy,
noTy,
⟨1,24,.slice none 0 0,.slice 3,true⟩,
noTy,
noTy,
noTy,
noTy,
noTy,
⟨1,0,.tuple #[.slice none 0 0,.int .i64 0],.other,true⟩,
noTy,
noTy,
noTy,
noTy,
⟨2,48,.agg #[.slice none 0 0,.slice none 0 0],.struct [(0,22),(1,30)],true⟩,
⟨1,24,.slice none 0 0,.slice 124,true⟩,
noTy,
⟨16,320,.agg #[.int .i64 0,.int .i64 0,.slice none 0 0,.slice none 0 0,.slice none 0 0,.slice none 0 0,.slice none 0 0,.slice none 0 0,.slice none 0 0,.bool false,.slice none 0 0,.slice none 0 0,.bool false,.slice none 0 0,.slice none 0 0,.slice none 0 0],.struct [(0,3),(1,3),(2,30),(3,30),(4,22),(5,65),(7,65),(9,28),(12,28),(15,66)],true⟩,
noTy,
noTy,
⟨1,24,.slice none 0 0,.slice 76,true⟩,
⟨1,24,.slice none 0 0,.slice 71,true⟩,
noTy,
⟨3,72,.agg #[.slice none 0 0,.slice none 0 0,.slice none 0 0],.struct [(0,71),(1,72),(2,71)],true⟩,
noTy,
⟨3,40,.agg #[.bool false,.slice none 0 0,.int .i64 0],.struct [(0,26),(2,3)],true⟩,
noTy,
⟨14,272,.agg #[.slice none 0 0,.slice none 0 0,.slice none 0 0,.slice none 0 0,.slice none 0 0,.slice none 0 0,.slice none 0 0,.slice none 0 0,.bool false,.slice none 0 0,.int .i64 0,.bool false,.slice none 0 0,.int .i64 0],.struct [(0,42),(1,42),(2,74),(5,74),(8,76),(11,76)],true⟩,
⟨1,0,.tuple #[.agg #[.slice none 0 0,.slice none 0 0,.slice none 0 0,.slice none 0 0,.slice none 0 0,.slice none 0 0,.slice none 0 0,.slice none 0 0,.bool false,.slice none 0 0,.int .i64 0,.bool false,.slice none 0 0,.int .i64 0],.int .i64 0],.other,true⟩]
def tab2:List Ty:=[noTy,
noTy,
⟨1,0,.tuple #[.slice none 0 0,.int .i64 0],.other,true⟩,
noTy,
noTy,
noTy,
noTy,
noTy,
noTy,
noTy,
noTy,
noTy,
noTy,
noTy,
noTy,
noTy,
⟨1,0,.tuple #[.slice none 0 0,.int .i64 0],.other,true⟩,
noTy,
noTy,
noTy,
noTy,
noTy,
noTy,
noTy,
noTy,
noTy,
noTy,
noTy,
⟨1,0,.tuple #[.agg #[.slice none 0 0,.slice none 0 0,.slice none 0 0],.int .i64 0],.other,true⟩,
noTy,
⟨1,24,.slice none 0 0,.slice 150,true⟩,
⟨1,0,.tuple #[.slice none 0 0,.int .i64 0],.other,true⟩,
noTy,
noTy,
⟨1,0,.tuple #[.agg #[.bool false,.slice none 0 0,.int .i64 0],.int .i64 0],.other,true⟩,
noTy,
noTy,
noTy,
noTy,
noTy]
def tab3:List Ty:=[noTy,
noTy,
noTy,
noTy,
⟨11,200,.agg #[.bool false,.slice none 0 0,.bool false,.slice none 0 0,.slice none 0 0,.bool false,.slice none 0 0,.slice none 0 0,.bool false,.slice none 0 0,.slice none 0 0],.struct [(0,4),(1,22),(2,28),(5,28),(8,28)],true⟩,
noTy,
noTy,
noTy,
noTy,
noTy,
noTy,
noTy,
noTy,
noTy,
noTy,
noTy,
noTy,
noTy,
noTy,
noTy,
noTy,
noTy,
noTy,
noTy,
noTy,
noTy,
noTy,
noTy,
noTy,
noTy,
⟨6,80,.agg #[.bool false,.slice none 0 0,.int .i64 0,.bool false,.slice none 0 0,.int .i64 0],.struct [(0,76),(3,76)],true⟩,
noTy,
noTy,
noTy,
noTy,
noTy,
⟨1,0,.tuple #[.int .i64 0,.agg #[.bool false,.slice none 0 0,.int .i64 0]],.other,true⟩,
noTy,
noTy,
noTy]
def tab4:List Ty:=[noTy,
noTy,
noTy,
⟨1,8,.int .u64 0,.int .u64,true⟩,
⟨1,0,.tuple #[.agg #[.bool false,.slice none 0 0],.int .i64 0],.other,true⟩,
noTy,
noTy,
noTy,
noTy,
noTy,
noTy,
noTy,
noTy,
⟨1,0,.tuple #[.int .i64 0,.agg #[.bool false,.slice none 0 0,.slice none 0 0],.int .i64 0],.other,true⟩,
noTy,
noTy,
noTy,
noTy,
noTy,
⟨1,0,.tuple #[.slice none 0 0,.int .i64 0],.other,true⟩,
noTy,
⟨1,0,.tuple #[.agg #[.bool false,.slice none 0 0],.agg #[.bool false,.slice none 0 0],.int .i64 0],.other,true⟩,
noTy,
noTy,
noTy,
⟨2,32,.agg #[.bool false,.slice none 0 0],.struct [(0,4),(1,54)],true⟩,
noTy,
noTy,
noTy,
noTy,
noTy,
noTy,
⟨1,0,.tuple #[.int .i64 0,.int .i64 0,.int .i64 0],.other,true⟩,
⟨1,24,.slice none 0 0,.slice 110,true⟩,
noTy,
⟨1,0,.tuple #[.agg #[.bool false,.slice none 0 0,.int .i64 0,.bool false,.slice none 0 0,.int .i64 0],.int .i64 0],.other,true⟩,
noTy,
noTy,
noTy,
noTy]
def tab5:List Ty:=[noTy,
noTy,
⟨7,56,.agg #[.int .i64 0,.int .i64 0,.int .i64 0,.int .i64 0,.int .i64 0,.int .i64 0,.int .i64 0],.array 7 32,true⟩,
noTy,
noTy,
noTy,
noTy,
⟨1,4,.int .u32 0,.int .u32,true⟩,
noTy,
noTy,
noTy,
⟨1,0,.tuple #[.agg #[.bool false,.slice none 0 0,.int .i64 0],.agg #[.bool false,.slice none 0 0,.int .i64 0],.int .i64 0],.other,true⟩,
noTy,
noTy,
noTy,
noTy,
noTy,
noTy,
noTy,
noTy,
noTy,
noTy,
noTy,
noTy,
noTy,
noTy,
noTy,
noTy,
noTy,
noTy,
noTy,
noTy,
⟨1,0,.tuple #[.slice none 0 0,.slice none 0 0,.int .i64 0],.other,true⟩,
noTy,
noTy,
noTy,
noTy,
noTy,
⟨1,0,.tuple #[.agg #[.bool false,.slice none 0 0],.agg #[.bool false,.slice none 0 0],.int .i64 0,.int .i64 0],.other,true⟩,
noTy]
def tab6:List Ty:=[noTy,
noTy,
noTy,
noTy,
noTy,
noTy,
noTy,
noTy,
noTy,
noTy,
noTy,
noTy,
noTy,
noTy,
noTy,
noTy,
noTy,
noTy,
noTy,
noTy,
noTy,
noTy,
noTy,
noTy,
noTy,
noTy,
noTy,
noTy,
⟨1,0,.tuple #[.slice none 0 0,.slice none 0 0,.int .i64 0],.other,true⟩,
noTy,
noTy,
noTy,
⟨1,24,.slice none 0 0,.slice 32,true⟩,
noTy,
noTy,
noTy,
noTy,
noTy,
noTy,
noTy]
def tab7:List Ty:=[noTy,
noTy,
noTy,
⟨4,32,.agg #[.int .i64 0,.int .i64 0,.int .i64 0,.int .i64 0],.array 4 32,true⟩,
noTy,
noTy,
noTy,
noTy,
noTy,
noTy,
noTy,
noTy,
noTy,
noTy,
noTy,
noTy,
noTy,
noTy,
noTy,
noTy,
noTy,
noTy,
⟨2,48,.agg #[.slice none 0 0,.slice none 0 0],.array 2 71,true⟩,
noTy,
⟨6,80,.agg #[.bool false,.slice none 0 0,.int .i64 0,.bool false,.slice none 0 0,.int .i64 0],.array 2 76,true⟩,
⟨24,320,.agg #[.bool false,.slice none 0 0,.int .i64 0,.bool false,.slice none 0 0,.int .i64 0,.bool false,.slice none 0 0,.int .i64 0,.bool false,.slice none 0 0,.int .i64 0,.bool false,.slice none 0 0,.int .i64 0,.bool false,.slice none 0 0,.int .i64 0,.bool false,.slice none 0 0,.int .i64 0,.bool false,.slice none 0 0,.int .i64 0],.array 4 304,true⟩,
noTy,
noTy,
noTy,
noTy,
noTy,
noTy,
noTy,
noTy,
noTy,
noTy,
noTy,
⟨1,0,.tuple #[.slice none 0 0,.int .u32 0],.other,true⟩,
noTy,
⟨1,0,.tuple #[.slice none 0 0,.slice none 0 0],.other,true⟩]
def tab8:List Ty:=[noTy,
noTy,
noTy,
noTy,
noTy,
noTy,
⟨1,24,.slice none 0 0,.slice 150,true⟩,
⟨1,0,.tuple #[.slice none 0 0,.int .i64 0],.other,true⟩,
noTy,
noTy,
noTy,
noTy,
noTy,
noTy,
noTy,
noTy,
noTy,
noTy,
noTy,
noTy,
noTy,
noTy,
noTy,
noTy,
noTy,
noTy,
noTy,
noTy,
noTy,
noTy,
noTy,
noTy,
noTy,
noTy,
noTy,
noTy,
noTy,
noTy,
⟨32,32,.agg #[.int .u8 0,.int .u8 0,.int .u8 0,.int .u8 0,.int .u8 0,.int .u8 0,.int .u8 0,.int .u8 0,.int .u8 0,.int .u8 0,.int .u8 0,.int .u8 0,.int .u8 0,.int .u8 0,.int .u8 0,.int .u8 0,.int .u8 0,.int .u8 0,.int .u8 0,.int .u8 0,.int .u8 0,.int .u8 0,.int .u8 0,.int .u8 0,.int .u8 0,.int .u8 0,.int .u8 0,.int .u8 0,.int .u8 0,.int .u8 0,.int .u8 0,.int .u8 0],.array 32 5,true⟩,
noTy]
def tab9:List Ty:=[noTy,
noTy,
noTy,
noTy,
noTy,
noTy,
noTy,
noTy,
noTy,
noTy,
noTy,
noTy,
noTy,
noTy,
noTy,
noTy,
noTy,
noTy,
noTy,
noTy,
noTy,
noTy,
noTy,
noTy,
noTy,
noTy,
noTy,
noTy,
noTy,
noTy,
noTy,
noTy,
noTy,
noTy,
noTy,
noTy,
noTy]
def ty (t:Nat):Ty:=(tab0++tab1++tab2++tab3++tab4++tab5++tab6++tab7++tab8++tab9).getD t noTy
theorem noTy_ok {P:Program} {i:Nat}:noTy.ok=true->TyOk P i noTy:=nofun
theorem k {P:Program} {i:Nat} {T:Ty} (h:TyOk P i T):T.ok=true->TyOk P i T:=fun _=>h
def allTy (P:Program):Nat->List Ty->Prop
 |_,[]=>True
 |i,T::l=>(T.ok=true->TyOk P i T)/\allTy P (i+1) l
theorem allTy_append {P:Program}:∀ (a b:List Ty) (i:Nat),allTy P i a->allTy P (i+a.length) b->allTy P i (a++b)
 |[],b,i,_,h=>by simpa using h
 |T::a,b,i,h,h2=>⟨h.1,allTy_append a b (i+1) h.2 (by simpa [Nat.add_assoc,Nat.add_comm 1] using h2)⟩
theorem allTy_get {P:Program}:∀ (l:List Ty) (i t:Nat) (T:Ty),allTy P i l->l[t]?=some T->T.ok=true->TyOk P (i+t) T
 |[],_,_,_,_,h=>by simp at h
 |X::l,i,0,T,h,h2=>by simp at h2; subst h2; exact h.1
 |X::l,i,t+1,T,h,h2=>by
  have:=allTy_get l (i+1) t T h.2 (by simpa using h2);rwa [Nat.add_assoc,Nat.add_comm 1] at this
theorem tab0_ok:allTy Go.Proofs.Tryz.prog 0 tab0 :=
 ⟨k ⟨_,_,type0,underlying0,rfl,rfl,rfl,trivial⟩,
noTy_ok,
k ⟨_,_,type2,underlying2,rfl,rfl,rfl,rfl⟩,
k ⟨_,_,type3,underlying3,rfl,rfl,rfl,rfl⟩,
k ⟨_,_,type4,underlying4,rfl,rfl,rfl,rfl⟩,
k ⟨_,_,type5,underlying5,rfl,rfl,rfl,rfl⟩,
k ⟨_,_,type6,underlying6,rfl,rfl,rfl,rfl⟩,
k ⟨_,_,type7,underlying7,rfl,rfl,rfl,⟨_,rfl,rfl⟩⟩,
k ⟨_,_,type8,underlying8,rfl,rfl,rfl,⟨_,rfl,rfl⟩⟩,
k ⟨_,_,type9,underlying9,rfl,rfl,rfl,rfl⟩,
k ⟨_,_,type10,underlying10,rfl,rfl,rfl,rfl⟩,
k ⟨_,_,type11,underlying11,rfl,rfl,rfl,rfl⟩,
k ⟨_,_,type12,underlying12,rfl,rfl,rfl,rfl⟩,
noTy_ok,
noTy_ok,
noTy_ok,
noTy_ok,
noTy_ok,
noTy_ok,
noTy_ok,
noTy_ok,
noTy_ok,
k ⟨_,_,type22,underlying22,rfl,rfl,rfl,rfl⟩,
noTy_ok,
k ⟨_,_,type24,underlying24,rfl,rfl,rfl,rfl⟩,
noTy_ok,
k ⟨_,_,type26,underlying26,rfl,rfl,rfl,⟨_,rfl,rfl⟩⟩,
noTy_ok,
k ⟨_,_,type28,underlying28,rfl,rfl,rfl,⟨_,rfl,rfl⟩⟩,
noTy_ok,
k ⟨_,_,type30,underlying30,rfl,rfl,rfl,rfl⟩,
noTy_ok,
k ⟨_,_,type32,underlying32,rfl,rfl,rfl,rfl⟩,
noTy_ok,
k ⟨_,_,type34,underlying34,rfl,rfl,rfl,trivial⟩,
noTy_ok,
k ⟨_,_,type36,underlying36,rfl,rfl,rfl,trivial⟩,
noTy_ok,
k ⟨_,_,type38,underlying38,rfl,rfl,rfl,trivial⟩,
noTy_ok,trivial⟩
theorem tab1_ok:allTy Go.Proofs.Tryz.prog 40 tab1 :=
 ⟨noTy_ok,
noTy_ok,
k ⟨_,_,type42,underlying42,rfl,rfl,rfl,rfl⟩,
noTy_ok,
k ⟨_,_,type44,underlying44,rfl,rfl,rfl,⟨_,rfl,rfl⟩⟩,
k ⟨_,_,type45,underlying45,rfl,rfl,rfl,trivial⟩,
noTy_ok,
noTy_ok,
noTy_ok,
noTy_ok,
noTy_ok,
noTy_ok,
noTy_ok,
noTy_ok,
k ⟨_,_,type54,underlying54,rfl,rfl,rfl,rfl⟩,
noTy_ok,
noTy_ok,
noTy_ok,
noTy_ok,
noTy_ok,
k ⟨_,_,type60,underlying60,rfl,rfl,rfl,trivial⟩,
noTy_ok,
noTy_ok,
noTy_ok,
noTy_ok,
k ⟨_,_,type65,underlying65,rfl,rfl,rfl,⟨_,rfl,rfl⟩⟩,
k ⟨_,_,type66,underlying66,rfl,rfl,rfl,rfl⟩,
noTy_ok,
k ⟨_,_,type68,underlying68,rfl,rfl,rfl,⟨_,rfl,rfl⟩⟩,
noTy_ok,
noTy_ok,
k ⟨_,_,type71,underlying71,rfl,rfl,rfl,rfl⟩,
k ⟨_,_,type72,underlying72,rfl,rfl,rfl,rfl⟩,
noTy_ok,
k ⟨_,_,type74,underlying74,rfl,rfl,rfl,⟨_,rfl,rfl⟩⟩,
noTy_ok,
k ⟨_,_,type76,underlying76,rfl,rfl,rfl,⟨_,rfl,rfl⟩⟩,
noTy_ok,
k ⟨_,_,type78,underlying78,rfl,rfl,rfl,⟨_,rfl,rfl⟩⟩,
k ⟨_,_,type79,underlying79,rfl,rfl,rfl,trivial⟩,trivial⟩
theorem tab2_ok:allTy Go.Proofs.Tryz.prog 80 tab2 :=
 ⟨noTy_ok,
noTy_ok,
k ⟨_,_,type82,underlying82,rfl,rfl,rfl,trivial⟩,
noTy_ok,
noTy_ok,
noTy_ok,
noTy_ok,
noTy_ok,
noTy_ok,
noTy_ok,
noTy_ok,
noTy_ok,
noTy_ok,
noTy_ok,
noTy_ok,
noTy_ok,
k ⟨_,_,type96,underlying96,rfl,rfl,rfl,trivial⟩,
noTy_ok,
noTy_ok,
noTy_ok,
noTy_ok,
noTy_ok,
noTy_ok,
noTy_ok,
noTy_ok,
noTy_ok,
noTy_ok,
noTy_ok,
k ⟨_,_,type108,underlying108,rfl,rfl,rfl,trivial⟩,
noTy_ok,
k ⟨_,_,type110,underlying110,rfl,rfl,rfl,rfl⟩,
k ⟨_,_,type111,underlying111,rfl,rfl,rfl,trivial⟩,
noTy_ok,
noTy_ok,
k ⟨_,_,type114,underlying114,rfl,rfl,rfl,trivial⟩,
noTy_ok,
noTy_ok,
noTy_ok,
noTy_ok,
noTy_ok,trivial⟩
theorem tab3_ok:allTy Go.Proofs.Tryz.prog 120 tab3 :=
 ⟨noTy_ok,
noTy_ok,
noTy_ok,
noTy_ok,
k ⟨_,_,type124,underlying124,rfl,rfl,rfl,⟨_,rfl,rfl⟩⟩,
noTy_ok,
noTy_ok,
noTy_ok,
noTy_ok,
noTy_ok,
noTy_ok,
noTy_ok,
noTy_ok,
noTy_ok,
noTy_ok,
noTy_ok,
noTy_ok,
noTy_ok,
noTy_ok,
noTy_ok,
noTy_ok,
noTy_ok,
noTy_ok,
noTy_ok,
noTy_ok,
noTy_ok,
noTy_ok,
noTy_ok,
noTy_ok,
noTy_ok,
k ⟨_,_,type150,underlying150,rfl,rfl,rfl,⟨_,rfl,rfl⟩⟩,
noTy_ok,
noTy_ok,
noTy_ok,
noTy_ok,
noTy_ok,
k ⟨_,_,type156,underlying156,rfl,rfl,rfl,trivial⟩,
noTy_ok,
noTy_ok,
noTy_ok,trivial⟩
theorem tab4_ok:allTy Go.Proofs.Tryz.prog 160 tab4 :=
 ⟨noTy_ok,
noTy_ok,
noTy_ok,
k ⟨_,_,type163,underlying163,rfl,rfl,rfl,rfl⟩,
k ⟨_,_,type164,underlying164,rfl,rfl,rfl,trivial⟩,
noTy_ok,
noTy_ok,
noTy_ok,
noTy_ok,
noTy_ok,
noTy_ok,
noTy_ok,
noTy_ok,
k ⟨_,_,type173,underlying173,rfl,rfl,rfl,trivial⟩,
noTy_ok,
noTy_ok,
noTy_ok,
noTy_ok,
noTy_ok,
k ⟨_,_,type179,underlying179,rfl,rfl,rfl,trivial⟩,
noTy_ok,
k ⟨_,_,type181,underlying181,rfl,rfl,rfl,trivial⟩,
noTy_ok,
noTy_ok,
noTy_ok,
k ⟨_,_,type185,underlying185,rfl,rfl,rfl,⟨_,rfl,rfl⟩⟩,
noTy_ok,
noTy_ok,
noTy_ok,
noTy_ok,
noTy_ok,
noTy_ok,
k ⟨_,_,type192,underlying192,rfl,rfl,rfl,trivial⟩,
k ⟨_,_,type193,underlying193,rfl,rfl,rfl,rfl⟩,
noTy_ok,
k ⟨_,_,type195,underlying195,rfl,rfl,rfl,trivial⟩,
noTy_ok,
noTy_ok,
noTy_ok,
noTy_ok,trivial⟩
theorem tab5_ok:allTy Go.Proofs.Tryz.prog 200 tab5 :=
 ⟨noTy_ok,
noTy_ok,
k ⟨_,_,type202,underlying202,rfl,rfl,rfl,rfl⟩,
noTy_ok,
noTy_ok,
noTy_ok,
noTy_ok,
k ⟨_,_,type207,underlying207,rfl,rfl,rfl,rfl⟩,
noTy_ok,
noTy_ok,
noTy_ok,
k ⟨_,_,type211,underlying211,rfl,rfl,rfl,trivial⟩,
noTy_ok,
noTy_ok,
noTy_ok,
noTy_ok,
noTy_ok,
noTy_ok,
noTy_ok,
noTy_ok,
noTy_ok,
noTy_ok,
noTy_ok,
noTy_ok,
noTy_ok,
noTy_ok,
noTy_ok,
noTy_ok,
noTy_ok,
noTy_ok,
noTy_ok,
noTy_ok,
k ⟨_,_,type232,underlying232,rfl,rfl,rfl,trivial⟩,
noTy_ok,
noTy_ok,
noTy_ok,
noTy_ok,
noTy_ok,
k ⟨_,_,type238,underlying238,rfl,rfl,rfl,trivial⟩,
noTy_ok,trivial⟩
theorem tab6_ok:allTy Go.Proofs.Tryz.prog 240 tab6 :=
 ⟨noTy_ok,
noTy_ok,
noTy_ok,
noTy_ok,
noTy_ok,
noTy_ok,
noTy_ok,
noTy_ok,
noTy_ok,
noTy_ok,
noTy_ok,
noTy_ok,
noTy_ok,
noTy_ok,
noTy_ok,
noTy_ok,
noTy_ok,
noTy_ok,
noTy_ok,
noTy_ok,
noTy_ok,
noTy_ok,
noTy_ok,
noTy_ok,
noTy_ok,
noTy_ok,
noTy_ok,
noTy_ok,
k ⟨_,_,type268,underlying268,rfl,rfl,rfl,trivial⟩,
noTy_ok,
noTy_ok,
noTy_ok,
k ⟨_,_,type272,underlying272,rfl,rfl,rfl,rfl⟩,
noTy_ok,
noTy_ok,
noTy_ok,
noTy_ok,
noTy_ok,
noTy_ok,
noTy_ok,trivial⟩
theorem tab7_ok:allTy Go.Proofs.Tryz.prog 280 tab7 :=
 ⟨noTy_ok,
noTy_ok,
noTy_ok,
k ⟨_,_,type283,underlying283,rfl,rfl,rfl,rfl⟩,
noTy_ok,
noTy_ok,
noTy_ok,
noTy_ok,
noTy_ok,
noTy_ok,
noTy_ok,
noTy_ok,
noTy_ok,
noTy_ok,
noTy_ok,
noTy_ok,
noTy_ok,
noTy_ok,
noTy_ok,
noTy_ok,
noTy_ok,
noTy_ok,
k ⟨_,_,type302,underlying302,rfl,rfl,rfl,rfl⟩,
noTy_ok,
k ⟨_,_,type304,underlying304,rfl,rfl,rfl,rfl⟩,
k ⟨_,_,type305,underlying305,rfl,rfl,rfl,rfl⟩,
noTy_ok,
noTy_ok,
noTy_ok,
noTy_ok,
noTy_ok,
noTy_ok,
noTy_ok,
noTy_ok,
noTy_ok,
noTy_ok,
noTy_ok,
k ⟨_,_,type317,underlying317,rfl,rfl,rfl,trivial⟩,
noTy_ok,
k ⟨_,_,type319,underlying319,rfl,rfl,rfl,trivial⟩,trivial⟩
theorem tab8_ok:allTy Go.Proofs.Tryz.prog 320 tab8 :=
 ⟨noTy_ok,
noTy_ok,
noTy_ok,
noTy_ok,
noTy_ok,
noTy_ok,
k ⟨_,_,type326,underlying326,rfl,rfl,rfl,rfl⟩,
k ⟨_,_,type327,underlying327,rfl,rfl,rfl,trivial⟩,
noTy_ok,
noTy_ok,
noTy_ok,
noTy_ok,
noTy_ok,
noTy_ok,
noTy_ok,
noTy_ok,
noTy_ok,
noTy_ok,
noTy_ok,
noTy_ok,
noTy_ok,
noTy_ok,
noTy_ok,
noTy_ok,
noTy_ok,
noTy_ok,
noTy_ok,
noTy_ok,
noTy_ok,
noTy_ok,
noTy_ok,
noTy_ok,
noTy_ok,
noTy_ok,
noTy_ok,
noTy_ok,
noTy_ok,
noTy_ok,
k ⟨_,_,type358,underlying358,rfl,rfl,rfl,rfl⟩,
noTy_ok,trivial⟩
theorem tab9_ok:allTy Go.Proofs.Tryz.prog 360 tab9 :=
 ⟨noTy_ok,
noTy_ok,
noTy_ok,
noTy_ok,
noTy_ok,
noTy_ok,
noTy_ok,
noTy_ok,
noTy_ok,
noTy_ok,
noTy_ok,
noTy_ok,
noTy_ok,
noTy_ok,
noTy_ok,
noTy_ok,
noTy_ok,
noTy_ok,
noTy_ok,
noTy_ok,
noTy_ok,
noTy_ok,
noTy_ok,
noTy_ok,
noTy_ok,
noTy_ok,
noTy_ok,
noTy_ok,
noTy_ok,
noTy_ok,
noTy_ok,
noTy_ok,
noTy_ok,
noTy_ok,
noTy_ok,
noTy_ok,
noTy_ok,trivial⟩
theorem tabs_ok:allTy Go.Proofs.Tryz.prog 0 (tab0++tab1++tab2++tab3++tab4++tab5++tab6++tab7++tab8++tab9):=by
 refine allTy_append _ _ _ (allTy_append _ _ _ (allTy_append _ _ _ (allTy_append _ _ _ (allTy_append _ _ _ (allTy_append _ _ _ (allTy_append _ _ _ (allTy_append _ _ _ (allTy_append _ _ _ (tab0_ok) tab1_ok) tab2_ok) tab3_ok) tab4_ok) tab5_ok) tab6_ok) tab7_ok) tab8_ok) tab9_ok
theorem ty_ok (t:Nat) (h:(ty t).ok=true):TyOk Go.Proofs.Tryz.prog t (ty t):=by
 unfold ty at h ⊢;rw[List.getD_eq_getElem?_getD] at h ⊢;cases hT:(tab0++tab1++tab2++tab3++tab4++tab5++tab6++tab7++tab8++tab9)[t]? with
 |none=>rw[hT] at h; cases h
 |some T=>rw[hT] at h; have:=allTy_get _ 0 t T tabs_ok hT h; simpa using this
end
section
open Go Go.RowKit Go.Proofs.Tryz
def dbTab:AV:=.agg (([0,1,28,2,29,14,24,3,30,22,20,15,25,17,4,8,31,27,13,23,21,19,16,7,26,12,18,6,11,5,10,9]:List Nat).map fun (n:Nat)=>AV.lit (.int .u8 (n:Int)))
instance glI:Gl:=⟨fun g=>match Nat.beq g 0 with | true=>.rptr dbTab 0 | false=>.any⟩
theorem hm:prog.follows .mixedOrders=true:=by kernel_rfl
theorem con {f:FuncId} {fn:Func} {c:Code} {args:List AV} {res:AV} (hf:prog.funcs[f]?=some fn) (hb:fn.body=some c)
  (hc:((fn.name == "runtime.NumGoroutine")==false&&codeN fn.ntmps c&&Nat.ble args.length fn.ntmps)=true)
  (h:awp prog ty fn.ntmps c (initS args) (resA ty fn.results.toList res)):ACalls prog f args res:=ACalls.of ty_ok hm hf hb hc h
theorem conN {f:FuncId} {fn:Func} {c:Code} {args:List AV} {res:AV} (hf:prog.funcs[f]?=some fn) (hb:fn.body=some c)
  (hc:((fn.name == "runtime.NumGoroutine")==false&&codeN fn.ntmps c&&Nat.ble args.length fn.ntmps)=true)
  (h:nwp prog ty fn.ntmps c (frI args 0) [] 0 (nresA ty fn.results.toList res)):ACalls prog f args res:=ACalls.ofN ty_ok hm hf hb hc h
theorem conP {f:FuncId} {fn:Func} {c:Code} {args:List AV} {res:AV} (hf:prog.funcs[f]?=some fn) (hb:fn.body=some c)
  (hc:((fn.name == "runtime.NumGoroutine")==false&&codeN fn.ntmps c&&Nat.ble args.length fn.ntmps)=true)
  (h:Pc prog fn.ntmps c (frI args 0) [] 0 (nresA ty fn.results.toList res)):ACalls prog f args res:=ACalls.ofPc ty_ok hm hf hb hc h
theorem pcN {N:Nat} {c:Code} {fr:List (Nat×AV)} {st:Sts} {g:Nat} {Q:NPost} (hN:codeN N c=true) (h:nwp prog ty N c fr st g Q):Pc prog N c fr st g Q:=Pc.of ty_ok hm hN h
theorem Pc.go {N:Nat} {a b:Code} {fr:List (Nat×AV)} {st:Sts} {g:Nat} {Q:NPost} (hN:codeN N a=true) (h:nwp prog ty N a fr st g (thenP (fun fr st g=>Pc prog N b fr st g Q) Q)):Pc prog N (.seq a b) fr st g Q:=Pc.step ty_ok hm hN h
theorem conO {f:FuncId} {fn:Func} {c:Code} {args:List AV} {r:Row} (hf:prog.funcs[f]?=some fn) (hb:fn.body=some c)
  (hc:((fn.name == "runtime.NumGoroutine")==false&&codeN fn.ntmps c&&Nat.ble args.length fn.ntmps)=true)
  (h:awp prog ty fn.ntmps c (initS args) (resO fn.results.toList r)):ACallsO prog f args r:=ACallsO.of ty_ok hm hf hb hc h
def B:Nat:=4294967296
theorem Bpos:0<B:=by decide
theorem B1:1<B:=by decide
def val:List Nat->Nat
 |[]=>0
 |x::l=>x+B*val l
def digs (n:Nat):List Nat:=if h:n=0 then [] else n%B::digs (n/B)
termination_by n
decreasing_by exact Nat.div_lt_self (Nat.pos_of_ne_zero h) B1
theorem digs_zero:digs 0=[]:=by rw[digs]; rfl
theorem digs_pos {n:Nat} (h:n≠0):digs n=n%B::digs (n/B):=by rw[digs]; simp[h]
theorem val_digs (n:Nat):val (digs n)=n:=by
 induction n using Nat.strongRecOn with
 |_ n ih =>
  by_cases h:n=0
  ·subst h; rw[digs_zero]; rfl
  ·rw[digs_pos h,val,ih _ (Nat.div_lt_self (Nat.pos_of_ne_zero h) B1)];exact Nat.mod_add_div n B
theorem digs_eq_nil {n:Nat}:digs n=[]↔n=0:=by
 constructor
 ·intro h;have:=val_digs n;rw[h] at this;exact this.symm
 ·rintro rfl; exact digs_zero
theorem digs_lt {n x:Nat} (h:x∈digs n):x<B:=by
 induction n using Nat.strongRecOn with
 |_ n ih =>
  by_cases h0:n=0
  ·subst h0; rw[digs_zero] at h; cases h
  ·rw[digs_pos h0,List.mem_cons] at h;rcases h with rfl | h
   ·exact Nat.mod_lt _ (by decide)
   ·exact ih _ (Nat.div_lt_self (Nat.pos_of_ne_zero h0) B1) h
def Can (l:List Nat):Prop:=(∀ x∈l,x<B)/\l.getLast?≠some 0
theorem val_lt:∀ {l:List Nat},(∀ x∈l,x<B)->val l<B^l.length
 |[],_=>by simp[val]
 |x::l,h=>by
  have h1:=val_lt (l:=l) fun y hy=>h y (by simp[hy])
  have h2:=h x (by simp);simp only[val,List.length_cons,Nat.pow_succ];have:B*(val l+1)<=B*B^l.length:=Nat.mul_le_mul_left B h1;rw[Nat.mul_add] at this;rw[Nat.mul_comm (B^l.length) B];omega
theorem val_zero:∀ {l:List Nat},val l=0->∀ x∈l,x=0
 |[],_,x,hx=>by cases hx
 |y::l,h,x,hx=>by
  simp only[val] at h;have h1:y=0:=by omega
  have h2:B*val l=0:=by omega
  have h3:val l=0:=by
   rcases Nat.mul_eq_zero.1 h2 with h | h
   ·exact absurd h (by decide)
   ·exact h
  rcases List.mem_cons.1 hx with rfl | hx
  ·exact h1
  ·exact val_zero h3 x hx
theorem digs_val:∀ {l:List Nat},Can l->digs (val l)=l
 |[],_=>digs_zero
 |x::l,h=>by
  have hx:=h.1 x (by simp);have hc:Can l:=⟨fun y hy=>h.1 y (by simp[hy]),by
   cases l with
   |nil=>simp
   |cons y l=>have:=h.2; simpa using this⟩
  have hne:val (x::l)≠0:=by
   intro h0;have:=val_zero h0 ((x::l).getLast (by simp)) (List.getLast_mem _);apply h.2;rw[List.getLast?_eq_some_getLast (by simp),this]
  rw[digs_pos hne];have e1:val (x::l)%B=x:=by
   simp only[val];rw[Nat.add_mul_mod_self_left,Nat.mod_eq_of_lt hx]
  have e2:val (x::l)/B=val l:=by
   simp only[val];rw[Nat.add_mul_div_left _ _ (by decide),Nat.div_eq_of_lt hx,Nat.zero_add]
  rw[e1,e2,digs_val hc]
theorem val_append (l r:List Nat):val (l++r)=val l+B^l.length*val r:=by
 induction l with
 |nil=>simp[val]
 |cons x l ih =>
  simp only[List.cons_append,val,ih,List.length_cons,Nat.pow_succ];rw[Nat.mul_add,<- Nat.mul_assoc,Nat.mul_comm B (B^l.length)];omega
theorem can_digs (n:Nat):Can (digs n):=by
 refine⟨fun x hx=>digs_lt hx,?_⟩
 induction n using Nat.strongRecOn with
 |_ n ih =>
  by_cases h0:n=0
  ·subst h0; rw[digs_zero]; simp
  ·rw[digs_pos h0];by_cases h1:n/B=0
   ·rw[h1,digs_zero];have:n%B=n:=Nat.mod_eq_of_lt ((Nat.div_eq_zero_iff_lt (by decide)).1 h1);simpa [this] using h0
   ·have:=ih _ (Nat.div_lt_self (Nat.pos_of_ne_zero h0) B1);cases hd:digs (n/B) with
    |nil=>exact absurd (digs_eq_nil.1 hd) h1
    |cons y l=>rw[hd] at this; simpa using this
theorem length_digs_le {n k:Nat}:(digs n).length<=k↔n<B^k:=by
 induction k generalizing n with
 |zero =>
  rw[Nat.le_zero,List.length_eq_zero_iff,digs_eq_nil];simp
 |succ k ih =>
  by_cases h0:n=0
  ·subst h0;rw[digs_zero];exact⟨fun _=>Nat.pow_pos (show 0<B by decide),fun _=>Nat.zero_le _⟩
  ·rw[digs_pos h0,List.length_cons,Nat.add_le_add_iff_right,ih,Nat.pow_succ];exact Nat.div_lt_iff_lt_mul Bpos
def dg (x:Nat):AV:=.lit (.int .u32 x)
def lst (l:List Nat):AV:=.sl (l.map dg)
def nat (n:Nat):AV:=lst (digs n)
def i64 (n:Int):AV:=.lit (.int .i64 n)
def u64 (n:Nat):AV:=.lit (.int .u64 n)
def boo (b:Bool):AV:=.lit (.bool b)
def nilA:AV:=.lit (.slice none 0 0)
theorem le_nil:Le nilA (nat 0):=by
 show Le nilA (lst (digs 0));rw[digs_zero];exact .nil
theorem wI {n:Int} (h1:-9223372036854775808<=n) (h2:n<9223372036854775808):IntKind.wrap .i64 n=n:=IntWalk.i64_in n ⟨h1,by omega⟩
theorem wU (n:Nat):IntKind.wrap .u64 (n:Int)=((n%18446744073709551616:Nat):Int):=by simp[IntKind.wrap,IntKind.bits,IntKind.signed]
theorem w32 (n:Nat):IntKind.wrap .u32 (n:Int)=((n%4294967296:Nat):Int):=by simp[IntKind.wrap,IntKind.bits,IntKind.signed]
theorem val_take {l:List Nat} {n:Nat} (h:∀ x∈l.drop n,x=0):val (l.take n)=val l:=by
 have e:val l=val (l.take n++l.drop n):=by rw[List.take_append_drop]
 rw[e,val_append];have:val (l.drop n)=0:=by
  generalize l.drop n=d at h
  induction d with
  |nil=>rfl
  |cons x d ih =>
   simp only[val];rw[h x (by simp),ih fun y hy=>h y (by simp[hy])];rfl
 rw[this]; simp
theorem c_trim (l:List Nat) (hl:∀ x∈l,x<B) (hn:l.length<1000000):ACalls prog 183 [lst l] (nat (val l)):=by
 refine con func183 rfl (by kernel_rfl) ?_;conv=>whnf
 refine⟨Nat,fun n=>n<=l.length/\∀ x∈l.drop n,x=0,fun n=>{ fr:=[(0,lst l),(3,i64 n)],g:=9 },fun n=>n,l.length,⟨Nat.le_refl _,by simp⟩,?_,?_⟩
 ·exact⟨trivial,⟨x_R,x_E (by simp),trivial⟩,trivial⟩
 intro n ⟨h1,h2⟩;conv=>whnf
 cases hb:decide ((n:Int) > 0)
 ·have hn0:n=0:=by simpa using hb
  conv=>whnf
  refine⟨⟨by omega,by omega,by omega,by simpa using h1,fun v hv=>?_⟩,?_⟩
  ·cases l with
   |nil=>simp at hv
   |cons x l=>simp at hv; subst hv; rfl
  ·have e:AV.sl (((l.map dg).take (n:Int).toNat).drop (0:Int).toNat)=nat (val l):=by
    subst hn0;rw[<- val_take h2];simp[nat,lst,val,digs_zero]
   exact .sh _ _ rfl (.of_eq e)
 ·have hn0:0<n:=by simpa using hb
  have hw:IntKind.i64.wrap ((n:Int)-1)=((n-1:Nat):Int):=by rw[wI] <;> omega
  have hlt:n-1<l.length:=by omega
  conv=>whnf
  rw[hw];refine⟨dg l[n-1],⟨by omega,by simp[hlt],rfl,rfl⟩,?_⟩;conv=>whnf
  cases hb2:((l[n-1]:Nat):Int)==0
  ·conv=>whnf
   refine⟨⟨by omega,by omega,by omega,by simpa using h1,fun v hv=>?_⟩,?_⟩
   ·cases l with
    |nil=>simp at hv
    |cons x l=>simp at hv; subst hv; rfl
   ·have e:AV.sl (((l.map dg).take (n:Int).toNat).drop (0:Int).toNat)=nat (val l):=by
     rw[<- val_take h2,nat,digs_val]
     ·simp[lst]
     ·refine⟨fun x hx=>hl x (List.mem_of_mem_take hx),fun h=>?_⟩;have hne:l.take n≠[]:=by
       intro h0;rw[h0] at h;simp at h
      rw[List.getLast?_eq_some_getLast hne] at h;simp at h;rw[List.getLast_eq_getElem] at h;simp[Nat.min_eq_left h1] at h;simp[h] at hb2
    exact .sh _ _ rfl (.of_eq e)
  ·conv=>whnf
   refine⟨n-1,⟨by omega,fun x hx=>?_⟩,⟨trivial,⟨x_R,x_E hw,trivial⟩,trivial⟩,(by omega:n-1<n)⟩;rw[List.drop_eq_getElem_cons hlt,List.mem_cons] at hx;rcases hx with rfl | hx
   ·have:=hb2;simp at this;omega
   ·rw[Nat.sub_add_cancel hn0] at hx;exact h2 x hx
end
section
open Go Go.RowKit Go.Proofs.Tryz
theorem fin {s:AS} {F:Rid->Prop} {x y:AV} (h:x.closed=true) (e:x=y):FrzV s F x y:=.sh _ _ h (.of_eq e)
theorem trueA_mk {b:Bool} {K:Prop} (h:b=true) (k:K):trueA b K:=by subst h; exact k
theorem elA_mk {es:List AV} {x:Nat} {K:AV->Prop} (e:AV) (h:es[x]?=some e) (k:K e):elA es x K:=by
 unfold elA;split
 ·simp at h; subst h; exact k
 ·exact⟨e,h,k⟩
theorem frzL_refl {s:AS} {F:Rid->Prop}:∀ {xs:List AV},AV.closedL xs=true->frzL s F xs xs
 |[],_=>trivial
 |x::xs,h=>by
  simp only[AV.closedL,Bool.and_eq_true] at h;exact⟨.refl h.1,frzL_refl h.2⟩
section
variable {P:Program} {i:Nat} {s:AS} {n:FuncId} {args:List AV} {K:Eff->Prop} {res:AV}
theorem callS (h:ACalls P n args res) (hc:AV.closedL args=true) (hr:res.closed=true) (k:K { v:=res }):CallF P false i s n args K :=
 ⟨.inl ⟨[],trivial,.inl ⟨args,res,frzL_refl hc,h,trueA_mk hr k⟩⟩⟩
theorem callD (h:ACalls P n args res) (hc:AV.closedL args=true) (hr:res.closed=true) (k:K { v:=res }):CallF P true i s n args K :=
 ⟨.inl (trueA_mk hc (.inl ⟨args,res,leL_refl args,h,trueA_mk hr k⟩))⟩
theorem callL (F:List Rid) (ys:List AV) (hF:wkF s F) (ha:frzL s (·∈F) args ys) (h:ACalls P n ys res) (hr:res.closed=true) (k:K { v:=res,fz:=F }):CallF P false i s n args K :=
 ⟨.inl ⟨F,hF,.inl ⟨ys,res,ha,h,trueA_mk hr k⟩⟩⟩
theorem callO {r:Row} (h:ACallsO P n args r) (hc:AV.closedL args=true) (k:K { v:=.own (s.gen,i) r.els.length,new:=some r }):CallF P false i s n args K :=
 ⟨.inl ⟨[],trivial,.inr (.inl ⟨args,r,frzL_refl hc,h,k⟩)⟩⟩
theorem callN {rows:List Row} {res:AV} (h:ACallsN P n args rows res) (hc:AV.closedL args=true) (k:K { v:=res.mv (s.gen+1),fz:=[],mt:=nmt (s.gen+1) 0 rows }):CallF P false i s n args K :=
 ⟨.inl ⟨[],trivial,.inr (.inr ⟨args,rows,res,frzL_refl hc,h,k⟩)⟩⟩
theorem callNL (F:List Rid) (ys:List AV) {rows:List Row} {res:AV} (hF:wkF s F) (ha:frzL s (·∈F) args ys) (h:ACallsN P n ys rows res) (k:K { v:=res.mv (s.gen+1),fz:=F,mt:=nmt (s.gen+1) 0 rows }):CallF P false i s n args K :=
 ⟨.inl ⟨F,hF,.inr (.inr ⟨ys,rows,res,ha,h,k⟩)⟩⟩
theorem callM (ids:List Rid) (ys:List AV) (rows rows':List Row) (ha:margL ids args ys) (hr:mrows s ids rows) (hn:ids.Nodup) (h:ACallsM P n ys rows res rows') (hc:res.closed=true) (k:K { v:=res,mt:=ids.zip rows' }):CallF P false i s n args K :=
 ⟨.inr ⟨ids,ys,rows,res,rows',⟨ha,hr,hn⟩,h,trueA_mk hc k⟩⟩
theorem callMD (ids:List Rid) (ys:List AV) (rows:List Row) (ha:margL ids args ys) (hr:mrows s ids rows) (hn:ids.Nodup) (hg:(ids.all fun id=>!Nat.beq id.1 s.gen)=true) (h:ACallsM P n ys rows res rows) (hc:res.closed=true) (k:K { v:=res }):CallF P true i s n args K :=
 ⟨.inr ⟨ids,ys,rows,res,⟨ha,hr,hn,hg⟩,h,trueA_mk hc k⟩⟩
end
def resE {α:Type} (enc:α->AV) (d:AV) (r:Except Nat α):AV :=
 .tup [match r with | .ok v=>enc v | .error _=>d,i64 (match r with | .ok _=>0 | .error e=>((e+1:Nat):Int))]
def eRange:Nat:=0
def eZero:Nat:=9
def eLimbs:Nat:=10
def eLess:Nat:=11
def eShape:Nat:=19
def Big:Nat:=B^512
def fitN (n:Nat):Except Nat Nat:=if n<Big then .ok n else .error eLimbs
theorem fitN_ok {n:Nat} (h:n<Big):fitN n=.ok n:=by simp[fitN,h]
theorem fitN_no {n:Nat} (h:¬ n<Big):fitN n=.error eLimbs:=by simp[fitN,h]
def resN (r:Except Nat Nat):AV:=resE nat (nat 0) r
theorem lt_Big {n:Nat}:n<Big↔(digs n).length<=512:=by
 have e:Big=B^512:=by unfold Big; rfl
 rw[e];exact (length_digs_le (n:=n) (k:=512)).symm
theorem c_fits (l:List Nat) (hl:∀ x∈l,x<B) (hn:l.length<1000000):ACalls prog 187 [lst l] (resN (fitN (val l))):=by
 refine con func187 rfl (by kernel_rfl) ?_;conv=>whnf
 refine callS (c_trim l hl hn) rfl rfl ?_;conv=>whnf
 have hlen:decide ((digs (val l)).length > 512)=!decide (val l<Big):=by
  have:val l<Big↔(digs (val l)).length<=512:=lt_Big;by_cases h:val l<Big
  ·have h2:=this.1 h;simp[h,h2]
  ·have h2:¬ (digs (val l)).length<=512:=fun q=>h (this.2 q)
   simp[h,Nat.lt_of_not_le h2]
 refine Br.mk (fun h=>?_) (fun h=>?_)
 ·have hb:¬ val l<Big:=by
   have h3:(digs (val l)).length > 512:=by simp at h; omega
   simpa [h3] using hlen
  conv=>whnf
  have e:fitN (val l)=.error eLimbs:=fitN_no hb;rw[e];exact⟨.sh _ _ rfl le_nil,fin rfl rfl,trivial⟩
 ·have hb:val l<Big:=by
   have h3:¬ (digs (val l)).length > 512:=by simp at h; omega
   simpa [h3] using hlen
  conv=>whnf
  have e:fitN (val l)=.ok (val l):=fitN_ok hb;rw[e];exact⟨fin rfl rfl,fin rfl rfl,trivial⟩
attribute [irreducible] Big fitN
theorem c_Of (n:Nat) (h:n<18446744073709551616):ACalls prog 90 [u64 n] (nat n):=by
 refine con func90 rfl (by kernel_rfl) ?_;conv=>whnf
 have e1:AV.lit (.int .u32 (IntKind.wrap .u32 (n:Int)))=dg (n%B):=by rw[w32]; rfl
 have e2:AV.lit (.int .u32 (IntKind.wrap .u32 ((n:Int).fdiv (2^(min 32 64)))))=dg (n/B):=by
  have:(n:Int).fdiv (2^(min 32 64))=((n/B:Nat):Int):=by
   rw[Int.fdiv_eq_ediv_of_nonneg _ (by decide)];rfl
  rw[this,w32];unfold dg;rw[Nat.mod_eq_of_lt (show n/B<4294967296 from (Nat.div_lt_iff_lt_mul Bpos).2 h)]
 refine callL [(1,5)] [lst [n%B,n/B]] ⟨⟨_,rfl⟩,trivial⟩ ⟨.own2 (.head _) rfl rfl rfl ?_,trivial⟩ (c_trim _ ?_ (by simp)) rfl ?_
 ·show [_,_]=[dg _,dg _]
  rw[<- e1,<- e2];rfl
 ·intro x hx;simp at hx;rcases hx with rfl | rfl
  ·exact Nat.mod_lt _ Bpos
  ·exact (Nat.div_lt_iff_lt_mul Bpos).2 h
 ·conv=>whnf
  have e:val [n%B,n/B]=n:=by
   simp only[val,Nat.mul_zero,Nat.add_zero];exact Nat.mod_add_div n B
  exact fin rfl (congrArg nat e)
end
section
open Go Go.RowKit Go.Proofs.Tryz
theorem ltL_dg {g:Nat}:∀ (l:List Nat),AV.ltL g (l.map dg)=true
 |[]=>rfl
 |x::l=>by simp[AV.ltL,dg,AV.lt,ltL_dg l]
theorem closedL_dg:∀ (l:List Nat),AV.closedL (l.map dg)=true
 |[]=>rfl
 |x::l=>by simp[AV.closedL,dg,AV.closed,closedL_dg l]
theorem closed_resN (r:Except Nat Nat):(resN r).closed=true:=by cases r <;> rfl
theorem setRow {l:List Nat} {m v:Nat} (h:l.length<m):((l++List.replicate (m-l.length) 0).map dg).set ((l.length:Int).toNat) (dg v)=((l++[v])++List.replicate (m-(l++[v]).length) 0).map dg:=by
 obtain⟨k,hk⟩:∃ k,m-l.length=k+1:=⟨m-l.length-1,by omega⟩
 have hk2:m-(l++[v]).length=k:=by simp; omega
 rw[hk,hk2,List.replicate_succ,<- List.map_set,Int.toNat_natCast,List.set_append_right _ _ (Nat.le_refl _)];simp
theorem getRow {l:List Nat} {m:Nat} (h:l.length<m):((l++List.replicate (m-l.length) 0).map dg)[(l.length:Int).toNat]?=some (dg 0):=by
 obtain⟨k,hk⟩:∃ k,m-l.length=k+1:=⟨m-l.length-1,by omega⟩
 rw[hk,List.replicate_succ];simp
theorem fdiv_B (t:Nat):(t:Int).fdiv (2^(min 32 IntKind.u64.bits))=((t/B:Nat):Int):=by
 rw[Int.fdiv_eq_ediv_of_nonneg _ (by decide)];rfl
theorem val_take_succ {l:List Nat} {n:Nat} (h:n<l.length):val (l.take (n+1))=val (l.take n)+B^n*l[n]:=by
 rw[List.take_succ_eq_append_getElem h,val_append];simp[val,Nat.min_eq_left (Nat.le_of_lt h)]
theorem c_Add' (a b:List Nat) (ha:∀ x∈a,x<B) (hb0:∀ x∈b,x<B) (hal:a.length<900000) (hbl:b.length<900000):ACalls prog 189 [lst a,lst b] (resN (fitN (val a+val b))):=by
 refine con func189 rfl (by kernel_rfl) ?_;conv=>whnf
 refine Br.mk (fun h=>?_) (fun h=>?_)
 ·have hle:a.length<b.length:=by simpa using h
  have hlen1:IntKind.i64.wrap ((((b.map dg).length:Nat):Int)+1)=((b.length+1:Nat):Int):=by rw[wI] <;> simp <;> omega
  conv=>whnf
  rw[hlen1];refine⟨⟨by omega,rfl,by simp only[lenLim]; omega⟩,?_⟩;conv=>whnf
  refine⟨List Nat×Nat,fun q=>q.1.length<=b.length/\(∀ x∈q.1,x<B)/\q.2<=1/\val q.1+q.2*B^q.1.length=val (b.take q.1.length)+val (a.take q.1.length),
   fun q=>{ fr:=[(0,lst b),(1,lst a),(6,.own (3,3) (b.length+1)),(7,u64 q.2),(21,lst b),(22,i64 b.length),(23,i64 q.1.length)],st:=[((3,3),⟨207,1,(q.1++List.replicate (b.length+1-q.1.length) 0).map dg⟩)],g:=9 },
   fun q=>b.length-q.1.length,([],0),⟨Nat.zero_le _,by simp,by decide,by simp[val]⟩,?_,?_⟩
  ·refine⟨trivial,⟨x_R,x_R,x_R,x_R,x_R,x_E (by simp),x_R,trivial⟩,⟨.same ?_ (ltL_dg _),x_N,x_L⟩,trivial⟩;refine congrArg (fun z=>some (Row.mk 207 1 z)) ?_;simp only[List.map_nil,List.nil_append,List.length_nil,Nat.sub_zero,List.map_replicate];rfl
  rintro⟨l,c⟩ ⟨h1,h2,h3,h4⟩;dsimp only at h1 h2 h3 h4 ⊢;conv=>whnf
  cases hb:decide ((l.length:Int)<(b.length:Int))
  ·have hll:l.length=b.length:=by simp at hb; omega
   conv=>whnf
   refine⟨⟨rfl,rfl⟩,⟨by first | omega | (simp; done) | (simp; omega),by first | omega | (simp; done) | (simp; omega)⟩,?_⟩;conv=>whnf
   refine elA_mk (dg 0) (by simp[hll]) ?_;conv=>whnf
   have e1:AV.lit (.int .u32 (IntKind.wrap .u32 (c:Int)))=dg c:=by rw[w32,Nat.mod_eq_of_lt (by omega)]; rfl
   have e2:(((l++List.replicate (b.length+1-l.length) 0).map dg).set ((((b.map dg).length:Nat):Int).toNat) (AV.lit (.int .u32 (IntKind.wrap .u32 (c:Int)))))=(l++[c]).map dg:=by
    rw[e1];have:((((b.map dg).length:Nat):Int).toNat)=l.length:=by simp[hll]
    rw[this];refine (setRow (by omega)).trans ?_;simp[hll]
   have e3:val (l++[c])=val a+val b:=by
    rw[val_append];simp only[val,Nat.mul_zero,Nat.add_zero];rw[Nat.mul_comm,h4,List.take_of_length_le (by omega),List.take_of_length_le (by omega)];omega
   have hc:=c_fits (l++[c]) (by
    intro x hx;simp only[List.mem_append,List.mem_singleton] at hx;rcases hx with hx | rfl
    ·exact h2 x hx
    ·have:=B1;omega) (by simp; omega)
   rw[e3] at hc;refine callL [(3,3)] [lst (l++[c])] ⟨⟨_,rfl⟩,trivial⟩ ⟨.own2 (.head _) rfl ?_ ?_ e2,trivial⟩ hc (closed_resN (fitN (val a+val b))) ?_
   ·exact (congrArg List.length e2).trans (by simp[hll])
   ·exact (congrArg AV.closedL e2).trans (closedL_dg _)
   cases fitN (val a+val b) <;> (conv=>whnf) <;> exact⟨.sh _ _ rfl (.refl _),.sh _ _ rfl (.refl _),trivial⟩
  ·have hlt:l.length<b.length:=by simpa using hb
   conv=>whnf
   refine⟨dg b[l.length],⟨by omega,by simp[hlt],rfl,rfl⟩,?_⟩;conv=>whnf
   have hx:b[l.length]<B:=hb0 _ (List.getElem_mem hlt);have ex:IntKind.wrap .u64 ((b[l.length]:Nat):Int)=((b[l.length]:Nat):Int):=by rw[wU,Nat.mod_eq_of_lt (by unfold B at hx; omega)]
   have done:∀ (t:Nat) (T:Int),T=(t:Int)->t<=2*B-1->val l+B^l.length*t=val (b.take (l.length+1))+val (a.take (l.length+1)) ->
     ∃ y:List Nat×Nat,(y.1.length<=b.length/\(∀ x∈y.1,x<B)/\y.2<=1/\val y.1+y.2*B^y.1.length=val (b.take y.1.length)+val (a.take y.1.length))/\y.1.length=l.length+1 /\
      T.fdiv (2^(min 32 IntKind.u64.bits))=(y.2:Int)/\(((l++List.replicate (b.length+1-l.length) 0).map dg).set ((l.length:Int).toNat) (AV.lit (.int .u32 (IntKind.wrap .u32 T))))=(y.1++List.replicate (b.length+1-y.1.length) 0).map dg:=by
    rintro t T rfl ht hv;refine⟨(l++[t%B],t/B),⟨by simp; omega,?_,?_,?_⟩,by simp,?_,?_⟩
    ·intro x hx;simp only[List.mem_append,List.mem_singleton] at hx;rcases hx with hx | rfl
     ·exact h2 x hx
     ·exact Nat.mod_lt _ Bpos
    ·have:t/B<2:=(Nat.div_lt_iff_lt_mul Bpos).2 (by unfold B at *; omega);show t/B<=1;omega
    ·simp only[List.length_append,List.length_cons,List.length_nil,Nat.zero_add];rw[<- hv,val_append];simp only[val,Nat.mul_zero,Nat.add_zero];have:=Nat.mod_add_div t B;conv=>rhs; rw[<- this]
     rw[Nat.pow_succ,Nat.mul_add,Nat.add_assoc,Nat.mul_comm (t/B),Nat.mul_assoc]
    ·exact fdiv_B t
    ·rw[show AV.lit (.int .u32 (IntKind.wrap .u32 (t:Int)))=dg (t%B) by rw[w32]; rfl];exact setRow (by omega)
   cases hb2:decide ((l.length:Int)<(((a.map dg).length:Nat):Int))
   ·have hge:a.length<=l.length:=by simp at hb2; omega
    conv=>whnf
    refine⟨⟨rfl,rfl⟩,⟨by first | omega | (simp; done) | (simp; omega),by first | omega | (simp; done) | (simp; omega)⟩,?_⟩;conv=>whnf
    refine elA_mk (dg 0) (getRow (by omega)) ?_;conv=>whnf
    obtain⟨y,hp,hyl,hc,hr⟩:=done (c+b[l.length]) (IntKind.wrap .u64 ((c:Int)+IntKind.wrap .u64 ((b[l.length]:Nat):Int))) (by rw[ex,<- Int.natCast_add,wU,Nat.mod_eq_of_lt (by unfold B at hx; omega)]) (by omega) (by
     rw[val_take_succ hlt,List.take_of_length_le (l:=a) (by omega),<- List.take_of_length_le (l:=a) hge,Nat.mul_add,Nat.mul_comm _ c];omega)
    refine⟨y,hp,⟨trivial,⟨x_R,x_R,x_R,.inl ⟨.of_eq (congrArg (fun z=>AV.lit (.int .u64 z)) hc),rfl⟩,x_R,x_R,x_E ?_,trivial⟩,⟨.same ?_ (ltL_dg _),x_N,x_L⟩,trivial⟩,?_⟩
    ·rw[hyl];exact (wI (n:=(l.length:Int)+1) (by omega) (by omega)).trans (by omega)
    ·exact congrArg (fun z=>some (Row.mk 207 1 z)) hr
    ·show b.length-y.1.length<b.length-l.length;omega
   ·have hlt2:l.length<a.length:=by simp at hb2; omega
    have hy:a[l.length]<B:=ha _ (List.getElem_mem hlt2);have ey:IntKind.wrap .u64 ((a[l.length]:Nat):Int)=((a[l.length]:Nat):Int):=by rw[wU,Nat.mod_eq_of_lt (by unfold B at hy; omega)]
    conv=>whnf
    refine⟨dg a[l.length],⟨by omega,by simp[hlt2],rfl,rfl⟩,?_⟩;conv=>whnf
    refine⟨⟨rfl,rfl⟩,⟨by first | omega | (simp; done) | (simp; omega),by first | omega | (simp; done) | (simp; omega)⟩,?_⟩;conv=>whnf
    refine elA_mk (dg 0) (getRow (by omega)) ?_;conv=>whnf
    obtain⟨y,hp,hyl,hc,hr⟩:=done (c+b[l.length]+a[l.length]) (IntKind.wrap .u64 (IntKind.wrap .u64 ((c:Int)+IntKind.wrap .u64 ((b[l.length]:Nat):Int))+IntKind.wrap .u64 ((a[l.length]:Nat):Int)))
     (by rw[ex,ey,<- Int.natCast_add,wU,Nat.mod_eq_of_lt (by unfold B at hx; omega),<- Int.natCast_add,wU,Nat.mod_eq_of_lt (by unfold B at hx hy; omega)]) (by omega) (by
     rw[val_take_succ hlt,val_take_succ hlt2,Nat.mul_add,Nat.mul_add,Nat.mul_comm _ c];omega)
    refine⟨y,hp,⟨trivial,⟨x_R,x_R,x_R,.inl ⟨.of_eq (congrArg (fun z=>AV.lit (.int .u64 z)) hc),rfl⟩,x_R,x_R,x_E ?_,trivial⟩,⟨.same ?_ (ltL_dg _),x_N,x_L⟩,trivial⟩,?_⟩
    ·rw[hyl];exact (wI (n:=(l.length:Int)+1) (by omega) (by omega)).trans (by omega)
    ·exact congrArg (fun z=>some (Row.mk 207 1 z)) hr
    ·show b.length-y.1.length<b.length-l.length;omega
 ·have hle:b.length<=a.length:=by simpa using h
  have hlen1:IntKind.i64.wrap ((((a.map dg).length:Nat):Int)+1)=((a.length+1:Nat):Int):=by rw[wI] <;> simp <;> omega
  conv=>whnf
  rw[hlen1];refine⟨⟨by omega,rfl,by simp only[lenLim]; omega⟩,?_⟩;conv=>whnf
  refine⟨List Nat×Nat,fun q=>q.1.length<=a.length/\(∀ x∈q.1,x<B)/\q.2<=1/\val q.1+q.2*B^q.1.length=val (a.take q.1.length)+val (b.take q.1.length),
   fun q=>{ fr:=[(0,lst a),(1,lst b),(6,.own (2,3) (a.length+1)),(7,u64 q.2),(21,lst a),(22,i64 a.length),(23,i64 q.1.length)],st:=[((2,3),⟨207,1,(q.1++List.replicate (a.length+1-q.1.length) 0).map dg⟩)],g:=9 },
   fun q=>a.length-q.1.length,([],0),⟨Nat.zero_le _,by simp,by decide,by simp[val]⟩,?_,?_⟩
  ·refine⟨trivial,⟨x_R,x_R,x_R,x_R,x_R,x_E (by simp),x_R,trivial⟩,⟨.same ?_ (ltL_dg _),x_N,x_L⟩,trivial⟩;refine congrArg (fun z=>some (Row.mk 207 1 z)) ?_;simp only[List.map_nil,List.nil_append,List.length_nil,Nat.sub_zero,List.map_replicate];rfl
  rintro⟨l,c⟩ ⟨h1,h2,h3,h4⟩;dsimp only at h1 h2 h3 h4 ⊢;conv=>whnf
  cases hb:decide ((l.length:Int)<(a.length:Int))
  ·have hll:l.length=a.length:=by simp at hb; omega
   conv=>whnf
   refine⟨⟨rfl,rfl⟩,⟨by first | omega | (simp; done) | (simp; omega),by first | omega | (simp; done) | (simp; omega)⟩,?_⟩;conv=>whnf
   refine elA_mk (dg 0) (by simp[hll]) ?_;conv=>whnf
   have e1:AV.lit (.int .u32 (IntKind.wrap .u32 (c:Int)))=dg c:=by rw[w32,Nat.mod_eq_of_lt (by omega)]; rfl
   have e2:(((l++List.replicate (a.length+1-l.length) 0).map dg).set ((((a.map dg).length:Nat):Int).toNat) (AV.lit (.int .u32 (IntKind.wrap .u32 (c:Int)))))=(l++[c]).map dg:=by
    rw[e1];have:((((a.map dg).length:Nat):Int).toNat)=l.length:=by simp[hll]
    rw[this];refine (setRow (by omega)).trans ?_;simp[hll]
   have e3:val (l++[c])=val a+val b:=by
    rw[val_append];simp only[val,Nat.mul_zero,Nat.add_zero];rw[Nat.mul_comm,h4,List.take_of_length_le (by omega),List.take_of_length_le (by omega)]
   have hc:=c_fits (l++[c]) (by
    intro x hx;simp only[List.mem_append,List.mem_singleton] at hx;rcases hx with hx | rfl
    ·exact h2 x hx
    ·have:=B1;omega) (by simp; omega)
   rw[e3] at hc;refine callL [(2,3)] [lst (l++[c])] ⟨⟨_,rfl⟩,trivial⟩ ⟨.own2 (.head _) rfl ?_ ?_ e2,trivial⟩ hc (closed_resN (fitN (val a+val b))) ?_
   ·exact (congrArg List.length e2).trans (by simp[hll])
   ·exact (congrArg AV.closedL e2).trans (closedL_dg _)
   cases fitN (val a+val b) <;> (conv=>whnf) <;> exact⟨.sh _ _ rfl (.refl _),.sh _ _ rfl (.refl _),trivial⟩
  ·have hlt:l.length<a.length:=by simpa using hb
   conv=>whnf
   refine⟨dg a[l.length],⟨by omega,by simp[hlt],rfl,rfl⟩,?_⟩;conv=>whnf
   have hx:a[l.length]<B:=ha _ (List.getElem_mem hlt);have ex:IntKind.wrap .u64 ((a[l.length]:Nat):Int)=((a[l.length]:Nat):Int):=by rw[wU,Nat.mod_eq_of_lt (by unfold B at hx; omega)]
   have done:∀ (t:Nat) (T:Int),T=(t:Int)->t<=2*B-1->val l+B^l.length*t=val (a.take (l.length+1))+val (b.take (l.length+1)) ->
     ∃ y:List Nat×Nat,(y.1.length<=a.length/\(∀ x∈y.1,x<B)/\y.2<=1/\val y.1+y.2*B^y.1.length=val (a.take y.1.length)+val (b.take y.1.length))/\y.1.length=l.length+1 /\
      T.fdiv (2^(min 32 IntKind.u64.bits))=(y.2:Int)/\(((l++List.replicate (a.length+1-l.length) 0).map dg).set ((l.length:Int).toNat) (AV.lit (.int .u32 (IntKind.wrap .u32 T))))=(y.1++List.replicate (a.length+1-y.1.length) 0).map dg:=by
    rintro t T rfl ht hv;refine⟨(l++[t%B],t/B),⟨by simp; omega,?_,?_,?_⟩,by simp,?_,?_⟩
    ·intro x hx;simp only[List.mem_append,List.mem_singleton] at hx;rcases hx with hx | rfl
     ·exact h2 x hx
     ·exact Nat.mod_lt _ Bpos
    ·have:t/B<2:=(Nat.div_lt_iff_lt_mul Bpos).2 (by unfold B at *; omega);show t/B<=1;omega
    ·simp only[List.length_append,List.length_cons,List.length_nil,Nat.zero_add];rw[<- hv,val_append];simp only[val,Nat.mul_zero,Nat.add_zero];have:=Nat.mod_add_div t B;conv=>rhs; rw[<- this]
     rw[Nat.pow_succ,Nat.mul_add,Nat.add_assoc,Nat.mul_comm (t/B),Nat.mul_assoc]
    ·exact fdiv_B t
    ·rw[show AV.lit (.int .u32 (IntKind.wrap .u32 (t:Int)))=dg (t%B) by rw[w32]; rfl];exact setRow (by omega)
   cases hb2:decide ((l.length:Int)<(((b.map dg).length:Nat):Int))
   ·have hge:b.length<=l.length:=by simp at hb2; omega
    conv=>whnf
    refine⟨⟨rfl,rfl⟩,⟨by first | omega | (simp; done) | (simp; omega),by first | omega | (simp; done) | (simp; omega)⟩,?_⟩;conv=>whnf
    refine elA_mk (dg 0) (getRow (by omega)) ?_;conv=>whnf
    obtain⟨y,hp,hyl,hc,hr⟩:=done (c+a[l.length]) (IntKind.wrap .u64 ((c:Int)+IntKind.wrap .u64 ((a[l.length]:Nat):Int))) (by rw[ex,<- Int.natCast_add,wU,Nat.mod_eq_of_lt (by unfold B at hx; omega)]) (by omega) (by
     rw[val_take_succ hlt,List.take_of_length_le (l:=b) (by omega),<- List.take_of_length_le (l:=b) hge,Nat.mul_add,Nat.mul_comm _ c];omega)
    refine⟨y,hp,⟨trivial,⟨x_R,x_R,x_R,.inl ⟨.of_eq (congrArg (fun z=>AV.lit (.int .u64 z)) hc),rfl⟩,x_R,x_R,x_E ?_,trivial⟩,⟨.same ?_ (ltL_dg _),x_N,x_L⟩,trivial⟩,?_⟩
    ·rw[hyl];exact (wI (n:=(l.length:Int)+1) (by omega) (by omega)).trans (by omega)
    ·exact congrArg (fun z=>some (Row.mk 207 1 z)) hr
    ·show a.length-y.1.length<a.length-l.length;omega
   ·have hlt2:l.length<b.length:=by simp at hb2; omega
    have hy:b[l.length]<B:=hb0 _ (List.getElem_mem hlt2);have ey:IntKind.wrap .u64 ((b[l.length]:Nat):Int)=((b[l.length]:Nat):Int):=by rw[wU,Nat.mod_eq_of_lt (by unfold B at hy; omega)]
    conv=>whnf
    refine⟨dg b[l.length],⟨by omega,by simp[hlt2],rfl,rfl⟩,?_⟩;conv=>whnf
    refine⟨⟨rfl,rfl⟩,⟨by first | omega | (simp; done) | (simp; omega),by first | omega | (simp; done) | (simp; omega)⟩,?_⟩;conv=>whnf
    refine elA_mk (dg 0) (getRow (by omega)) ?_;conv=>whnf
    obtain⟨y,hp,hyl,hc,hr⟩:=done (c+a[l.length]+b[l.length]) (IntKind.wrap .u64 (IntKind.wrap .u64 ((c:Int)+IntKind.wrap .u64 ((a[l.length]:Nat):Int))+IntKind.wrap .u64 ((b[l.length]:Nat):Int)))
     (by rw[ex,ey,<- Int.natCast_add,wU,Nat.mod_eq_of_lt (by unfold B at hx; omega),<- Int.natCast_add,wU,Nat.mod_eq_of_lt (by unfold B at hx hy; omega)]) (by omega) (by
     rw[val_take_succ hlt,val_take_succ hlt2,Nat.mul_add,Nat.mul_add,Nat.mul_comm _ c];omega)
    refine⟨y,hp,⟨trivial,⟨x_R,x_R,x_R,.inl ⟨.of_eq (congrArg (fun z=>AV.lit (.int .u64 z)) hc),rfl⟩,x_R,x_R,x_E ?_,trivial⟩,⟨.same ?_ (ltL_dg _),x_N,x_L⟩,trivial⟩,?_⟩
    ·rw[hyl];exact (wI (n:=(l.length:Int)+1) (by omega) (by omega)).trans (by omega)
    ·exact congrArg (fun z=>some (Row.mk 207 1 z)) hr
    ·show a.length-y.1.length<a.length-l.length;omega
theorem len_fit {n:Nat} (h:n<Big):(digs n).length<=512:=by
 have e:Big=B^512:=by unfold Big; rfl
 rw[e] at h;exact length_digs_le.2 h
theorem c_Add (a b:Nat) (ha:a<Big) (hb:b<Big):ACalls prog 189 [nat a,nat b] (resN (fitN (a+b))):=by
 have:=c_Add' (digs a) (digs b) (fun x hx=>digs_lt hx) (fun x hx=>digs_lt hx) (by have:=len_fit ha; omega) (by have:=len_fit hb; omega);rwa [val_digs,val_digs] at this
end
section
open Go Go.RowKit Go.Shelf Go.Proofs.Tryz
attribute [local go_sem] Oper.semAt_some
def upto {α:Type} (f:Nat->α) (k:Nat):List α:=(List.range k).map f
theorem upto_succ {α:Type} (f:Nat->α) (k:Nat):upto f (k+1)=upto f k++[f k]:=by simp[upto,List.range_succ]
theorem upto_length {α:Type} (f:Nat->α) (k:Nat):(upto f k).length=k:=by simp[upto]
def gd (zs:List Nat) (j:Nat):Nat:=zs[j]?.getD 0
def At (zs:List Nat):Type:={ m:Nat // zs.length=0\/m<zs.length }
def bk (zs:List Nat) (k:Nat):At zs:=⟨zs.length-1-k,by omega⟩
structure KeepQ (q:Nat->Prop) (A B:World):Prop where
 keep:∀ k,q k->B.heap[k]?=A.heap[k]?
theorem KeepQ.refl (q:Nat->Prop) (A:World):KeepQ q A A:=⟨fun _ _=>rfl⟩
theorem KeepQ.trans {q:Nat->Prop} {A B C:World} (h:KeepQ q A B) (k:KeepQ q B C):KeepQ q A C:=⟨fun i hi=>(k.keep i hi).trans (h.keep i hi)⟩
theorem KeepQ.cell {q:Nat->Prop} {A B:World} (h:KeepQ q A B) {b o:Nat} (hb:q b):B.cell? ⟨b,o,none⟩=A.cell? ⟨b,o,none⟩:=World.cell?_of_block (h.keep b hb)
theorem KeepQ.of_below {q:Nat->Prop} {n:Nat} {A B:World} (h:Below n A B) (hq:∀ k,q k->k<n):KeepQ q A B:=⟨fun k hk=>h.block k (hq k hk)⟩
theorem keepQ_b {q:Nat->Prop} {w:World} (hq:∀ k,q k->k<w.heap.size) (W:World) (l:Nat) (o o':Obj) (hl:w.heap.size<=l) (h:W.heap[l]?=some o) (_:o.isCells=false) (_:o.isWalk=false):KeepQ q W (W.putObj l o') :=
 ⟨fun k hk=>World.putObj_heap_other (by have:=hq k hk; omega)⟩
def Dg (q:Nat->Prop) (W:World) (sv:Value) (zs:List Nat):Prop :=
 (∃ oa:Option Addr,sv=.slice oa 0 0/\zs=[])\/∃ b off cap,sv=.slice (some ⟨b,off,none⟩) zs.length cap/\q b/\∀ j,j<zs.length->W.cell? ⟨b,off+j,none⟩=some (.int .u32 (gd zs j:Int))
theorem Dg.keep {q:Nat->Prop} {A B:World} (h:KeepQ q A B) {sv:Value} {zs:List Nat}:Dg q A sv zs->Dg q B sv zs
 |.inl e=>.inl e
 |.inr ⟨b,off,cap,e,hb,hc⟩=>.inr ⟨b,off,cap,e,hb,fun j hj=>(h.cell hb).trans (hc j hj)⟩
theorem Dg.mono {q q':Nat->Prop} (hq:∀ k,q k->q' k) {A:World} {sv:Value} {zs:List Nat}:Dg q A sv zs->Dg q' A sv zs
 |.inl e=>.inl e
 |.inr ⟨b,off,cap,e,hb,hc⟩=>.inr ⟨b,off,cap,e,hq b hb,hc⟩
set_option maxRecDepth 100000 in
set_option maxHeartbeats 2000000 in
theorem back1_in (F:Fence) (n:Nat) (h7:F.fn 238) (hro:F.round=none) (hn:1<=n) (l Bs:Nat) (q:Nat->Prop) (b off len cap:Nat) (zs:List Nat) (hlen:zs.length=len) (hreach:len*8<=140737488351232) (hb:q b) (J Jx:List (At zs)->World->Prop)
  (hY:∀ pre x W,J pre W->pre.length<len->YieldAt F (n-1) prog l #[.int .i64 (x.1:Int),.int .u32 (gd zs x.1:Int)] W fun e W' =>
   (e=.returned (.bool true)/\J (pre++[x]) W'/\KeepQ q W W')\/(e=.returned (.bool false)/\Jx (pre++[x]) W'))
  (W:World) (hBs:W.cell? ⟨Bs,0,none⟩=some (.slice (some ⟨b,off,none⟩) len cap)) (hBs0:q Bs) (hc:∀ j,j<len->W.cell? ⟨b,off+j,none⟩=some (.int .u32 (gd zs j:Int))) (h0:J [] W) :
  CallsIn F n prog 238 #[.func (.yield l) #[] #[],.pointer (some ⟨Bs,0,none⟩)] W fun e W'=>(∃ v,e=.returned v) /\
   ((∃ ys,ys=upto (bk zs) len/\J ys W')\/(∃ pre,(∃ k,k<=len/\pre=upto (bk zs) k)/\Jx pre W')):=by
 refine callsIn_of_wp func238 rfl h7 ?_ hro;simp only[ntmps238,List.size_toArray,List.length_cons,List.length_nil,Nat.reduceAdd,Nat.reduceSub,Array.replicate_succ,Array.replicate_zero,List.push_toArray,List.append_toArray,List.nil_append,List.cons_append]
 gi_wp2
 gi_loopw [3] (fun i wr=>∃ k m:Nat,k+m=len/\i=.int .i64 ((m:Int)-1)/\J (upto (bk zs) k) wr/\KeepQ q W wr)
  (fun i _=>(intOf i+1).toNat)
 case atStart=>exact⟨0,len,by omega,rfl,h0,KeepQ.refl _ _⟩
 case round =>
  obtain⟨k,m,hk,rfl,hJs,hnx⟩:=hrel;cases m with
  |zero =>
   obtain rfl:k=len:=by omega
   have e1:((0:Nat):Int)-1=-1:=by omega
   rw[e1]
   gi_wp2
   go_end0
   exact⟨⟨_,rfl⟩,.inl ⟨_,rfl,hJs⟩⟩
  |succ m =>
   have e1:((m+1:Nat):Int)-1=(m:Int):=by omega
   rw[e1];have hcx:=(hnx.cell hb).trans (hc m (by omega));have hbx:=(hnx.cell hBs0).trans hBs;obtain⟨fn,tmps,assign,body,hy,hR⟩:=hY _ (⟨m,.inr (by omega)⟩:At zs) wr hJs (by rw[upto_length]; omega);dsimp only at hy;have hm:(m:Int)<len:=by omega
   clear e1
   gi_wp2
   refine hR.mono ?_;rintro e W3 (⟨rfl,hJ3,hk3⟩ | ⟨rfl,hJx3⟩)
   ·gi_wp2
    go_roundw
    case rel =>
     refine⟨k+1,m,by omega,by simp,?_,hnx.trans hk3⟩;rw[upto_succ];have hbk:bk zs k=⟨m,.inr (by omega)⟩:=Subtype.ext (by show zs.length-1-k=m; omega);rw[hbk];exact hJ3
    case measure=>simp[intOf]
   ·gi_wp2
    refine bodyPost_ret (results_none rfl _ _ _) rfl ?_;refine⟨⟨_,rfl⟩,.inr ⟨_,⟨k+1,by omega,rfl⟩,?_⟩⟩;rw[upto_succ];have hbk:bk zs k=⟨m,.inr (by omega)⟩:=Subtype.ext (by show zs.length-1-k=m; omega);rw[hbk];exact hJx3
set_option maxRecDepth 100000 in
set_option maxHeartbeats 1000000 in
theorem back1_nil_in (F:Fence) (n:Nat) (h7:F.fn 238) (hro:F.round=none) (l Bs:Nat) {α:Type} (J:List α->World->Prop) (W:World) (oa:Option Addr) (hBs:W.cell? ⟨Bs,0,none⟩=some (.slice oa 0 0)) (h0:J [] W) :
  CallsIn F n prog 238 #[.func (.yield l) #[] #[],.pointer (some ⟨Bs,0,none⟩)] W fun e W'=>(∃ v,e=.returned v)/\J [] W':=by
 refine callsIn_of_wp func238 rfl h7 ?_ hro;simp only[ntmps238,List.size_toArray,List.length_cons,List.length_nil,Nat.reduceAdd,Nat.reduceSub,Array.replicate_succ,Array.replicate_zero,List.push_toArray,List.append_toArray,List.nil_append,List.cons_append]
 gi_wp2
 gi_loopw [3] (fun i wr=>i=.int .i64 (-1)/\J [] wr) (fun _ _=>0)
 case atStart=>exact⟨rfl,h0⟩
 case round =>
  obtain⟨rfl,hJs⟩:=hrel
  gi_wp2
  go_end0
  exact⟨⟨_,rfl⟩,hJs⟩
set_option maxHeartbeats 1000000 in
theorem backward_in (F:Fence) (n:Nat) (h5:F.fn 181) (hro:F.round=none) (a:Option Addr) (len cap:Nat) (w:World) :
  CallsIn F n prog 181 #[.slice a len cap] w fun e w'=>e=.returned (.func (.func 238) #[] #[.pointer (some ⟨w.heap.size,0,none⟩)])/\w'=w.alloc (.cells #[.slice a len cap] 24):=by
 refine callsIn_of_wp func181 rfl h5 ?_ hro;simp only[ntmps181,List.size_toArray,List.length_cons,List.length_nil,Nat.reduceAdd,Nat.reduceSub,Array.replicate_succ,Array.replicate_zero,List.push_toArray,List.append_toArray,List.nil_append,List.cons_append]
 gi_wp2
 go_ret
 exact⟨rfl,rfl⟩
theorem back_stops (F:Fence) (n:Nat) (h7:F.fn 238) (hro:F.round=none) (hn:1<=n) (Bs:Nat) (q:Nat->Prop) (sv:Value) (zs:List Nat) (hreach:zs.length*8<=140737488351232) (w:World) (hBs:q Bs) (hq:∀ k,q k->k<w.heap.size)
  (hc:w.cell? ⟨Bs,0,none⟩=some sv) (hI:Dg q w sv zs) :
  SeqStopsK F n prog 238 #[.pointer (some ⟨Bs,0,none⟩)] (fun x:At zs=>#[Value.int .i64 (x.1:Int),Value.int .u32 (gd zs x.1:Int)]) (KeepQ q) (fun ys=>ys=upto (bk zs) zs.length)
   (fun pre=>∃ k,k<=zs.length/\pre=upto (bk zs) k) zs.length w:=fun l J Jx W hW _ _ hY h0=>by
 have hk:=KeepQ.of_below hW hq;have hc':=(hk.cell hBs).trans hc;rcases hI.keep hk with ⟨oa,rfl,rfl⟩ | ⟨b,off,cap,rfl,hb,hcs⟩
 ·exact (back1_nil_in F n h7 hro l Bs J W oa hc' h0).mono fun e W' ⟨he,hj⟩=>⟨he,.inl ⟨_,rfl,hj⟩⟩
 ·exact back1_in F n h7 hro hn l Bs q b off zs.length cap zs rfl hreach hb J Jx hY W hc' hBs hcs h0
def CmpR (A C:List Nat) (len:Nat) (r:Int):Prop :=
 (r=0/\∀ j,j<len->gd A j=gd C j)\/∃ m,m<len/\(∀ j,m<j->j<len->gd A j=gd C j)/\((gd A m<gd C m/\r=-1)\/(gd C m<gd A m/\r=1))
set_option maxRecDepth 100000 in
set_option maxHeartbeats 2000000 in
theorem cmp_in (F:Fence) (n:Nat) (h4:F.fn 88) (h6:F.fn 181) (h8:F.fn 238) (hro:F.round=none) (hn:3<=n) (a c:Option Addr) (len cap cap2:Nat) (A C:List Nat) (hA:A.length=len) (hC:C.length=len)
  (hreach:len*8<=140737488351232) (w:World) (hI:Dg (· < w.heap.size) w (.slice a len cap) A) (hI2:Dg (· < w.heap.size) w (.slice c len cap2) C) :
  CallsIn F n prog 88 #[.slice a len cap,.slice c len cap2] w fun e W'=>∃ r,e=.returned (.int .i64 r)/\CmpR A C len r/\Below w.heap.size w W':=by
 have h1:1<=n:=by omega
 refine callsIn_of_wp_marks func88 rfl h4 ?_ hro;simp only[ntmps88,List.size_toArray,List.length_cons,List.length_nil,Nat.reduceAdd,Nat.reduceSub,Array.replicate_succ,Array.replicate_zero,List.push_toArray,List.append_toArray,List.nil_append,List.cons_append]
 gi_wp2_with (gi_at_call 181; refine (backward_in F (n-1) h6 hro _ _ _ _).mono ?_; rintro e w' ⟨rfl,rfl⟩)
 have bB:=Boxed.new w 24 (.slice c len cap2);have bR:=Boxed.new (w.alloc (.cells #[.slice c len cap2] 24)) 3 (.int .i64 0);have bN:=Boxed.new ((w.alloc (.cells #[.slice c len cap2] 24)).alloc (.cells #[.int .i64 0] 3)) 24 (.slice a len cap);rw[World.size_alloc] at bR;rw[World.size_alloc,World.size_alloc] at bN;obtain⟨W0,hW0⟩:∃ W0,(((w.alloc (.cells #[.slice c len cap2] 24)).alloc (.cells #[.int .i64 0] 3)).alloc (.cells #[.slice a len cap] 24))=W0:=⟨_,rfl⟩
 have bB0:Boxed W0 w.heap.size 24 (.slice c len cap2):=by rw[<- hW0]; exact (bB.alloc _).alloc _
 have bR0:Boxed W0 (w.heap.size+1) 3 (.int .i64 0):=by rw[<- hW0]; exact bR.alloc _
 rw[hW0] at bN;have hs0:W0.heap.size=w.heap.size+3:=by rw[<- hW0]; simp
 have hB0:Below w.heap.size w W0:=by rw[<- hW0]; exact (((Below.refl _ w).alloc (Nat.le_refl _) _).alloc (by simp) _).alloc (by simp; omega) _
 rw[hW0];have hk0:KeepQ (· < w.heap.size) w W0:=.of_below hB0 fun _ h=>h
 have hIA:=(hI.keep hk0).mono (q':=fun k=>k<w.heap.size\/k=w.heap.size+2) fun k hk=>.inl hk
 have hIC:=hI2.keep hk0;subst hA;refine wpIn_rangeFunc_ownG hro h1 (gf:=238) (lb:=#[.pointer (some ⟨w.heap.size+1+1,0,none⟩)]) rfl h8 (enters_of func238 (by kernel_rfl) rfl)
  (back_stops F (n-1) h8 hro (by omega) (w.heap.size+1+1) (fun k=>k<w.heap.size\/k=w.heap.size+2) _ A hreach W0 (.inr rfl) (fun k hk=>by omega) bN.cell hIA) KeepQ.trans (keepQ_b (fun k hk=>by omega)) (Below.refl _ _) (fun _=>rfl)
  (fun pre W=>((∀ p∈pre,gd A p.1=gd C p.1)/\W.cell? ⟨w.heap.size+1,0,none⟩=some (.int .i64 0)/\W.frozen? ⟨w.heap.size+1,0,none⟩=false/\W.cell? ⟨w.heap.size,0,none⟩=some (.slice c A.length cap2))/\Below w.heap.size w W)
  (fun cd pre W=>(cd=.ret/\∃ ini last r,pre=ini++[last]/\(∀ p∈ini,gd A p.1=gd C p.1)/\((gd A last.1<gd C last.1/\r=-1)\/(gd C last.1<gd A last.1/\r=1))/\W.cell? ⟨w.heap.size+1,0,none⟩=some (.int .i64 r))/\Below w.heap.size w W)
  (OwnFrom.and (Own.from (fun s A B row hs hg hr=>⟨hs.1,cell_kept hs.2.1 hg hr,(frozen_kept hs.2.1 hg hr).trans hs.2.2.1,cell_kept hs.2.2.2 hg hr⟩) _) (ownFrom_below (Nat.le_refl _) (by omega)))
  (fun cd=>OwnFrom.and (Own.from (fun s A B row hs hg hr=>by obtain⟨hc,ini,last,r,e1,e2,e3,e4⟩:=hs; exact⟨hc,ini,last,r,e1,e2,e3,cell_kept e4 hg hr⟩) _) (ownFrom_below (Nat.le_refl _) (by omega)))
  ⟨⟨by simp,bR0.cell,bR0.frozen,bB0.cell⟩,hB0⟩
  (fun x=>{ tmps:=#[.slice a A.length cap,.slice c A.length cap2,undef,.pointer (some ⟨w.heap.size,0,none⟩),.pointer (some ⟨w.heap.size+1,0,none⟩),.int .i64 (x.1:Int),.int .u32 (gd A x.1:Int),
   .slice a A.length cap,.int .i64 (A.length:Int),.slice c A.length cap2,.int .i64 (A.length:Int),.bool false,undef,undef,undef,undef,undef,.slice a A.length cap,.func (.func 238) #[] #[.pointer (some ⟨w.heap.size+1+1,0,none⟩)],.int .i64 (x.1:Int),.int .u32 (gd A x.1:Int),
   undef,undef,undef,undef,undef,undef,undef,undef,undef,undef,undef,undef,undef,undef],defers:=[] }) ?assign ?body ?done ?stop
 case assign =>
  intro l x W K hK
  gi_wp2
  exact hK
 case body =>
  rintro l pre x W ⟨⟨hp,hcr,hfr,hcb⟩,hB⟩ hlt;have hmlt:x.1<A.length:=by
   rcases x.2 with h | h
   ·rw[h] at hlt; exact absurd hlt (Nat.not_lt_zero _)
   ·exact h
  obtain⟨m,hmx⟩:∃ m,x.1=m:=⟨_,rfl⟩
  dsimp only;rw[hmx] at hmlt ⊢;have hCk:=hI2.keep (KeepQ.of_below (q:=(· < w.heap.size)) hB fun _ h=>h);rcases hCk with ⟨oa,h0,_⟩ | ⟨b,off,cp,e0,hb,hcs⟩
  ·simp only[Value.slice.injEq] at h0;omega
  simp only[Value.slice.injEq] at e0;obtain⟨rfl,hl,rfl⟩:=e0;have hcm:=hcs m (by omega);clear hl hC;have hmi:(m:Int)<A.length:=by omega
  clear hcs;rcases Nat.lt_trichotomy (gd A m) (gd C m) with hx | hx | hx
  ·have hx':(gd A m:Int)<gd C m:=by omega
   gi_wp2
   exact⟨(KeepsOthers.setCell _ _ _).from _,⟨rfl,pre,x,-1,rfl,hp,.inl ⟨by rw[hmx]; exact hx,rfl⟩,World.cell?_setCell_same' _ _ _ (by rw[hcr]; rfl)⟩,hB.setCell (p:=⟨w.heap.size+1,0,none⟩) (by simp) _⟩
  ·have hx1:(gd C m:Int)<=gd A m:=by omega
   have hx2:(gd A m:Int)<=gd C m:=by omega
   have hin:∀ p∈pre++[x],gd A p.1=gd C p.1:=fun p hp'=>(List.mem_append.1 hp').elim (hp p) (fun e=>by
    simp at e;subst e;rw[hmx];exact hx)
   clear hx
   gi_wp2
   exact⟨KeepsFrom.refl _ _,KeepQ.refl _ _,⟨hin,hcr,hfr,hcb⟩,hB⟩
  ·have hx':(gd C m:Int)<gd A m:=by omega
   gi_wp2
   exact⟨(KeepsOthers.setCell _ _ _).from _,⟨rfl,pre,x,1,rfl,hp,.inr ⟨by rw[hmx]; exact hx,rfl⟩,World.cell?_setCell_same' _ _ _ (by rw[hcr]; rfl)⟩,hB.setCell (p:=⟨w.heap.size+1,0,none⟩) (by simp) _⟩
 case done =>
  rintro D ys W hD rfl ⟨⟨hne,hcr,hfr,hcb⟩,hB⟩ hK
  gi_wp2
  have hK':=(KeepsOthers.setCell W ⟨w.heap.size+1,0,none⟩ (.int .i64 0)).same D _ hK rfl;refine⟨by simp,.inl ⟨_,_,rfl,run_takeDeferred hK',?_⟩⟩;have hc5:=cell_kept (World.cell?_setCell_same' W ⟨w.heap.size+1,0,none⟩ (.int .i64 0) (by rw[hcr]; rfl)) (grownBy_putObj' _ D (.deferred none)) (fun r e=>by cases e; exact⟨_,hK',rfl⟩);refine⟨.int .i64 0,?_,0,rfl,.inl ⟨rfl,fun j hj=>?_⟩,(hB.setCell (p:=⟨w.heap.size+1,0,none⟩) (by simp) _).trans (belowK_b (w:=w) (Nat.le_refl _) _ D _ _ (by omega) hK' rfl rfl)⟩
  ·simp[results,f88,go_sem,hc5]
  ·have hin:bk A (A.length-1-j)∈upto (bk A) A.length:=by
    simp only[upto,List.mem_map,List.mem_range];exact⟨A.length-1-j,by omega,rfl⟩
   have:=hne _ hin;have e:(bk A (A.length-1-j)).1=j:=by show A.length-1-(A.length-1-j)=j; omega
   rwa [e] at this
 case stop =>
  rintro D cd pre W hD ⟨k,hk,rfl⟩ ⟨⟨rfl,ini,last,r,e1,e2,e3,hcr⟩,hB⟩ hK
  gi_wp2
  refine⟨by simp,.inl ⟨_,_,rfl,run_takeDeferred hK,?_⟩⟩;have hc5:=cell_kept hcr (grownBy_putObj' _ D (.deferred none)) (fun r e=>by cases e; exact⟨_,hK,rfl⟩);obtain⟨k',rfl⟩:∃ k',k=k'+1:=by
   cases k with
   |zero=>simp[upto] at e1
   |succ k'=>exact⟨k',rfl⟩
  rw[upto_succ] at e1;obtain⟨rfl,e5⟩:=List.append_inj' e1 rfl;obtain rfl:bk A k'=last:=by simpa using e5
  refine⟨.int .i64 r,?_,r,rfl,.inr ⟨A.length-1-k',by omega,fun j h1 h2=>?_,e3⟩,hB.trans (belowK_b (w:=w) (Nat.le_refl _) W D _ _ (by omega) hK rfl rfl)⟩
  ·simp[results,f88,go_sem,hc5]
  ·have hin:bk A (A.length-1-j)∈upto (bk A) k':=by
    simp only[upto,List.mem_map,List.mem_range];exact⟨A.length-1-j,by omega,rfl⟩
   have:=e2 _ hin;have e:(bk A (A.length-1-j)).1=j:=by show A.length-1-(A.length-1-j)=j; omega
   rwa [e] at this
theorem gd_lt {l:List Nat} {j:Nat} (h:∀ x∈l,x<B):gd l j<B:=by
 unfold gd;cases hj:l[j]? with
 |none=>exact Bpos
 |some x=>exact h x (List.mem_of_getElem? hj)
theorem gd_eq {l:List Nat} {j:Nat} (h:j<l.length):gd l j=l[j]:=by simp[gd,h]
theorem val_split {l:List Nat} {m:Nat} (h:m<l.length):val l=val (l.take m)+B^m*gd l m+B^(m+1)*val (l.drop (m+1)):=by
 have e:val l=val (l.take (m+1)++l.drop (m+1)):=by rw[List.take_append_drop]
 rw[e,val_append,val_take_succ h,gd_eq h];congr 3;simp;omega
theorem val_less {A C:List Nat} {m:Nat} (hA:∀ x∈A,x<B) (hl:A.length=C.length) (hm:m<A.length) (ht:∀ j,m<j->j<A.length->gd A j=gd C j) (h:gd A m<gd C m):val A<val C:=by
 have hd:A.drop (m+1)=C.drop (m+1):=by
  apply List.ext_getElem
  ·simp; omega
  ·intro i h1 h2;simp at h1 h2 ⊢;have:=ht (m+1+i) (by omega) (by omega);rwa [gd_eq (by omega),gd_eq (by omega)] at this
 rw[val_split hm,val_split (l:=C) (m:=m) (by omega),hd];have h1:val (A.take m)<B^m:=by
  have:=val_lt (l:=A.take m) fun x hx=>hA x (List.mem_of_mem_take hx)
  rwa [List.length_take,Nat.min_eq_left (by omega)] at this
 have h2:B^m*(gd A m+1)<=B^m*gd C m:=Nat.mul_le_mul_left _ h;rw[Nat.mul_add,Nat.mul_one] at h2;omega
def cmpN (a b:Nat):Int:=if a<b then -1 else if a=b then 0 else 1
theorem cmpR_val {A C:List Nat} {r:Int} (hA:∀ x∈A,x<B) (hC:∀ x∈C,x<B) (hl:A.length=C.length) (h:CmpR A C A.length r):r=cmpN (val A) (val C):=by
 rcases h with ⟨rfl,h⟩ | ⟨m,hm,ht,(⟨h,rfl⟩ | ⟨h,rfl⟩)⟩
 ·have:A=C:=by
   apply List.ext_getElem hl;intro i h1 h2;have:=h i h1;rwa [gd_eq h1,gd_eq h2] at this
  rw[this];simp[cmpN]
 ·have:=val_less hA hl hm ht h;simp[cmpN,this]
 ·have:=val_less hC hl.symm (by omega) (fun j h1 h2=>(ht j h1 (by omega)).symm) h;have h1:¬ val A<val C:=by omega
  have h2:¬ val A=val C:=by omega
  simp[cmpN,h1,h2]
theorem SRep.dgs {S:Nat->Prop} {w:World} {v:Value} {l:List Nat} (h:SRep S w (lst l) v):∃ a cap,v=.slice a l.length cap/\Dg S w v l:=by
 unfold lst at h;generalize he:l.map dg=es at h;have hl:es.length=l.length:=by rw[<- he]; simp
 cases h with
 |slnil =>
  have:l=[]:=by simpa using he
  subst this;exact⟨none,0,rfl,.inl ⟨none,rfl,rfl⟩⟩
 |sle a =>
  have:l=[]:=by simpa using he
  subst this;exact⟨some a,0,rfl,.inl ⟨some a,rfl,rfl⟩⟩
 |sl _ b off n cap k us hn hcap hb hk hc hr =>
  refine⟨some ⟨b,off,none⟩,cap,by rw[<- hn,hl],.inr ⟨b,off,cap,by rw[<- hn,hl],hb,fun j hj=>?_⟩⟩;have hj2:es[j]?=some (Abs.dg l[j]):=by rw[<- he]; simp[hj]
  have hkk:=hk j _ hj2;have hk1:k=1:=by
   simp only[elB,Bool.and_eq_true] at hkk;exact (Nat.eq_of_beq_eq_true hkk.1).symm
  subst hk1;have h1:=hc j _ 0 (Abs.dg l[j]) hj2 rfl;have h2:=hr j _ 0 (Abs.dg l[j]) hj2 rfl;rw[Nat.mul_one,Nat.add_zero] at h1;rw[h1,gd_eq hj];generalize us j 0=u at h2;cases h2 with
  |lit=>rfl
theorem c_Compare (a b:Nat) (ha:a<Big) (hb:b<Big):ACalls prog 88 [nat a,nat b] (i64 (cmpN a b)):=by
 have hA:=len_fit ha;have hC:=len_fit hb;by_cases hl:(digs a).length=(digs b).length
 ·refine⟨⟨_,func88,by decide,rfl⟩,fun S w vs hS hG hargs=>?_⟩;obtain⟨hn,hr⟩:=hargs
  match vs,hn with
  |[v0,v1],_ =>
   have h0:SRep S w (lst (digs a)) v0:=hr 0 _ v0 rfl rfl;have h1:SRep S w (lst (digs b)) v1:=hr 1 _ v1 rfl rfl;obtain⟨a0,cap0,rfl,d0⟩:=h0.dgs;obtain⟨a1,cap1,rfl,d1⟩:=h1.dgs;rw[<- hl] at d1 ⊢;refine ((callsIn_wide (n:=3)).1 (cmp_in Fence.wide 3 trivial trivial trivial rfl (by omega) a0 a1 (digs a).length cap0 cap1 (digs a) (digs b) rfl hl.symm (by omega) w (d0.mono hS) (d1.mono hS))).mono ?_;rintro e W ⟨r,rfl,hcmp,hB⟩;have:=cmpR_val (fun x=>digs_lt) (fun x=>digs_lt) hl hcmp;rw[val_digs,val_digs] at this;subst this;exact⟨_,S,rfl,hB,fun _ h=>h,fun _ h=>.inl h,fun b h=>Nat.lt_of_lt_of_le (hS b h) hB.size,.lit _⟩
 ·refine con func88 rfl (by kernel_rfl) ?_;conv=>whnf
  refine Br.mk (fun h=>?_) (fun h=>?_)
  ·conv=>whnf
   refine Br.mk (fun h2=>?_) (fun h2=>?_)
   ·conv=>whnf
    have hlt:(digs a).length<(digs b).length:=by simpa using h2
    have:a<b:=Nat.lt_of_not_le fun q=>by
     have:=length_digs_le.2 (Nat.lt_of_le_of_lt q (length_digs_le.1 (Nat.le_refl (digs a).length)));omega
    exact fin rfl (congrArg i64 (by simp[cmpN,this]))
   ·conv=>whnf
    have hlt:(digs b).length<(digs a).length:=by simp at h2; omega
    have:b<a:=Nat.lt_of_not_le fun q=>by
     have:=length_digs_le.2 (Nat.lt_of_le_of_lt q (length_digs_le.1 (Nat.le_refl (digs b).length)));omega
    have h3:¬ a<b:=by omega
    have h4:¬ a=b:=by omega
    exact fin rfl (congrArg i64 (by simp[cmpN,h3,h4]))
  ·simp at h;omega
end
section
open Go Go.RowKit Go.Proofs.Tryz
def subR (a b:Nat):Except Nat Nat:=if a<b then .error eLess else .ok (a-b)
theorem shr63 (t:Int) (h0:0<=t):t.fdiv (2^(min 63 IntKind.u64.bits))=t/9223372036854775808:=by
 rw[Int.fdiv_eq_ediv_of_nonneg _ (by decide)];rfl
theorem c_Sub (a b:Nat) (ha:a<Big) (hb:b<Big):ACalls prog 188 [nat a,nat b] (resN (subR a b)):=by
 refine con func188 rfl (by kernel_rfl) ?_;conv=>whnf
 refine callS (c_Compare a b ha hb) rfl rfl ?_;conv=>whnf
 refine Br.mk (fun h=>?_) (fun h=>?_)
 ·have hlt:a<b:=by
   simp only[cmpN] at h;split at h
   ·assumption
   ·split at h <;> simp at h
  have e:subR a b=.error eLess:=by simp[subR,hlt]
  rw[e];conv=>whnf
  exact⟨.sh _ _ rfl le_nil,fin rfl rfl,trivial⟩
 have hge:b<=a:=by
  simp only[cmpN] at h;split at h
  ·simp at h
  ·omega
 have e:subR a b=.ok (a-b):=by simp[subR]; omega
 rw[e];have hA:=len_fit ha;have hC:=len_fit hb;have hda:∀ x∈digs a,x<B:=fun x=>digs_lt
 have hdb:∀ x∈digs b,x<B:=fun x=>digs_lt
 have hva:val (digs a)=a:=val_digs a;have hvb:val (digs b)=b:=val_digs b;have hlen:(digs b).length<=(digs a).length:=length_digs_le.2 (Nat.lt_of_le_of_lt hge (length_digs_le.1 (Nat.le_refl _)));clear h e;generalize hga:digs a=A at *
 generalize hgb:digs b=C at *
 conv=>whnf
 rw[hga];refine⟨⟨by omega,rfl,by simp only[lenLim,List.length_map]; omega⟩,?_⟩;conv=>whnf
 refine⟨List Nat×Nat,fun q=>q.1.length<=A.length/\(∀ x∈q.1,x<B)/\q.2<=1/\val (A.take q.1.length)+q.2*B^q.1.length=val q.1+val (C.take q.1.length),
   fun q=>{ fr:=[(0,lst A),(1,lst C),(6,.own (2,2) A.length),(7,u64 q.2),(19,lst A),(20,i64 A.length),(21,i64 q.1.length)],st:=[((2,2),⟨207,1,(q.1++List.replicate (A.length-q.1.length) 0).map dg⟩)],g:=9 },
   fun q=>A.length-q.1.length,([],0),⟨Nat.zero_le _,by simp,by decide,by simp[val]⟩,?_,?_⟩
 ·refine⟨trivial,⟨.inl ⟨.of_eq (congrArg lst hga),rfl⟩,.inl ⟨.of_eq (congrArg lst hgb),rfl⟩,.inl ⟨.of_eq (congrArg (AV.own (2,2)) (by simp)),rfl⟩,x_R,.inl ⟨.of_eq (congrArg lst hga),rfl⟩,x_E (by simp[hga]),x_R,trivial⟩,⟨.same ?_ (ltL_dg _),x_N,x_L⟩,trivial⟩;refine congrArg (fun z=>some (Row.mk 207 1 z)) ?_;simp only[List.map_nil,List.nil_append,List.length_nil,Nat.sub_zero,List.map_replicate,List.length_map,Int.toNat_natCast];rfl
 rintro⟨l,c⟩ ⟨h1,h2,h3,h4⟩;dsimp only at h1 h2 h3 h4 ⊢;conv=>whnf
 cases hb:decide ((l.length:Int)<(A.length:Int))
 ·have hll:l.length=A.length:=by simp at hb; omega
  conv=>whnf
  rw[hll,List.take_of_length_le (Nat.le_refl _),List.take_of_length_le hlen,hva,hvb] at h4;have hvl:val l=a-b:=by
   have h5:val l<B^A.length:=hll▸val_lt h2;have:c=0:=by
    rcases Nat.eq_zero_or_pos c with h6 | h6
    ·exact h6
    ·have:c=1:=by omega
     subst this;omega
   subst this;omega
  have hc:=c_fits l h2 (by omega);rw[hvl,fitN_ok (Nat.lt_of_le_of_lt (Nat.sub_le _ _) ha)] at hc;have e2:(l++List.replicate (A.length-l.length) 0).map dg=l.map dg:=by simp[hll]
  refine callL [(2,2)] [lst l] ⟨⟨_,rfl⟩,trivial⟩ ⟨.own2 (.head _) rfl ?_ ?_ e2,trivial⟩ hc rfl ?_
  ·exact (congrArg List.length e2).trans (by simp[hll])
  ·exact (congrArg AV.closedL e2).trans (closedL_dg _)
  conv=>whnf
  exact⟨fin rfl rfl,fin rfl rfl,trivial⟩
 ·have hlt:l.length<A.length:=by simpa using hb
  conv=>whnf
  refine⟨dg A[l.length],⟨by omega,by simp[hlt],rfl,rfl⟩,?_⟩;conv=>whnf
  have hx:A[l.length]<B:=hda _ (List.getElem_mem hlt);have ex:IntKind.wrap .u64 ((A[l.length]:Nat):Int)=((A[l.length]:Nat):Int):=by rw[wU,Nat.mod_eq_of_lt (by unfold B at hx; omega)]
  -- the round's end,whatever is taken
  have done:∀ (t:Nat) (T:Int),T=(t:Int)->t<=B->val (A.take l.length)+B^l.length*t=val l+val (C.take (l.length+1)) ->
    ∃ y:List Nat×Nat,(y.1.length<=A.length/\(∀ x∈y.1,x<B)/\y.2<=1/\val (A.take y.1.length)+y.2*B^y.1.length=val y.1+val (C.take y.1.length))/\y.1.length=l.length+1 /\
     (IntKind.wrap .u64 (IntKind.wrap .u64 ((A[l.length]:Nat):Int)-T)).fdiv (2^(min 63 IntKind.u64.bits))=(y.2:Int) /\
     (((l++List.replicate (A.length-l.length) 0).map dg).set ((l.length:Int).toNat) (AV.lit (.int .u32 (IntKind.wrap .u32 (IntKind.wrap .u64 (IntKind.wrap .u64 ((A[l.length]:Nat):Int)-T))))))=(y.1++List.replicate (A.length-y.1.length) 0).map dg:=by
   rintro t T rfl ht hv;rw[ex];have hw:∀ z:Int,IntKind.wrap .u64 z=z%18446744073709551616:=fun z=>by simp[IntKind.wrap,IntKind.bits,IntKind.signed]
   have hw2:∀ z:Int,IntKind.wrap .u32 z=z%4294967296:=fun z=>by simp[IntKind.wrap,IntKind.bits,IntKind.signed]
   rw[hw,shr63 _ (by omega),hw2];have val_s:=val_take_succ hlt;by_cases hle:t<=A[l.length]
   ·refine⟨(l++[A[l.length]-t],0),⟨by simp; omega,?_,by simp,?_⟩,by simp,?_,?_⟩
    ·intro x hx;simp only[List.mem_append,List.mem_singleton] at hx;rcases hx with hx | rfl
     ·exact h2 x hx
     ·omega
    ·simp only[List.length_append,List.length_cons,List.length_nil,Nat.zero_add,val_append,val,Nat.mul_zero,Nat.add_zero,Nat.zero_mul];rw[val_s];have:B^l.length*(A[l.length]-t)+B^l.length*t=B^l.length*A[l.length]:=by rw[<- Nat.mul_add,Nat.sub_add_cancel hle]
     omega
    ·unfold B at hx; simp only; omega
    ·have e:(((A[l.length]:Nat):Int)-(t:Int))%18446744073709551616%4294967296=((A[l.length]-t:Nat):Int):=by unfold B at hx; omega
     rw[e];exact setRow hlt
   ·refine⟨(l++[B+A[l.length]-t],1),⟨by simp; omega,?_,by simp,?_⟩,by simp,?_,?_⟩
    ·intro x hx;simp only[List.mem_append,List.mem_singleton] at hx;rcases hx with hx | rfl
     ·exact h2 x hx
     ·omega
    ·simp only[List.length_append,List.length_cons,List.length_nil,Nat.zero_add,val_append,val,Nat.mul_zero,Nat.add_zero,Nat.one_mul];rw[val_s,Nat.pow_succ];have:B^l.length*(B+A[l.length]-t)+B^l.length*t=B^l.length*B+B^l.length*A[l.length]:=by rw[<- Nat.mul_add,<- Nat.mul_add,Nat.sub_add_cancel (by omega)]
     omega
    ·unfold B at hx ht; simp only; omega
    ·have e:(((A[l.length]:Nat):Int)-(t:Int))%18446744073709551616%4294967296=((B+A[l.length]-t:Nat):Int):=by unfold B at hx ht ⊢; omega
     rw[e];exact setRow hlt
  cases hb2:decide ((l.length:Int)<(((C.map dg).length:Nat):Int))
  ·have hge:C.length<=l.length:=by simp at hb2; omega
   conv=>whnf
   refine⟨⟨rfl,rfl⟩,⟨by omega,by first | omega | (simp; done) | (simp; omega)⟩,?_⟩;conv=>whnf
   refine elA_mk (dg 0) (getRow (by omega)) ?_;conv=>whnf
   obtain⟨y,hp,hyl,hc,hr⟩:=done c (c:Int) rfl (by have:=B1; omega) (by
    rw[List.take_of_length_le (l:=C) (by omega),<- List.take_of_length_le (l:=C) hge,Nat.mul_comm _ c];exact h4)
   refine⟨y,hp,⟨trivial,⟨x_R,x_R,x_R,.inl ⟨.of_eq (congrArg (fun z=>AV.lit (.int .u64 z)) hc),rfl⟩,x_R,x_R,x_E ?_,trivial⟩,⟨.same ?_ (ltL_dg _),x_N,x_L⟩,trivial⟩,?_⟩
   ·rw[hyl];exact (wI (n:=(l.length:Int)+1) (by omega) (by omega)).trans (by omega)
   ·exact congrArg (fun z=>some (Row.mk 207 1 z)) hr
   ·show A.length-y.1.length<A.length-l.length;omega
  ·have hlt2:l.length<C.length:=by simp at hb2; omega
   have hy:C[l.length]<B:=hdb _ (List.getElem_mem hlt2);have ey:IntKind.wrap .u64 ((C[l.length]:Nat):Int)=((C[l.length]:Nat):Int):=by rw[wU,Nat.mod_eq_of_lt (by unfold B at hy; omega)]
   conv=>whnf
   refine⟨dg C[l.length],⟨by omega,by simp[hlt2],rfl,rfl⟩,?_⟩;conv=>whnf
   refine⟨⟨rfl,rfl⟩,⟨by omega,by first | omega | (simp; done) | (simp; omega)⟩,?_⟩;conv=>whnf
   refine elA_mk (dg 0) (getRow (by omega)) ?_;conv=>whnf
   obtain⟨y,hp,hyl,hc,hr⟩:=done (c+C[l.length]) (IntKind.wrap .u64 ((c:Int)+IntKind.wrap .u64 ((C[l.length]:Nat):Int)))
    (by rw[ey,<- Int.natCast_add,wU,Nat.mod_eq_of_lt (by unfold B at hy; omega)]) (by omega) (by
    rw[val_take_succ hlt2,Nat.mul_add,Nat.mul_comm _ c];omega)
   refine⟨y,hp,⟨trivial,⟨x_R,x_R,x_R,.inl ⟨.of_eq (congrArg (fun z=>AV.lit (.int .u64 z)) hc),rfl⟩,x_R,x_R,x_E ?_,trivial⟩,⟨.same ?_ (ltL_dg _),x_N,x_L⟩,trivial⟩,?_⟩
   ·rw[hyl];exact (wI (n:=(l.length:Int)+1) (by omega) (by omega)).trans (by omega)
   ·exact congrArg (fun z=>some (Row.mk 207 1 z)) hr
   ·show A.length-y.1.length<A.length-l.length;omega
end
section
open Go Go.RowKit Go.Proofs.Tryz
theorem val_set:∀ {o:List Nat} {j v:Nat} (h:j<o.length),val (o.set j v)+B^j*o[j]=val o+B^j*v
 |x::o,0,v,_=>by simp[val]; omega
 |x::o,j+1,v,h=>by
  have:=val_set (o:=o) (j:=j) (v:=v) (by simpa using h);simp only[List.set_cons_succ,val,List.getElem_cons_succ,Nat.pow_succ];have e:B*(val (o.set j v)+B^j*o[j]'(by simpa using h))=B*(val o+B^j*v):=by rw[this]
  simp only[Nat.mul_add] at e;rw[Nat.mul_comm (B^j) B,Nat.mul_assoc,Nat.mul_assoc];omega
theorem get_dg {o:List Nat} {j:Nat} (h:j<o.length):(o.map dg)[(j:Int).toNat]?=some (dg o[j]):=by simp[h]
theorem set_dg {o:List Nat} {j:Nat} {v:Nat}:(o.map dg).set ((j:Int).toNat) (dg v)=(o.set j v).map dg:=by simp[List.map_set]
theorem lt_set {o:List Nat} {j v:Nat} (h:∀ x∈o,x<B) (hv:v<B):∀ x∈o.set j v,x<B:=fun x hx=>by
 rcases List.mem_or_eq_of_mem_set hx with hx | rfl
 ·exact h x hx
 ·exact hv
theorem dgE (t:Nat):AV.lit (.int .u32 (IntKind.wrap .u32 (t:Int)))=dg (t%B):=by rw[w32]; rfl
theorem le_pow {n k:Nat} (h:k<(digs n).length):B^k<=n:=Nat.le_of_not_lt fun q=>by
 have:=length_digs_le.2 q;omega
def mulL (A C:List Nat):Except Nat Nat:=if A=[]\/C=[] then .ok 0 else if A.length+C.length > 513 then .error eLimbs else fitN (val A*val C)
set_option exponentiation.threshold 20000 in
theorem mulL_digs {a b:Nat} (ha:a<Big):mulL (digs a) (digs b)=fitN (a*b):=by
 have zero:∀ {n:Nat},n=0->fitN n=.ok 0:=fun h=>by rw[h]; exact fitN_ok (Nat.lt_of_le_of_lt (Nat.zero_le _) ha)
 unfold mulL;split
 ·rename_i h;rcases h with h | h
  ·have e:a=0:=by rw[<- val_digs a,h]; rfl
   rw[zero (by rw[e,Nat.zero_mul])]
  ·have e:b=0:=by rw[<- val_digs b,h]; rfl
   rw[zero (by rw[e,Nat.mul_zero])]
 ·rename_i h;have hA0:0<(digs a).length:=List.length_pos_iff.2 fun e=>h (.inl e)
  have hC0:0<(digs b).length:=List.length_pos_iff.2 fun e=>h (.inr e)
  split
  ·have hp:=Nat.mul_le_mul (le_pow (n:=a) (k:=(digs a).length-1) (by omega)) (le_pow (n:=b) (k:=(digs b).length-1) (by omega));rw[<- Nat.pow_add] at hp;have h2:B^512<=B^((digs a).length-1+((digs b).length-1)):=Nat.pow_le_pow_right Bpos (by omega);have h3:¬ a*b<Big:=by
    have e:Big=B^512:=by unfold Big; rfl
    rw[<- e] at h2;exact Nat.not_lt_of_le (Nat.le_trans h2 hp)
   rw[fitN_no h3]
  ·rw[val_digs,val_digs]
set_option maxHeartbeats 2000000 in
set_option exponentiation.threshold 20000 in
theorem c_MulL (A C:List Nat) (hda:∀ x∈A,x<B) (hdb:∀ x∈C,x<B) (hA:A.length<=4611686018427387904) (hC:C.length<=4611686018427387903):ACalls prog 102 [lst A,lst C] (resN (mulL A C)):=by
 refine con func102 rfl (by kernel_rfl) ?_;obtain⟨a,hva⟩:∃ a,val A=a:=⟨_,rfl⟩
 obtain⟨b,hvb⟩:∃ b,val C=b:=⟨_,rfl⟩
 conv=>whnf
 cases hz:(((A.map dg).length:Nat):Int)==0
 case true =>
  have:A=[]:=by simpa using hz
  rw[show mulL A C=.ok 0 from if_pos (.inl this)];conv=>whnf
  exact⟨.sh _ _ rfl le_nil,fin rfl rfl,trivial⟩
 conv=>whnf
 cases hz2:(((C.map dg).length:Nat):Int)==0
 case true =>
  have:C=[]:=by simpa using hz2
  rw[show mulL A C=.ok 0 from if_pos (.inr this)];conv=>whnf
  exact⟨.sh _ _ rfl le_nil,fin rfl rfl,trivial⟩
 have hA0:0<A.length:=by
  cases A with
  |nil=>simp at hz
  |cons=>simp
 have hC0:0<C.length:=by
  cases C with
  |nil=>simp at hz2
  |cons=>simp
 have hne:¬ (A=[]\/C=[]):=by
  rintro (h | h)
  ·rw[h] at hA0;exact absurd hA0 (by decide)
  ·rw[h] at hC0;exact absurd hC0 (by decide)
 have hsum:IntKind.wrap .i64 ((((A.map dg).length:Nat):Int)+(((C.map dg).length:Nat):Int))=((A.length+C.length:Nat):Int):=by rw[wI] <;> simp <;> omega
 conv=>whnf
 rw[hsum];cases hbig:decide (((A.length+C.length:Nat):Int) > 513)
 case true =>
  have h1:A.length+C.length > 513:=by simp at hbig; omega
  rw[show mulL A C=.error eLimbs from (if_neg hne).trans (if_pos h1)];conv=>whnf
  exact⟨.sh _ _ rfl le_nil,fin rfl rfl,trivial⟩
 have hle:A.length+C.length<=513:=by simp at hbig; omega
 have hmu:mulL A C=fitN (a*b):=by
  rw[<- hva,<- hvb];exact (if_neg hne).trans (if_neg (by omega))
 rw[hmu];conv=>whnf
 rw[hsum];refine⟨⟨by omega,rfl,by simp only[lenLim]; omega⟩,?_⟩;conv=>whnf
 refine⟨Nat×List Nat,fun q=>q.1<=A.length/\q.2.length=A.length+C.length/\(∀ x∈q.2,x<B)/\val q.2=val (A.take q.1)*b/\∀ x∈q.2.drop (q.1+C.length),x=0,
   fun q=>{ fr:=[(0,lst A),(1,lst C),(6,.own (3,5) (A.length+C.length)),(32,lst A),(33,i64 A.length),(34,i64 q.1)],st:=[((3,5),⟨207,1,q.2.map dg⟩)],g:=9 },
   fun q=>A.length-q.1,(0,List.replicate (A.length+C.length) 0),⟨Nat.zero_le _,by simp,?_,?_,?_⟩,?_,?_⟩
 ·intro x hx;rw[(List.mem_replicate.1 hx).2];exact Bpos
 ·have:val (List.replicate (A.length+C.length) 0)=val ((List.replicate (A.length+C.length) 0).take 0):=(val_take (by simp)).symm;rw[this];simp[val]
 ·intro x hx;exact (List.mem_replicate.1 (List.mem_of_mem_drop hx)).2
 ·refine⟨trivial,⟨x_R,x_R,x_R,x_R,x_E (by simp),x_R,trivial⟩,⟨.same ?_ (ltL_dg _),x_N,x_L⟩,trivial⟩;refine congrArg (fun z=>some (Row.mk 207 1 z)) ?_;rw[List.map_replicate];rfl
 rintro⟨i,o⟩ ⟨h1,h2,h3,h4,h5⟩;dsimp only at h1 h2 h3 h4 h5 ⊢;conv=>whnf
 cases hb1:decide ((i:Int)<(A.length:Int))
 ·have hi:i=A.length:=by simp at hb1; omega
  conv=>whnf
  have hv:val o=a*b:=by rw[h4,hi,List.take_of_length_le (Nat.le_refl _),hva]
  have hc:=c_fits o h3 (by omega);rw[hv] at hc;refine callL [(3,5)] [lst o] ⟨⟨_,rfl⟩,trivial⟩ ⟨.own2 (.head _) rfl (by simp[h2]) (closedL_dg _) rfl,trivial⟩ hc (closed_resN (fitN (a*b))) ?_;cases fitN (a*b) <;> (conv=>whnf) <;> exact⟨.sh _ _ rfl (.refl _),.sh _ _ rfl (.refl _),trivial⟩
 ·have hi:i<A.length:=by simpa using hb1
  have hx:A[i]<B:=hda _ (List.getElem_mem hi);conv=>whnf
  refine⟨dg A[i],⟨by omega,by simp[hi],rfl,rfl⟩,?_⟩;conv=>whnf
  refine⟨Nat×List Nat×Nat,fun q=>q.1<=C.length/\q.2.1.length=A.length+C.length/\(∀ x∈q.2.1,x<B)/\q.2.2<B/\val q.2.1+q.2.2*B^(i+q.1)=val o+A[i]*B^i*val (C.take q.1)/\q.2.1.drop (i+q.1)=o.drop (i+q.1),
   fun q=>{ fr:=[(0,lst A),(1,lst C),(6,.own (3,5) (A.length+C.length)),(32,lst A),(33,i64 A.length),(34,i64 i),(7,i64 i),(8,dg A[i]),(9,u64 q.2.2),(39,lst C),(40,i64 C.length),(41,i64 q.1)],st:=[((3,5),⟨207,1,q.2.1.map dg⟩)],g:=20 },
   fun q=>C.length-q.1,(0,o,0),⟨Nat.zero_le _,h2,h3,Bpos,by simp[val],rfl⟩,?_,?_⟩
  ·exact⟨trivial,⟨x_R,x_R,x_R,x_R,x_R,x_R,x_R,x_R,x_R,x_R,x_E (by simp),x_R,trivial⟩,⟨.same rfl (ltL_dg _),x_N,x_L⟩,trivial⟩
  rintro⟨k,p,c⟩ ⟨k1,k2,k3,k4,k5,k6⟩;dsimp only at k1 k2 k3 k4 k5 k6 ⊢;conv=>whnf
  cases hb2:decide ((k:Int)<(C.length:Int))
  ·have hk:k=C.length:=by simp at hb2; omega
   subst hk;have hj:IntKind.wrap .i64 ((i:Int)+(((C.map dg).length:Nat):Int))=((i+C.length:Nat):Int):=by rw[wI] <;> simp <;> omega
   conv=>whnf
   rw[hj];refine⟨⟨rfl,rfl⟩,⟨by omega,by omega⟩,?_⟩;conv=>whnf
   refine elA_mk (dg p[i+C.length]) (get_dg (by omega)) ?_;conv=>whnf
   have hp0:p[i+C.length]=0:=by
    have e:p.drop (i+C.length)=p[i+C.length]::p.drop (i+C.length+1):=List.drop_eq_getElem_cons (by omega);refine h5 _ ?_;rw[<- k6,e];exact .head _
   refine⟨(i+1,p.set (i+C.length) c),⟨hi,by simp[k2],lt_set k3 k4,?_,?_⟩,⟨trivial,⟨x_R,x_R,x_R,x_R,x_R,x_E ?_,trivial⟩,⟨.same ?_ (ltL_dg _),x_N,x_L⟩,trivial⟩,?_⟩
   ·have hs:=val_set (o:=p) (j:=i+C.length) (v:=c) (by omega);rw[hp0] at hs;rw[List.take_of_length_le (Nat.le_refl _),hvb] at k5;show val (p.set (i+C.length) c)=val (A.take (i+1))*b;rw[val_take_succ hi,Nat.add_mul,<- h4,Nat.mul_comm (B^i) A[i],Nat.mul_comm c] at *
    omega
   ·intro x hx;show x=0;have e:(p.set (i+C.length) c).drop (i+1+C.length)=o.drop (i+C.length+1):=by
     rw[List.drop_set_of_lt (by omega),show i+1+C.length=i+C.length+1 by omega];have:=congrArg (List.drop 1) k6;simpa using this
    rw[e] at hx;refine h5 x ?_;have:o.drop (i+C.length)=o[i+C.length]::o.drop (i+C.length+1):=List.drop_eq_getElem_cons (by omega);rw[this];exact .tail _ hx
   ·exact wI (n:=(i:Int)+1) (by omega) (by omega)
   ·refine congrArg (fun z=>some (Row.mk 207 1 z)) ?_;rw[dgE,Nat.mod_eq_of_lt k4];exact set_dg
   ·show A.length-(i+1)<A.length-i;omega
  ·have hk:k<C.length:=by simpa using hb2
   have hy:C[k]<B:=hdb _ (List.getElem_mem hk);have hj:IntKind.wrap .i64 ((i:Int)+(k:Int))=((i+k:Nat):Int):=by rw[wI] <;> omega
   have hjl:i+k<p.length:=by omega
   have hz:p[i+k]<B:=k3 _ (List.getElem_mem hjl);have hprod:A[i]*C[k]<=(B-1)*(B-1):=Nat.mul_le_mul (by omega) (by omega);have hB2:(B-1)*(B-1)+2*(B-1)+1=18446744073709551616:=by decide
   have u:∀ x:Nat,x<B->IntKind.wrap .u64 (x:Int)=(x:Int):=fun x hx=>by rw[wU,Nat.mod_eq_of_lt (by unfold B at hx; omega)]
   have ht:IntKind.wrap .u64 ((c:Int)+IntKind.wrap .u64 (IntKind.wrap .u64 (IntKind.wrap .u64 ((A[i]:Nat):Int)*IntKind.wrap .u64 ((C[k]:Nat):Int))+IntKind.wrap .u64 ((p[i+k]:Nat):Int)))=((c+(A[i]*C[k]+p[i+k]):Nat):Int):=by
    rw[u _ hx,u _ hy,u _ hz,<- Int.natCast_mul,wU,Nat.mod_eq_of_lt (by omega),<- Int.natCast_add,wU,Nat.mod_eq_of_lt (by omega),<- Int.natCast_add,wU,Nat.mod_eq_of_lt (by omega)]
   conv=>whnf
   refine⟨dg C[k],⟨by omega,by simp[hk],rfl,rfl⟩,?_⟩;conv=>whnf
   rw[hj];refine⟨⟨rfl,rfl⟩,⟨by omega,by omega⟩,?_⟩;conv=>whnf
   refine elA_mk (dg p[i+k]) (get_dg hjl) ?_;conv=>whnf
   rw[hj];refine⟨⟨rfl,rfl⟩,⟨by omega,by omega⟩,?_⟩;conv=>whnf
   refine elA_mk (dg p[i+k]) (get_dg hjl) ?_;conv=>whnf
   have hs:=val_set (o:=p) (j:=i+k) (v:=(c+(A[i]*C[k]+p[i+k]))%B) hjl;have hm:=Nat.mod_add_div (c+(A[i]*C[k]+p[i+k])) B;have hq:(c+(A[i]*C[k]+p[i+k]))/B<B:=(Nat.div_lt_iff_lt_mul Bpos).2 (by unfold B at *; omega);obtain⟨t,htt⟩:∃ t,c+(A[i]*C[k]+p[i+k])=t:=⟨_,rfl⟩
   rw[htt] at ht hs hm hq;refine⟨(k+1,p.set (i+k) (t%B),t/B),⟨hk,by simp[k2],lt_set k3 (Nat.mod_lt _ Bpos),hq,?_,?_⟩,⟨trivial,⟨x_R,x_R,x_R,x_R,x_R,x_R,x_R,x_R,.inl ⟨.of_eq (congrArg (fun z=>AV.lit (.int .u64 z)) ?_),rfl⟩,x_R,x_R,x_E ?_,trivial⟩,⟨.same ?_ (ltL_dg _),x_N,x_L⟩,trivial⟩,?_⟩
   ·show val (p.set (i+k) (t%B))+t/B*B^(i+(k+1))=val o+A[i]*B^i*val (C.take (k+1));have e1:A[i]*B^i*val (C.take (k+1))=A[i]*B^i*val (C.take k)+B^(i+k)*(A[i]*C[k]):=by
     rw[val_take_succ hk,Nat.mul_add,Nat.pow_add];congr 1;rw[Nat.mul_comm A[i] (B^i),Nat.mul_assoc,Nat.mul_assoc,Nat.mul_left_comm A[i]]
    have e2:t/B*B^(i+(k+1))=B^(i+k)*(B*(t/B)):=by
     rw[<- Nat.add_assoc,Nat.pow_succ,Nat.mul_comm,Nat.mul_assoc]
    have e3:B^(i+k)*(t%B)+B^(i+k)*(B*(t/B))=B^(i+k)*c+B^(i+k)*(A[i]*C[k])+B^(i+k)*p[i+k]:=by
     rw[<- Nat.mul_add,hm,<- htt,Nat.mul_add,Nat.mul_add];omega
    rw[e1,e2];rw[Nat.mul_comm c] at k5;omega
   ·show (p.set (i+k) (t%B)).drop (i+(k+1))=o.drop (i+(k+1));rw[List.drop_set_of_lt (by omega)];have:=congrArg (List.drop 1) k6;simpa [Nat.add_assoc] using this
   ·rw[ht];exact fdiv_B t
   ·exact wI (n:=(k:Int)+1) (by omega) (by omega)
   ·refine congrArg (fun z=>some (Row.mk 207 1 z)) ?_;rw[ht,dgE];exact set_dg
   ·show C.length-(k+1)<C.length-k;omega
theorem c_Mul (a b:Nat) (ha:a<Big) (hb:b<Big):ACalls prog 102 [nat a,nat b] (resN (fitN (a*b))):=by
 have hA:=len_fit ha;have hC:=len_fit hb;rw[<- mulL_digs ha];exact c_MulL (digs a) (digs b) (fun x=>digs_lt) (fun x=>digs_lt) (by omega) (by omega)
end
section
open Go Go.RowKit Go.Proofs.Tryz
def blen (x:Nat):Nat:=if x=0 then 0 else Nat.log2 x+1
theorem blen_le {x k:Nat}:blen x<=k↔x<2^k:=by
 unfold blen;split
 ·rename_i h;subst h;exact⟨fun _=>Nat.pow_pos (by decide),fun _=>Nat.zero_le _⟩
 ·rename_i h;rw[Nat.succ_le_iff,Nat.log2_lt h]
theorem blen_shift {x k:Nat} (h:2^k<=x):blen x=blen (x/2^k)+k:=by
 have hx:blen x<=blen (x/2^k)+k:=by
  rw[blen_le,Nat.pow_add];have:=blen_le.1 (Nat.le_refl (blen (x/2^k)));exact (Nat.div_lt_iff_lt_mul (Nat.pow_pos (by decide))).1 this
 have hk:k<blen x:=by
  have:=(not_congr (blen_le (x:=x) (k:=k))).2 (by omega);omega
 have:blen (x/2^k)<=blen x-k:=by
  rw[blen_le,Nat.div_lt_iff_lt_mul (Nat.pow_pos (by decide)),<- Nat.pow_add,Nat.sub_add_cancel (by omega)];exact blen_le.1 (Nat.le_refl _)
 omega
theorem blen_lt {y:Nat} (h:y<256):blen y<9:=Nat.lt_succ_of_le (blen_le.2 h)
theorem wrap8 (n:Int):IntKind.wrap .u8 n=n%256:=by simp[IntKind.wrap,IntKind.bits,IntKind.signed]
theorem blen8 {n:Nat} (h:n<9):IntKind.wrap .i64 (((UInt8.ofNat n).toNat:Nat):Int)=(n:Int):=by
 rw[UInt8.toNat_ofNat',Nat.mod_eq_of_lt (by omega),wI] <;> omega
theorem fdivP (x k:Nat):(x:Int).fdiv (2^k)=((x/2^k:Nat):Int):=by
 rw[Int.fdiv_eq_ediv_of_nonneg _ (Int.le_of_lt (Int.pow_pos (by decide)))];simp
theorem someA_mk {α:Type} {o:Option α} {K:α->Prop} (x:α) (h:o=some x) (k:K x):someA o K:=by subst h; exact k
set_option maxRecDepth 100000 in
theorem c_Len32 (x:Nat) (hx:x<B):ACalls prog 191 [dg x] (i64 (blen x)):=by
 unfold B at hx;refine con func191 rfl (by kernel_rfl) ?_;conv=>whnf
 refine Br.mk (fun h=>?_) (fun h=>?_)
 ·have h1:65536<=x:=by simp at h; omega
  conv=>whnf
  refine Br.mk (fun h2=>?_) (fun h2=>?_)
  ·have h3:256<=x/65536:=by
    rw[show (x:Int).fdiv (2^min 16 IntKind.u32.bits)=((x/65536:Nat):Int) from fdivP x 16] at h2;simp at h2;omega
   conv=>whnf
   have en:IntKind.wrap .u8 (((x:Int).fdiv (2^min 16 IntKind.u32.bits)).fdiv (2^min 8 IntKind.u32.bits))=((x/16777216:Nat):Int):=by
    rw[show (((x:Int).fdiv (2^min 16 IntKind.u32.bits)).fdiv (2^min 8 IntKind.u32.bits):Int)=((x/16777216:Nat):Int) from by rw[show (x:Int).fdiv (2^min 16 IntKind.u32.bits)=((x/65536:Nat):Int) from fdivP x 16,show ((x/65536:Nat):Int).fdiv (2^min 8 IntKind.u32.bits)=((x/65536/256:Nat):Int) from fdivP _ 8,Nat.div_div_eq_div_mul],wrap8];omega
   have hy:x/16777216<256:=by omega
   refine⟨UInt8.ofNat (blen (x/16777216)),⟨by rw[en]; omega,?_⟩,?_⟩
   ·rw[en,Int.toNat_natCast];clear en;generalize x/16777216=y at hy;clear h h2 hx
    revert y
    decide +kernel
   conv=>whnf
   have hl:=blen_lt hy;refine fin rfl (congrArg i64 ?_);rw[blen8 hl,show blen x=blen (x/16777216)+24 from blen_shift (k:=24) (by omega)];show IntKind.wrap .i64 (IntKind.wrap .i64 (16+8)+_)=_; rw[wI (n:=16+8) (by decide) (by decide),wI] <;> omega
  ·have h3:x/65536<256:=by
    rw[show (x:Int).fdiv (2^min 16 IntKind.u32.bits)=((x/65536:Nat):Int) from fdivP x 16] at h2;simp at h2;omega
   conv=>whnf
   have en:IntKind.wrap .u8 ((x:Int).fdiv (2^min 16 IntKind.u32.bits))=((x/65536:Nat):Int):=by
    rw[show ((x:Int).fdiv (2^min 16 IntKind.u32.bits):Int)=((x/65536:Nat):Int) from fdivP x 16,wrap8];omega
   have hy:x/65536<256:=by omega
   refine⟨UInt8.ofNat (blen (x/65536)),⟨by rw[en]; omega,?_⟩,?_⟩
   ·rw[en,Int.toNat_natCast];clear en;generalize x/65536=y at hy;clear h h2 hx
    revert y
    decide +kernel
   conv=>whnf
   have hl:=blen_lt hy;refine fin rfl (congrArg i64 ?_);rw[blen8 hl,show blen x=blen (x/65536)+16 from blen_shift (k:=16) (by omega)];show IntKind.wrap .i64 (16+_)=_; rw[wI] <;> omega
 ·have h1:x<65536:=by simp at h; omega
  conv=>whnf
  refine Br.mk (fun h2=>?_) (fun h2=>?_)
  ·have h3:256<=x:=by simp at h2; omega
   conv=>whnf
   have en:IntKind.wrap .u8 ((x:Int).fdiv (2^min 8 IntKind.u32.bits))=((x/256:Nat):Int):=by
    rw[show ((x:Int).fdiv (2^min 8 IntKind.u32.bits):Int)=((x/256:Nat):Int) from fdivP x 8,wrap8];omega
   have hy:x/256<256:=by omega
   refine⟨UInt8.ofNat (blen (x/256)),⟨by rw[en]; omega,?_⟩,?_⟩
   ·rw[en,Int.toNat_natCast];clear en;generalize x/256=y at hy;clear h h2 hx
    revert y
    decide +kernel
   conv=>whnf
   have hl:=blen_lt hy;refine fin rfl (congrArg i64 ?_);rw[blen8 hl,show blen x=blen (x/256)+8 from blen_shift (k:=8) (by omega)];show IntKind.wrap .i64 (IntKind.wrap .i64 (0+8)+_)=_; rw[wI (n:=0+8) (by decide) (by decide),wI] <;> omega
  ·have h3:x<256:=by simp at h2; omega
   conv=>whnf
   have en:IntKind.wrap .u8 ((x:Int))=((x/1:Nat):Int):=by
    rw[show ((x:Int):Int)=((x/1:Nat):Int) from by rw[Nat.div_one],wrap8];omega
   have hy:x/1<256:=by omega
   refine⟨UInt8.ofNat (blen (x/1)),⟨by rw[en]; omega,?_⟩,?_⟩
   ·rw[en,Int.toNat_natCast];clear en;generalize x/1=y at hy;clear h h2 hx
    revert y
    decide +kernel
   conv=>whnf
   have hl:=blen_lt hy;refine fin rfl (congrArg i64 ?_);rw[blen8 hl,show blen x=blen (x/1) by rw[Nat.div_one]];show IntKind.wrap .i64 (0+_)=_; rw[wI] <;> omega
theorem c_LeadingZeros32 (x:Nat) (hx:x<B):ACalls prog 271 [dg x] (i64 ((32-blen x:Nat):Int)):=by
 refine con func271 rfl (by kernel_rfl) ?_;conv=>whnf
 refine callS (c_Len32 x hx) rfl rfl ?_;conv=>whnf
 have:blen x<=32:=blen_le.2 hx;exact fin rfl (congrArg i64 (by rw[wI] <;> omega))
end
section
open Go Go.RowKit Go.Proofs.Tryz
theorem c_TrailingZeros32 (x:Nat) (hx:x<B) (h0:x≠0):ACalls prog 264 [dg x] (i64 (Lib.ctz 32 x)):=by
 unfold B at hx;obtain⟨hlow,hk⟩:=Lib.lowest_bit 32 x h0 hx;obtain⟨hi,htab⟩:=Lib.deBruijn32_at _ hk;refine con func264 rfl (by kernel_rfl) ?_;conv=>whnf
 have hz:((x:Int)==0)=false:=by simp; omega
 rw[hz];conv=>whnf
 have w32':∀ z:Int,IntKind.wrap .u32 z=z%4294967296:=fun z=>by simp[IntKind.wrap,IntKind.bits,IntKind.signed]
 have hneg:IntKind.wrap .u32 (0-(x:Int))=((4294967296-x:Nat):Int):=by rw[w32']; omega
 have b1:(BitVec.ofInt IntKind.u32.bits (x:Int)).toNat=x:=by
  show (BitVec.ofInt 32 (x:Int)).toNat=x;rw[BitVec.ofInt_natCast,BitVec.toNat_ofNat,Nat.mod_eq_of_lt (by omega)]
 have b2:(BitVec.ofInt IntKind.u32.bits ((4294967296-x:Nat):Int)).toNat=4294967296-x:=by
  show (BitVec.ofInt 32 ((4294967296-x:Nat):Int)).toNat=_;rw[BitVec.ofInt_natCast,BitVec.toNat_ofNat,Nat.mod_eq_of_lt (by omega)]
 have key:(IntKind.wrap .u32 (IntKind.wrap .u32 (((BitVec.ofInt IntKind.u32.bits (x:Int) &&& BitVec.ofInt IntKind.u32.bits (IntKind.wrap .u32 (0-(x:Int)))).toNat:Nat):Int)*125613361)).fdiv (2^min 27 IntKind.u32.bits)=((2^Lib.ctz 32 x*125613361%4294967296/134217728:Nat):Int):=by
  rw[hneg,BitVec.toNat_and,b1,b2];rw[show x &&& 4294967296-x=2^Lib.ctz 32 x from hlow];have hp:2^Lib.ctz 32 x<4294967296:=Nat.pow_lt_pow_right (by decide) hk;rw[w32',w32'];have e:((2^Lib.ctz 32 x:Nat):Int)%4294967296*125613361%4294967296=((2^Lib.ctz 32 x*125613361%4294967296:Nat):Int):=by omega
  rw[e];exact fdivP _ 27
 obtain⟨idx,hidx⟩:∃ idx,2^Lib.ctz 32 x*125613361%4294967296/134217728=idx:=⟨_,rfl⟩
 rw[hidx] at hi htab key;generalize (IntKind.wrap .u32 (IntKind.wrap .u32 (((BitVec.ofInt IntKind.u32.bits (x:Int) &&& BitVec.ofInt IntKind.u32.bits (IntKind.wrap .u32 (0-(x:Int)))).toNat:Nat):Int)*125613361)).fdiv (2^min 27 IntKind.u32.bits)=z at key ⊢;subst key;refine⟨⟨by omega,by omega,rfl⟩,?_⟩;conv=>whnf
 have hcell:partA (ty 5) dbTab (0+(idx:Int).toNat*(ty 5).size)=some (.lit (.int .u8 ((Lib.ctz 32 x:Nat):Int))):=by
  rw[<- htab];have:partA (ty 5) dbTab (0+idx*1)=dbTab.cells[0+idx*1]?:=by
   rw[Nat.zero_add,Nat.mul_one];cases idx <;> rfl
  refine this.trans ?_;rw[Nat.zero_add,Nat.mul_one];show (Lib.deBruijn32tab.map fun n=>AV.lit (.int .u8 ((n:Nat):Int)))[idx]?=_;have hl:idx<Lib.deBruijn32tab.length:=hi;simp[hl]
 refine someA_mk _ hcell ?_;conv=>whnf
 exact fin rfl (congrArg i64 (by rw[wI] <;> omega))
end
section
open Go Go.RowKit Go.Proofs.Tryz
def checkN (l:List Nat):Int:=if l.length > 512 then 11 else if l.getLast?=some 0 then 2 else 0
theorem c_CheckN (l:List Nat) (hl:l.length<=9223372036854775807):ACalls prog 87 [lst l] (i64 (checkN l)):=by
 refine con func87 rfl (by kernel_rfl) ?_;conv=>whnf
 refine Br.mk (fun h=>?_) (fun h=>?_)
 ·have h1:l.length > 512:=by simp at h; omega
  conv=>whnf
  exact fin rfl (congrArg i64 (by simp[checkN,h1]))
 have h1:¬ l.length > 512:=by simp at h; omega
 conv=>whnf
 cases h2:decide ((((l.map dg).length:Nat):Int) > 0)
 ·have h3:l=[]:=by simpa using h2
  conv=>whnf
  exact fin rfl (congrArg i64 (by simp[checkN,h3]))
 have h3:0<l.length:=by
  cases l with
  |nil=>simp at h2
  |cons=>simp
 have hw:IntKind.wrap .i64 ((((l.map dg).length:Nat):Int)-1)=((l.length-1:Nat):Int):=by rw[wI] <;> simp <;> omega
 have hlast:l.getLast?=some l[l.length-1]:=by
  rw[List.getLast?_eq_some_getLast (List.ne_nil_of_length_pos h3),List.getLast_eq_getElem]
 conv=>whnf
 rw[hw];refine⟨dg l[l.length-1],⟨by omega,get_dg (by omega),rfl,rfl⟩,?_⟩;conv=>whnf
 cases h4:((l[l.length-1]:Nat):Int)==0
 ·conv=>whnf
  have:l[l.length-1]≠0:=by simp at h4; omega
  exact fin rfl (congrArg i64 (by simp[checkN,h1,hlast,this]))
 ·conv=>whnf
  have:l[l.length-1]=0:=by simp at h4; omega
  exact fin rfl (congrArg i64 (by simp[checkN,h1,hlast,this]))
theorem c_Bits (n:Nat) (hn:n<Big):ACalls prog 105 [nat n] (i64 (blen n)):=by
 refine con func105 rfl (by kernel_rfl) ?_;have hA:=len_fit hn;have hda:∀ x∈digs n,x<B:=fun x=>digs_lt
 have hva:val (digs n)=n:=val_digs n;have hcan:=can_digs n;show awp _ _ _ _ (initS [lst (digs n)]) _;generalize digs n=l at *
 conv=>whnf
 refine Br.mk (fun h=>?_) (fun h=>?_)
 ·have h3:l=[]:=by simpa using h
  conv=>whnf
  subst h3;subst hva;exact fin rfl rfl
 have h3:0<l.length:=by
  cases l with
  |nil=>simp at h
  |cons=>simp
 have hw:IntKind.wrap .i64 ((((l.map dg).length:Nat):Int)-1)=((l.length-1:Nat):Int):=by rw[wI] <;> simp <;> omega
 have hlast:l.getLast?=some l[l.length-1]:=by
  rw[List.getLast?_eq_some_getLast (List.ne_nil_of_length_pos h3),List.getLast_eq_getElem]
 have hx:l[l.length-1]<B:=hda _ (List.getElem_mem _);have hx0:l[l.length-1]≠0:=fun q=>hcan.2 (by rw[hlast,q])
 conv=>whnf
 rw[hw];refine⟨dg l[l.length-1],⟨by omega,get_dg (by omega),rfl,rfl⟩,?_⟩;conv=>whnf
 refine callS (c_Len32 _ hx) rfl rfl ?_;conv=>whnf
 refine fin rfl (congrArg i64 ?_);have hle:blen l[l.length-1]<=32:=blen_le.2 hx;have e1:IntKind.wrap .i64 (32*((l.length-1:Nat):Int))=((32*(l.length-1):Nat):Int):=by rw[wI] <;> omega
 rw[e1,wI (by omega) (by omega)];have e:n=val (l.take (l.length-1))+B^(l.length-1)*l[l.length-1]:=by
  rw[<- hva,<- val_take_succ (by omega),Nat.sub_add_cancel h3,List.take_of_length_le (Nat.le_refl _)]
 have hlt:val (l.take (l.length-1))<B^(l.length-1):=by
  have:=val_lt (l:=l.take (l.length-1)) fun x hx=>hda x (List.mem_of_mem_take hx)
  rwa [List.length_take,Nat.min_eq_left (by omega)] at this
 have hp:B^(l.length-1)=2^(32*(l.length-1)):=by rw[Nat.pow_mul]; rfl
 rw[hp] at e hlt;have hdiv:n/2^(32*(l.length-1))=l[l.length-1]:=by
  rw[e,Nat.add_mul_div_left _ _ (Nat.pow_pos (by decide)),Nat.div_eq_of_lt hlt,Nat.zero_add]
 have hge:2^(32*(l.length-1))<=n:=by
  rw[e];exact Nat.le_trans (Nat.le_mul_of_pos_right _ (Nat.pos_of_ne_zero hx0)) (Nat.le_add_left _ _)
 rw[blen_shift hge,hdiv];omega
def tz (n:Nat):Nat:=if n=0 then 0 else Lib.ctzFrom (blen n) n
theorem tz_spec {n:Nat} (h:n≠0):∃ m,n=2^tz n*(2*m+1):=by
 obtain⟨m,hm,_⟩:=Lib.ctzFrom_spec (blen n) n (Nat.pos_of_ne_zero h) (blen_le.1 (Nat.le_refl _));exact⟨m,by simpa [tz,h] using hm⟩
theorem odd_pow {a b m k:Nat} (h:2^a*(2*m+1)=2^b*(2*k+1)):a=b:=by
 induction a generalizing b with
 |zero =>
  cases b with
  |zero=>rfl
  |succ b=>rw[Nat.pow_succ,Nat.mul_comm (2^b) 2,Nat.mul_assoc] at h; omega
 |succ a ih =>
  cases b with
  |zero=>rw[Nat.pow_succ,Nat.mul_comm (2^a) 2,Nat.mul_assoc] at h; omega
  |succ b =>
   rw[Nat.pow_succ,Nat.pow_succ,Nat.mul_comm (2^a) 2,Nat.mul_comm (2^b) 2,Nat.mul_assoc,Nat.mul_assoc] at h;rw[ih (Nat.eq_of_mul_eq_mul_left (by decide) h)]
theorem tz_eq {n k m:Nat} (h:n=2^k*(2*m+1)):tz n=k:=by
 have h0:n≠0:=by
  rw[h];exact Nat.ne_of_gt (Nat.mul_pos (Nat.pow_pos (by decide)) (by omega))
 obtain⟨m',h'⟩:=tz_spec h0;exact odd_pow (h'.symm.trans h)
theorem c_Tail (n:Nat) (hn:n<Big):ACalls prog 223 [nat n] (i64 (tz n)):=by
 refine con func223 rfl (by kernel_rfl) ?_;have hA:=len_fit hn;have hda:∀ x∈digs n,x<B:=fun x=>digs_lt
 have hva:val (digs n)=n:=val_digs n;show awp _ _ _ _ (initS [lst (digs n)]) _;generalize digs n=l at *
 conv=>whnf
 refine⟨Nat,fun i=>i<=l.length/\∀ x∈l.take i,x=0,fun i=>{ fr:=[(5,lst l),(6,i64 l.length),(7,i64 i)],g:=9 },fun i=>l.length-i,0,⟨Nat.zero_le _,by simp⟩,
  ⟨trivial,⟨x_R,x_E (by simp),x_R,trivial⟩,trivial⟩,?_⟩
 intro i ⟨h1,h2⟩;conv=>whnf
 cases hb:decide ((i:Int)<(l.length:Int))
 ·have hi:i=l.length:=by simp at hb; omega
  conv=>whnf
  have:n=0:=by
   rw[<- hva,<- val_take (l:=l) (n:=0)]
   ·rfl
   ·intro x hx;exact h2 x (by rw[hi,List.take_of_length_le (Nat.le_refl _)]; simpa using hx)
  subst this;exact fin rfl rfl
 ·have hi:i<l.length:=by simpa using hb
  conv=>whnf
  refine⟨dg l[i],⟨by omega,get_dg hi,rfl,rfl⟩,?_⟩;conv=>whnf
  cases hz:((l[i]:Nat):Int) !=0
  ·have h0:l[i]=0:=by simp at hz; omega
   conv=>whnf
   refine⟨i+1,⟨hi,fun x hx=>?_⟩,⟨trivial,⟨x_R,x_R,x_E (wI (n:=(i:Int)+1) (by omega) (by omega)),trivial⟩,trivial⟩,(by omega:l.length-(i+1)<l.length-i)⟩;rw[List.take_succ_eq_append_getElem hi,List.mem_append,List.mem_singleton] at hx;rcases hx with hx | rfl
   ·exact h2 x hx
   ·exact h0
  ·have h0:l[i]≠0:=by simp at hz; omega
   have hx:l[i]<B:=hda _ (List.getElem_mem hi);conv=>whnf
   refine callS (c_TrailingZeros32 _ hx h0) rfl rfl ?_;conv=>whnf
   have hk:Lib.ctz 32 l[i]<32:=(Lib.lowest_bit 32 _ h0 hx).2;refine fin rfl (congrArg i64 ?_);have e1:IntKind.wrap .i64 (32*(i:Int))=((32*i:Nat):Int):=by rw[wI] <;> omega
   rw[e1,wI (by omega) (by omega)];have e:n=B^i*(l[i]+B*val (l.drop (i+1))):=by
    have:l=l.take i++(l[i]::l.drop (i+1)):=by rw[<- List.drop_eq_getElem_cons hi,List.take_append_drop]
    rw[<- hva];conv=>lhs; rw[this]
    rw[val_append,List.length_take,Nat.min_eq_left h1];have:val (l.take i)=0:=by
     rw[<- val_take (l:=l.take i) (n:=0)]
     ·rfl
     ·exact fun x hx=>h2 x (by simpa using hx)
    rw[this,Nat.zero_add,val]
   obtain⟨m,hm,_⟩:=Lib.ctzFrom_spec 32 l[i] (Nat.pos_of_ne_zero h0) hx;have hm:l[i]=2^Lib.ctz 32 l[i]*(2*m+1):=by simpa [Lib.ctz,h0] using hm
   have hB:B=2^Lib.ctz 32 l[i]*(2*2^(31-Lib.ctz 32 l[i])):=by
    rw[<- Nat.pow_succ',<- Nat.pow_add,show Lib.ctz 32 l[i]+(31-Lib.ctz 32 l[i]+1)=32 by omega];rfl
   have:tz n=32*i+Lib.ctz 32 l[i]:=by
    refine tz_eq (m:=m+2^(31-Lib.ctz 32 l[i])*val (l.drop (i+1))) ?_;rw[e,show B^i=2^(32*i) by rw[Nat.pow_mul]; rfl,Nat.pow_add,Nat.mul_assoc];congr 1;generalize Lib.ctz 32 l[i]=c at *
    generalize val (l.drop (i+1))=V at *
    generalize l[i]=x at *
    have e2:2^c*(2*(m+2^(31-c)*V)+1)=2^c*(2*m+1)+2^c*(2*2^(31-c))*V:=by
     rw[Nat.mul_assoc (2^c) _ V,<- Nat.mul_add];congr 1;rw[Nat.mul_add,Nat.mul_assoc];omega
    rw[e2,<- hm,<- hB]
   rw[this];omega
end
section
open Go Go.RowKit Go.Proofs.Tryz
theorem Pc.gk {N : Nat} {a b : Code} {fr : List (Nat × AV)} {st : Sts} {g : Nat} {Q : NPost} (h : nwp prog ty N a fr st g (thenP (fun fr st g => Pc prog N b fr st g Q) Q)) (hN : codeN N a = true := by kernel_rfl) : Pc prog N (.seq a b) fr st g Q := Pc.go hN h
theorem pcK {N : Nat} {c : Code} {fr : List (Nat × AV)} {st : Sts} {g : Nat} {Q : NPost} (h : nwp prog ty N c fr st g Q) (hN : codeN N c = true := by kernel_rfl) : Pc prog N c fr st g Q := pcN hN h
theorem cE {P : Program} {dr : Bool} {i : Nat} {s : AS} {n : FuncId} {args : List AV} {K : Eff → Prop} {res : AV} (h : ACalls P n args res) (k : K { v := res }) (hc : AV.closedL args = true := by exact rfl) (hr : res.closed = true := by exact rfl) : CallF P dr i s n args K := by
  cases dr
  · exact callS h hc hr k
  · exact callD h hc hr k
theorem xK {a b : Prop} (k : b) (h : a := by kernel_rfl) : a ∧ b := ⟨h, k⟩
theorem x_W {s : AS} {F : List Rid} {ρ : Ren} {g : Nat} {n m : Int} (h : n = m := by omega) (h1 : -9223372036854775808 ≤ n := by omega) (h2 : n < 9223372036854775808 := by omega) (hk : okV ρ g (AV.lit (.int .i64 m)) = true := by exact rfl) : WkV s F ρ g (.lit (.int .i64 (IntKind.wrap .i64 n))) (.lit (.int .i64 m)) := .inl ⟨.of_eq (congrArg i64 ((wI h1 h2).trans h)), hk⟩
end
end Go.Proofs.YtjdkdcmpifapeaaGreatDoor.Abs
