/- Tables: what is reckoned row by row. -/
import Derived.Test.YtjdkdcmpifapeaaGreatDoorMm
set_option linter.unusedVariables false
set_option linter.unusedSectionVars false
set_option linter.unusedSimpArgs false
set_option maxHeartbeats 4000000
namespace Go.Proofs.YtjdkdcmpifapeaaGreatDoor.Abs
section
open Go Go.RowKit Go.Proofs.Tryz
attribute [local irreducible] zMul zAdd zLeft zRight fitZ qMake zDiv dMake dLevel dRound dNear dAdd dMul dRatio dCmp dMin dMax dAbs dLess qCmp sOut qAdd qMul sAdd sMul sNear qSum sSize vEach vDot vNear vScale vPlus vInner
def lT (a:List (List FQ)):AV:=.sl (a.map lQ)
def lU (a:List (List FS)):AV:=.sl (a.map lS)
def tLT (r:Except Nat (List (List FQ))):AV:=resT lT [] r
def tLU (r:Except Nat (List (List FS))):AV:=resT lU [] r
def Rows6 {α:Type} (a:List (List α)):Prop:=∀ r∈a,r.length<1000000
def mNear (l:List (List FQ)) (bits:Int):Except Nat (List (List FS)):=runE (fun a=>vNear a bits) l
def mApply (l:List (List FQ)) (x:List FQ):Except Nat (List FQ):=runE (fun a=>vDot a x) l
def mScale (l:List (List FQ)) (c:FQ):Except Nat (List (List FQ)):=runE (fun a=>vScale a c) l
def mPlus (bits:Int) (a b:List (List FS)):Except Nat (List (List FS)):=if a.length≠b.length then .error eShape else runE (fun p=>vPlus bits p.1 p.2) (a.zip b)
theorem c_mNear (l:List (List FQ)) (bits:Int) (hb:BOk bits) (hl:l.length<1000000) (hr:Rows6 l):ACalls prog 185 [lT l,i64 bits] (tLU (mNear l bits)):=by
 unfold mNear;refine conN func185 rfl (by kernel_rfl) ?_;have hlen:(((l.map lQ).length:Nat):Int)=(l.length:Int):=by simp
 conv=>whnf
 refine⟨⟨by omega,rfl,by simp only[lenLim]; omega⟩,?_⟩;conv=>whnf
 refine⟨List (List FS),fun r=>r.length<=l.length/\runE (fun a=>vNear a bits) (l.take r.length)=.ok r,fun r=>{ fr:=[(14,.sl (l.map lQ)),(15,i64 l.length),(16,i64 r.length),(6,.own (1,2) l.length),(1,i64 bits)],st:=[((1,2),⟨110,1,fillV lS nilA l.length r⟩)],g:=9 },
  fun r=>l.length-r.length,[],⟨Nat.zero_le _,rfl⟩,⟨trivial,⟨x_R,x_E hlen,x_R,.inl ⟨.of_eq (congrArg (AV.own (1,2)) (by simp)),rfl⟩,x_R,trivial⟩,⟨.same ?_ ?_,x_N,x_L⟩,trivial⟩,?_⟩
 ·refine congrArg (fun z=>some (Row.mk 110 1 z)) ?_;rw[fillV_nil];exact congrArg (fun n=>List.replicate n nilA) (by simp)
 ·exact ltL_fillV (fun _=>rfl) rfl
 rintro r ⟨h1,h2⟩;dsimp only at h1 h2 ⊢;conv=>whnf
 refine Br.mk (fun h=>?_) (fun h=>?_)
 ·have hlt:r.length<l.length:=by simpa using h
  obtain⟨x1,e1,C1,hx1,he1⟩:=varT (c_vNear l[r.length] bits hb (hr _ (List.getElem_mem hlt)));have hstep:=runE_step (f:=(fun a=>vNear a bits)) hlt h2 hx1 he1;conv=>whnf
  try refine xK ?_
  try conv=>whnf
  refine⟨lQ l[r.length],⟨by omega,by simp[hlt],rfl,rfl⟩,?_⟩;conv=>whnf
  refine cE C1 ?_;conv=>whnf
  refine Br.mk (fun h=>?_) (fun h=>?_)
  ·have z:=lit0 h;rw[hstep.1 z];conv=>whnf
   exact⟨.sh _ _ rfl .nil,fin rfl (congrArg (fun x:Nat=>i64 x) (by omega:e1=e1-1+1)),trivial⟩
  have z:=lit1 h;conv=>whnf
  refine⟨⟨rfl,rfl⟩,⟨by omega,by omega⟩,?_⟩;conv=>whnf
  refine elA_mk nilA (fillV_get (enc:=lS) (z:=nilA) hlt) ?_;conv=>whnf
  have hq:=(hstep.2 z)
  refine⟨r++[x1],⟨by simp; omega,by rw[List.length_append]; exact hq⟩,⟨trivial,⟨x_R,x_R,x_E ?_,x_R,x_R,trivial⟩,⟨.same ?_ ?_,x_N,x_L⟩,trivial⟩,by show l.length-(r++[x1]).length<l.length-r.length; simp; omega⟩
  ·exact (wI (n:=(r.length:Int)+1) (by omega) (by omega)).trans (by simp)
  ·exact congrArg (fun z=>some (Row.mk 110 1 z)) (fillV_set (enc:=lS) hlt)
  ·exact ltL_fillV (fun _=>rfl) rfl
 ·have he:r.length=l.length:=by
   have:¬ r.length<l.length:=by simpa using h
   omega
  have:runE (fun a=>vNear a bits) l=.ok r:=by rw[he,List.take_length] at h2; exact h2
  rw[this];conv=>whnf
  exact⟨.own2 trivial rfl (by rw[fillV_len (by omega)]) (by rw[fillV_full he]; exact closedL_map (fun _=>rfl) _) (fillV_full he),fin rfl rfl,trivial⟩
theorem c_mApply (l:List (List FQ)) (y:List FQ) (hl:l.length<1000000) (hr:Rows6 l):ACalls prog 38 [lT l,lQ y] (tLQ (mApply l y)):=by
 unfold mApply;refine conN func38 rfl (by kernel_rfl) ?_;have hlen:(((l.map lQ).length:Nat):Int)=(l.length:Int):=by simp
 conv=>whnf
 refine⟨⟨by omega,rfl,by simp only[lenLim]; omega⟩,?_⟩;conv=>whnf
 refine⟨List FQ,fun r=>r.length<=l.length/\runE (fun a=>vDot a y) (l.take r.length)=.ok r,fun r=>{ fr:=[(14,.sl (l.map lQ)),(15,i64 l.length),(16,i64 r.length),(6,.own (1,2) l.length),(1,lQ y)],st:=[((1,2),⟨28,3,fillV ratv zR l.length r⟩)],g:=9 },
  fun r=>l.length-r.length,[],⟨Nat.zero_le _,rfl⟩,⟨trivial,⟨x_R,x_E hlen,x_R,.inl ⟨.of_eq (congrArg (AV.own (1,2)) (by simp)),rfl⟩,x_R,trivial⟩,⟨.same ?_ ?_,x_N,x_L⟩,trivial⟩,?_⟩
 ·refine congrArg (fun z=>some (Row.mk 28 3 z)) ?_;rw[fillV_nil];exact congrArg (fun n=>List.replicate n zR) (by simp)
 ·exact ltL_fillV (fun _=>rfl) rfl
 rintro r ⟨h1,h2⟩;dsimp only at h1 h2 ⊢;conv=>whnf
 refine Br.mk (fun h=>?_) (fun h=>?_)
 ·have hlt:r.length<l.length:=by simpa using h
  obtain⟨x1,e1,C1,hx1,he1⟩:=varT (c_vDot l[r.length] y (hr _ (List.getElem_mem hlt)));have hstep:=runE_step (f:=(fun a=>vDot a y)) hlt h2 hx1 he1;conv=>whnf
  try refine xK ?_
  try conv=>whnf
  refine⟨lQ l[r.length],⟨by omega,by simp[hlt],rfl,rfl⟩,?_⟩;conv=>whnf
  refine cE C1 ?_;conv=>whnf
  refine Br.mk (fun h=>?_) (fun h=>?_)
  ·have z:=lit0 h;rw[hstep.1 z];conv=>whnf
   exact⟨.sh _ _ rfl .nil,fin rfl (congrArg (fun x:Nat=>i64 x) (by omega:e1=e1-1+1)),trivial⟩
  have z:=lit1 h;conv=>whnf
  refine⟨⟨rfl,rfl⟩,⟨by omega,by omega⟩,?_⟩;conv=>whnf
  refine elA_mk zR (fillV_get (enc:=ratv) (z:=zR) hlt) ?_;conv=>whnf
  have hq:=(hstep.2 z)
  refine⟨r++[x1],⟨by simp; omega,by rw[List.length_append]; exact hq⟩,⟨trivial,⟨x_R,x_R,x_E ?_,x_R,x_R,trivial⟩,⟨.same ?_ ?_,x_N,x_L⟩,trivial⟩,by show l.length-(r++[x1]).length<l.length-r.length; simp; omega⟩
  ·exact (wI (n:=(r.length:Int)+1) (by omega) (by omega)).trans (by simp)
  ·exact congrArg (fun z=>some (Row.mk 28 3 z)) (fillV_set (enc:=ratv) hlt)
  ·exact ltL_fillV (fun _=>rfl) rfl
 ·have he:r.length=l.length:=by
   have:¬ r.length<l.length:=by simpa using h
   omega
  have:runE (fun a=>vDot a y) l=.ok r:=by rw[he,List.take_length] at h2; exact h2
  rw[this];conv=>whnf
  exact⟨.own2 trivial rfl (by rw[fillV_len (by omega)]) (by rw[fillV_full he]; exact closedL_map (fun _=>rfl) _) (fillV_full he),fin rfl rfl,trivial⟩
theorem c_mScale (l:List (List FQ)) (c:FQ) (hl:l.length<1000000) (hr:Rows6 l):ACalls prog 17 [lT l,rat c.q] (tLT (mScale l c)):=by
 unfold mScale;refine conN func17 rfl (by kernel_rfl) ?_;have hlen:(((l.map lQ).length:Nat):Int)=(l.length:Int):=by simp
 conv=>whnf
 refine⟨⟨by omega,rfl,by simp only[lenLim]; omega⟩,?_⟩;conv=>whnf
 refine⟨List (List FQ),fun r=>r.length<=l.length/\runE (fun a=>vScale a c) (l.take r.length)=.ok r,fun r=>{ fr:=[(0,.sl (l.map lQ)),(14,i64 l.length),(15,i64 r.length),(6,.own (1,2) l.length),(3,.ptr (0,0) 0 0)],st:=[((1,2),⟨22,1,fillV lQ nilA l.length r⟩),((0,0),⟨28,3,[rat c.q]⟩)],g:=9 },
  fun r=>l.length-r.length,[],⟨Nat.zero_le _,rfl⟩,⟨trivial,⟨x_R,x_E hlen,x_R,.inl ⟨.of_eq (congrArg (AV.own (1,2)) (by simp)),rfl⟩,x_R,trivial⟩,⟨.same ?_ ?_,x_N,x_L⟩,x_S,trivial⟩,?_⟩
 ·refine congrArg (fun z=>some (Row.mk 22 1 z)) ?_;rw[fillV_nil];exact congrArg (fun n=>List.replicate n nilA) (by simp)
 ·exact ltL_fillV (fun _=>rfl) rfl
 rintro r ⟨h1,h2⟩;dsimp only at h1 h2 ⊢;conv=>whnf
 refine Br.mk (fun h=>?_) (fun h=>?_)
 ·have hlt:r.length<l.length:=by simpa using h
  obtain⟨x1,e1,C1,hx1,he1⟩:=varT (c_vScale l[r.length] c (hr _ (List.getElem_mem hlt)));have hstep:=runE_step (f:=(fun a=>vScale a c)) hlt h2 hx1 he1;conv=>whnf
  try refine xK ?_
  try conv=>whnf
  refine⟨lQ l[r.length],⟨by omega,by simp[hlt],rfl,rfl⟩,?_⟩;conv=>whnf
  refine cE C1 ?_;conv=>whnf
  refine Br.mk (fun h=>?_) (fun h=>?_)
  ·have z:=lit0 h;rw[hstep.1 z];conv=>whnf
   exact⟨.sh _ _ rfl .nil,fin rfl (congrArg (fun x:Nat=>i64 x) (by omega:e1=e1-1+1)),trivial⟩
  have z:=lit1 h;conv=>whnf
  refine⟨⟨rfl,rfl⟩,⟨by omega,by omega⟩,?_⟩;conv=>whnf
  refine elA_mk nilA (fillV_get (enc:=lQ) (z:=nilA) hlt) ?_;conv=>whnf
  have hq:=(hstep.2 z)
  refine⟨r++[x1],⟨by simp; omega,by rw[List.length_append]; exact hq⟩,⟨trivial,⟨x_R,x_R,x_E ?_,x_R,x_R,trivial⟩,⟨.same ?_ ?_,x_N,x_L⟩,x_S,trivial⟩,by show l.length-(r++[x1]).length<l.length-r.length; simp; omega⟩
  ·exact (wI (n:=(r.length:Int)+1) (by omega) (by omega)).trans (by simp)
  ·exact congrArg (fun z=>some (Row.mk 22 1 z)) (fillV_set (enc:=lQ) hlt)
  ·exact ltL_fillV (fun _=>rfl) rfl
 ·have he:r.length=l.length:=by
   have:¬ r.length<l.length:=by simpa using h
   omega
  have:runE (fun a=>vScale a c) l=.ok r:=by rw[he,List.take_length] at h2; exact h2
  rw[this];conv=>whnf
  exact⟨.own2 trivial rfl (by rw[fillV_len (by omega)]) (by rw[fillV_full he]; exact closedL_map (fun _=>rfl) _) (fillV_full he),fin rfl rfl,trivial⟩
end
section
open Go Go.RowKit Go.Proofs.Tryz
attribute [local irreducible] zMul zAdd zLeft zRight fitZ qMake zDiv dMake dLevel dRound dNear dAdd dMul dRatio dCmp dMin dMax dAbs dLess qCmp sOut qAdd qMul sAdd sMul sNear qSum sSize vEach vDot vNear vScale vPlus vInner vUnit
theorem c_mPlus (a b:List (List FS)) (bits:Int) (hb:BOk bits) (hl:a.length<1000000) (hr:Rows6 a):ACalls prog 31 [lU a,lU b,i64 bits] (tLU (mPlus bits a b)):=by
 refine conN func31 rfl (by kernel_rfl) ?_;have hlen:(((a.map lS).length:Nat):Int)=(a.length:Int):=by simp
 have hlenb:(((b.map lS).length:Nat):Int)=(b.length:Int):=by simp
 conv=>whnf
 refine Br.mk (fun h=>?_) (fun h=>?_)
 ·have hne:a.length≠b.length:=by
   simp at h;omega
  have:mPlus bits a b=.error eShape:=by unfold mPlus; rw[if_pos hne]
  rw[this];conv=>whnf
  exact⟨.sh _ _ rfl .nil,fin rfl rfl,trivial⟩
 have hab:a.length=b.length:=by
  simp at h;omega
 clear h;have hsp:mPlus bits a b=runE (fun p=>vPlus bits p.1 p.2) (a.zip b):=by unfold mPlus; rw[if_neg (by simpa using hab)]
 rw[hsp];clear hsp;conv=>whnf
 refine⟨⟨by omega,rfl,by simp only[lenLim]; omega⟩,?_⟩;conv=>whnf
 refine⟨List (List FS),fun r=>r.length<=a.length/\runE (fun p=>vPlus bits p.1 p.2) ((a.zip b).take r.length)=.ok r,fun r=>{ fr:=[(21,i64 a.length),(22,i64 r.length),(8,.own (2,2) a.length),(0,lU a),(1,lU b),(2,i64 bits)],st:=[((2,2),⟨110,1,fillV lS nilA a.length r⟩)],g:=9 },
  fun r=>a.length-r.length,[],⟨Nat.zero_le _,rfl⟩,⟨trivial,⟨x_E hlen,x_R,.inl ⟨.of_eq (congrArg (AV.own (2,2)) (by simp)),rfl⟩,x_R,x_R,x_R,trivial⟩,⟨.same ?_ ?_,x_N,x_L⟩,trivial⟩,?_⟩
 ·refine congrArg (fun z=>some (Row.mk 110 1 z)) ?_;rw[fillV_nil];exact congrArg (fun n=>List.replicate n nilA) (by simp)
 ·exact ltL_fillV (fun _=>rfl) rfl
 rintro r ⟨h1,h2⟩;dsimp only at h1 h2 ⊢;conv=>whnf
 refine Br.mk (fun h=>?_) (fun h=>?_)
 ·have hlt:r.length<a.length:=by simpa using h
  have hltb:r.length<b.length:=by omega
  obtain⟨x1,e1,C1,hx1,he1⟩:=varT (c_vPlus a[r.length] b[r.length] bits hb (hr _ (List.getElem_mem hlt)));have hstep:=runE_step (f:=(fun p=>vPlus bits p.1 p.2)) (l:=a.zip b) (by rw[zip_len hab]; exact hlt) h2 (x:=x1) (e:=e1) (by rw[zip_get hlt hab]; exact hx1) (by rw[zip_get hlt hab]; exact he1);conv=>whnf
  refine xK ?_;conv=>whnf
  refine⟨lS a[r.length],⟨by omega,by simp[hlt],rfl,rfl⟩,?_⟩;conv=>whnf
  refine⟨lS b[r.length],⟨by omega,by simp[hltb],rfl,rfl⟩,?_⟩;conv=>whnf
  refine cE C1 ?_;conv=>whnf
  refine Br.mk (fun h=>?_) (fun h=>?_)
  ·have z:=lit0 h;rw[hstep.1 z];conv=>whnf
   exact⟨.sh _ _ rfl .nil,fin rfl (congrArg (fun x:Nat=>i64 x) (by omega:e1=e1-1+1)),trivial⟩
  have z:=lit1 h;conv=>whnf
  refine⟨⟨rfl,rfl⟩,⟨by omega,by omega⟩,?_⟩;conv=>whnf
  refine elA_mk nilA (fillV_get (enc:=lS) (z:=nilA) hlt) ?_;conv=>whnf
  have hq:=(hstep.2 z)
  refine⟨r++[x1],⟨by simp; omega,by rw[List.length_append]; exact hq⟩,⟨trivial,⟨x_R,x_E ?_,x_R,x_R,x_R,x_R,trivial⟩,⟨.same ?_ ?_,x_N,x_L⟩,trivial⟩,by show a.length-(r++[x1]).length<a.length-r.length; simp; omega⟩
  ·exact (wI (n:=(r.length:Int)+1) (by omega) (by omega)).trans (by simp)
  ·exact congrArg (fun z=>some (Row.mk 110 1 z)) (fillV_set (enc:=lS) hlt)
  ·exact ltL_fillV (fun _=>rfl) rfl
 ·have he:r.length=a.length:=by
   have:¬ r.length<a.length:=by simpa using h
   omega
  have:runE (fun p=>vPlus bits p.1 p.2) (a.zip b)=.ok r:=by rw[List.take_of_length_le (by rw[zip_len hab]; omega)] at h2; exact h2
  rw[this];conv=>whnf
  exact⟨.own2 trivial rfl (by rw[fillV_len (by omega)]) (by rw[fillV_full he]; exact closedL_map (fun _=>rfl) _) (fillV_full he),fin rfl rfl,trivial⟩
def zeros (n:Int):List FQ:=List.replicate (clampN n) q0
theorem c_vZ (n:Int):ACalls prog 65 [i64 n] (lQ (zeros n)):=(c_vZeroO n).sh
def mZero (rows cols:Int):List (List FQ):=List.replicate (clampN rows) (zeros cols)
theorem c_mZeroO (rows cols:Int):ACallsO prog 15 [i64 rows,i64 cols] ⟨22,1,(mZero rows cols).map lQ⟩:=by
 have hb:=clamp_b rows;have hc:=clamp_c rows;unfold mZero;obtain⟨k,hk⟩:∃ k,clampN rows=k:=⟨_,rfl⟩
 obtain⟨Z,hZ⟩:∃ Z,zeros cols=Z:=⟨_,rfl⟩
 have CZ:=c_vZ cols;rw[hk] at hc ⊢;rw[hZ] at CZ ⊢;refine conON func15 rfl (by kernel_rfl) ?_;conv=>whnf
 have hc':(if (16:Int)<(if (0:Int) > rows then 0 else rows) then 16 else (if (0:Int) > rows then 0 else rows))=(k:Int):=hc;rw[hc'];have hk16:k<=16:=by omega
 clear hc hc' hb hk;refine⟨⟨by omega,rfl,by simp only[lenLim]; omega⟩,?_⟩;conv=>whnf
 refine⟨Nat,fun i=>i<=k,fun i=>{ fr:=[(1,i64 cols),(5,.own (1,3) k),(12,i64 k),(13,i64 i)],st:=[((1,3),⟨22,1,fillV lQ nilA k (List.replicate i Z)⟩)],g:=9 },
  fun i=>k-i,0,Nat.zero_le _,⟨trivial,⟨x_R,.inl ⟨.of_eq rfl,rfl⟩,.inl ⟨.of_eq rfl,rfl⟩,x_R,trivial⟩,⟨.same ?_ ?_,x_N,x_L⟩,trivial⟩,?_⟩
 ·exact congrArg (fun z=>some (Row.mk 22 1 z)) (fillV_nil (enc:=lQ)).symm
 ·exact ltL_fillV (fun _=>rfl) rfl
 intro i hi;dsimp only at hi ⊢;conv=>whnf
 refine Br.mk (fun h=>?_) (fun h=>?_)
 ·have hlt:i<k:=by simpa using h
  conv=>whnf
  refine cE CZ ?_;conv=>whnf
  refine⟨⟨rfl,rfl⟩,⟨by omega,by omega⟩,?_⟩;conv=>whnf
  have hl:(List.replicate i Z).length=i:=List.length_replicate;refine elA_mk nilA (by have:=fillV_get (enc:=lQ) (z:=nilA) (n:=k) (l:=List.replicate i Z) (by omega); rw[hl] at this; exact this) ?_;conv=>whnf
  refine⟨i+1,hlt,⟨trivial,⟨x_R,x_R,x_R,x_E ?_,trivial⟩,⟨.same ?_ ?_,x_N,x_L⟩,trivial⟩,by show k-(i+1)<k-i; omega⟩
  ·exact (wI (n:=(i:Int)+1) (by omega) (by omega)).trans (by simp)
  ·refine congrArg (fun z=>some (Row.mk 22 1 z)) ?_;have:=fillV_set (enc:=lQ) (z:=nilA) (n:=k) (l:=List.replicate i Z) (x:=Z) (by omega);rw[hl] at this;rw[List.replicate_succ'];exact this
  ·exact ltL_fillV (fun _=>rfl) rfl
 ·have he:i=k:=by
   have:¬ i<k:=by simpa using h
   omega
  subst he;conv=>whnf
  refine⟨(1,3),?_,?_,?_⟩
  ·simp;rfl
  ·exact congrArg (fun z=>some (Row.mk 22 1 z)) (fillV_full (by simp))
  ·intro e he;obtain⟨x,_,rfl⟩:=List.mem_map.1 he;rfl
def mOne (n:Int):List (List FQ):=(List.range (clampN n)).map fun k=>vUnit n (k:Nat)
def oneI (n:Int) (k i:Nat):List AV:=(List.range k).map fun j=>if j<i then lQ (vUnit n (j:Nat)) else lQ (zeros n)
theorem oneI_set {n:Int} {k i:Nat} (h:i<k):(oneI n k i).set i (lQ (vUnit n (i:Nat)))=oneI n k (i+1):=by
 apply List.ext_getElem?;intro j;rw[List.getElem?_set];simp only[oneI,List.length_map,List.length_range,List.getElem?_map];by_cases hj:j<k
 ·rw[List.getElem?_range hj];simp only[Option.map_some];by_cases e:i=j
  ·subst e;rw[if_pos rfl,if_pos h,if_pos (by omega)]
  ·rw[if_neg e];by_cases h2:j<i
   ·rw[if_pos h2,if_pos (by omega)]
   ·rw[if_neg h2,if_neg (by omega)]
 ·rw[if_neg (by omega),List.getElem?_eq_none (by simp; omega)];rfl
theorem oneI_p {p:AV->Bool} {n:Int} {k i:Nat} (h:∀ r:List FQ,p (lQ r)=true):∀ x∈oneI n k i,p x=true:=by
 intro x hx;obtain⟨j,_,rfl⟩:=List.mem_map.1 hx;split <;> exact h _
theorem ltL_of {g:Nat}:∀ {l:List AV},(∀ x∈l,x.lt g=true)->AV.ltL g l=true
 |[],_=>rfl
 |a::l,h=>by
  show (a.lt g&&AV.ltL g l)=true;rw[h a (by simp),ltL_of fun x hx=>h x (by simp[hx])];rfl
theorem closedL_of:∀ {l:List AV},(∀ x∈l,x.closed=true)->AV.closedL l=true
 |[],_=>rfl
 |a::l,h=>by
  show (a.closed&&AV.closedL l)=true;rw[h a (by simp),closedL_of fun x hx=>h x (by simp[hx])];rfl
theorem c_mOne (n:Int):ACalls prog 79 [i64 n] (lT (mOne n)):=by
 have hb:=clamp_b n;have hc:=clamp_c n;have CZ:=c_mZeroO n n;have e0:(mZero n n).map lQ=oneI n (clampN n) 0:=by
  unfold mZero oneI;rw[List.map_replicate];apply List.ext_getElem?;intro j;rw[List.getElem?_replicate,List.getElem?_map];by_cases hj:j<clampN n
  ·rw[if_pos hj,List.getElem?_range hj];simp
  ·rw[if_neg hj,List.getElem?_eq_none (by simp; omega)];rfl
 rw[e0] at CZ;have eR:lT (mOne n)=.sl (oneI n (clampN n) (clampN n)):=by
  unfold lT mOne oneI;rw[List.map_map];congr 1;apply List.map_congr_left;intro j hj;rw[if_pos (List.mem_range.1 hj)];rfl
 rw[eR];obtain⟨k,hk⟩:∃ k,clampN n=k:=⟨_,rfl⟩
 rw[hk] at hc CZ ⊢;have hk16:k<=16:=by omega
 have ho:∀ i,(oneI n k i).length=k:=fun i=>by simp[oneI]
 refine conN func79 rfl (by kernel_rfl) ?_;conv=>whnf
 refine callO CZ rfl ?_;conv=>whnf
 refine⟨Nat,fun i=>i<=k,fun i=>{ fr:=[(0,i64 n),(3,.own (1,2) k),(9,i64 k),(10,i64 i)],st:=[((1,2),⟨22,1,oneI n k i⟩)],g:=9 },
  fun i=>k-i,0,Nat.zero_le _,⟨trivial,⟨x_R,.inl ⟨.of_eq (congrArg (AV.own (1,2)) (ho 0)),rfl⟩,.inl ⟨.of_eq (congrArg (fun z:Nat=>i64 z) (ho 0)),rfl⟩,x_R,trivial⟩,⟨.same rfl (ltL_of (oneI_p fun _=>rfl)),x_N,x_L⟩,trivial⟩,?_⟩
 intro i hi;dsimp only at hi ⊢;conv=>whnf
 refine Br.mk (fun h=>?_) (fun h=>?_)
 ·have hlt:i<k:=by simpa using h
  have CU:=c_vUnit n (i:Int);conv=>whnf
  refine cE CU ?_;conv=>whnf
  refine⟨⟨rfl,rfl⟩,⟨by omega,by omega⟩,?_⟩;conv=>whnf
  refine elA_mk (lQ (zeros n)) (by
   show (oneI n k i)[i]?=_;unfold oneI;rw[List.getElem?_map,List.getElem?_range hlt];simp) ?_
  conv=>whnf
  refine⟨i+1,hlt,⟨trivial,⟨x_R,x_R,x_R,x_E ?_,trivial⟩,⟨.same ?_ (ltL_of (oneI_p fun _=>rfl)),x_N,x_L⟩,trivial⟩,by show k-(i+1)<k-i; omega⟩
  ·exact (wI (n:=(i:Int)+1) (by omega) (by omega)).trans (by simp)
  ·exact congrArg (fun z=>some (Row.mk 22 1 z)) (oneI_set hlt)
 ·have he:i=k:=by
   have:¬ i<k:=by simpa using h
   omega
  subst he;conv=>whnf
  exact .own2 trivial rfl (ho i) (closedL_of (oneI_p fun _=>rfl)) rfl
end
section
open Go Go.RowKit Go.Proofs.Tryz
def colsN {α:Type} (a:List (List α)):Nat:=match a with
 |[]=>0
 |r::_=>r.length
def rect {α:Type} (a:List (List α)):Bool:=a.all fun r=>decide (r.length=colsN a)
def shapeT {α:Type} (a:List (List α)):AV:=if rect a=true then .tup [i64 a.length,i64 (colsN a),i64 0] else .tup [i64 0,i64 0,i64 20]
theorem all_no' {α:Type} {p:α->Bool} {l:List α} {i:Nat} (hi:i<l.length) (h:p l[i]=false):l.all p=false:=by
 apply Bool.eq_false_iff.2;intro e;have:=List.all_eq_true.1 e l[i] (List.getElem_mem hi);rw[h] at this;cases this
theorem c_shapeS (a:List (List FS)) (hl:a.length<1000000):ACalls prog 111 [lU a] (shapeT a):=by
 have hlen:(((a.map lS).length:Nat):Int)=(a.length:Int):=by simp
 refine conN func111 rfl (by kernel_rfl) ?_;conv=>whnf
 cases ha:a with
 |nil =>
  conv=>whnf
  exact⟨fin rfl rfl,fin rfl rfl,fin rfl rfl,trivial⟩
 |cons r0 rest =>
  rw[<- ha];have h0:a[0]?=some r0:=by rw[ha]; rfl
  have hc:colsN a=r0.length:=by rw[ha]; rfl
  have hl0:a.length≠0:=by rw[ha]; simp
  rw[show ((((a.map lS).length:Nat):Int)==0)=false by rw[hlen]; simp; exact fun e=>hl0 (by rw[e]; rfl)];clear ha;conv=>whnf
  refine⟨Nat,fun i=>i<=a.length/\∀ r∈a.take i,r.length=colsN a,fun i=>{ fr:=[(0,.sl (a.map lS)),(10,.sl (a.map lS)),(11,i64 a.length),(12,i64 i)],g:=9 },fun i=>a.length-i,0,⟨Nat.zero_le _,by simp⟩,
   ⟨trivial,⟨x_R,x_R,x_E hlen,x_R,trivial⟩,trivial⟩,?_⟩
  rintro i ⟨h1,h2⟩;dsimp only at h1 h2 ⊢;conv=>whnf
  refine Br.mk (fun h=>?_) (fun h=>?_)
  ·have hi:i<a.length:=by simpa using h
   clear h;conv=>whnf
   refine⟨lS a[i],⟨by omega,by simp[hi],rfl,rfl⟩,?_⟩;conv=>whnf
   refine⟨lS r0,⟨by omega,by rw[List.getElem?_map]; show (a[0]?).map lS=_; rw[h0]; rfl,rfl,rfl⟩,?_⟩;conv=>whnf
   simp only[List.length_map];refine Br.mk (fun h=>?_) (fun h=>?_)
   ·have hne:¬ a[i].length=colsN a:=by
     rw[hc];simp at h;omega
    unfold shapeT;rw[if_neg (by unfold rect; rw[all_no' hi (decide_eq_false hne)]; decide)];conv=>whnf
    exact⟨fin rfl rfl,fin rfl rfl,fin rfl rfl,trivial⟩
   ·have he:a[i].length=colsN a:=by
     rw[hc];simp at h;omega
    conv=>whnf
    refine⟨i+1,⟨by omega,fun y hy=>?_⟩,⟨trivial,⟨x_R,x_R,x_R,x_E ?_,trivial⟩,trivial⟩,by show a.length-(i+1)<a.length-i; omega⟩
    ·rw[List.take_succ_eq_append_getElem hi,List.mem_append] at hy;rcases hy with hy | hy
     ·exact h2 y hy
     ·simp only[List.mem_singleton] at hy;rw[hy];exact he
    ·exact (wI (n:=(i:Int)+1) (by omega) (by omega)).trans (by simp)
  ·have he:a.length<=i:=by simpa using h
   rw[List.take_of_length_le he] at h2;have hrect:rect a=true:=List.all_eq_true.2 fun r hr=>decide_eq_true (h2 r hr)
   unfold shapeT;rw[if_pos hrect];conv=>whnf
   refine xK ?_;conv=>whnf
   refine⟨lS r0,⟨by omega,by rw[List.getElem?_map]; show (a[0]?).map lS=_; rw[h0]; rfl,rfl,rfl⟩,?_⟩;conv=>whnf
   exact⟨fin rfl (congrArg i64 (by simp)),fin rfl (congrArg i64 (by rw[hc]; simp)),fin rfl rfl,trivial⟩
end
section
open Go Go.RowKit Go.Proofs.Tryz
theorem one_elB {k:Nat} {x:AV} (h:elB k x=true):∀ v∈[x],elB k v=true:=fun v hv=>by rw[List.mem_singleton.1 hv]; exact h
def outT (D:List AV) (cur:AV) (rest:Nat):List AV:=D++cur::List.replicate rest nilA
theorem outT_get {D:List AV} {cur:AV} {rest i:Nat} (h:D.length=i):(outT D cur rest)[i]?=some cur:=by
 subst h;unfold outT;rw[List.getElem?_append_right (Nat.le_refl _),Nat.sub_self];rfl
theorem outT_set {D:List AV} {cur x:AV} {rest i:Nat} (h:D.length=i):(outT D cur rest).set i x=outT D x rest:=by
 subst h;unfold outT;rw[List.set_append_right _ _ (Nat.le_refl _),Nat.sub_self];rfl
theorem outT_wk {s:AS} {F:List Rid} {ρ:Ren} {g:Nat} {D:List AV} {cur cur':AV} {rest:Nat} (hD:∀ x∈D,okV ρ g x=true) (hn:okV ρ g nilA=true) (hc:WkV s F ρ g cur cur') :
  ∀ (j:Nat) (x y:AV),(outT D cur rest)[j]?=some x->(outT D cur' rest)[j]?=some y->WkV s F ρ g x y:=by
 intro j x y hx hy;unfold outT at hx hy;by_cases h:j<D.length
 ·rw[List.getElem?_append_left h] at hx hy;rw[hx] at hy;cases hy;exact .inl ⟨.refl _,hD x (List.mem_of_getElem? hx)⟩
 ·rw[List.getElem?_append_right (by omega)] at hx hy;cases hk:j-D.length with
  |zero =>
   rw[hk] at hx hy;cases hx;cases hy;exact hc
  |succ k =>
   rw[hk,List.getElem?_cons_succ] at hx hy;rw[hx] at hy;cases hy;rw[(List.mem_replicate.1 (List.mem_of_getElem? hx)).2];exact .inl ⟨.refl _,hn⟩
theorem fillV_out {α:Type} {enc:α->AV} {c i:Nat} {l:List α} (h:l.length=i) (hi:i<c):fillV enc nilA c l=outT (l.map enc) nilA (c-i-1):=by
 unfold fillV outT;rw[h,show c-i=(c-i-1)+1 by omega,List.replicate_succ];congr 3
theorem fillV_out' {α:Type} {enc:α->AV} {c i:Nat} {l:List α} {x:α} (h:l.length=i) (hi:i<c):outT (l.map enc) (enc x) (c-i-1)=fillV enc nilA c (l++[x]):=by
 unfold fillV outT;simp only[List.map_append,List.map_cons,List.map_nil,List.append_assoc,List.cons_append,List.nil_append,List.length_append,List.length_cons,List.length_nil];rw[h,show c-(i+(0+1))=c-i-1 by omega]
theorem okV_map {α:Type} {enc:α->AV} {ρ:Ren} {g:Nat} (h:∀ x,okV ρ g (enc x)=true) {l:List α}:∀ x∈l.map enc,okV ρ g x=true:=by
 intro x hx;obtain⟨y,_,rfl⟩:=List.mem_map.1 hx;exact h y
def colV {α:Type} (z:α) (a:List (List α)) (i:Nat):List α:=a.map fun r=>r.getD i z
def turnV {α:Type} (z:α) (a:List (List α)):List (List α):=(List.range (colsN a)).map (colV z a)
def mTurn {α:Type} (z:α) (a:List (List α)):Except Nat (List (List α)):=if rect a=true then .ok (turnV z a) else .error eShape
def colT {α:Type} (z:α) (a:List (List α)) (i j:Nat):List α:=(a.take j).map fun r=>r.getD i z
theorem colT_succ {α:Type} {z:α} {a:List (List α)} {i j:Nat} (h:j<a.length):colT z a i (j+1)=colT z a i j++[a[j].getD i z]:=by
 unfold colT;rw[List.take_succ_eq_append_getElem h,List.map_append];rfl
theorem colT_len {α:Type} {z:α} {a:List (List α)} {i j:Nat} (h:j<=a.length):(colT z a i j).length=j:=by simp[colT]; omega
theorem colT_all {α:Type} {z:α} {a:List (List α)} {i:Nat}:colT z a i a.length=colV z a i:=by unfold colT colV; rw[List.take_length]
theorem ltL_enc {α:Type} {enc:α->AV} {g:Nat} (h:∀ x,(enc x).lt g=true):∀ l:List α,AV.ltL g (l.map enc)=true:=ltL_map h
theorem offL_enc {α:Type} {enc:α->AV} {ρ:Ren} (h:∀ x,(enc x).off ρ=true):∀ l:List α,AV.offL ρ (l.map enc)=true
 |[]=>rfl
 |x::l=>by
  show ((enc x).off ρ&&AV.offL ρ (l.map enc))=true;rw[h x,offL_enc h l];rfl
theorem c_turnS (a:List (List FS)) (hl:a.length<1000000) (hr:Rows6 a):ACalls prog 110 [lU a] (tLU (mTurn s0 a)):=by
 have hlen:(((a.map lS).length:Nat):Int)=(a.length:Int):=by simp
 have CS:=c_shapeS a hl;unfold mTurn;by_cases hrect:rect a=true
 ·obtain⟨c,hc⟩:∃ c,colsN a=c:=⟨_,rfl⟩
  have hrl:∀ j (h:j<a.length),a[j].length=c:=fun j h=>by
   have:=List.all_eq_true.1 hrect a[j] (List.getElem_mem h);rw[<- hc];exact of_decide_eq_true this
  have hpos:0<c->0<a.length:=fun h=>by
   cases a with
   |nil =>
    rw[<- hc] at h;exact absurd h (by decide)
   |cons r l=>simp
  have hcl:c<1000000:=by
   cases ha:a with
   |nil=>rw[<- hc,ha]; decide
   |cons r l =>
    have:=hr r (by rw[ha]; simp);have h2:=hrl 0 (by rw[ha]; simp);simp only[ha,List.getElem_cons_zero] at h2;omega
  unfold shapeT at CS;rw[if_pos hrect,hc] at CS;rw[if_pos hrect];unfold turnV;rw[hc];clear hc hrect;refine conP func110 rfl (by kernel_rfl) ?_;refine .gk ?_;conv=>whnf
  refine .gk ?_;conv=>whnf
  refine cE CS ?_;conv=>whnf
  refine .gk ?_;conv=>whnf
  refine .gk ?_;conv=>whnf
  refine⟨⟨Int.natCast_nonneg _,rfl,by show (c:Int)<=1099511627776; omega⟩,?_⟩;conv=>whnf
  refine .cut (fun _:Unit=>True) (fun _=>{ fr:=[(7,.own (3,1) c)],st:=[((3,1),⟨110,1,((List.range c).map (colV s0 a)).map lS⟩)],g:=9 }) ?_ ?_
  ·refine .gk ?_;conv=>whnf
   refine .block (.loop (fun i=>i<=c) (fun i=>{ fr:=[(0,.sl (a.map lS)),(7,.own (3,1) c),(23,i64 c),(24,i64 (i:Nat))],st:=[((3,1),⟨110,1,fillV lS nilA c ((List.range i).map (colV s0 a))⟩)],g:=9 }) (fun i=>c-i) 0 (Nat.zero_le _) ?_ ?_)
   ·exact⟨trivial,⟨x_R,x_R,x_R,x_R,trivial⟩,⟨.same (congrArg (fun z=>some (Row.mk 110 1 z)) (by rw[show (List.range 0).map (colV s0 a)=[] from rfl,fillV_nil]; rfl)) (ltL_fillV (fun _=>rfl) rfl),x_N,x_L⟩,trivial⟩
   intro i hi;dsimp only at hi ⊢;refine .gk ?_;conv=>whnf
   refine .gk ?_;conv=>whnf
   refine Br.mk (fun h=>?_) (fun h=>?_)
   ·have hlt:i<c:=by
     have:=of_decide_eq_true h;omega
    clear h;have hn:=hpos (by omega);have hD:((List.range i).map (colV s0 a)).length=i:=by simp
    have hDm:(((List.range i).map (colV s0 a)).map lS).length=i:=by simp
    conv=>whnf
    refine .cut (fun _:Unit=>True) (fun _=>{ fr:=[(0,.sl (a.map lS)),(7,.own (3,1) c),(23,i64 c),(24,i64 (i:Nat))],st:=[((3,1),⟨110,1,fillV lS nilA c ((List.range (i+1)).map (colV s0 a))⟩)],F:=[(5,0)],g:=20 }) ?_ ?_
    ·rw[fillV_out hD hlt,List.range_succ,List.map_append,List.map_cons,List.map_nil,<- fillV_out' hD hlt];obtain⟨DD,hDD⟩:∃ DD,((List.range i).map (colV s0 a)).map lS=DD:=⟨_,rfl⟩
     have hok:∀ {ρ:Ren} {g:Nat} (_:∀ x,okV ρ g (lS x)=true),∀ x∈DD,okV ρ g x=true:=fun h=>by rw[<- hDD]; exact okV_map h
     rw[hDD] at hDm ⊢;clear hDD hD;refine .block ?_;refine .gk ?_;conv=>whnf
     refine .gk ?_;conv=>whnf
     refine .block (.loop (fun j=>j<=a.length) (fun j=>match j with
      |0=>{ fr:=[(0,.sl (a.map lS)),(7,.own (3,1) c),(8,i64 (i:Nat)),(23,i64 c),(24,i64 (i:Nat)),(27,.sl (a.map lS)),(28,i64 a.length),(29,i64 (0:Nat))],st:=[((3,1),⟨110,1,outT DD nilA (c-i-1)⟩)],g:=9 }
      |j+1=>{ ren:=[((11,11),(5,0))],fr:=[(0,.sl (a.map lS)),(7,.own (3,1) c),(8,i64 (i:Nat)),(23,i64 c),(24,i64 (i:Nat)),(27,.sl (a.map lS)),(28,i64 a.length),(29,i64 (j+1:Nat))],st:=[((3,1),⟨110,1,outT DD (.own (5,0) (j+1)) (c-i-1)⟩),((5,0),⟨150,6,(colT s0 a i (j+1)).map spa⟩)],g:=9 }) (fun j=>a.length-j) 0 (Nat.zero_le _) ?_ ?_)
     ·exact⟨trivial,⟨x_R,x_R,x_R,x_R,x_R,x_R,x_E hlen,x_R,trivial⟩,⟨.less _ rfl rfl (outT_wk (hok fun _=>rfl) rfl (x_R)),x_N,x_L⟩,trivial⟩
     intro j hj;cases j with
     |zero =>
      dsimp only;have hg:i<a[0].length:=by rw[hrl 0 hn]; exact hlt
      have hv:a[0].getD i s0=a[0][i]:=by simp[List.getD,hg]
      refine pcK ?_;conv=>whnf
      refine Br.mk (fun h=>?_) (fun h=>?_)
      ·clear h;conv=>whnf
       refine⟨lS a[0],⟨by omega,by rw[List.getElem?_map]; show (a[0]?).map lS=_; rw[List.getElem?_eq_getElem hn]; rfl,rfl,rfl⟩,?_⟩;conv=>whnf
       refine xK ?_;conv=>whnf
       refine⟨⟨rfl,rfl⟩,⟨Int.natCast_nonneg _,by omega⟩,?_⟩;conv=>whnf
       refine elA_mk nilA (outT_get hDm) ?_;conv=>whnf
       refine⟨spa a[0][i],⟨Int.natCast_nonneg _,by rw[Int.toNat_natCast,List.getElem?_map,List.getElem?_eq_getElem hg]; rfl,rfl,rfl⟩,?_⟩;conv=>whnf
       refine⟨⟨by show 0<1; decide,by show 1<=1099511627776; decide,one_elB rfl⟩,?_⟩;conv=>whnf
       refine⟨⟨rfl,rfl⟩,⟨Int.natCast_nonneg _,by omega⟩,?_⟩;conv=>whnf
       refine elA_mk nilA (outT_get hDm) ?_;conv=>whnf
       refine⟨1,hn,⟨⟨trivial,rfl⟩,⟨x_R,x_R,x_R,x_R,x_R,x_R,x_R,x_E ((wI (n:=((0:Nat):Int)+1) (by omega) (by omega)).trans rfl),trivial⟩,⟨.less _ (congrArg (fun z=>some (Row.mk 110 1 z)) (outT_set hDm)) (by simp[outT]) (outT_wk (hok fun _=>rfl) rfl (.inr (.inr (.own (5,0) 1 rfl)))),x_N,x_L⟩,⟨.same ?_ ?_,x_N,x_L⟩,trivial⟩,by show a.length-1<a.length-0; omega⟩
       ·refine congrArg (fun z=>some (Row.mk 150 6 z)) ?_;rw[colT_succ hn,hv];rfl
       ·show (AV.ltL _ _&&AV.offL _ _)=true;rw[ltL_enc (fun _=>rfl),offL_enc (fun _=>rfl)];rfl
      ·have:=of_decide_eq_false h;omega
     |succ j =>
      dsimp only;refine pcK ?_;conv=>whnf
      refine Br.mk (fun h=>?_) (fun h=>?_)
      ·have hjl:j+1<a.length:=by
        have:=of_decide_eq_true h;omega
       clear h;have hg:i<a[j+1].length:=by rw[hrl (j+1) hjl]; exact hlt
       have hv:a[j+1].getD i s0=a[j+1][i]:=by simp[List.getD,hg]
       conv=>whnf
       refine⟨lS a[j+1],⟨Int.natCast_nonneg _,by rw[Int.toNat_natCast,List.getElem?_map,List.getElem?_eq_getElem hjl]; rfl,rfl,rfl⟩,?_⟩;conv=>whnf
       refine xK ?_;conv=>whnf
       refine⟨⟨rfl,rfl⟩,⟨Int.natCast_nonneg _,by omega⟩,?_⟩;conv=>whnf
       refine elA_mk (.own (5,0) (j+1)) (outT_get hDm) ?_;conv=>whnf
       refine⟨spa a[j+1][i],⟨Int.natCast_nonneg _,by rw[Int.toNat_natCast,List.getElem?_map,List.getElem?_eq_getElem hg]; rfl,rfl,rfl⟩,?_⟩;conv=>whnf
       refine⟨⟨by rw[List.length_map,colT_len (by omega)],rfl,rfl,by show j+1+1<=1099511627776; omega,one_elB rfl⟩,?_⟩;conv=>whnf
       refine⟨⟨rfl,rfl⟩,⟨Int.natCast_nonneg _,by omega⟩,?_⟩;conv=>whnf
       refine elA_mk (.own (5,0) (j+1)) (outT_get hDm) ?_;conv=>whnf
       refine⟨j+2,hjl,⟨⟨trivial,rfl⟩,⟨x_R,x_R,x_R,x_R,x_R,x_R,x_R,x_E ((wI (n:=((j+1:Nat):Int)+1) (by omega) (by omega)).trans (by simp)),trivial⟩,⟨.less _ (congrArg (fun z=>some (Row.mk 110 1 z)) (outT_set hDm)) (by simp[outT]) (outT_wk (hok fun _=>rfl) rfl (.inr (.inr (.own (5,0) (j+2) rfl)))),x_N,x_L⟩,⟨.same ?_ ?_,x_N,x_L⟩,trivial⟩,by show a.length-(j+2)<a.length-(j+1); omega⟩
       ·refine congrArg (fun z=>some (Row.mk 150 6 z)) ?_;rw[colT_succ hjl,hv,List.map_append];rfl
       ·show (AV.ltL _ _&&AV.offL _ _)=true;rw[ltL_enc (fun _=>rfl),offL_enc (fun _=>rfl)];rfl
      ·have hjl:j+1=a.length:=by
        have:=of_decide_eq_false h;omega
       clear h;conv=>whnf
       refine⟨(),trivial,⟨⟨⟨_,rfl⟩,trivial⟩,⟨x_R,x_R,x_R,x_R,trivial⟩,⟨.less _ rfl (by simp[outT]) (outT_wk (hok fun _=>rfl) rfl (.inr (.inl (.own2 (.head _) rfl (by rw[List.length_map,colT_len (by omega)]) (closedL_map (fun _=>rfl) _) ?_)))),by show ((3,1):Rid)∉[((5,0):Rid)]; decide,x_L⟩,trivial⟩⟩;rw[hjl,colT_all]
    ·rintro⟨⟩ _;refine pcK ?_;conv=>whnf
     exact⟨i+1,hlt,⟨trivial,⟨x_R,x_R,x_R,x_E ((wI (n:=(i:Int)+1) (by omega) (by omega)).trans (by simp)),trivial⟩,⟨.same rfl (ltL_fillV (fun _=>rfl) rfl),x_N,x_L⟩,trivial⟩,by show c-(i+1)<c-i; omega⟩
   ·have he:i=c:=by
     have:=of_decide_eq_false h;omega
    subst he;clear h;conv=>whnf
    exact⟨(),trivial,⟨trivial,⟨x_R,trivial⟩,⟨.same (congrArg (fun z=>some (Row.mk 110 1 z)) (fillV_full (by simp))) (ltL_map (fun _=>rfl) _),x_N,x_L⟩,trivial⟩⟩
  ·rintro⟨⟩ _;refine pcK ?_;conv=>whnf
   exact⟨.own2 trivial rfl (by simp) (closedL_map (fun _=>rfl) _) rfl,fin rfl rfl,trivial⟩
 ·unfold shapeT at CS;rw[if_neg hrect] at CS;rw[if_neg hrect];refine conN func110 rfl (by kernel_rfl) ?_;conv=>whnf
  refine cE CS ?_;conv=>whnf
  exact⟨.sh _ _ rfl .nil,fin rfl rfl,trivial⟩
end
section
open Go Go.RowKit Go.Proofs.Tryz
attribute [local irreducible] zMul zAdd zLeft zRight fitZ qMake zDiv dMake dLevel dRound dNear dAdd dMul dRatio dCmp dMin dMax dAbs dLess qCmp sOut qAdd qMul sAdd sMul sNear qSum sSize vEach vDot vNear vScale vPlus vInner vUnit
theorem okL_enc {α:Type} {enc:α->AV} {ρ:Ren} {g:Nat} (h1:∀ x,(enc x).lt g=true) (h2:∀ x,(enc x).off ρ=true) (l:List α):okL ρ g (l.map enc)=true:=by
 cases ρ with
 |nil=>exact ltL_enc h1 l
 |cons p ρ =>
  show (AV.ltL g (l.map enc)&&AV.offL (p::ρ) (l.map enc))=true;rw[ltL_enc h1,offL_enc h2];rfl
def mRow {α β γ:Type} (f:List α->List β->Except Nat γ) (t:List (List β)) (r:List α):Except Nat (List γ):=runE (fun c=>f r c) t
def mMulG {α γ:Type} (z:α) (f:List α->List α->Except Nat γ) (a b:List (List α)):Except Nat (List (List γ)) :=
 if rect b=true then (if rect a=true/\colsN a=b.length then runE (mRow f (turnV z b)) a else .error eShape) else .error eShape
def mTimes (bits:Int) (a b:List (List FS)):Except Nat (List (List FS)):=mMulG s0 (fun r c=>vInner bits r c) a b
theorem mRow_rows {α:Type} {z:α} {b:List (List α)}:∀ r∈turnV z b,r.length=b.length:=by
 intro r hr;obtain⟨j,_,rfl⟩:=List.mem_map.1 hr;simp[colV]
theorem c_mTimes (a b:List (List FS)) (bits:Int) (hbits:BOk bits) (hla:a.length<1000000) (hra:Rows6 a) (hlb:b.length<1000000) (hrb:Rows6 b):ACalls prog 30 [lU a,lU b,i64 bits] (tLU (mTimes bits a b)):=by
 unfold mTimes;have hlen:(((a.map lS).length:Nat):Int)=(a.length:Int):=by simp
 have hlenb:(((b.map lS).length:Nat):Int)=(b.length:Int):=by simp
 have CT:=c_turnS b hlb hrb;have CS:=c_shapeS a hla;unfold mTurn at CT;by_cases hb:rect b=true
 case neg =>
  unfold mMulG;rw[if_neg hb] at CT ⊢;refine conN func30 rfl (by kernel_rfl) ?_;conv=>whnf
  refine cE CT ?_;conv=>whnf
  exact⟨.sh _ _ rfl .nil,fin rfl rfl,trivial⟩
 rw[if_pos hb] at CT;have hcb:colsN b<1000000:=by
  cases b with
  |nil=>exact Nat.le_of_ble_eq_true rfl
  |cons r l=>exact hrb r (by simp)
 have htl:(turnV s0 b).length=colsN b:=by simp[turnV]
 have htr:=mRow_rows (z:=s0) (b:=b);obtain⟨t,ht⟩:∃ t,turnV s0 b=t:=⟨_,rfl⟩
 unfold mMulG;rw[if_pos hb];rw[ht] at CT htl htr ⊢;change ACalls prog _ _ (.tup [.sl (t.map lS),i64 (0:Nat)]) at CT;have htl6:t.length<1000000:=by omega
 have hlent:(((t.map lS).length:Nat):Int)=(t.length:Int):=by simp
 clear hb;unfold shapeT at CS;by_cases ha:rect a=true
 case neg =>
  rw[if_neg ha] at CS;rw[if_neg (fun h=>ha h.1)];refine conN func30 rfl (by kernel_rfl) ?_;conv=>whnf
  refine cE CT ?_;conv=>whnf
  refine cE CS ?_;conv=>whnf
  exact⟨.sh _ _ rfl .nil,fin rfl rfl,trivial⟩
 rw[if_pos ha] at CS;obtain⟨ca,hca⟩:∃ ca,colsN a=ca:=⟨_,rfl⟩
 rw[hca] at CS ⊢;by_cases hab:ca=b.length
 case neg =>
  rw[if_neg (fun h=>hab h.2)];refine conN func30 rfl (by kernel_rfl) ?_;conv=>whnf
  refine cE CT ?_;conv=>whnf
  refine cE CS ?_;conv=>whnf
  rw[hlenb,show ((ca:Int) !=(b.length:Int))=true by simp; omega];conv=>whnf
  exact⟨.sh _ _ rfl .nil,fin rfl rfl,trivial⟩
 rw[if_pos ⟨ha,hab⟩];clear ha;have hG:∀ {i:Nat} {D:List (List FS)} (h1:D.length=i) (hi:i<a.length),runE (mRow (fun r c=>vInner bits r c) t) (a.take i)=.ok D->(∀ e:Nat,mRow (fun r c=>vInner bits r c) t a[i]=.error e->runE (mRow (fun r c=>vInner bits r c) t) a=.error e)/\(∀ x,mRow (fun r c=>vInner bits r c) t a[i]=.ok x->runE (mRow (fun r c=>vInner bits r c) t) (a.take (i+1))=.ok (D++[x])):=by
  rintro i D rfl hi h2;refine⟨fun e he=>?_,fun x hx=>?_⟩
  ·have:=runE_step (f:=mRow (fun r c=>vInner bits r c) t) (d:=[]) (x:=[]) (e:=e+1) hi h2 (by rw[he]; rfl) (by rw[he]; rfl);exact this.1 (by omega)
  ·have:=runE_step (f:=mRow (fun r c=>vInner bits r c) t) (d:=[]) (x:=x) (e:=0) hi h2 (by rw[hx]; rfl) (by rw[hx]; rfl);exact this.2 rfl
 obtain⟨R,hR⟩:∃ R,runE (mRow (fun r c=>vInner bits r c) t) a=R:=⟨_,rfl⟩
 rw[hR] at hG ⊢;refine conP func30 rfl (by kernel_rfl) ?_;refine .gk ?_;conv=>whnf
 refine .gk ?_;conv=>whnf
 refine cE CT ?_;conv=>whnf
 refine .gk ?_;conv=>whnf
 refine .gk ?_;conv=>whnf
 refine cE CS ?_;conv=>whnf
 rw[hlenb,show ((ca:Int) !=(b.length:Int))=false by simp; omega];conv=>whnf
 refine .gk ?_;conv=>whnf
 refine⟨⟨by omega,rfl,by show (((a.map lS).length:Nat):Int)<=1099511627776; omega⟩,?_⟩;conv=>whnf
 refine .cut (fun D:List (List FS)=>R=.ok D/\D.length=a.length) (fun D=>{ fr:=[(13,.own (5,2) a.length)],st:=[((5,2),⟨110,1,D.map lS⟩)],g:=9 }) ?_ ?_
 ·refine .gk ?_;conv=>whnf
  refine .block (.loop (fun D:List (List FS)=>D.length<=a.length/\runE (mRow (fun r c=>vInner bits r c) t) (a.take D.length)=.ok D) (fun D=>{ fr:=[(0,.sl (a.map lS)),(8,.sl (t.map lS)),(13,.own (5,2) a.length),(45,.sl (a.map lS)),(46,i64 a.length),(47,i64 (D.length:Nat)),(2,i64 bits)],st:=[((5,2),⟨110,1,fillV lS nilA a.length D⟩)],g:=9 }) (fun D=>a.length-D.length) [] ⟨Nat.zero_le _,rfl⟩ ?_ ?_)
  ·exact⟨trivial,⟨x_R,x_R,.inl ⟨.of_eq (congrArg (AV.own (5,2)) (by simp)),rfl⟩,x_R,x_E hlen,x_R,x_R,trivial⟩,⟨.same (congrArg (fun z=>some (Row.mk 110 1 z)) (by rw[fillV_nil]; exact congrArg (fun n=>List.replicate n nilA) (by simp))) (ltL_fillV (fun _=>rfl) rfl),x_N,x_L⟩,trivial⟩
  rintro D ⟨h1,h2⟩;dsimp only at h1 h2 ⊢;refine .gk ?_;conv=>whnf
  refine .gk ?_;conv=>whnf
  refine Br.mk (fun h=>?_) (fun h=>?_)
  ·obtain⟨i,hi⟩:∃ i,D.length=i:=⟨_,rfl⟩
   have hlt:i<a.length:=by
    have:=of_decide_eq_true h;omega
   clear h;have hg2:=hG hi hlt (by rw[<- hi]; exact h2);have hDm:(D.map lS).length=i:=by simp[hi]
   have CC:=fun (j:Nat) (hj:j<t.length)=>c_vInner a[i] t[j] bits hbits (hra _ (List.getElem_mem hlt))
   conv=>whnf
   refine .cut (fun x:List FS=>mRow (fun r c=>vInner bits r c) t a[i]=.ok x) (fun x=>{ fr:=[(0,.sl (a.map lS)),(8,.sl (t.map lS)),(13,.own (5,2) a.length),(45,.sl (a.map lS)),(46,i64 a.length),(47,i64 (i:Nat)),(2,i64 bits)],st:=[((5,2),⟨110,1,fillV lS nilA a.length (D++[x])⟩)],F:=(match x with | []=>[] | _::_=>[(6,0)]),g:=30 }) ?_ ?_
   ·rw[fillV_out hi hlt,hi];have hfin:∀ x:List FS,fillV lS nilA a.length (D++[x])=outT (D.map lS) (lS x) (a.length-i-1):=fun x=>(fillV_out' hi hlt).symm
    obtain⟨DD,hDD⟩:∃ DD,D.map lS=DD:=⟨_,rfl⟩
    have hok:∀ {ρ:Ren} {g:Nat} (_:∀ x,okV ρ g (lS x)=true),∀ x∈DD,okV ρ g x=true:=fun h=>by rw[<- hDD]; exact okV_map h
    rw[hDD] at hDm hfin ⊢;clear hDD;refine .block ?_;refine .gk ?_;conv=>whnf
    refine⟨lS a[i],⟨Int.natCast_nonneg _,by rw[Int.toNat_natCast,List.getElem?_map,List.getElem?_eq_getElem hlt]; rfl,rfl,rfl⟩,?_⟩;conv=>whnf
    refine .gk ?_;conv=>whnf
    refine .block (.loop (fun r:List FS=>r.length<=t.length/\runE (fun c=>(fun r c=>vInner bits r c) a[i] c) (t.take r.length)=.ok r) (fun r=>match r with
     |[]=>{ fr:=[(0,.sl (a.map lS)),(8,.sl (t.map lS)),(13,.own (5,2) a.length),(45,.sl (a.map lS)),(46,i64 a.length),(47,i64 (i:Nat)),(14,i64 (i:Nat)),(15,lS a[i]),(52,.sl (t.map lS)),(53,i64 t.length),(54,i64 (0:Nat)),(2,i64 bits)],st:=[((5,2),⟨110,1,outT DD nilA (a.length-i-1)⟩)],g:=9 }
     |x::l=>{ ren:=[((13,8),(6,0))],fr:=[(0,.sl (a.map lS)),(8,.sl (t.map lS)),(13,.own (5,2) a.length),(45,.sl (a.map lS)),(46,i64 a.length),(47,i64 (i:Nat)),(14,i64 (i:Nat)),(15,lS a[i]),(52,.sl (t.map lS)),(53,i64 t.length),(54,i64 (l.length+1:Nat)),(2,i64 bits)],st:=[((5,2),⟨110,1,outT DD (.own (6,0) (l.length+1)) (a.length-i-1)⟩),((6,0),⟨150,6,(x::l).map spa⟩)],g:=9 }) (fun r=>t.length-r.length) [] ⟨Nat.zero_le _,rfl⟩ ?_ ?_)
    ·exact⟨trivial,⟨x_R,x_R,x_R,x_R,x_R,x_R,x_R,x_R,x_R,x_E hlent,x_R,x_R,trivial⟩,⟨.less _ rfl rfl (outT_wk (hok fun _=>rfl) rfl (x_R)),x_N,x_L⟩,trivial⟩
    rintro r ⟨k1,k2⟩;cases r with
    |nil =>
     dsimp only at k1 k2 ⊢;refine pcK ?_;conv=>whnf
     refine Br.mk (fun h=>?_) (fun h=>?_)
     ·have hlt2:0<t.length:=by
       have:=of_decide_eq_true h;omega
      clear h;obtain⟨x1,e1,C1,hx1,he1⟩:=varT (CC (0) hlt2);have hstep:=runE_step (f:=fun c=>(fun r c=>vInner bits r c) a[i] c) (l:=t) (r:=[]) hlt2 k2 hx1 he1;conv=>whnf
      refine⟨lS t[0],⟨Int.natCast_nonneg _,by rw[Int.toNat_natCast,List.getElem?_map,List.getElem?_eq_getElem hlt2]; rfl,rfl,rfl⟩,?_⟩;conv=>whnf
      refine cE C1 ?_;conv=>whnf
      refine Br.mk (fun h=>?_) (fun h=>?_)
      ·have z:=lit0 h;rw[hg2.1 _ (hstep.1 z)];conv=>whnf
       exact⟨.sh _ _ rfl .nil,fin rfl (congrArg (fun x:Nat=>i64 x) (by omega:e1=e1-1+1)),trivial⟩
      have z:=lit1 h;conv=>whnf
      refine xK ?_;conv=>whnf
      refine⟨⟨rfl,rfl⟩,⟨Int.natCast_nonneg _,by omega⟩,?_⟩;conv=>whnf
      refine elA_mk nilA (outT_get hDm) ?_;conv=>whnf
      refine⟨⟨by show 0<1; decide,by show 1<=1099511627776; decide,one_elB rfl⟩,?_⟩;conv=>whnf
      refine⟨⟨rfl,rfl⟩,⟨Int.natCast_nonneg _,by omega⟩,?_⟩;conv=>whnf
      refine elA_mk nilA (outT_get hDm) ?_;conv=>whnf
      refine⟨[x1],⟨hlt2,hstep.2 z⟩,⟨⟨trivial,rfl⟩,⟨x_R,x_R,x_R,x_R,x_R,x_R,x_R,x_R,x_R,x_R,x_E ((wI (n:=((0:Nat):Int)+1) (by omega) (by omega)).trans rfl),x_R,trivial⟩,⟨.less _ (congrArg (fun z=>some (Row.mk 110 1 z)) (outT_set hDm)) (by simp[outT]) (outT_wk (hok fun _=>rfl) rfl (.inr (.inr (.own (6,0) 1 rfl)))),x_N,x_L⟩,⟨.same ?_ ?_,x_N,x_L⟩,trivial⟩,by show t.length-1<t.length-0; omega⟩
      ·refine congrArg (fun z=>some (Row.mk 150 6 z)) ?_;rfl
      ·exact okL_enc (fun _=>rfl) (fun _=>rfl) [x1]
     ·have he:([]:List FS).length=t.length:=by
       have:=of_decide_eq_false h;simp; omega
      clear h;rw[he,List.take_length] at k2;conv=>whnf
      refine⟨[],k2,⟨trivial,⟨x_R,x_R,x_R,x_R,x_R,x_R,x_R,trivial⟩,⟨.less _ rfl (by rw[hfin]; simp[outT]) (by rw[hfin]; exact outT_wk (hok fun _=>rfl) rfl (.inl ⟨.nil,rfl⟩)),x_N,x_L⟩,trivial⟩⟩
    |cons x l =>
     dsimp only at k1 k2 ⊢;refine pcK ?_;conv=>whnf
     refine Br.mk (fun h=>?_) (fun h=>?_)
     ·have hlt2:l.length+1<t.length:=by
       have:=of_decide_eq_true h;omega
      clear h;obtain⟨x1,e1,C1,hx1,he1⟩:=varT (CC (l.length+1) hlt2);have hstep:=runE_step (f:=fun c=>(fun r c=>vInner bits r c) a[i] c) (l:=t) (r:=(x::l)) hlt2 k2 hx1 he1;conv=>whnf
      refine⟨lS t[l.length+1],⟨Int.natCast_nonneg _,by rw[Int.toNat_natCast,List.getElem?_map,List.getElem?_eq_getElem hlt2]; rfl,rfl,rfl⟩,?_⟩;conv=>whnf
      refine cE C1 ?_;conv=>whnf
      refine Br.mk (fun h=>?_) (fun h=>?_)
      ·have z:=lit0 h;rw[hg2.1 _ (hstep.1 z)];conv=>whnf
       exact⟨.sh _ _ rfl .nil,fin rfl (congrArg (fun x:Nat=>i64 x) (by omega:e1=e1-1+1)),trivial⟩
      have z:=lit1 h;conv=>whnf
      refine xK ?_;conv=>whnf
      refine⟨⟨rfl,rfl⟩,⟨Int.natCast_nonneg _,by omega⟩,?_⟩;conv=>whnf
      refine elA_mk (.own (6,0) (l.length+1)) (outT_get hDm) ?_;conv=>whnf
      refine⟨⟨by simp,rfl,rfl,by show l.length+1+1<=1099511627776; omega,one_elB rfl⟩,?_⟩;conv=>whnf
      refine⟨⟨rfl,rfl⟩,⟨Int.natCast_nonneg _,by omega⟩,?_⟩;conv=>whnf
      refine elA_mk (.own (6,0) (l.length+1)) (outT_get hDm) ?_;conv=>whnf
      refine⟨(x::(l++[x1])),⟨by simp; omega,by have:=hstep.2 z; simpa using this⟩,⟨⟨trivial,rfl⟩,⟨x_R,x_R,x_R,x_R,x_R,x_R,x_R,x_R,x_R,x_R,x_E ((wI (n:=((l.length+1:Nat):Int)+1) (by omega) (by omega)).trans (by simp)),x_R,trivial⟩,⟨.less _ (congrArg (fun z=>some (Row.mk 110 1 z)) (outT_set hDm)) (by simp[outT]) (outT_wk (hok fun _=>rfl) rfl (.inr (.inr ?_))),x_N,x_L⟩,⟨.same ?_ ?_,x_N,x_L⟩,trivial⟩,by show t.length-(x::(l++[x1])).length<t.length-(x::l).length; simp; omega⟩
      ·rw[show (l++[x1]).length+1=l.length+2 by simp];exact .own (6,0) (l.length+2) rfl
      ·refine congrArg (fun z=>some (Row.mk 150 6 z)) ?_;show (x::l).map spa++[spa x1]=(x::(l++[x1])).map spa;simp
      ·exact okL_enc (fun _=>rfl) (fun _=>rfl) (x::(l++[x1]))
     ·have he:(x::l:List FS).length=t.length:=by
       have:=of_decide_eq_false h;simp at k1 ⊢; omega
      clear h;rw[he,List.take_length] at k2;conv=>whnf
      refine⟨x::l,k2,⟨⟨⟨_,rfl⟩,trivial⟩,⟨x_R,x_R,x_R,x_R,x_R,x_R,x_R,trivial⟩,⟨.less _ rfl (by rw[hfin]; simp[outT]) (by rw[hfin]; exact outT_wk (hok fun _=>rfl) rfl (.inr (.inl (.own2 (.head _) rfl (by simp) (closedL_map (fun _=>rfl) _) rfl)))),by show ((5,2):Rid)∉[((6,0):Rid)]; decide,x_L⟩,trivial⟩⟩
   ·intro x hx;refine pcK ?_;conv=>whnf
    exact⟨D++[x],⟨by simp; omega,by rw[List.length_append,hi]; exact hg2.2 x hx⟩,⟨trivial,⟨x_R,x_R,x_R,x_R,x_R,x_E ((wI (n:=(i:Int)+1) (by omega) (by omega)).trans (by simp[hi])),x_R,trivial⟩,⟨.same rfl (ltL_fillV (fun _=>rfl) rfl),x_N,x_L⟩,trivial⟩,by show a.length-(D++[x]).length<a.length-D.length; simp; omega⟩
  ·have he:D.length=a.length:=by
    have:=of_decide_eq_false h;omega
   clear h;rw[he,List.take_length,hR] at h2;conv=>whnf
   exact⟨D,⟨h2,he⟩,⟨trivial,⟨x_R,trivial⟩,⟨.same (congrArg (fun z=>some (Row.mk 110 1 z)) (fillV_full he)) (ltL_map (fun _=>rfl) _),x_N,x_L⟩,trivial⟩⟩
 ·rintro D ⟨hD,hDl⟩;rw[hD];refine pcK ?_;conv=>whnf
  exact⟨.own2 trivial rfl (by simp[hDl]) (closedL_map (fun _=>rfl) _) rfl,fin rfl rfl,trivial⟩
end
end Go.Proofs.YtjdkdcmpifapeaaGreatDoor.Abs
