/- Sets: one size, more by another one, looked at where it stands. -/
import Derived.Test.YtjdkdcmpifapeaaGreatDoorOa
set_option linter.unusedVariables false
set_option linter.unusedSectionVars false
set_option linter.unusedSimpArgs false
set_option maxHeartbeats 4000000
set_option maxRecDepth 10000
namespace Go.Proofs.YtjdkdcmpifapeaaGreatDoor.Abs
section
open Go Go.RowKit Go.Proofs.Tryz
attribute [local irreducible] dRound dAdd dMul dCmp dMin dMax dAbs dLess sOut sAdd sMul sNear sSize vNear vPlus vInner dOf dNeg sSub sMid mid1
def resS (r:Except Nat FD):AV:=match r with
 |.ok d=>.tup [.sl [dyad d],i64 0]
 |.error e=>.tup [nilA,i64 ((e+1:Nat):Int)]
theorem c_wid1M (pre post:List FD) (x y:FD) (bits:Int) (hb:BOk bits) (hp:pre.length<1000000) :
  ACallsM prog 146 [.osl (0,0) pre.length 1,.sl [dyad y],i64 bits] [⟨76,3,(pre++x::post).map dyad⟩] (resS (wid1 bits (x,y))) [⟨76,3,(pre++x::post).map dyad⟩]:=by
 have C1:=c_sPoint x;have C2:=c_sPoint y;have C3:=c_sAdd (sPoint x) (sPoint y) bits hb;have hget:((pre++x::post).map dyad)[pre.length+((0:Int)).toNat]?=some (dyad x):=by
  rw[show ((0:Int)).toNat=0 from rfl,Nat.add_zero,List.getElem?_map,List.getElem?_append_right (Nat.le_refl _),Nat.sub_self];rfl
 have hcl:AV.closedL ((pre++x::post).map dyad)=true:=closedL_map (fun _=>rfl) _;have hlt:∀ g,AV.ltL g ((pre++x::post).map dyad)=true:=fun g=>ltL_map (fun _=>rfl) _
 obtain⟨R,hR⟩:∃ R,(pre++x::post).map dyad=R:=⟨_,rfl⟩
 rw[hR] at hget hcl hlt ⊢;unfold wid1;show ACallsM _ _ _ _ (resS (bnd (sAdd (sPoint x) (sPoint y) bits) fun s=>.ok s.hi)) _;refine conMP func146 rfl (by kernel_rfl) ?_;repeat ((first | refine .gF ?_ | refine .eF ?_ | refine⟨⟨by decide,rfl,by decide⟩,?_⟩ | refine xK ?_ | rw[decide_eq_true (by omega)] | rw[decide_eq_false (by omega)]); conv=>whnf)
 cases hs:sAdd (sPoint x) (sPoint y) bits with
 |error e =>
  rw[hs] at C3;show Pc _ _ _ _ _ _ (fun ex fr st g=>resM ty _ (.tup [nilA,i64 ((e+1:Nat):Int)]) _ ex (mkS fr st g));refine .cut (fun _:Unit=>False) (fun _=>{ fr:=[],st:=[],g:=60 }) ?_ ?_
  ·repeat ((first | refine .gF ?_ | refine .eF ?_ | refine xK ?_ | rw[decide_eq_true (by omega)] | rw[decide_eq_false (by omega)]); conv=>whnf)
   refine .block (.loop (fun i:Nat=>i=0) (fun i=>{ fr:=[(0,.osl (0,0) pre.length 1),(1,.sl [dyad y]),(2,i64 bits),(8,.own (2,2) 1),(15,.osl (0,0) pre.length 1),(16,i64 1),(17,i64 (0:Nat))],st:=[((2,2),⟨76,3,[zDy]⟩),((0,0),⟨76,3,R⟩)],g:=9 }) (fun i=>1-i) 0 rfl ?_ ?_)
   ·repeat' (first | exact trivial | exact .inl ⟨.refl _,rfl⟩ | exact⟨.same rfl rfl,nMb rfl,x_L⟩ | exact⟨_,rfl⟩ | exact x_W | exact rfl | exact .same rfl (hlt _) | exact nMb rfl | exact Nat.le_of_ble_eq_true rfl | refine⟨?_,?_⟩)
   rintro i rfl;dsimp only;repeat ((first | refine .gF ?_ | refine .eF ?_ | refine xK ?_ | rw[decide_eq_true (by omega)] | rw[decide_eq_false (by omega)]); conv=>whnf)
   refine .cut (fun _:Unit=>False) (fun _=>{ fr:=[],st:=[],g:=60 }) ?_ ?_
   ·refine .block ?_;repeat ((first | refine .gF ?_ | refine .eF ?_ | refine cE C1 ?_ | refine cE C2 ?_ | refine cE C3 ?_ | refine⟨⟨rfl,rfl⟩,⟨by decide,by decide⟩,?_⟩ | refine⟨_,⟨by decide,rfl,rfl,rfl⟩,?_⟩ | refine elA_mk (dyad x) hget ?_ | refine xK ?_ | rw[decide_eq_true (by omega)] | rw[decide_eq_false (by omega)]); conv=>whnf)
    exact⟨⟨fin rfl rfl,fin rfl rfl,trivial⟩,⟨rfl,hcl⟩,trivial⟩
   ·rintro⟨⟩ q;exact q.elim
  ·rintro⟨⟩ q;exact q.elim
 |ok s =>
  rw[hs] at C3;show Pc _ _ _ _ _ _ (fun ex fr st g=>resM ty _ (.tup [.sl [dyad s.hi],i64 0]) _ ex (mkS fr st g));refine .cut (fun _:Unit=>True) (fun _=>{ fr:=[(8,.own (2,2) 1)],st:=[((2,2),⟨76,3,[dyad s.hi]⟩),((0,0),⟨76,3,R⟩)],g:=60 }) ?_ ?_
  ·repeat ((first | refine .gF ?_ | refine .eF ?_ | refine xK ?_ | rw[decide_eq_true (by omega)] | rw[decide_eq_false (by omega)]); conv=>whnf)
   refine .block (.loop (fun i:Nat=>i<=1) (fun i=>match i with
    |0=>{ fr:=[(0,.osl (0,0) pre.length 1),(1,.sl [dyad y]),(2,i64 bits),(8,.own (2,2) 1),(15,.osl (0,0) pre.length 1),(16,i64 1),(17,i64 (0:Nat))],st:=[((2,2),⟨76,3,[zDy]⟩),((0,0),⟨76,3,R⟩)],g:=9 }
    |_+1=>{ fr:=[(8,.own (2,2) 1),(16,i64 1),(17,i64 (1:Nat))],st:=[((2,2),⟨76,3,[dyad s.hi]⟩),((0,0),⟨76,3,R⟩)],g:=9 }) (fun i=>1-i) 0 (Nat.zero_le _) ?_ ?_)
   ·repeat' (first | exact trivial | exact .inl ⟨.refl _,rfl⟩ | exact⟨.same rfl rfl,nMb rfl,x_L⟩ | exact⟨_,rfl⟩ | exact x_W | exact rfl | exact .same rfl (hlt _) | exact nMb rfl | exact Nat.le_of_ble_eq_true rfl | refine⟨?_,?_⟩)
   intro i hi;cases i with
   |zero =>
    dsimp only;repeat ((first | refine .gF ?_ | refine .eF ?_ | refine xK ?_ | rw[decide_eq_true (by omega)] | rw[decide_eq_false (by omega)]); conv=>whnf)
    refine .cut (fun _:Unit=>True) (fun _=>{ fr:=[(8,.own (2,2) 1),(16,i64 1),(17,i64 (0:Nat))],st:=[((2,2),⟨76,3,[dyad s.hi]⟩),((0,0),⟨76,3,R⟩)],g:=60 }) ?_ ?_
    ·refine .block ?_;repeat ((first | refine .gF ?_ | refine .eF ?_ | refine cE C1 ?_ | refine cE C2 ?_ | refine cE C3 ?_ | refine⟨⟨rfl,rfl⟩,⟨by decide,by decide⟩,?_⟩ | refine⟨_,⟨by decide,rfl,rfl,rfl⟩,?_⟩ | refine elA_mk (dyad x) hget ?_ | refine xK ?_ | rw[decide_eq_true (by omega)] | rw[decide_eq_false (by omega)]); conv=>whnf)
     refine⟨(),trivial,?_⟩;repeat' (first | exact trivial | exact .inl ⟨.refl _,rfl⟩ | exact⟨.same rfl rfl,nMb rfl,x_L⟩ | exact⟨_,rfl⟩ | exact x_W | exact rfl | exact .same rfl (hlt _) | exact nMb rfl | exact Nat.le_of_ble_eq_true rfl | refine⟨?_,?_⟩)
     trace_state
    ·rintro⟨⟩ _;repeat ((first | refine .gF ?_ | refine .eF ?_ | refine xK ?_ | rw[decide_eq_true (by omega)] | rw[decide_eq_false (by omega)]); conv=>whnf)
     refine⟨1,Nat.le_refl _,?_,by show 1-1<1-0; omega⟩;repeat' (first | exact trivial | exact .inl ⟨.refl _,rfl⟩ | exact⟨.same rfl rfl,nMb rfl,x_L⟩ | exact⟨_,rfl⟩ | exact x_W | exact rfl | exact .same rfl (hlt _) | exact nMb rfl | exact Nat.le_of_ble_eq_true rfl | refine⟨?_,?_⟩)
   |succ k =>
    dsimp only;repeat ((first | refine .gF ?_ | refine .eF ?_ | refine xK ?_ | rw[decide_eq_true (by omega)] | rw[decide_eq_false (by omega)]); conv=>whnf)
    refine⟨(),trivial,?_⟩;repeat' (first | exact trivial | exact .inl ⟨.refl _,rfl⟩ | exact⟨.same rfl rfl,nMb rfl,x_L⟩ | exact⟨_,rfl⟩ | exact x_W | exact rfl | exact .same rfl (hlt _) | exact nMb rfl | exact Nat.le_of_ble_eq_true rfl | refine⟨?_,?_⟩)
  ·rintro⟨⟩ _;repeat ((first | refine .gF ?_ | refine .eF ?_ | refine xK ?_ | rw[decide_eq_true (by omega)] | rw[decide_eq_false (by omega)]); conv=>whnf)
   exact⟨⟨.own2 (by decide) rfl rfl rfl rfl,fin rfl rfl,trivial⟩,⟨rfl,hcl⟩,trivial⟩
end
section
open Go Go.RowKit Go.Proofs.Tryz
attribute [local irreducible] dRound dAdd dMul dCmp dMin dMax dAbs dLess sOut sAdd sMul sNear sSize vNear vPlus vInner dOf dNeg sSub sMid mid1 wid1
def imgStep (bits:Int) (a:List (List FS)) (st:List FD×List (List FD)) (g:List FD):Except Nat (List FD×List (List FD)) :=
 bnd (zImg bits a g) fun mo=>bnd (zWid bits st.1 (mo.map (·.2))) fun r=>.ok (r,st.2++[mo.map (·.1)])
def rowStep (bits:Int) (sz:List FS) (p:List FS×FD):Except Nat FD:=bnd (vInner bits p.1 sz) fun s=>wid1 bits (p.2,sSize s)
def zImage (bits:Int) (a:List (List FS)) (z:ZO):Except Nat ZO :=
 bnd (zImg bits a z.c) fun mo=>bnd (foldE (imgStep bits a) (mo.map (·.2),[]) z.g) fun st=>bnd (runE (rowStep bits (z.r.map sEven)) (a.zip st.1)) fun r=>.ok ⟨mo.map (·.1),st.2,r⟩
theorem zImg_len {bits:Int} {a:List (List FS)} {x:List FD} {l:List (FD×FD)} (h:zImg bits a x=.ok l):l.length=a.length:=by
 unfold zImg at h;cases h1:runE (inn bits x) a with
 |error e=>rw[h1] at h; cases h
 |ok s =>
  rw[h1,bnd_okk] at h;have h2:s.length=a.length:=runE_length h1;have h3:l.length=s.length:=runE_length (f:=mid1 bits) h;omega
theorem okL_map {α:Type} {f:α->AV} {ρ:Ren} {n:Nat} (h1:∀ x,(f x).lt n=true) (h2:∀ ρ x,(f x).off ρ=true) (l:List α):okL ρ n (l.map f)=true:=by
 unfold okL;split
 ·exact ltL_map h1 l
 ·exact ok_map h1 (h2 _) l
theorem dy_ok {ρ:Ren} {n:Nat} (l:List FD):okL ρ n (l.map dyad)=true:=okL_map (fun _=>rfl) (fun _ _=>rfl) l
theorem lD_get1 {l:List (List FD)} {i:Nat} (h:i<l.length):(l.map lD)[((i:Nat):Int).toNat]?=some (lD l[i]):=by
 rw[Int.toNat_natCast,List.getElem?_map,List.getElem?_eq_getElem h];rfl
theorem mv_row {s:AS} {ρ:Ren} {i:Rid} {e:TypeId} {k g:Nat} {α:Type} {f:α->AV} {l:List α} {ys:List AV} (h:stR s ρ i=some ⟨e,k,AV.mvL g (l.map f)⟩) (hf:∀ x,(f x).mv g=f x) (hy:l.map f=ys):stR s ρ i=some ⟨e,k,ys⟩:=by
 rw[mvL_map hf,hy] at h;exact h
theorem c_zImage (a:List (List FS)) (z:ZO) (bits:Int) (hb:BOk bits) (hl:a.length<1000000) (hr:Rows6 a) (hc:z.c.length<1000000) (hg:z.g.length<1000000) (hr2:Rows6 z.g) (hzr:z.r.length<1000000) :
  ACalls prog 200 [lU a,zo z,i64 bits] (tZO (zImage bits a z)):=by
 have CI:=c_zImg a z.c bits hb hl hr hc;have hlg:(((z.g.map lD).length:Nat):Int)=(z.g.length:Int):=by simp
 unfold zImage;cases h1:zImg bits a z.c with
 |error e =>
  rw[h1] at CI;show ACalls prog _ _ (.tup [zo zo0,i64 ((e+1:Nat):Int)]);refine conP func200 rfl (by kernel_rfl) ?_;repeat ((first | refine .gF ?_ | refine .eF ?_ | refine callN CI rfl ?_ | refine xK ?_ | rw[decide_eq_true (by omega)] | rw[decide_eq_false (by omega)]); conv=>whnf)
  exact⟨.sh _ _ rfl le_zo0,fin rfl rfl,trivial⟩
 |ok mo =>
  rw[h1] at CI;rw[bnd_okk];have hmo:=zImg_len h1;obtain⟨R,hR⟩:∃ R,(bnd (foldE (imgStep bits a) (mo.map (·.2),[]) z.g) fun st=>bnd (runE (rowStep bits (z.r.map sEven)) (a.zip st.1)) fun r=>(.ok ⟨mo.map (·.1),st.2,r⟩:Except Nat ZO))=R:=⟨_,rfl⟩
  rw[hR];refine conP func200 rfl (by kernel_rfl) ?_;repeat ((first | refine .gF ?_ | refine .eF ?_ | refine callN CI rfl ?_ | refine xK ?_ | rw[decide_eq_true (by omega)] | rw[decide_eq_false (by omega)]); conv=>whnf)
  refine .weaken (i:={ F:=[(2,0)],ren:=[((2,1),(6,1))],fr:=[(0,lU a),(2,i64 bits),(4,.ptr (0,0) 0 0),(6,.ptr (0,1) 0 0),(11,.ptr (5,3) 0 0)],st:=[((0,0),⟨zTy,3,[zo z]⟩),((0,1),⟨zTy,3,[AV.ofVal (ty zTy).zero]⟩),((5,3),⟨zTy,3,[.agg [lD (mo.map (·.1)),nilA,.own (6,1) mo.length]]⟩),((6,1),⟨76,3,(mo.map (·.2)).map dyad⟩)],g:=9 }) ?_ ?_
  ·repeat' (first | exact trivial | exact .inl ⟨.refl _,rfl⟩ | exact⟨.same rfl rfl,nMb rfl,x_L⟩ | exact⟨_,rfl⟩ | exact x_W | exact rfl | exact⟨.less [_] rfl rfl (wk_one (.ag ⟨.frz _ _ (frz_mv (f:=e1) (.head _) rfl (fun _=>rfl) (fun _=>rfl) rfl (fst_map mo)),.le _ _ (.refl _) rfl,.own (6,1) mo.length rfl,trivial⟩)),nMb rfl,x_L⟩ | exact⟨.same (mv_row (f:=e2) rfl (fun _=>rfl) (snd_map mo)) (dy_ok _),nMb rfl,x_L⟩ | exact nMb rfl | exact Nat.le_of_ble_eq_true rfl | refine⟨?_,?_⟩)
   trace_state
  rw[hmo];refine .cut (fun x:List FD×List (List FD)=>foldE (imgStep bits a) (mo.map (·.2),[]) z.g=.ok x/\x.2.length=z.g.length/\x.1.length=a.length) (fun x=>match x.2 with
   |[]=>{ fr:=[(0,lU a),(2,i64 bits),(4,.ptr (0,0) 0 0),(6,.ptr (0,1) 0 0),(11,.ptr (5,3) 0 0)],st:=[((0,0),⟨zTy,3,[zo z]⟩),((0,1),⟨zTy,3,[AV.ofVal (ty zTy).zero]⟩),((5,3),⟨zTy,3,[.agg [lD (mo.map (·.1)),nilA,.own (6,1) a.length]]⟩),((6,1),⟨76,3,x.1.map dyad⟩)],g:=60 }
   |y::l=>{ F:=[(5,0)],fr:=[(0,lU a),(2,i64 bits),(4,.ptr (0,0) 0 0),(6,.ptr (0,1) 0 0),(11,.ptr (5,3) 0 0)],st:=[((0,0),⟨zTy,3,[zo z]⟩),((0,1),⟨zTy,3,[AV.ofVal (ty zTy).zero]⟩),((5,3),⟨zTy,3,[.agg [lD (mo.map (·.1)),lG (y::l),.own (6,1) a.length]]⟩),((6,1),⟨76,3,x.1.map dyad⟩)],g:=60 }) ?_ ?_
  ·repeat ((first | refine .gF ?_ | refine .eF ?_ | refine xK ?_ | rw[decide_eq_true (by omega)] | rw[decide_eq_false (by omega)]); conv=>whnf)
   rw[hlg];refine .block (.loop (fun x:Nat×List FD×List (List FD)=>x.1<=z.g.length/\foldE (imgStep bits a) (mo.map (·.2),[]) (z.g.take x.1)=.ok x.2/\x.2.2.length=x.1/\x.2.1.length=a.length) (fun x=>match x.1 with
    |0=>{ fr:=[(0,lU a),(2,i64 bits),(4,.ptr (0,0) 0 0),(6,.ptr (0,1) 0 0),(11,.ptr (5,3) 0 0),(42,lG z.g),(43,i64 (z.g.length:Nat)),(44,i64 (0:Nat))],st:=[((0,0),⟨zTy,3,[zo z]⟩),((0,1),⟨zTy,3,[AV.ofVal (ty zTy).zero]⟩),((5,3),⟨zTy,3,[.agg [lD (mo.map (·.1)),nilA,.own (6,1) a.length]]⟩),((6,1),⟨76,3,x.2.1.map dyad⟩)],g:=9 }
    |k+1=>{ fr:=[(0,lU a),(2,i64 bits),(4,.ptr (0,0) 0 0),(6,.ptr (0,1) 0 0),(11,.ptr (5,3) 0 0),(42,lG z.g),(43,i64 (z.g.length:Nat)),(44,i64 (k+1:Nat))],st:=[((0,0),⟨zTy,3,[zo z]⟩),((0,1),⟨zTy,3,[AV.ofVal (ty zTy).zero]⟩),((5,3),⟨zTy,3,[.agg [lD (mo.map (·.1)),.own (5,0) (k+1),.own (6,1) a.length]]⟩),((6,1),⟨76,3,x.2.1.map dyad⟩),((5,0),⟨71,1,gsV x.2.2⟩)],g:=9 }) (fun x=>z.g.length-x.1) (0,mo.map (·.2),[]) ⟨Nat.zero_le _,rfl,rfl,by simp; exact hmo⟩ ?_ ?_)
   ·repeat' (first | exact trivial | exact .inl ⟨.refl _,rfl⟩ | exact⟨.same rfl rfl,nMb rfl,x_L⟩ | exact⟨_,rfl⟩ | exact x_W | exact rfl | exact⟨.same rfl (dy_ok _),nMb rfl,x_L⟩ | exact nMb rfl | exact Nat.le_of_ble_eq_true rfl | refine⟨?_,?_⟩)
    trace_state
   rintro⟨i,r,g⟩ ⟨hi,hf,hgl,hrl⟩;cases i with
   |zero =>
    dsimp only at hi hf hgl hrl ⊢;obtain rfl:g=[]:=List.eq_nil_of_length_eq_zero hgl;repeat ((first | refine .gF ?_ | refine .eF ?_ | refine xK ?_ | rw[decide_eq_true (by omega)] | rw[decide_eq_false (by omega)]); conv=>whnf)
    refine Br.mk (fun q=>?_) (fun q=>?_)
    ·have hi':0<z.g.length:=by
      have:=of_decide_eq_true q;omega
     clear q;conv=>whnf
     obtain⟨x,hgi⟩:∃ x,z.g[0]=x:=⟨_,rfl⟩
     have hxr:=hr2 x (by rw[<- hgi]; exact List.getElem_mem hi');have hI:(z.g.map lD)[((0:Nat):Int).toNat]?=some (lD x):=hgi▸lD_get1 hi';have C1:=c_zImg a x bits hb hl hr hxr;cases h2:zImg bits a x with
     |error e =>
      rw[h2] at C1;have hstep:imgStep bits a (r,([]:List (List FD))) x=.error e:=by unfold imgStep; rw[h2]; rfl
      have hR':R=.error e:=by
       rw[<- hR,(foldE_step hi' hf hgi).2 _ hstep];rfl
      rw[hR'];clear hR hR';refine .cut (fun _:Unit=>False) (fun _=>{ fr:=[],st:=[],g:=60 }) ?_ ?_
      ·refine .block ?_;repeat ((first | refine .gF ?_ | refine .eF ?_ | refine callN C1 rfl ?_ | refine⟨_,⟨by omega,hI,rfl,rfl⟩,?_⟩ | refine xK ?_ | rw[decide_eq_true (by omega)] | rw[decide_eq_false (by omega)]); conv=>whnf)
       exact⟨.sh _ _ rfl le_zo0,fin rfl rfl,trivial⟩
      ·rintro⟨⟩ q;exact q.elim
     |ok l =>
      rw[h2] at C1;have hll:=zImg_len h2;have C2:=c_zWid r (l.map (·.2)) bits hb (by simp; omega) (by omega);cases h3:zWid bits r (l.map (·.2)) with
      |error e =>
       rw[h3] at C2;have hstep:imgStep bits a (r,([]:List (List FD))) x=.error e:=by unfold imgStep; rw[h2,bnd_okk]; show bnd (zWid bits r (l.map (·.2))) _=_; rw[h3]; rfl
       have hR':R=.error e:=by
        rw[<- hR,(foldE_step hi' hf hgi).2 _ hstep];rfl
       rw[hR'];clear hR hR';refine .cut (fun _:Unit=>False) (fun _=>{ fr:=[],st:=[],g:=60 }) ?_ ?_
       ·refine .block ?_;repeat ((first | refine .gF ?_ | refine .eF ?_ | refine callN C1 rfl ?_ | refine callNL [(12,1),(6,1)] [lD r,lD (l.map (·.2)),i64 bits] ⟨⟨_,rfl⟩,⟨_,rfl⟩,trivial⟩ ⟨.own2 (.tail _ (.head _)) rfl (by rw[List.length_map]; exact hrl) (closedL_map (fun _=>rfl) _) rfl,frz_mv (f:=e2) (.head _) rfl (fun _=>rfl) (fun _=>rfl) rfl (snd_map l),fin rfl rfl,trivial⟩ C2 ?_ | refine⟨_,⟨by omega,hI,rfl,rfl⟩,?_⟩ | refine xK ?_ | rw[decide_eq_true (by omega)] | rw[decide_eq_false (by omega)]); conv=>whnf)
        exact⟨.sh _ _ rfl le_zo0,fin rfl rfl,trivial⟩
       ·rintro⟨⟩ q;exact q.elim
      |ok r2 =>
       rw[h3] at C2;have hstep:imgStep bits a (r,([]:List (List FD))) x=.ok (r2,([]:List (List FD))++[l.map (·.1)]):=by unfold imgStep; rw[h2,bnd_okk]; show bnd (zWid bits r (l.map (·.2))) _=_; rw[h3]; rfl
       have hnext:=(foldE_step hi' hf hgi).1 _ hstep;have hr2l:=zWid_len h3 (by simp; omega);have hr2n:r2.length=a.length:=by omega
       have hsn:=gsV_snoc ([]:List (List FD)) (l.map (·.1));refine .cut (fun _:Unit=>True) (fun _=>{ F:=[(12,0)],ren:=[((19,4),(5,0)),((16,0),(6,1))],fr:=[(0,lU a),(2,i64 bits),(4,.ptr (0,0) 0 0),(6,.ptr (0,1) 0 0),(11,.ptr (5,3) 0 0),(42,lG z.g),(43,i64 (z.g.length:Nat)),(44,i64 (0:Nat))],st:=[((0,0),⟨zTy,3,[zo z]⟩),((0,1),⟨zTy,3,[AV.ofVal (ty zTy).zero]⟩),((5,3),⟨zTy,3,[.agg [lD (mo.map (·.1)),.own (5,0) (0+1),.own (6,1) a.length]]⟩),((6,1),⟨76,3,r2.map dyad⟩),((5,0),⟨71,1,gsV (([]:List (List FD))++[l.map (·.1)])⟩)],g:=60 }) ?_ ?_
       ·refine .block ?_;repeat ((first | refine .gF ?_ | refine .eF ?_ | refine⟨_,⟨by omega,hI,rfl,rfl⟩,?_⟩ | refine callN C1 rfl ?_ | refine callNL [(12,1),(6,1)] [lD r,lD (l.map (·.2)),i64 bits] ⟨⟨_,rfl⟩,⟨_,rfl⟩,trivial⟩ ⟨.own2 (.tail _ (.head _)) rfl (by rw[List.length_map]; exact hrl) (closedL_map (fun _=>rfl) _) rfl,frz_mv (f:=e2) (.head _) rfl (fun _=>rfl) (fun _=>rfl) rfl (snd_map l),fin rfl rfl,trivial⟩ C2 ?_ | refine⟨⟨by show 0<1; decide,by show 1<=1099511627776; decide,trivial⟩,?_⟩ | refine xK ?_ | rw[decide_eq_true (by omega)] | rw[decide_eq_false (by omega)]); conv=>whnf)
        refine⟨(),trivial,?_⟩;rw[hsn,<- hr2n];repeat' (first | exact trivial | exact .inl ⟨.refl _,rfl⟩ | exact⟨.same rfl rfl,nMb rfl,x_L⟩ | exact⟨_,rfl⟩ | exact x_W | exact rfl | exact⟨.less [_] rfl rfl (wk_one (.ag ⟨.le _ _ (.refl _) rfl,.own (5,0) (0+1) rfl,.own (6,1) r2.length rfl,trivial⟩)),nMb rfl,x_L⟩ | exact⟨.less (gsV ([]:List (List FD))++[_]) rfl (by simp) (wk_snoc (gsV_ok ([]:List (List FD))) (.inr (.inl (frz_mv (f:=e1) (.head _) rfl (fun _=>rfl) (fun _=>rfl) rfl (fst_map l))))),nMb rfl,x_L⟩ | exact⟨.same (mv_row (f:=dyad) rfl (fun _=>rfl) rfl) (dy_ok _),nMb rfl,x_L⟩ | exact nMb rfl | exact Nat.le_of_ble_eq_true rfl | refine⟨?_,?_⟩)
        trace_state
       ·rintro⟨⟩ _;repeat ((first | refine .gF ?_ | refine .eF ?_ | refine xK ?_ | rw[decide_eq_true (by omega)] | rw[decide_eq_false (by omega)]); conv=>whnf)
        refine⟨(0+1,r2,([]:List (List FD))++[l.map (·.1)]),⟨hi',hnext,by rw[List.length_append,hgl]; rfl,by show r2.length=a.length; omega⟩,?_,by show z.g.length-(0+1)<z.g.length-(0); omega⟩;repeat' (first | exact trivial | exact .inl ⟨.refl _,rfl⟩ | exact⟨.same rfl rfl,nMb rfl,x_L⟩ | exact⟨_,rfl⟩ | exact x_W | exact rfl | exact⟨.same rfl (gsV_ok _),nMb rfl,x_L⟩ | exact⟨.same rfl (dy_ok _),nMb rfl,x_L⟩ | exact nMb rfl | exact Nat.le_of_ble_eq_true rfl | refine⟨?_,?_⟩)
        trace_state
    ·have hn:z.g.length=0:=by
      have:=of_decide_eq_false q;omega
     conv=>whnf
     refine⟨(r,[]),⟨?_,by show 0=z.g.length; omega,hrl⟩,?_⟩
     ·have e:z.g=[]:=List.eq_nil_of_length_eq_zero hn;rw[e] at hf ⊢;exact hf
     ·repeat' (first | exact trivial | exact .inl ⟨.refl _,rfl⟩ | exact⟨.same rfl rfl,nMb rfl,x_L⟩ | exact⟨_,rfl⟩ | exact x_W | exact rfl | exact⟨.same rfl (dy_ok _),nMb rfl,x_L⟩ | exact nMb rfl | exact Nat.le_of_ble_eq_true rfl | refine⟨?_,?_⟩)
      trace_state
   |succ k =>
    dsimp only at hi hf hgl hrl ⊢;repeat ((first | refine .gF ?_ | refine .eF ?_ | refine xK ?_ | rw[decide_eq_true (by omega)] | rw[decide_eq_false (by omega)]); conv=>whnf)
    refine Br.mk (fun q=>?_) (fun q=>?_)
    ·have hi':k+1<z.g.length:=by
      have:=of_decide_eq_true q;omega
     clear q;conv=>whnf
     obtain⟨x,hgi⟩:∃ x,z.g[k+1]=x:=⟨_,rfl⟩
     have hxr:=hr2 x (by rw[<- hgi]; exact List.getElem_mem hi');have hI:(z.g.map lD)[((k+1:Nat):Int).toNat]?=some (lD x):=hgi▸lD_get1 hi';have C1:=c_zImg a x bits hb hl hr hxr;cases h2:zImg bits a x with
     |error e =>
      rw[h2] at C1;have hstep:imgStep bits a (r,g) x=.error e:=by unfold imgStep; rw[h2]; rfl
      have hR':R=.error e:=by
       rw[<- hR,(foldE_step hi' hf hgi).2 _ hstep];rfl
      rw[hR'];clear hR hR';refine .cut (fun _:Unit=>False) (fun _=>{ fr:=[],st:=[],g:=60 }) ?_ ?_
      ·refine .block ?_;repeat ((first | refine .gF ?_ | refine .eF ?_ | refine callN C1 rfl ?_ | refine⟨_,⟨by omega,hI,rfl,rfl⟩,?_⟩ | refine xK ?_ | rw[decide_eq_true (by omega)] | rw[decide_eq_false (by omega)]); conv=>whnf)
       exact⟨.sh _ _ rfl le_zo0,fin rfl rfl,trivial⟩
      ·rintro⟨⟩ q;exact q.elim
     |ok l =>
      rw[h2] at C1;have hll:=zImg_len h2;have C2:=c_zWid r (l.map (·.2)) bits hb (by simp; omega) (by omega);cases h3:zWid bits r (l.map (·.2)) with
      |error e =>
       rw[h3] at C2;have hstep:imgStep bits a (r,g) x=.error e:=by unfold imgStep; rw[h2,bnd_okk]; show bnd (zWid bits r (l.map (·.2))) _=_; rw[h3]; rfl
       have hR':R=.error e:=by
        rw[<- hR,(foldE_step hi' hf hgi).2 _ hstep];rfl
       rw[hR'];clear hR hR';refine .cut (fun _:Unit=>False) (fun _=>{ fr:=[],st:=[],g:=60 }) ?_ ?_
       ·refine .block ?_;repeat ((first | refine .gF ?_ | refine .eF ?_ | refine callN C1 rfl ?_ | refine callNL [(12,1),(6,1)] [lD r,lD (l.map (·.2)),i64 bits] ⟨⟨_,rfl⟩,⟨_,rfl⟩,trivial⟩ ⟨.own2 (.tail _ (.head _)) rfl (by rw[List.length_map]; exact hrl) (closedL_map (fun _=>rfl) _) rfl,frz_mv (f:=e2) (.head _) rfl (fun _=>rfl) (fun _=>rfl) rfl (snd_map l),fin rfl rfl,trivial⟩ C2 ?_ | refine⟨_,⟨by omega,hI,rfl,rfl⟩,?_⟩ | refine xK ?_ | rw[decide_eq_true (by omega)] | rw[decide_eq_false (by omega)]); conv=>whnf)
        exact⟨.sh _ _ rfl le_zo0,fin rfl rfl,trivial⟩
       ·rintro⟨⟩ q;exact q.elim
      |ok r2 =>
       rw[h3] at C2;have hstep:imgStep bits a (r,g) x=.ok (r2,g++[l.map (·.1)]):=by unfold imgStep; rw[h2,bnd_okk]; show bnd (zWid bits r (l.map (·.2))) _=_; rw[h3]; rfl
       have hnext:=(foldE_step hi' hf hgi).1 _ hstep;have hr2l:=zWid_len h3 (by simp; omega);have hr2n:r2.length=a.length:=by omega
       have hsn:=gsV_snoc g (l.map (·.1));refine .cut (fun _:Unit=>True) (fun _=>{ F:=[(12,0)],ren:=[((19,4),(5,0)),((16,0),(6,1))],fr:=[(0,lU a),(2,i64 bits),(4,.ptr (0,0) 0 0),(6,.ptr (0,1) 0 0),(11,.ptr (5,3) 0 0),(42,lG z.g),(43,i64 (z.g.length:Nat)),(44,i64 (k+1:Nat))],st:=[((0,0),⟨zTy,3,[zo z]⟩),((0,1),⟨zTy,3,[AV.ofVal (ty zTy).zero]⟩),((5,3),⟨zTy,3,[.agg [lD (mo.map (·.1)),.own (5,0) (k+1+1),.own (6,1) a.length]]⟩),((6,1),⟨76,3,r2.map dyad⟩),((5,0),⟨71,1,gsV (g++[l.map (·.1)])⟩)],g:=60 }) ?_ ?_
       ·refine .block ?_;repeat ((first | refine .gF ?_ | refine .eF ?_ | refine⟨_,⟨by omega,hI,rfl,rfl⟩,?_⟩ | refine callN C1 rfl ?_ | refine callNL [(12,1),(6,1)] [lD r,lD (l.map (·.2)),i64 bits] ⟨⟨_,rfl⟩,⟨_,rfl⟩,trivial⟩ ⟨.own2 (.tail _ (.head _)) rfl (by rw[List.length_map]; exact hrl) (closedL_map (fun _=>rfl) _) rfl,frz_mv (f:=e2) (.head _) rfl (fun _=>rfl) (fun _=>rfl) rfl (snd_map l),fin rfl rfl,trivial⟩ C2 ?_ | refine⟨⟨by show (gsV g).length=k+1; simp[gsV,hgl],rfl,rfl,by show k+1+1<=1099511627776; omega,trivial⟩,?_⟩ | refine xK ?_ | rw[decide_eq_true (by omega)] | rw[decide_eq_false (by omega)]); conv=>whnf)
        refine⟨(),trivial,?_⟩;rw[hsn,<- hr2n];repeat' (first | exact trivial | exact .inl ⟨.refl _,rfl⟩ | exact⟨.same rfl rfl,nMb rfl,x_L⟩ | exact⟨_,rfl⟩ | exact x_W | exact rfl | exact⟨.less [_] rfl rfl (wk_one (.ag ⟨.le _ _ (.refl _) rfl,.own (5,0) (k+1+1) rfl,.own (6,1) r2.length rfl,trivial⟩)),nMb rfl,x_L⟩ | exact⟨.less (gsV g++[_]) rfl (by simp) (wk_snoc (gsV_ok g) (.inr (.inl (frz_mv (f:=e1) (.head _) rfl (fun _=>rfl) (fun _=>rfl) rfl (fst_map l))))),nMb rfl,x_L⟩ | exact⟨.same (mv_row (f:=dyad) rfl (fun _=>rfl) rfl) (dy_ok _),nMb rfl,x_L⟩ | exact nMb rfl | exact Nat.le_of_ble_eq_true rfl | refine⟨?_,?_⟩)
        trace_state
       ·rintro⟨⟩ _;repeat ((first | refine .gF ?_ | refine .eF ?_ | refine xK ?_ | rw[decide_eq_true (by omega)] | rw[decide_eq_false (by omega)]); conv=>whnf)
        refine⟨(k+1+1,r2,g++[l.map (·.1)]),⟨hi',hnext,by rw[List.length_append,hgl]; rfl,by show r2.length=a.length; omega⟩,?_,by show z.g.length-(k+1+1)<z.g.length-(k+1); omega⟩;repeat' (first | exact trivial | exact .inl ⟨.refl _,rfl⟩ | exact⟨.same rfl rfl,nMb rfl,x_L⟩ | exact⟨_,rfl⟩ | exact x_W | exact rfl | exact⟨.same rfl (gsV_ok _),nMb rfl,x_L⟩ | exact⟨.same rfl (dy_ok _),nMb rfl,x_L⟩ | exact nMb rfl | exact Nat.le_of_ble_eq_true rfl | refine⟨?_,?_⟩)
        trace_state
    ·have hn:z.g.length=k+1:=by
      have:=of_decide_eq_false q;omega
     conv=>whnf
     refine⟨(r,g),⟨?_,by show g.length=z.g.length; omega,hrl⟩,?_⟩
     ·rw[<- hn,List.take_length] at hf;exact hf
     ·cases g with
      |nil=>cases hgl
      |cons y l =>
       have hll:l.length=k:=by simpa using hgl
       subst hll;repeat' (first | exact trivial | exact .inl ⟨.refl _,rfl⟩ | exact⟨.same rfl rfl,nMb rfl,x_L⟩ | exact⟨_,rfl⟩ | exact x_W | exact rfl | exact⟨.same rfl (dy_ok _),nMb rfl,x_L⟩ | exact⟨.less [_] rfl rfl (wk_one (.ag ⟨.le _ _ (.refl _) rfl,.frz _ _ (.own2 (.head _) rfl (by simp[gsV]) (gsV_cl _) rfl),.le _ _ (.refl _) rfl,trivial⟩)),nMb rfl,x_L⟩ | exact nMb rfl | exact Nat.le_of_ble_eq_true rfl | refine⟨?_,?_⟩)
       trace_state
  ·rintro⟨r,g⟩ ⟨hf,hgl,hrl⟩;dsimp only at hgl hrl;rw[hf] at hR
   replace hR:(bnd (runE (rowStep bits (z.r.map sEven)) (a.zip r)) fun r=>(.ok ⟨mo.map (·.1),g,r⟩:Except Nat ZO))=R:=hR
   cases g with
   |nil =>
    dsimp only;have hzl:(((z.r.map dyad).length:Nat):Int)=(z.r.length:Int):=by simp
    have hll:(lenLim:Int)=1099511627776:=rfl;repeat ((first | refine .gF ?_ | refine .eF ?_ | refine⟨⟨by omega,rfl,by simp only[lenLim]; omega⟩,?_⟩ | refine xK ?_ | rw[decide_eq_true (by omega)] | rw[decide_eq_false (by omega)]); conv=>whnf)
    refine .cut (fun _:Unit=>True) (fun _=>{ F:=[(60,3)],fr:=[(0,lU a),(2,i64 bits),(4,.ptr (0,0) 0 0),(6,.ptr (0,1) 0 0),(11,.ptr (5,3) 0 0),(17,lS (z.r.map sEven))],st:=[((0,0),⟨zTy,3,[zo z]⟩),((0,1),⟨zTy,3,[AV.ofVal (ty zTy).zero]⟩),((5,3),⟨zTy,3,[.agg [lD (mo.map (·.1)),nilA,.own (6,1) a.length]]⟩),((6,1),⟨76,3,r.map dyad⟩)],g:=60 }) ?_ ?_
    ·repeat ((first | refine .gF ?_ | refine .eF ?_ | refine xK ?_ | rw[decide_eq_true (by omega)] | rw[decide_eq_false (by omega)]); conv=>whnf)
     rw[hzl];refine .block (.loop (fun q:List FS=>q.length<=z.r.length/\q=(z.r.take q.length).map sEven) (fun q=>{ fr:=[(0,lU a),(2,i64 bits),(4,.ptr (0,0) 0 0),(6,.ptr (0,1) 0 0),(11,.ptr (5,3) 0 0),(17,.own (60,3) z.r.length),(85,lD z.r),(86,i64 (z.r.length:Nat)),(87,i64 (q.length:Nat))],st:=[((0,0),⟨zTy,3,[zo z]⟩),((0,1),⟨zTy,3,[AV.ofVal (ty zTy).zero]⟩),((5,3),⟨zTy,3,[.agg [lD (mo.map (·.1)),nilA,.own (6,1) a.length]]⟩),((6,1),⟨76,3,r.map dyad⟩),((60,3),⟨150,6,fillV spa zSp z.r.length q⟩)],g:=61 }) (fun q=>z.r.length-q.length) [] ⟨Nat.zero_le _,rfl⟩ ?_ ?_)
     ·dsimp only;rw[fillV_nil];repeat' (first | exact trivial | exact .inl ⟨.refl _,rfl⟩ | exact⟨.same rfl rfl,nMb rfl,x_L⟩ | exact⟨_,rfl⟩ | exact x_W | exact rfl | exact⟨.same rfl (dy_ok _),nMb rfl,x_L⟩ | exact .same rfl (ltL_rep rfl _) | exact nMb rfl | exact Nat.le_of_ble_eq_true rfl | refine⟨?_,?_⟩)
      trace_state
     rintro q ⟨h1,h2⟩;dsimp only at h1 h2 ⊢;repeat ((first | refine .gF ?_ | refine .eF ?_ | refine xK ?_ | rw[decide_eq_true (by omega)] | rw[decide_eq_false (by omega)]); conv=>whnf)
     refine Br.mk (fun b=>?_) (fun b=>?_)
     ·have hlt:q.length<z.r.length:=by
       have:=of_decide_eq_true b;omega
      clear b;have hA:=lD_get hlt;have hn:q++[sEven z.r[q.length]]=(z.r.take (q.length+1)).map sEven:=by rw[List.take_succ_eq_append_getElem hlt,List.map_append,<- h2]; rfl
      obtain⟨x,hx⟩:∃ x,z.r[q.length]=x:=⟨_,rfl⟩
      rw[hx] at hA hn;have C1:=c_sEven x;conv=>whnf
      refine .cut (fun _:Unit=>True) (fun _=>{ fr:=[(0,lU a),(2,i64 bits),(4,.ptr (0,0) 0 0),(6,.ptr (0,1) 0 0),(11,.ptr (5,3) 0 0),(17,.own (60,3) z.r.length),(85,lD z.r),(86,i64 (z.r.length:Nat)),(87,i64 (q.length:Nat))],st:=[((0,0),⟨zTy,3,[zo z]⟩),((0,1),⟨zTy,3,[AV.ofVal (ty zTy).zero]⟩),((5,3),⟨zTy,3,[.agg [lD (mo.map (·.1)),nilA,.own (6,1) a.length]]⟩),((6,1),⟨76,3,r.map dyad⟩),((60,3),⟨150,6,fillV spa zSp z.r.length (q++[sEven x])⟩)],g:=61 }) ?_ ?_
      ·refine .block ?_;repeat ((first | refine .gF ?_ | refine .eF ?_ | refine cE C1 ?_ | refine⟨_,⟨by omega,hA,rfl,rfl⟩,?_⟩ | refine⟨⟨rfl,rfl⟩,⟨by omega,by omega⟩,?_⟩ | refine elA_mk zSp (fillV_get (enc:=spa) (z:=zSp) hlt) ?_ | refine xK ?_ | rw[decide_eq_true (by omega)] | rw[decide_eq_false (by omega)]); conv=>whnf)
       refine⟨(),trivial,?_⟩;repeat' (first | exact trivial | exact .inl ⟨.refl _,rfl⟩ | exact⟨.same rfl rfl,nMb rfl,x_L⟩ | exact⟨_,rfl⟩ | exact x_W | exact rfl | exact⟨.same rfl (dy_ok _),nMb rfl,x_L⟩ | exact .same (congrArg (fun z=>some (Row.mk 150 6 z)) (fillV_set (enc:=spa) (x:=sEven x) hlt)) (ltL_fillV (fun _=>rfl) rfl) | exact nMb rfl | exact Nat.le_of_ble_eq_true rfl | refine⟨?_,?_⟩)
       trace_state
      ·rintro⟨⟩ _;repeat ((first | refine .gF ?_ | refine .eF ?_ | refine xK ?_ | rw[decide_eq_true (by omega)] | rw[decide_eq_false (by omega)]); conv=>whnf)
       refine⟨q++[sEven x],⟨by simp; omega,by rw[List.length_append]; exact hn⟩,?_,by show z.r.length-(q++[sEven x]).length<z.r.length-q.length; simp; omega⟩;repeat' (first | exact trivial | exact .inl ⟨.refl _,rfl⟩ | exact⟨.same rfl rfl,nMb rfl,x_L⟩ | exact⟨_,rfl⟩ | exact x_W | exact rfl | exact⟨.same rfl (dy_ok _),nMb rfl,x_L⟩ | exact .same rfl (ltL_fillV (fun _=>rfl) rfl) | exact x_E ((wI (n:=(q.length:Int)+1) (by omega) (by omega)).trans (by simp)) | exact nMb rfl | exact Nat.le_of_ble_eq_true rfl | refine⟨?_,?_⟩)
       trace_state
     ·have he:q.length=z.r.length:=by
       have:=of_decide_eq_false b;omega
      conv=>whnf
      refine⟨(),trivial,?_⟩;dsimp only;rw[he,List.take_length] at h2;rw[<- h2,fillV_full (enc:=spa) (z:=zSp) he];repeat' (first | exact trivial | exact .inl ⟨.refl _,rfl⟩ | exact⟨.same rfl rfl,nMb rfl,x_L⟩ | exact⟨_,rfl⟩ | exact x_W | exact rfl | exact⟨.same rfl (dy_ok _),nMb rfl,x_L⟩ | exact .inr (.inl (.own2 (.head _) rfl (by simp[he]) (closedL_map (fun _=>rfl) _) rfl)) | exact nMb rfl | exact Nat.le_of_ble_eq_true rfl | refine⟨?_,?_⟩)
      trace_state
    ·rintro⟨⟩ _;have hla:((((a.map lS)).length:Nat):Int)=(a.length:Int):=by simp
     obtain⟨S,hS⟩:∃ S,z.r.map sEven=S:=⟨_,rfl⟩
     rw[hS] at hR ⊢;dsimp only;refine .cut (fun q:List FD=>runE (rowStep bits S) (a.zip r)=.ok q/\q.length=a.length) (fun q=>{ fr:=[(4,.ptr (0,0) 0 0),(6,.ptr (0,1) 0 0),(11,.ptr (5,3) 0 0)],st:=[((0,0),⟨zTy,3,[zo z]⟩),((0,1),⟨zTy,3,[AV.ofVal (ty zTy).zero]⟩),((5,3),⟨zTy,3,[.agg [lD (mo.map (·.1)),nilA,.own (6,1) a.length]]⟩),((6,1),⟨76,3,q.map dyad⟩)],g:=60 }) ?_ ?_
     ·repeat ((first | refine .gF ?_ | refine .eF ?_ | refine xK ?_ | rw[decide_eq_true (by omega)] | rw[decide_eq_false (by omega)]); conv=>whnf)
      rw[hla];refine .block (.loop (fun q:List FD=>q.length<=a.length/\runE (rowStep bits S) ((a.zip r).take q.length)=.ok q) (fun q=>{ fr:=[(0,lU a),(2,i64 bits),(4,.ptr (0,0) 0 0),(6,.ptr (0,1) 0 0),(11,.ptr (5,3) 0 0),(17,lS S),(98,lU a),(99,i64 (a.length:Nat)),(100,i64 (q.length:Nat))],st:=[((0,0),⟨zTy,3,[zo z]⟩),((0,1),⟨zTy,3,[AV.ofVal (ty zTy).zero]⟩),((5,3),⟨zTy,3,[.agg [lD (mo.map (·.1)),nilA,.own (6,1) a.length]]⟩),((6,1),⟨76,3,(q++r.drop q.length).map dyad⟩)],g:=61 }) (fun q=>a.length-q.length) [] ⟨Nat.zero_le _,rfl⟩ ?_ ?_)
      ·dsimp only;repeat' (first | exact trivial | exact .inl ⟨.refl _,rfl⟩ | exact⟨.same rfl rfl,nMb rfl,x_L⟩ | exact⟨_,rfl⟩ | exact x_W | exact rfl | exact⟨.same rfl (dy_ok _),nMb rfl,x_L⟩ | exact nMb rfl | exact Nat.le_of_ble_eq_true rfl | refine⟨?_,?_⟩)
       trace_state
      rintro q ⟨h1,h2⟩;dsimp only at h1 h2 ⊢;repeat ((first | refine .gF ?_ | refine .eF ?_ | refine xK ?_ | rw[decide_eq_true (by omega)] | rw[decide_eq_false (by omega)]); conv=>whnf)
      refine Br.mk (fun b=>?_) (fun b=>?_)
      ·have hlt:q.length<a.length:=by
        have:=of_decide_eq_true b;omega
       clear b;have hltr:q.length<r.length:=by omega
       have hA:=lU_get hlt;have hz:=zipl_get hlt (Nat.le_of_eq hrl.symm);have hstep:=fun (x:FD) (e:Nat)=>runE_step (f:=rowStep bits S) (l:=a.zip r) (d:=d0) (x:=x) (e:=e) (by rw[zipl_len (Nat.le_of_eq hrl.symm)]; exact hlt) h2
       rw[hz] at hstep;have hd:r.drop q.length=r[q.length]::r.drop (q.length+1):=List.drop_eq_getElem_cons hltr;have C1:=c_vInner a[q.length] S bits hb (hr _ (List.getElem_mem hlt));obtain⟨w,hw⟩:∃ w,a[q.length]=w:=⟨_,rfl⟩
       obtain⟨y,hy⟩:∃ y,r[q.length]=y:=⟨_,rfl⟩
       rw[hw] at hA hstep C1;rw[hy] at hstep hd;rw[hd];have hset:((q++y::r.drop (q.length+1)).map dyad).length=r.length:=by rw[<- hd]; simp; omega
       conv=>whnf
       cases hs:vInner bits w S with
       |error e =>
        rw[hs] at C1;have hw2:rowStep bits S (w,y)=.error e:=by unfold rowStep; show bnd (vInner bits w S) _=_; rw[hs]; rfl
        have he:=(hstep d0 (e+1) (by rw[hw2]; rfl) (by rw[hw2]; rfl)).1 (by omega);rw[he] at hR;rw[<- hR];refine .cut (fun _:Unit=>False) (fun _=>{ fr:=[],st:=[],g:=60 }) ?_ ?_
        ·refine .block ?_;repeat ((first | refine .gF ?_ | refine .eF ?_ | refine cE C1 ?_ | refine⟨_,⟨by omega,hA,rfl,rfl⟩,?_⟩ | refine xK ?_ | rw[decide_eq_true (by omega)] | rw[decide_eq_false (by omega)]); conv=>whnf)
         exact⟨.sh _ _ rfl le_zo0,fin rfl rfl,trivial⟩
        ·rintro⟨⟩ q;exact q.elim
       |ok s =>
        rw[hs] at C1;have C3:=c_sSize s;have hw1:IntKind.i64.wrap ((q.length:Int)+1)=(q.length:Int)+1:=wI (by omega) (by omega);have hone:(IntKind.i64.wrap ((q.length:Int)+1)-(q.length:Int)).toNat=1:=by rw[hw1]; omega
        have hset2:((q++y::r.drop (q.length+1)).map dyad).length=a.length:=by rw[hset,hrl]
        have C4:=c_wid1M q (r.drop (q.length+1)) y (sSize s) bits hb (by omega);cases hv:wid1 bits (y,sSize s) with
        |error e =>
         rw[hv] at C4;have hw2:rowStep bits S (w,y)=.error e:=by unfold rowStep; show bnd (vInner bits w S) _=_; rw[hs]; exact hv
         have he:=(hstep d0 (e+1) (by rw[hw2]; rfl) (by rw[hw2]; rfl)).1 (by omega);rw[he] at hR;rw[<- hR];refine .cut (fun _:Unit=>False) (fun _=>{ fr:=[],st:=[],g:=60 }) ?_ ?_
         ·refine .block ?_;repeat ((first | refine .gF ?_ | refine .eF ?_ | refine cE C1 ?_ | refine cE C3 ?_ | refine⟨_,⟨by omega,hA,rfl,rfl⟩,?_⟩ | refine⟨⟨rfl,hset2,by omega,by rw[hw1]; omega,by rw[hw1]; omega⟩,?_⟩ | refine trueA_mk (closedL_map (fun _=>rfl) _) ?_ | rw[hone] | refine callMD [(6,1)] [.osl (0,0) q.length 1,.sl [dyad (sSize s)],i64 bits] [⟨76,3,(q++y::r.drop (q.length+1)).map dyad⟩] ⟨.osl 0 (6,1) _ _ rfl,.sh _ _ rfl (.refl _),.sh _ _ rfl (.refl _),trivial⟩ ⟨⟨rfl,closedL_map (fun _=>rfl) _⟩,trivial⟩ (by simp) rfl C4 rfl ?_ | refine xK ?_ | rw[decide_eq_true (by omega)] | rw[decide_eq_false (by omega)]); conv=>whnf)
          exact⟨.sh _ _ rfl le_zo0,fin rfl rfl,trivial⟩
         ·rintro⟨⟩ q;exact q.elim
        |ok d =>
         rw[hv] at C4;have hw2:rowStep bits S (w,y)=.ok d:=by unfold rowStep; show bnd (vInner bits w S) _=_; rw[hs]; exact hv
         have he:=(hstep d 0 (by rw[hw2]; rfl) (by rw[hw2]; rfl)).2 rfl;have hq1:(q++[d]).length=q.length+1:=by simp
         have hgetq:((q++y::r.drop (q.length+1)).map dyad)[q.length]?=some (dyad y):=by
          rw[List.getElem?_map,List.getElem?_append_right (Nat.le_refl _),Nat.sub_self];rfl
         have hputq:((q++y::r.drop (q.length+1)).map dyad).set q.length (dyad d)=((q++[d])++r.drop (q++[d]).length).map dyad:=by
          rw[hq1,<- List.map_set,List.set_append_right _ _ (Nat.le_refl _),Nat.sub_self,List.append_assoc];rfl
         refine .cut (fun _:Unit=>True) (fun _=>{ fr:=[(0,lU a),(2,i64 bits),(4,.ptr (0,0) 0 0),(6,.ptr (0,1) 0 0),(11,.ptr (5,3) 0 0),(17,lS S),(98,lU a),(99,i64 (a.length:Nat)),(100,i64 (q.length:Nat))],st:=[((0,0),⟨zTy,3,[zo z]⟩),((0,1),⟨zTy,3,[AV.ofVal (ty zTy).zero]⟩),((5,3),⟨zTy,3,[.agg [lD (mo.map (·.1)),nilA,.own (6,1) a.length]]⟩),((6,1),⟨76,3,((q++[d])++r.drop (q++[d]).length).map dyad⟩)],g:=61 }) ?_ ?_
         ·refine .block ?_;repeat ((first | refine .gF ?_ | refine .eF ?_ | refine cE C1 ?_ | refine cE C3 ?_ | refine⟨_,⟨by omega,hA,rfl,rfl⟩,?_⟩ | refine⟨⟨rfl,hset2,by omega,by rw[hw1]; omega,by rw[hw1]; omega⟩,?_⟩ | refine trueA_mk (closedL_map (fun _=>rfl) _) ?_ | rw[hone] | refine callMD [(6,1)] [.osl (0,0) q.length 1,.sl [dyad (sSize s)],i64 bits] [⟨76,3,(q++y::r.drop (q.length+1)).map dyad⟩] ⟨.osl 0 (6,1) _ _ rfl,.sh _ _ rfl (.refl _),.sh _ _ rfl (.refl _),trivial⟩ ⟨⟨rfl,closedL_map (fun _=>rfl) _⟩,trivial⟩ (by simp) rfl C4 rfl ?_ | refine⟨_,⟨by decide,rfl,rfl,rfl⟩,?_⟩ | refine⟨⟨rfl,rfl⟩,⟨by omega,by omega⟩,?_⟩ | refine elA_mk (dyad y) hgetq ?_ | refine xK ?_ | rw[decide_eq_true (by omega)] | rw[decide_eq_false (by omega)]); conv=>whnf)
          refine⟨(),trivial,?_⟩;repeat' (first | exact trivial | exact .inl ⟨.refl _,rfl⟩ | exact⟨.same rfl rfl,nMb rfl,x_L⟩ | exact⟨_,rfl⟩ | exact x_W | exact rfl | exact⟨.same (congrArg (fun z=>some (Row.mk 76 3 z)) hputq) (dy_ok _),nMb rfl,x_L⟩ | exact nMb rfl | exact Nat.le_of_ble_eq_true rfl | refine⟨?_,?_⟩)
          trace_state
         ·rintro⟨⟩ _;repeat ((first | refine .gF ?_ | refine .eF ?_ | refine xK ?_ | rw[decide_eq_true (by omega)] | rw[decide_eq_false (by omega)]); conv=>whnf)
          refine⟨q++[d],⟨by omega,by rw[hq1]; exact he⟩,?_,by show a.length-(q++[d]).length<a.length-q.length; omega⟩;repeat' (first | exact trivial | exact .inl ⟨.refl _,rfl⟩ | exact⟨.same rfl rfl,nMb rfl,x_L⟩ | exact⟨_,rfl⟩ | exact x_W | exact rfl | exact⟨.same rfl (dy_ok _),nMb rfl,x_L⟩ | exact x_E ((wI (n:=(q.length:Int)+1) (by omega) (by omega)).trans (by simp)) | exact nMb rfl | exact Nat.le_of_ble_eq_true rfl | refine⟨?_,?_⟩)
          trace_state
      ·have he:q.length=a.length:=by
        have:=of_decide_eq_false b;omega
       conv=>whnf
       refine⟨q,⟨?_,he⟩,?_⟩
       ·rw[he,<- zipl_len (Nat.le_of_eq hrl.symm),List.take_length] at h2;exact h2
       ·have hz:q++r.drop q.length=q:=by rw[he,<- hrl,List.drop_length,List.append_nil]
        dsimp only;rw[hz];repeat' (first | exact trivial | exact .inl ⟨.refl _,rfl⟩ | exact⟨.same rfl rfl,nMb rfl,x_L⟩ | exact⟨_,rfl⟩ | exact x_W | exact rfl | exact⟨.same rfl (dy_ok _),nMb rfl,x_L⟩ | exact nMb rfl | exact Nat.le_of_ble_eq_true rfl | refine⟨?_,?_⟩)
        trace_state
     ·rintro q ⟨hq,hql⟩;rw[hq] at hR;rw[<- hR];dsimp only;repeat ((first | refine .gF ?_ | refine .eF ?_ | refine xK ?_ | rw[decide_eq_true (by omega)] | rw[decide_eq_false (by omega)]); conv=>whnf)
      exact⟨.agg _ _ rfl (frz3 (.sh _ _ rfl (.refl _)) (.sh _ _ rfl .nil) (.own2 trivial rfl (by simp[hql]) (closedL_map (fun _=>rfl) _) rfl)),fin rfl rfl,trivial⟩
   |cons g0 gs =>
    have hzl:(((z.r.map dyad).length:Nat):Int)=(z.r.length:Int):=by simp
    have hll:(lenLim:Int)=1099511627776:=rfl;repeat ((first | refine .gF ?_ | refine .eF ?_ | refine⟨⟨by omega,rfl,by simp only[lenLim]; omega⟩,?_⟩ | refine xK ?_ | rw[decide_eq_true (by omega)] | rw[decide_eq_false (by omega)]); conv=>whnf)
    refine .cut (fun _:Unit=>True) (fun _=>{ F:=[(60,3)],fr:=[(0,lU a),(2,i64 bits),(4,.ptr (0,0) 0 0),(6,.ptr (0,1) 0 0),(11,.ptr (5,3) 0 0),(17,lS (z.r.map sEven))],st:=[((0,0),⟨zTy,3,[zo z]⟩),((0,1),⟨zTy,3,[AV.ofVal (ty zTy).zero]⟩),((5,3),⟨zTy,3,[.agg [lD (mo.map (·.1)),lG (g0::gs),.own (6,1) a.length]]⟩),((6,1),⟨76,3,r.map dyad⟩)],g:=60 }) ?_ ?_
    ·repeat ((first | refine .gF ?_ | refine .eF ?_ | refine xK ?_ | rw[decide_eq_true (by omega)] | rw[decide_eq_false (by omega)]); conv=>whnf)
     rw[hzl];refine .block (.loop (fun q:List FS=>q.length<=z.r.length/\q=(z.r.take q.length).map sEven) (fun q=>{ fr:=[(0,lU a),(2,i64 bits),(4,.ptr (0,0) 0 0),(6,.ptr (0,1) 0 0),(11,.ptr (5,3) 0 0),(17,.own (60,3) z.r.length),(85,lD z.r),(86,i64 (z.r.length:Nat)),(87,i64 (q.length:Nat))],st:=[((0,0),⟨zTy,3,[zo z]⟩),((0,1),⟨zTy,3,[AV.ofVal (ty zTy).zero]⟩),((5,3),⟨zTy,3,[.agg [lD (mo.map (·.1)),lG (g0::gs),.own (6,1) a.length]]⟩),((6,1),⟨76,3,r.map dyad⟩),((60,3),⟨150,6,fillV spa zSp z.r.length q⟩)],g:=61 }) (fun q=>z.r.length-q.length) [] ⟨Nat.zero_le _,rfl⟩ ?_ ?_)
     ·dsimp only;rw[fillV_nil];repeat' (first | exact trivial | exact .inl ⟨.refl _,rfl⟩ | exact⟨.same rfl rfl,nMb rfl,x_L⟩ | exact⟨_,rfl⟩ | exact x_W | exact rfl | exact⟨.same rfl (dy_ok _),nMb rfl,x_L⟩ | exact .same rfl (ltL_rep rfl _) | exact nMb rfl | exact Nat.le_of_ble_eq_true rfl | refine⟨?_,?_⟩)
      trace_state
     rintro q ⟨h1,h2⟩;dsimp only at h1 h2 ⊢;repeat ((first | refine .gF ?_ | refine .eF ?_ | refine xK ?_ | rw[decide_eq_true (by omega)] | rw[decide_eq_false (by omega)]); conv=>whnf)
     refine Br.mk (fun b=>?_) (fun b=>?_)
     ·have hlt:q.length<z.r.length:=by
       have:=of_decide_eq_true b;omega
      clear b;have hA:=lD_get hlt;have hn:q++[sEven z.r[q.length]]=(z.r.take (q.length+1)).map sEven:=by rw[List.take_succ_eq_append_getElem hlt,List.map_append,<- h2]; rfl
      obtain⟨x,hx⟩:∃ x,z.r[q.length]=x:=⟨_,rfl⟩
      rw[hx] at hA hn;have C1:=c_sEven x;conv=>whnf
      refine .cut (fun _:Unit=>True) (fun _=>{ fr:=[(0,lU a),(2,i64 bits),(4,.ptr (0,0) 0 0),(6,.ptr (0,1) 0 0),(11,.ptr (5,3) 0 0),(17,.own (60,3) z.r.length),(85,lD z.r),(86,i64 (z.r.length:Nat)),(87,i64 (q.length:Nat))],st:=[((0,0),⟨zTy,3,[zo z]⟩),((0,1),⟨zTy,3,[AV.ofVal (ty zTy).zero]⟩),((5,3),⟨zTy,3,[.agg [lD (mo.map (·.1)),lG (g0::gs),.own (6,1) a.length]]⟩),((6,1),⟨76,3,r.map dyad⟩),((60,3),⟨150,6,fillV spa zSp z.r.length (q++[sEven x])⟩)],g:=61 }) ?_ ?_
      ·refine .block ?_;repeat ((first | refine .gF ?_ | refine .eF ?_ | refine cE C1 ?_ | refine⟨_,⟨by omega,hA,rfl,rfl⟩,?_⟩ | refine⟨⟨rfl,rfl⟩,⟨by omega,by omega⟩,?_⟩ | refine elA_mk zSp (fillV_get (enc:=spa) (z:=zSp) hlt) ?_ | refine xK ?_ | rw[decide_eq_true (by omega)] | rw[decide_eq_false (by omega)]); conv=>whnf)
       refine⟨(),trivial,?_⟩;repeat' (first | exact trivial | exact .inl ⟨.refl _,rfl⟩ | exact⟨.same rfl rfl,nMb rfl,x_L⟩ | exact⟨_,rfl⟩ | exact x_W | exact rfl | exact⟨.same rfl (dy_ok _),nMb rfl,x_L⟩ | exact .same (congrArg (fun z=>some (Row.mk 150 6 z)) (fillV_set (enc:=spa) (x:=sEven x) hlt)) (ltL_fillV (fun _=>rfl) rfl) | exact nMb rfl | exact Nat.le_of_ble_eq_true rfl | refine⟨?_,?_⟩)
       trace_state
      ·rintro⟨⟩ _;repeat ((first | refine .gF ?_ | refine .eF ?_ | refine xK ?_ | rw[decide_eq_true (by omega)] | rw[decide_eq_false (by omega)]); conv=>whnf)
       refine⟨q++[sEven x],⟨by simp; omega,by rw[List.length_append]; exact hn⟩,?_,by show z.r.length-(q++[sEven x]).length<z.r.length-q.length; simp; omega⟩;repeat' (first | exact trivial | exact .inl ⟨.refl _,rfl⟩ | exact⟨.same rfl rfl,nMb rfl,x_L⟩ | exact⟨_,rfl⟩ | exact x_W | exact rfl | exact⟨.same rfl (dy_ok _),nMb rfl,x_L⟩ | exact .same rfl (ltL_fillV (fun _=>rfl) rfl) | exact x_E ((wI (n:=(q.length:Int)+1) (by omega) (by omega)).trans (by simp)) | exact nMb rfl | exact Nat.le_of_ble_eq_true rfl | refine⟨?_,?_⟩)
       trace_state
     ·have he:q.length=z.r.length:=by
       have:=of_decide_eq_false b;omega
      conv=>whnf
      refine⟨(),trivial,?_⟩;dsimp only;rw[he,List.take_length] at h2;rw[<- h2,fillV_full (enc:=spa) (z:=zSp) he];repeat' (first | exact trivial | exact .inl ⟨.refl _,rfl⟩ | exact⟨.same rfl rfl,nMb rfl,x_L⟩ | exact⟨_,rfl⟩ | exact x_W | exact rfl | exact⟨.same rfl (dy_ok _),nMb rfl,x_L⟩ | exact .inr (.inl (.own2 (.head _) rfl (by simp[he]) (closedL_map (fun _=>rfl) _) rfl)) | exact nMb rfl | exact Nat.le_of_ble_eq_true rfl | refine⟨?_,?_⟩)
      trace_state
    ·rintro⟨⟩ _;have hla:((((a.map lS)).length:Nat):Int)=(a.length:Int):=by simp
     obtain⟨S,hS⟩:∃ S,z.r.map sEven=S:=⟨_,rfl⟩
     rw[hS] at hR ⊢;dsimp only;refine .cut (fun q:List FD=>runE (rowStep bits S) (a.zip r)=.ok q/\q.length=a.length) (fun q=>{ fr:=[(4,.ptr (0,0) 0 0),(6,.ptr (0,1) 0 0),(11,.ptr (5,3) 0 0)],st:=[((0,0),⟨zTy,3,[zo z]⟩),((0,1),⟨zTy,3,[AV.ofVal (ty zTy).zero]⟩),((5,3),⟨zTy,3,[.agg [lD (mo.map (·.1)),lG (g0::gs),.own (6,1) a.length]]⟩),((6,1),⟨76,3,q.map dyad⟩)],g:=60 }) ?_ ?_
     ·repeat ((first | refine .gF ?_ | refine .eF ?_ | refine xK ?_ | rw[decide_eq_true (by omega)] | rw[decide_eq_false (by omega)]); conv=>whnf)
      rw[hla];refine .block (.loop (fun q:List FD=>q.length<=a.length/\runE (rowStep bits S) ((a.zip r).take q.length)=.ok q) (fun q=>{ fr:=[(0,lU a),(2,i64 bits),(4,.ptr (0,0) 0 0),(6,.ptr (0,1) 0 0),(11,.ptr (5,3) 0 0),(17,lS S),(98,lU a),(99,i64 (a.length:Nat)),(100,i64 (q.length:Nat))],st:=[((0,0),⟨zTy,3,[zo z]⟩),((0,1),⟨zTy,3,[AV.ofVal (ty zTy).zero]⟩),((5,3),⟨zTy,3,[.agg [lD (mo.map (·.1)),lG (g0::gs),.own (6,1) a.length]]⟩),((6,1),⟨76,3,(q++r.drop q.length).map dyad⟩)],g:=61 }) (fun q=>a.length-q.length) [] ⟨Nat.zero_le _,rfl⟩ ?_ ?_)
      ·dsimp only;repeat' (first | exact trivial | exact .inl ⟨.refl _,rfl⟩ | exact⟨.same rfl rfl,nMb rfl,x_L⟩ | exact⟨_,rfl⟩ | exact x_W | exact rfl | exact⟨.same rfl (dy_ok _),nMb rfl,x_L⟩ | exact nMb rfl | exact Nat.le_of_ble_eq_true rfl | refine⟨?_,?_⟩)
       trace_state
      rintro q ⟨h1,h2⟩;dsimp only at h1 h2 ⊢;repeat ((first | refine .gF ?_ | refine .eF ?_ | refine xK ?_ | rw[decide_eq_true (by omega)] | rw[decide_eq_false (by omega)]); conv=>whnf)
      refine Br.mk (fun b=>?_) (fun b=>?_)
      ·have hlt:q.length<a.length:=by
        have:=of_decide_eq_true b;omega
       clear b;have hltr:q.length<r.length:=by omega
       have hA:=lU_get hlt;have hz:=zipl_get hlt (Nat.le_of_eq hrl.symm);have hstep:=fun (x:FD) (e:Nat)=>runE_step (f:=rowStep bits S) (l:=a.zip r) (d:=d0) (x:=x) (e:=e) (by rw[zipl_len (Nat.le_of_eq hrl.symm)]; exact hlt) h2
       rw[hz] at hstep;have hd:r.drop q.length=r[q.length]::r.drop (q.length+1):=List.drop_eq_getElem_cons hltr;have C1:=c_vInner a[q.length] S bits hb (hr _ (List.getElem_mem hlt));obtain⟨w,hw⟩:∃ w,a[q.length]=w:=⟨_,rfl⟩
       obtain⟨y,hy⟩:∃ y,r[q.length]=y:=⟨_,rfl⟩
       rw[hw] at hA hstep C1;rw[hy] at hstep hd;rw[hd];have hset:((q++y::r.drop (q.length+1)).map dyad).length=r.length:=by rw[<- hd]; simp; omega
       conv=>whnf
       cases hs:vInner bits w S with
       |error e =>
        rw[hs] at C1;have hw2:rowStep bits S (w,y)=.error e:=by unfold rowStep; show bnd (vInner bits w S) _=_; rw[hs]; rfl
        have he:=(hstep d0 (e+1) (by rw[hw2]; rfl) (by rw[hw2]; rfl)).1 (by omega);rw[he] at hR;rw[<- hR];refine .cut (fun _:Unit=>False) (fun _=>{ fr:=[],st:=[],g:=60 }) ?_ ?_
        ·refine .block ?_;repeat ((first | refine .gF ?_ | refine .eF ?_ | refine cE C1 ?_ | refine⟨_,⟨by omega,hA,rfl,rfl⟩,?_⟩ | refine xK ?_ | rw[decide_eq_true (by omega)] | rw[decide_eq_false (by omega)]); conv=>whnf)
         exact⟨.sh _ _ rfl le_zo0,fin rfl rfl,trivial⟩
        ·rintro⟨⟩ q;exact q.elim
       |ok s =>
        rw[hs] at C1;have C3:=c_sSize s;have hw1:IntKind.i64.wrap ((q.length:Int)+1)=(q.length:Int)+1:=wI (by omega) (by omega);have hone:(IntKind.i64.wrap ((q.length:Int)+1)-(q.length:Int)).toNat=1:=by rw[hw1]; omega
        have hset2:((q++y::r.drop (q.length+1)).map dyad).length=a.length:=by rw[hset,hrl]
        have C4:=c_wid1M q (r.drop (q.length+1)) y (sSize s) bits hb (by omega);cases hv:wid1 bits (y,sSize s) with
        |error e =>
         rw[hv] at C4;have hw2:rowStep bits S (w,y)=.error e:=by unfold rowStep; show bnd (vInner bits w S) _=_; rw[hs]; exact hv
         have he:=(hstep d0 (e+1) (by rw[hw2]; rfl) (by rw[hw2]; rfl)).1 (by omega);rw[he] at hR;rw[<- hR];refine .cut (fun _:Unit=>False) (fun _=>{ fr:=[],st:=[],g:=60 }) ?_ ?_
         ·refine .block ?_;repeat ((first | refine .gF ?_ | refine .eF ?_ | refine cE C1 ?_ | refine cE C3 ?_ | refine⟨_,⟨by omega,hA,rfl,rfl⟩,?_⟩ | refine⟨⟨rfl,hset2,by omega,by rw[hw1]; omega,by rw[hw1]; omega⟩,?_⟩ | refine trueA_mk (closedL_map (fun _=>rfl) _) ?_ | rw[hone] | refine callMD [(6,1)] [.osl (0,0) q.length 1,.sl [dyad (sSize s)],i64 bits] [⟨76,3,(q++y::r.drop (q.length+1)).map dyad⟩] ⟨.osl 0 (6,1) _ _ rfl,.sh _ _ rfl (.refl _),.sh _ _ rfl (.refl _),trivial⟩ ⟨⟨rfl,closedL_map (fun _=>rfl) _⟩,trivial⟩ (by simp) rfl C4 rfl ?_ | refine xK ?_ | rw[decide_eq_true (by omega)] | rw[decide_eq_false (by omega)]); conv=>whnf)
          exact⟨.sh _ _ rfl le_zo0,fin rfl rfl,trivial⟩
         ·rintro⟨⟩ q;exact q.elim
        |ok d =>
         rw[hv] at C4;have hw2:rowStep bits S (w,y)=.ok d:=by unfold rowStep; show bnd (vInner bits w S) _=_; rw[hs]; exact hv
         have he:=(hstep d 0 (by rw[hw2]; rfl) (by rw[hw2]; rfl)).2 rfl;have hq1:(q++[d]).length=q.length+1:=by simp
         have hgetq:((q++y::r.drop (q.length+1)).map dyad)[q.length]?=some (dyad y):=by
          rw[List.getElem?_map,List.getElem?_append_right (Nat.le_refl _),Nat.sub_self];rfl
         have hputq:((q++y::r.drop (q.length+1)).map dyad).set q.length (dyad d)=((q++[d])++r.drop (q++[d]).length).map dyad:=by
          rw[hq1,<- List.map_set,List.set_append_right _ _ (Nat.le_refl _),Nat.sub_self,List.append_assoc];rfl
         refine .cut (fun _:Unit=>True) (fun _=>{ fr:=[(0,lU a),(2,i64 bits),(4,.ptr (0,0) 0 0),(6,.ptr (0,1) 0 0),(11,.ptr (5,3) 0 0),(17,lS S),(98,lU a),(99,i64 (a.length:Nat)),(100,i64 (q.length:Nat))],st:=[((0,0),⟨zTy,3,[zo z]⟩),((0,1),⟨zTy,3,[AV.ofVal (ty zTy).zero]⟩),((5,3),⟨zTy,3,[.agg [lD (mo.map (·.1)),lG (g0::gs),.own (6,1) a.length]]⟩),((6,1),⟨76,3,((q++[d])++r.drop (q++[d]).length).map dyad⟩)],g:=61 }) ?_ ?_
         ·refine .block ?_;repeat ((first | refine .gF ?_ | refine .eF ?_ | refine cE C1 ?_ | refine cE C3 ?_ | refine⟨_,⟨by omega,hA,rfl,rfl⟩,?_⟩ | refine⟨⟨rfl,hset2,by omega,by rw[hw1]; omega,by rw[hw1]; omega⟩,?_⟩ | refine trueA_mk (closedL_map (fun _=>rfl) _) ?_ | rw[hone] | refine callMD [(6,1)] [.osl (0,0) q.length 1,.sl [dyad (sSize s)],i64 bits] [⟨76,3,(q++y::r.drop (q.length+1)).map dyad⟩] ⟨.osl 0 (6,1) _ _ rfl,.sh _ _ rfl (.refl _),.sh _ _ rfl (.refl _),trivial⟩ ⟨⟨rfl,closedL_map (fun _=>rfl) _⟩,trivial⟩ (by simp) rfl C4 rfl ?_ | refine⟨_,⟨by decide,rfl,rfl,rfl⟩,?_⟩ | refine⟨⟨rfl,rfl⟩,⟨by omega,by omega⟩,?_⟩ | refine elA_mk (dyad y) hgetq ?_ | refine xK ?_ | rw[decide_eq_true (by omega)] | rw[decide_eq_false (by omega)]); conv=>whnf)
          refine⟨(),trivial,?_⟩;repeat' (first | exact trivial | exact .inl ⟨.refl _,rfl⟩ | exact⟨.same rfl rfl,nMb rfl,x_L⟩ | exact⟨_,rfl⟩ | exact x_W | exact rfl | exact⟨.same (congrArg (fun z=>some (Row.mk 76 3 z)) hputq) (dy_ok _),nMb rfl,x_L⟩ | exact nMb rfl | exact Nat.le_of_ble_eq_true rfl | refine⟨?_,?_⟩)
          trace_state
         ·rintro⟨⟩ _;repeat ((first | refine .gF ?_ | refine .eF ?_ | refine xK ?_ | rw[decide_eq_true (by omega)] | rw[decide_eq_false (by omega)]); conv=>whnf)
          refine⟨q++[d],⟨by omega,by rw[hq1]; exact he⟩,?_,by show a.length-(q++[d]).length<a.length-q.length; omega⟩;repeat' (first | exact trivial | exact .inl ⟨.refl _,rfl⟩ | exact⟨.same rfl rfl,nMb rfl,x_L⟩ | exact⟨_,rfl⟩ | exact x_W | exact rfl | exact⟨.same rfl (dy_ok _),nMb rfl,x_L⟩ | exact x_E ((wI (n:=(q.length:Int)+1) (by omega) (by omega)).trans (by simp)) | exact nMb rfl | exact Nat.le_of_ble_eq_true rfl | refine⟨?_,?_⟩)
          trace_state
      ·have he:q.length=a.length:=by
        have:=of_decide_eq_false b;omega
       conv=>whnf
       refine⟨q,⟨?_,he⟩,?_⟩
       ·rw[he,<- zipl_len (Nat.le_of_eq hrl.symm),List.take_length] at h2;exact h2
       ·have hz:q++r.drop q.length=q:=by rw[he,<- hrl,List.drop_length,List.append_nil]
        dsimp only;rw[hz];repeat' (first | exact trivial | exact .inl ⟨.refl _,rfl⟩ | exact⟨.same rfl rfl,nMb rfl,x_L⟩ | exact⟨_,rfl⟩ | exact x_W | exact rfl | exact⟨.same rfl (dy_ok _),nMb rfl,x_L⟩ | exact nMb rfl | exact Nat.le_of_ble_eq_true rfl | refine⟨?_,?_⟩)
        trace_state
     ·rintro q ⟨hq,hql⟩;rw[hq] at hR;rw[<- hR];dsimp only;repeat ((first | refine .gF ?_ | refine .eF ?_ | refine xK ?_ | rw[decide_eq_true (by omega)] | rw[decide_eq_false (by omega)]); conv=>whnf)
      exact⟨.agg _ _ rfl (frz3 (.sh _ _ rfl (.refl _)) (.sh _ _ rfl (.refl _)) (.own2 trivial rfl (by simp[hql]) (closedL_map (fun _=>rfl) _) rfl)),fin rfl rfl,trivial⟩
end
section
open Go Go.RowKit Go.Proofs.Tryz
attribute [local irreducible] dRound dAdd dMul dCmp dMin dMax dAbs dLess sOut sAdd sMul sNear sSize vNear vPlus vInner dOf dNeg sSub sMid mid1 wid1
def zPlus (bits:Int) (a b:ZO):Except Nat ZO :=
 if a.c.length≠b.c.length then .error 19 else if 4096<a.g.length+b.g.length then .error 31 else
  bnd (vPlus bits (a.c.map sPoint) (b.c.map sPoint)) fun m=>bnd (zMids bits m) fun mo=>bnd (foldE (zWid bits) (mo.map (·.2)) [a.r,b.r]) fun r=>.ok ⟨mo.map (·.1),a.g++b.g,r⟩
theorem elB_lD (l:List (List FD)):∀ v∈l.map lD,elB 1 v=true:=fun v hv=>by
 obtain⟨x,_,rfl⟩:=List.mem_map.1 hv;rfl
theorem c_zPlus (a b:ZO) (bits:Int) (hb:BOk bits) (hc:a.c.length<1000000) (hg:a.g.length<1000000) (hg2:b.g.length<1000000) (hc2:b.c.length<1000000) (h1:a.c.length<=a.r.length) (h2:a.c.length<=b.r.length):ACalls prog 144 [zo a,zo b,i64 bits] (tZO (zPlus bits a b)):=by
 have ha1:(((a.c.map dyad).length:Nat):Int)=(a.c.length:Int):=by simp
 have hb1:(((b.c.map dyad).length:Nat):Int)=(b.c.length:Int):=by simp
 have CA:=c_zPoints a.c hc;have CB:=c_zPoints b.c hc2;have CP:=c_vPlus (a.c.map sPoint) (b.c.map sPoint) bits hb (by simpa using hc);obtain⟨R,hR⟩:∃ R,zPlus bits a b=R:=⟨_,rfl⟩
 rw[hR];refine conP func144 rfl (by kernel_rfl) ?_;repeat ((first | refine .gF ?_ | refine .eF ?_ | refine cE CA ?_ | refine cE CB ?_ | refine cE CP ?_ | refine xK ?_ | rw[decide_eq_true (by omega)] | rw[decide_eq_false (by omega)]); conv=>whnf)
 refine Br.mk (fun q=>?_) (fun q=>?_)
 ·have hne:a.c.length≠b.c.length:=by
   intro h;rw[ha1,hb1,h] at q;simp at q
  rw[<- hR];unfold zPlus;rw[if_pos hne];repeat ((first | refine .gF ?_ | refine .eF ?_ | refine xK ?_ | rw[decide_eq_true (by omega)] | rw[decide_eq_false (by omega)]); conv=>whnf)
  exact⟨.sh _ _ rfl le_zo0,fin rfl rfl,trivial⟩
 ·have he:a.c.length=b.c.length:=by
   rw[ha1,hb1] at q;simp at q;omega
  clear q;have hga:(((a.g.map lD).length:Nat):Int)=(a.g.length:Int):=by simp
  have hgb:(((b.g.map lD).length:Nat):Int)=(b.g.length:Int):=by simp
  have hwg:IntKind.i64.wrap ((a.g.length:Int)+(b.g.length:Int))=(a.g.length:Int)+(b.g.length:Int):=wI (by omega) (by omega);unfold zPlus at hR;rw[if_neg (fun h=>h he)] at hR;repeat ((first | refine .gF ?_ | refine .eF ?_ | refine cE CA ?_ | refine cE CB ?_ | refine cE CP ?_ | refine xK ?_ | rw[decide_eq_true (by omega)] | rw[decide_eq_false (by omega)]); conv=>whnf)
  refine Br.mk (fun q=>?_) (fun q=>?_)
  ·have hlt:4096<a.g.length+b.g.length:=by
    rw[hga,hgb,hwg] at q;have:=of_decide_eq_true q;omega
   rw[if_pos hlt] at hR;rw[<- hR];repeat ((first | refine .gF ?_ | refine .eF ?_ | refine xK ?_ | rw[decide_eq_true (by omega)] | rw[decide_eq_false (by omega)]); conv=>whnf)
   exact⟨.sh _ _ rfl le_zo0,fin rfl rfl,trivial⟩
  ·have hle:¬ 4096<a.g.length+b.g.length:=by
    rw[hga,hgb,hwg] at q;have:=of_decide_eq_false q;omega
   clear q;rw[if_neg hle] at hR;cases h3:vPlus bits (a.c.map sPoint) (b.c.map sPoint) with
   |error e =>
    rw[h3] at hR CP;rw[<- hR];repeat ((first | refine .gF ?_ | refine .eF ?_ | refine cE CA ?_ | refine cE CB ?_ | refine cE CP ?_ | refine xK ?_ | rw[decide_eq_true (by omega)] | rw[decide_eq_false (by omega)]); conv=>whnf)
    exact⟨.sh _ _ rfl le_zo0,fin rfl rfl,trivial⟩
   |ok m =>
    rw[h3] at hR CP;have hm:m.length=a.c.length:=by
     have h5:m.length=((a.c.map sPoint).zip (b.c.map sPoint)).length:=by
      unfold vPlus at h3;rw[if_neg (by simp[he])] at h3;exact runE_length h3
     simp at h5;omega
    have CM:=c_zMids m bits hb (by omega);cases h4:zMids bits m with
    |error e =>
     rw[bnd_okk,h4] at hR;rw[h4] at CM;rw[<- hR];repeat ((first | refine .gF ?_ | refine .eF ?_ | refine cE CA ?_ | refine cE CB ?_ | refine cE CP ?_ | refine callN CM rfl ?_ | refine xK ?_ | rw[decide_eq_true (by omega)] | rw[decide_eq_false (by omega)]); conv=>whnf)
     exact⟨.sh _ _ rfl le_zo0,fin rfl rfl,trivial⟩
    |ok mo =>
     rw[bnd_okk,h4,bnd_okk] at hR;rw[h4] at CM;have hmo:mo.length=m.length:=runE_length (f:=mid1 bits) h4;repeat ((first | refine .gF ?_ | refine .eF ?_ | refine cE CA ?_ | refine cE CB ?_ | refine cE CP ?_ | refine callN CM rfl ?_ | refine xK ?_ | rw[decide_eq_true (by omega)] | rw[decide_eq_false (by omega)]); conv=>whnf)
     refine .weaken (i:={ F:=[(6,0),(6,1)],fr:=[(2,i64 bits),(3,.ptr (0,0) 0 0),(4,.ptr (0,1) 0 0),(6,.ptr (0,2) 0 0),(10,lD (mo.map (·.1))),(11,lD (mo.map (·.2)))],st:=[((0,0),⟨zTy,3,[zo a]⟩),((0,1),⟨zTy,3,[zo b]⟩),((0,2),⟨zTy,3,[AV.ofVal (ty zTy).zero]⟩)],g:=9 }) ?_ ?_
     ·repeat' (first | exact trivial | exact .inl ⟨.refl _,rfl⟩ | exact⟨.same rfl rfl,nMb rfl,x_L⟩ | exact⟨_,rfl⟩ | exact x_W | exact rfl | exact .inr (.inl (frz_mv (f:=e1) (.head _) rfl (fun _=>rfl) (fun _=>rfl) rfl (fst_map mo))) | exact .inr (.inl (frz_mv (f:=e2) (.tail _ (.head _)) rfl (fun _=>rfl) (fun _=>rfl) rfl (snd_map mo))) | exact nMb rfl | exact Nat.le_of_ble_eq_true rfl | refine⟨?_,?_⟩)
      trace_state
     refine .cut (fun q:List FD=>foldE (zWid bits) (mo.map (·.2)) [a.r,b.r]=.ok q) (fun q=>{ fr:=[(2,i64 bits),(3,.ptr (0,0) 0 0),(4,.ptr (0,1) 0 0),(6,.ptr (0,2) 0 0),(10,lD (mo.map (·.1))),(11,lD q)],st:=[((0,0),⟨zTy,3,[zo a]⟩),((0,1),⟨zTy,3,[zo b]⟩),((0,2),⟨zTy,3,[AV.ofVal (ty zTy).zero]⟩)],g:=60 }) ?_ ?_
     ·repeat ((first | refine .gF ?_ | refine .eF ?_ | refine xK ?_ | rw[decide_eq_true (by omega)] | rw[decide_eq_false (by omega)]); conv=>whnf)
      refine .block (.loop (fun x:Nat×List FD=>x.1<=2/\foldE (zWid bits) (mo.map (·.2)) ([a.r,b.r].take x.1)=.ok x.2/\x.2.length=mo.length) (fun x=>{ fr:=[(2,i64 bits),(3,.ptr (0,0) 0 0),(4,.ptr (0,1) 0 0),(6,.ptr (0,2) 0 0),(10,lD (mo.map (·.1))),(11,lD x.2),(62,.agg [lD a.r,lD b.r]),(63,i64 (x.1:Nat))],st:=[((0,0),⟨zTy,3,[zo a]⟩),((0,1),⟨zTy,3,[zo b]⟩),((0,2),⟨zTy,3,[AV.ofVal (ty zTy).zero]⟩)],g:=20 }) (fun x=>2-x.1) (0,mo.map (·.2)) ⟨Nat.zero_le _,rfl,by simp⟩ ?_ ?_)
      ·repeat' (first | exact trivial | exact .inl ⟨.refl _,rfl⟩ | exact⟨.same rfl rfl,nMb rfl,x_L⟩ | exact⟨_,rfl⟩ | exact x_W | exact rfl | exact nMb rfl | exact Nat.le_of_ble_eq_true rfl | refine⟨?_,?_⟩)
       trace_state
      rintro⟨i,q⟩ ⟨hi,hf,hql⟩;have hi:i<=2:=hi;have hf:foldE (zWid bits) (mo.map (·.2)) ([a.r,b.r].take i)=.ok q:=hf;have hql:q.length=mo.length:=hql;have:i=0\/i=1\/i=2:=by omega
      rcases this with rfl | rfl | rfl
      ·have hr':∀ s2,zWid bits q a.r=.ok s2->foldE (zWid bits) (mo.map (·.2)) ([a.r,b.r].take (0+1))=.ok s2:=(foldE_step (l:=[a.r,b.r]) (n:=0) (by simp) hf rfl).1;have he':∀ e,zWid bits q a.r=.error e->foldE (zWid bits) (mo.map (·.2)) [a.r,b.r]=.error e:=(foldE_step (l:=[a.r,b.r]) (n:=0) (by simp) hf rfl).2;have C2:=c_zWid q a.r bits hb (by omega) (by omega);repeat ((first | refine .gF ?_ | refine .eF ?_ | refine xK ?_ | rw[decide_eq_true (by omega)] | rw[decide_eq_false (by omega)]); conv=>whnf)
       cases h5:zWid bits q a.r with
       |error e =>
        rw[h5] at C2;rw[he' e h5] at hR;rw[<- hR];refine .cut (fun _:Unit=>False) (fun _=>{ fr:=[],st:=[],g:=60 }) ?_ (fun _ q=>q.elim);refine .block ?_;repeat ((first | refine .gF ?_ | refine .eF ?_ | refine⟨⟨by simp,by simp⟩,?_⟩ | refine callN C2 rfl ?_ | refine xK ?_ | rw[decide_eq_true (by omega)] | rw[decide_eq_false (by omega)]); conv=>whnf)
        exact⟨.sh _ _ rfl le_zo0,fin rfl rfl,trivial⟩
       |ok r2 =>
        rw[h5] at C2;have hl2:=zWid_len h5 (by omega);refine .cut (fun _:Unit=>True) (fun _=>{ F:=[(23,0)],fr:=[(2,i64 bits),(3,.ptr (0,0) 0 0),(4,.ptr (0,1) 0 0),(6,.ptr (0,2) 0 0),(10,lD (mo.map (·.1))),(11,lD r2),(62,.agg [lD a.r,lD b.r]),(63,i64 0)],st:=[((0,0),⟨zTy,3,[zo a]⟩),((0,1),⟨zTy,3,[zo b]⟩),((0,2),⟨zTy,3,[AV.ofVal (ty zTy).zero]⟩)],g:=20 }) ?_ ?_
        ·refine .block ?_;repeat ((first | refine .gF ?_ | refine .eF ?_ | refine⟨⟨by simp,by simp⟩,?_⟩ | refine callN C2 rfl ?_ | refine xK ?_ | rw[decide_eq_true (by omega)] | rw[decide_eq_false (by omega)]); conv=>whnf)
         refine⟨(),trivial,?_⟩;repeat' (first | exact trivial | exact .inl ⟨.refl _,rfl⟩ | exact⟨.same rfl rfl,nMb rfl,x_L⟩ | exact⟨_,rfl⟩ | exact x_W | exact rfl | exact .inr (.inl (frz_mv (f:=dyad) (.head _) rfl (fun _=>rfl) (fun _=>rfl) rfl rfl)) | exact nMb rfl | exact Nat.le_of_ble_eq_true rfl | refine⟨?_,?_⟩)
         trace_state
        ·rintro⟨⟩ _;repeat ((first | refine .gF ?_ | refine .eF ?_ | refine xK ?_ | rw[decide_eq_true (by omega)] | rw[decide_eq_false (by omega)]); conv=>whnf)
         refine⟨(0+1,r2),⟨by show 0+1<=2; decide,hr' r2 h5,by show r2.length=mo.length; omega⟩,?_,by show 2-(0+1)<2-0; decide⟩;repeat' (first | exact trivial | exact .inl ⟨.refl _,rfl⟩ | exact⟨.same rfl rfl,nMb rfl,x_L⟩ | exact⟨_,rfl⟩ | exact x_W | exact rfl | exact nMb rfl | exact Nat.le_of_ble_eq_true rfl | refine⟨?_,?_⟩)
         trace_state
      ·have hr':∀ s2,zWid bits q b.r=.ok s2->foldE (zWid bits) (mo.map (·.2)) ([a.r,b.r].take (1+1))=.ok s2:=(foldE_step (l:=[a.r,b.r]) (n:=1) (by simp) hf rfl).1;have he':∀ e,zWid bits q b.r=.error e->foldE (zWid bits) (mo.map (·.2)) [a.r,b.r]=.error e:=(foldE_step (l:=[a.r,b.r]) (n:=1) (by simp) hf rfl).2;have C2:=c_zWid q b.r bits hb (by omega) (by omega);repeat ((first | refine .gF ?_ | refine .eF ?_ | refine xK ?_ | rw[decide_eq_true (by omega)] | rw[decide_eq_false (by omega)]); conv=>whnf)
       cases h5:zWid bits q b.r with
       |error e =>
        rw[h5] at C2;rw[he' e h5] at hR;rw[<- hR];refine .cut (fun _:Unit=>False) (fun _=>{ fr:=[],st:=[],g:=60 }) ?_ (fun _ q=>q.elim);refine .block ?_;repeat ((first | refine .gF ?_ | refine .eF ?_ | refine⟨⟨by simp,by simp⟩,?_⟩ | refine callN C2 rfl ?_ | refine xK ?_ | rw[decide_eq_true (by omega)] | rw[decide_eq_false (by omega)]); conv=>whnf)
        exact⟨.sh _ _ rfl le_zo0,fin rfl rfl,trivial⟩
       |ok r2 =>
        rw[h5] at C2;have hl2:=zWid_len h5 (by omega);refine .cut (fun _:Unit=>True) (fun _=>{ F:=[(23,0)],fr:=[(2,i64 bits),(3,.ptr (0,0) 0 0),(4,.ptr (0,1) 0 0),(6,.ptr (0,2) 0 0),(10,lD (mo.map (·.1))),(11,lD r2),(62,.agg [lD a.r,lD b.r]),(63,i64 1)],st:=[((0,0),⟨zTy,3,[zo a]⟩),((0,1),⟨zTy,3,[zo b]⟩),((0,2),⟨zTy,3,[AV.ofVal (ty zTy).zero]⟩)],g:=20 }) ?_ ?_
        ·refine .block ?_;repeat ((first | refine .gF ?_ | refine .eF ?_ | refine⟨⟨by simp,by simp⟩,?_⟩ | refine callN C2 rfl ?_ | refine xK ?_ | rw[decide_eq_true (by omega)] | rw[decide_eq_false (by omega)]); conv=>whnf)
         refine⟨(),trivial,?_⟩;repeat' (first | exact trivial | exact .inl ⟨.refl _,rfl⟩ | exact⟨.same rfl rfl,nMb rfl,x_L⟩ | exact⟨_,rfl⟩ | exact x_W | exact rfl | exact .inr (.inl (frz_mv (f:=dyad) (.head _) rfl (fun _=>rfl) (fun _=>rfl) rfl rfl)) | exact nMb rfl | exact Nat.le_of_ble_eq_true rfl | refine⟨?_,?_⟩)
         trace_state
        ·rintro⟨⟩ _;repeat ((first | refine .gF ?_ | refine .eF ?_ | refine xK ?_ | rw[decide_eq_true (by omega)] | rw[decide_eq_false (by omega)]); conv=>whnf)
         refine⟨(1+1,r2),⟨by show 1+1<=2; decide,hr' r2 h5,by show r2.length=mo.length; omega⟩,?_,by show 2-(1+1)<2-1; decide⟩;repeat' (first | exact trivial | exact .inl ⟨.refl _,rfl⟩ | exact⟨.same rfl rfl,nMb rfl,x_L⟩ | exact⟨_,rfl⟩ | exact x_W | exact rfl | exact nMb rfl | exact Nat.le_of_ble_eq_true rfl | refine⟨?_,?_⟩)
         trace_state
      ·repeat ((first | refine .gF ?_ | refine .eF ?_ | refine xK ?_ | rw[decide_eq_true (by omega)] | rw[decide_eq_false (by omega)]); conv=>whnf)
       refine⟨q,hf,?_⟩;repeat' (first | exact trivial | exact .inl ⟨.refl _,rfl⟩ | exact⟨.same rfl rfl,nMb rfl,x_L⟩ | exact⟨_,rfl⟩ | exact x_W | exact rfl | exact nMb rfl | exact Nat.le_of_ble_eq_true rfl | refine⟨?_,?_⟩)
       trace_state
     ·rintro q hq;rw[hq,bnd_okk] at hR;rw[<- hR];have hgab:a.g.length+b.g.length<=4096:=by omega
      clear hR hq h4 h3 CA CB CP CM hwg hga hgb hle he hc hg hg2 hc2 h1 h2 ha1 hb1 hm hmo;obtain⟨ac,ag,ar⟩:=a;obtain⟨bc,bg,br⟩:=b;dsimp only at hgab ⊢;cases ag with
      |nil =>
       cases bg with
       |nil =>
        repeat ((first | refine .gF ?_ | refine .eF ?_ | refine xK ?_ | rw[decide_eq_true (by omega)] | rw[decide_eq_false (by omega)]); conv=>whnf)
        exact⟨.agg _ _ rfl (frz3 (.sh _ _ rfl (.refl _)) (.sh _ _ rfl .nil) (.sh _ _ rfl (.refl _))),fin rfl rfl,trivial⟩
       |cons y l =>
        have hlen:(List.map lD (y::l)).length<=1099511627776:=by simp at hgab ⊢; omega
        repeat ((first | refine .gF ?_ | refine .eF ?_ | refine⟨⟨Nat.succ_pos _,hlen,elB_lD (y::l)⟩,?_⟩ | refine xK ?_ | rw[decide_eq_true (by omega)] | rw[decide_eq_false (by omega)]); conv=>whnf)
        exact⟨.agg _ _ rfl (frz3 (.sh _ _ rfl (.refl _)) (.own2 trivial rfl rfl (closedL_map (fun _=>rfl) (y::l)) rfl) (.sh _ _ rfl (.refl _))),fin rfl rfl,trivial⟩
      |cons x k =>
       have hlen:(List.map lD (x::k)).length<=1099511627776:=by simp at hgab ⊢; omega
       have hlen2:(List.map lD (x::k)).length+(List.map lD bg).length<=1099511627776:=by simp at hgab ⊢; omega
       repeat ((first | refine .gF ?_ | refine .eF ?_ | refine⟨⟨Nat.succ_pos _,hlen,elB_lD (x::k)⟩,?_⟩ | refine⟨⟨rfl,rfl,rfl,hlen2,elB_lD bg⟩,?_⟩ | refine xK ?_ | rw[decide_eq_true (by omega)] | rw[decide_eq_false (by omega)]); conv=>whnf)
       have hap:lD x::k.map lD++bg.map lD=((x::k)++bg).map lD:=by simp
       exact⟨.agg _ _ rfl (frz3 (.sh _ _ rfl (.refl _)) (.own2 trivial rfl (by simp; omega) (by show AV.closedL (lD x::k.map lD++bg.map lD)=true; rw[hap]; exact closedL_map (fun _=>rfl) _) hap) (.sh _ _ rfl (.refl _))),fin rfl rfl,trivial⟩
end
section
open Go Go.RowKit Go.Proofs.Tryz
attribute [local irreducible] dRound dAdd dMul dCmp dMin dMax dAbs dLess sOut sAdd sMul sNear sSize vNear vPlus vInner dOf dNeg sSub sMid mid1 wid1
def diag (n:Nat) (by':FS):List (List FS):=(List.range n).map fun i=>(List.replicate n s0).set i by'
def zTimes (bits:Int) (z:ZO) (t:FS):Except Nat ZO:=zImage bits (diag z.c.length t) z
def boxG (bits:Int) (i:Nat) (all:FS) (g:List FD):Except Nat FS:=sAdd all (sEven (g.getD i d0)) bits
def box1 (bits:Int) (z:ZO) (i:Nat):Except Nat FS:=bnd (foldE (boxG bits i) (sEven (z.r.getD i d0)) z.g) fun all=>sAdd all (sPoint (z.c.getD i d0)) bits
def zBox (bits:Int) (z:ZO):Except Nat (List FS):=runE (box1 bits z) (List.range z.c.length)
def zReach (bits:Int) (z:ZO):Except Nat FD:=bnd (zBox bits z) fun b=>.ok (vNorm b)
end
section
open Go Go.RowKit Go.Proofs.Tryz
attribute [local irreducible] dRound dAdd dMul dCmp dMin dMax dAbs dLess sOut sAdd sMul sNear sSize vNear vPlus vInner dOf dNeg sSub sMid mid1 wid1 vNorm
theorem c_zBox (z:ZO) (bits:Int) (hb:BOk bits) (hc:z.c.length<1000000) (hg:z.g.length<1000000) (hzr:z.c.length<=z.r.length) (hr2:∀ g∈z.g,z.c.length<=g.length):ACalls prog 250 [zo z,i64 bits] (tLS (zBox bits z)):=by
 have hlc:(((z.c.map dyad).length:Nat):Int)=(z.c.length:Int):=by simp
 have hlg:(((z.g.map lD).length:Nat):Int)=(z.g.length:Int):=by simp
 obtain⟨R,hR⟩:∃ R,zBox bits z=R:=⟨_,rfl⟩
 rw[hR];unfold zBox at hR;refine conP func250 rfl (by kernel_rfl) ?_;repeat ((first | refine .gF ?_ | refine .eF ?_ | refine⟨⟨by omega,rfl,by simp only[lenLim]; omega⟩,?_⟩ | refine xK ?_ | rw[decide_eq_true (by omega)] | rw[decide_eq_false (by omega)]); conv=>whnf)
 refine .cut (fun q:List FS=>runE (box1 bits z) (List.range z.c.length)=.ok q/\q.length=z.c.length) (fun q=>{ F:=[(1,3)],fr:=[(6,lS q)],st:=[],g:=60 }) ?_ ?_
 ·repeat ((first | refine .gF ?_ | refine .eF ?_ | refine xK ?_ | rw[decide_eq_true (by omega)] | rw[decide_eq_false (by omega)]); conv=>whnf)
  rw[hlc];refine .block (.loop (fun q:List FS=>q.length<=z.c.length/\runE (box1 bits z) ((List.range z.c.length).take q.length)=.ok q) (fun q=>{ fr:=[(1,i64 bits),(2,.ptr (0,0) 0 0),(6,.own (1,3) z.c.length),(19,i64 (z.c.length:Nat)),(20,i64 (q.length:Nat))],st:=[((0,0),⟨zTy,3,[zo z]⟩),((1,3),⟨150,6,fillV spa zSp z.c.length q⟩)],g:=9 }) (fun q=>z.c.length-q.length) [] ⟨Nat.zero_le _,rfl⟩ ?_ ?_)
  ·dsimp only;rw[fillV_nil];repeat' (first | exact trivial | exact .inl ⟨.refl _,rfl⟩ | exact⟨.same rfl rfl,nMb rfl,x_L⟩ | exact⟨_,rfl⟩ | exact x_W | exact rfl | exact .same rfl (ltL_rep rfl _) | exact nMb rfl | exact Nat.le_of_ble_eq_true rfl | refine⟨?_,?_⟩)
   trace_state
  rintro q ⟨h1,h2⟩;dsimp only at h1 h2 ⊢;repeat ((first | refine .gF ?_ | refine .eF ?_ | refine xK ?_ | rw[decide_eq_true (by omega)] | rw[decide_eq_false (by omega)]); conv=>whnf)
  refine Br.mk (fun b=>?_) (fun b=>?_)
  ·have hlt:q.length<z.c.length:=by
    have:=of_decide_eq_true b;omega
   clear b;conv=>whnf
   have hltr:q.length<z.r.length:=by omega
   obtain⟨x,hx⟩:∃ x,z.c[q.length]=x:=⟨_,rfl⟩
   obtain⟨y,hy⟩:∃ y,z.r[q.length]=y:=⟨_,rfl⟩
   have hI:(z.c.map dyad)[((q.length:Nat):Int).toNat]?=some (dyad x):=hx▸lD_get hlt;have hJ:(z.r.map dyad)[((q.length:Nat):Int).toNat]?=some (dyad y):=hy▸lD_get hltr;have hxg:z.c.getD q.length d0=x:=by rw[List.getD_eq_getElem?_getD,List.getElem?_eq_getElem hlt,hx]; rfl
   have hyg:z.r.getD q.length d0=y:=by rw[List.getD_eq_getElem?_getD,List.getElem?_eq_getElem hltr,hy]; rfl
   have hrg:(List.range z.c.length)[q.length]'(by simpa using hlt)=q.length:=by simp
   have hstep:=fun (x:FS) (e:Nat)=>runE_step (f:=box1 bits z) (l:=List.range z.c.length) (d:=s0) (x:=x) (e:=e) (by simpa using hlt) h2
   rw[hrg] at hstep;have hb1:box1 bits z q.length=bnd (foldE (boxG bits q.length) (sEven y) z.g) fun all=>sAdd all (sPoint x) bits:=by unfold box1; rw[hxg,hyg]
   have CE:=c_sEven y;have CP:=c_sPoint x;refine .cut (fun t:FS=>box1 bits z q.length=.ok t) (fun t=>{ fr:=[(1,i64 bits),(2,.ptr (0,0) 0 0),(6,.own (1,3) z.c.length),(19,i64 (z.c.length:Nat)),(20,i64 (q.length:Nat))],st:=[((0,0),⟨zTy,3,[zo z]⟩),((1,3),⟨150,6,fillV spa zSp z.c.length (q++[t])⟩)],g:=9 }) ?_ ?_
   ·refine .block ?_;repeat ((first | refine .gF ?_ | refine .eF ?_ | refine cE CE ?_ | refine⟨_,⟨by omega,hJ,rfl,rfl⟩,?_⟩ | refine xK ?_ | rw[decide_eq_true (by omega)] | rw[decide_eq_false (by omega)]); conv=>whnf)
    refine .cut (fun t:FS=>foldE (boxG bits q.length) (sEven y) z.g=.ok t) (fun t=>{ fr:=[(1,i64 bits),(2,.ptr (0,0) 0 0),(6,.own (1,3) z.c.length),(7,i64 (q.length:Nat)),(8,.ptr (11,6) 0 0),(19,i64 (z.c.length:Nat)),(20,i64 (q.length:Nat))],st:=[((0,0),⟨zTy,3,[zo z]⟩),((11,6),⟨150,6,[spa t]⟩),((1,3),⟨150,6,fillV spa zSp z.c.length q⟩)],g:=40 }) ?_ ?_
    ·repeat ((first | refine .gF ?_ | refine .eF ?_ | refine xK ?_ | rw[decide_eq_true (by omega)] | rw[decide_eq_false (by omega)]); conv=>whnf)
     rw[hlg];refine .block (.loop (fun x:Nat×FS=>x.1<=z.g.length/\foldE (boxG bits q.length) (sEven y) (z.g.take x.1)=.ok x.2) (fun x=>{ fr:=[(1,i64 bits),(2,.ptr (0,0) 0 0),(6,.own (1,3) z.c.length),(7,i64 (q.length:Nat)),(8,.ptr (11,6) 0 0),(19,i64 (z.c.length:Nat)),(20,i64 (q.length:Nat)),(30,lG z.g),(31,i64 (z.g.length:Nat)),(32,i64 (x.1:Nat))],st:=[((0,0),⟨zTy,3,[zo z]⟩),((11,6),⟨150,6,[spa x.2]⟩),((1,3),⟨150,6,fillV spa zSp z.c.length q⟩)],g:=20 }) (fun x=>z.g.length-x.1) (0,sEven y) ⟨Nat.zero_le _,rfl⟩ ?_ ?_)
     ·repeat' (first | exact trivial | exact .inl ⟨.refl _,rfl⟩ | exact⟨.same rfl rfl,nMb rfl,x_L⟩ | exact⟨_,rfl⟩ | exact x_W | exact rfl | exact .same rfl (ltL_fillV (fun _=>rfl) rfl) | exact nMb rfl | exact Nat.le_of_ble_eq_true rfl | refine⟨?_,?_⟩)
      trace_state
     rintro⟨i,s⟩ ⟨hi,hf⟩;dsimp only at hi hf ⊢;repeat ((first | refine .gF ?_ | refine .eF ?_ | refine xK ?_ | rw[decide_eq_true (by omega)] | rw[decide_eq_false (by omega)]); conv=>whnf)
     refine Br.mk (fun b=>?_) (fun b=>?_)
     ·have hi':i<z.g.length:=by
       have:=of_decide_eq_true b;omega
      clear b;obtain⟨w,hgi⟩:∃ w,z.g[i]=w:=⟨_,rfl⟩
      have hwl:q.length<w.length:=by
       have:=hr2 w (by rw[<- hgi]; exact List.getElem_mem hi');omega
      obtain⟨v,hv⟩:∃ v,w[q.length]=v:=⟨_,rfl⟩
      have hK:(z.g.map lD)[((i:Nat):Int).toNat]?=some (lD w):=hgi▸lD_get1 hi';have hL:(w.map dyad)[((q.length:Nat):Int).toNat]?=some (dyad v):=hv▸lD_get hwl;have hvg:w.getD q.length d0=v:=by rw[List.getD_eq_getElem?_getD,List.getElem?_eq_getElem hwl,hv]; rfl
      have C1:=c_sEven v;have C2:=c_sAdd s (sEven v) bits hb;conv=>whnf
      cases h3:sAdd s (sEven v) bits with
      |error e =>
       rw[h3] at C2;have hst:boxG bits q.length s w=.error e:=by unfold boxG; rw[hvg]; exact h3
       have hbe:box1 bits z q.length=.error e:=by rw[hb1,(foldE_step hi' hf hgi).2 _ hst]; rfl
       have he:=(hstep s0 (e+1) (by rw[hbe]; rfl) (by rw[hbe]; rfl)).1 (by omega);rw[he] at hR;rw[<- hR];refine .cut (fun _:Unit=>False) (fun _=>{ fr:=[],st:=[],g:=60 }) ?_ ?_
       ·refine .block ?_;repeat ((first | refine .gF ?_ | refine .eF ?_ | refine cE C1 ?_ | refine cE C2 ?_ | refine⟨_,⟨by omega,hK,rfl,rfl⟩,?_⟩ | refine⟨_,⟨by omega,hL,rfl,rfl⟩,?_⟩ | refine xK ?_ | rw[decide_eq_true (by omega)] | rw[decide_eq_false (by omega)]); conv=>whnf)
        exact⟨.sh _ _ rfl .nil,fin rfl rfl,trivial⟩
       ·rintro⟨⟩ q;exact q.elim
      |ok t =>
       rw[h3] at C2;have hst:boxG bits q.length s w=.ok t:=by unfold boxG; rw[hvg]; exact h3
       have hnext:=(foldE_step hi' hf hgi).1 _ hst;refine .cut (fun _:Unit=>True) (fun _=>{ fr:=[(1,i64 bits),(2,.ptr (0,0) 0 0),(6,.own (1,3) z.c.length),(7,i64 (q.length:Nat)),(8,.ptr (11,6) 0 0),(19,i64 (z.c.length:Nat)),(20,i64 (q.length:Nat)),(30,lG z.g),(31,i64 (z.g.length:Nat)),(32,i64 (i:Nat))],st:=[((0,0),⟨zTy,3,[zo z]⟩),((11,6),⟨150,6,[spa t]⟩),((1,3),⟨150,6,fillV spa zSp z.c.length q⟩)],g:=20 }) ?_ ?_
       ·refine .block ?_;repeat ((first | refine .gF ?_ | refine .eF ?_ | refine cE C1 ?_ | refine cE C2 ?_ | refine⟨_,⟨by omega,hK,rfl,rfl⟩,?_⟩ | refine⟨_,⟨by omega,hL,rfl,rfl⟩,?_⟩ | refine xK ?_ | rw[decide_eq_true (by omega)] | rw[decide_eq_false (by omega)]); conv=>whnf)
        refine⟨(),trivial,?_⟩;repeat' (first | exact trivial | exact .inl ⟨.refl _,rfl⟩ | exact⟨.same rfl rfl,nMb rfl,x_L⟩ | exact⟨_,rfl⟩ | exact x_W | exact rfl | exact .same rfl (ltL_fillV (fun _=>rfl) rfl) | exact nMb rfl | exact Nat.le_of_ble_eq_true rfl | refine⟨?_,?_⟩)
        trace_state
       ·rintro⟨⟩ _;repeat ((first | refine .gF ?_ | refine .eF ?_ | refine xK ?_ | rw[decide_eq_true (by omega)] | rw[decide_eq_false (by omega)]); conv=>whnf)
        refine⟨(i+1,t),⟨hi',hnext⟩,?_,by show z.g.length-(i+1)<z.g.length-i; omega⟩;repeat' (first | exact trivial | exact .inl ⟨.refl _,rfl⟩ | exact⟨.same rfl rfl,nMb rfl,x_L⟩ | exact⟨_,rfl⟩ | exact x_W | exact rfl | exact .same rfl (ltL_fillV (fun _=>rfl) rfl) | exact x_E ((wI (n:=(i:Int)+1) (by omega) (by omega)).trans (by simp)) | exact nMb rfl | exact Nat.le_of_ble_eq_true rfl | refine⟨?_,?_⟩)
        trace_state
     ·have hn:i=z.g.length:=by
       have:=of_decide_eq_false b;omega
      conv=>whnf
      refine⟨s,?_,?_⟩
      ·rw[hn,List.take_length] at hf;exact hf
      ·repeat' (first | exact trivial | exact .inl ⟨.refl _,rfl⟩ | exact⟨.same rfl rfl,nMb rfl,x_L⟩ | exact⟨_,rfl⟩ | exact x_W | exact rfl | exact .same rfl (ltL_fillV (fun _=>rfl) rfl) | exact nMb rfl | exact Nat.le_of_ble_eq_true rfl | refine⟨?_,?_⟩)
       trace_state
    ·rintro s hs;rw[hs] at hb1;have hb1:box1 bits z q.length=sAdd s (sPoint x) bits:=hb1;have C3:=c_sAdd s (sPoint x) bits hb;dsimp only;cases h3:sAdd s (sPoint x) bits with
     |error e =>
      rw[h3] at C3 hb1;have he:=(hstep s0 (e+1) (by rw[hb1]; rfl) (by rw[hb1]; rfl)).1 (by omega);rw[he] at hR;rw[<- hR];repeat ((first | refine .gF ?_ | refine .eF ?_ | refine cE CP ?_ | refine cE C3 ?_ | refine⟨_,⟨by omega,hI,rfl,rfl⟩,?_⟩ | refine xK ?_ | rw[decide_eq_true (by omega)] | rw[decide_eq_false (by omega)]); conv=>whnf)
      exact⟨.sh _ _ rfl .nil,fin rfl rfl,trivial⟩
     |ok t =>
      rw[h3] at C3 hb1;repeat ((first | refine .gF ?_ | refine .eF ?_ | refine cE CP ?_ | refine cE C3 ?_ | refine⟨_,⟨by omega,hI,rfl,rfl⟩,?_⟩ | refine⟨⟨rfl,rfl⟩,⟨by omega,by omega⟩,?_⟩ | refine elA_mk zSp (fillV_get (enc:=spa) (z:=zSp) hlt) ?_ | refine xK ?_ | rw[decide_eq_true (by omega)] | rw[decide_eq_false (by omega)]); conv=>whnf)
      refine⟨t,hb1,?_⟩;repeat' (first | exact trivial | exact .inl ⟨.refl _,rfl⟩ | exact⟨.same rfl rfl,nMb rfl,x_L⟩ | exact⟨_,rfl⟩ | exact x_W | exact rfl | exact .same (congrArg (fun z=>some (Row.mk 150 6 z)) (fillV_set (enc:=spa) (x:=t) hlt)) (ltL_fillV (fun _=>rfl) rfl) | exact nMb rfl | exact Nat.le_of_ble_eq_true rfl | refine⟨?_,?_⟩)
      trace_state
   ·rintro t ht;have hq1:(q++[t]).length=q.length+1:=by simp
    have he:=(hstep t 0 (by rw[ht]; rfl) (by rw[ht]; rfl)).2 rfl;dsimp only;repeat ((first | refine .gF ?_ | refine .eF ?_ | refine xK ?_ | rw[decide_eq_true (by omega)] | rw[decide_eq_false (by omega)]); conv=>whnf)
    refine⟨q++[t],⟨by omega,by rw[hq1]; exact he⟩,?_,by show z.c.length-(q++[t]).length<z.c.length-q.length; omega⟩;repeat' (first | exact trivial | exact .inl ⟨.refl _,rfl⟩ | exact⟨.same rfl rfl,nMb rfl,x_L⟩ | exact⟨_,rfl⟩ | exact x_W | exact rfl | exact .same rfl (ltL_fillV (fun _=>rfl) rfl) | exact x_E ((wI (n:=(q.length:Int)+1) (by omega) (by omega)).trans (by simp)) | exact nMb rfl | exact Nat.le_of_ble_eq_true rfl | refine⟨?_,?_⟩)
    trace_state
  ·have he:q.length=z.c.length:=by
    have:=of_decide_eq_false b;omega
   conv=>whnf
   refine⟨q,⟨?_,he⟩,?_⟩
   ·rw[he] at h2;have:(List.range z.c.length).take z.c.length=List.range z.c.length:=List.take_of_length_le (by simp);rw[this] at h2;exact h2
   ·dsimp only;rw[fillV_full (enc:=spa) (z:=zSp) he];repeat' (first | exact trivial | exact .inl ⟨.refl _,rfl⟩ | exact⟨.same rfl rfl,nMb rfl,x_L⟩ | exact⟨_,rfl⟩ | exact x_W | exact rfl | exact .inr (.inl (.own2 (.head _) rfl (by simp[he]) (closedL_map (fun _=>rfl) _) rfl)) | exact nMb rfl | exact Nat.le_of_ble_eq_true rfl | refine⟨?_,?_⟩)
    trace_state
 ·rintro q ⟨hq,hql⟩;rw[hq] at hR;rw[<- hR];dsimp only;repeat ((first | refine .gF ?_ | refine .eF ?_ | refine xK ?_ | rw[decide_eq_true (by omega)] | rw[decide_eq_false (by omega)]); conv=>whnf)
  exact⟨fin rfl rfl,fin rfl rfl,trivial⟩
theorem c_zReach (z:ZO) (bits:Int) (hb:BOk bits) (hc:z.c.length<1000000) (hg:z.g.length<1000000) (hzr:z.c.length<=z.r.length) (hr2:∀ g∈z.g,z.c.length<=g.length):ACalls prog 205 [zo z,i64 bits] (tD (zReach bits z)):=by
 have CB:=c_zBox z bits hb hc hg hzr hr2;unfold zReach;cases h1:zBox bits z with
 |error e =>
  rw[h1] at CB;show ACalls prog _ _ (.tup [dyad d0,i64 ((e+1:Nat):Int)]);refine conP func205 rfl (by kernel_rfl) ?_;repeat ((first | refine .gF ?_ | refine .eF ?_ | refine cE CB ?_ | refine xK ?_ | rw[decide_eq_true (by omega)] | rw[decide_eq_false (by omega)]); conv=>whnf)
  exact⟨.sh _ _ rfl le_dy0,fin rfl rfl,trivial⟩
 |ok b =>
  rw[h1] at CB;have hl:b.length=z.c.length:=by
   have:=runE_length h1;simpa using this
  have CN:=c_vNorm b (by omega);show ACalls prog _ _ (.tup [dyad (vNorm b),i64 0]);refine conP func205 rfl (by kernel_rfl) ?_;repeat ((first | refine .gF ?_ | refine .eF ?_ | refine cE CB ?_ | refine cE CN ?_ | refine xK ?_ | rw[decide_eq_true (by omega)] | rw[decide_eq_false (by omega)]); conv=>whnf)
  exact⟨fin rfl rfl,fin rfl rfl,trivial⟩
end
section
open Go Go.RowKit Go.Proofs.Tryz
attribute [local irreducible] dRound dAdd dMul dCmp dMin dMax dAbs dLess sOut sAdd sMul sNear sSize vNear vPlus vInner dOf dNeg sSub sMid mid1 wid1 vNorm zImage
def drow (n:Nat) (t:FS) (i:Nat):List FS:=(List.replicate n s0).set i t
theorem diag_drow (n:Nat) (t:FS):diag n t=(List.range n).map (drow n t):=rfl
theorem ok_fill {α:Type} {enc:α->AV} {z:AV} {ρ:Ren} {g n:Nat} {l:List α} (h1:∀ x,(enc x).lt g=true) (h2:∀ x,(enc x).off ρ=true) (z1:z.lt g=true) (z2:z.off ρ=true):okL ρ g (fillV enc z n l)=true:=by
 have hr:∀ k,(AV.ltL g (List.replicate k z)&&AV.offL ρ (List.replicate k z))=true:=fun k=>by
  induction k with
  |zero=>cases ρ <;> rfl
  |succ k ih =>
   rw[List.replicate_succ];simp only[AV.ltL,AV.offL,Bool.and_eq_true] at ih ⊢;exact⟨⟨z1,ih.1⟩,z2,ih.2⟩
 have ha:∀ a b:List AV,(AV.ltL g a&&AV.offL ρ a)=true->(AV.ltL g b&&AV.offL ρ b)=true->(AV.ltL g (a++b)&&AV.offL ρ (a++b))=true:=fun a b ha hb=>by
  induction a with
  |nil=>exact hb
  |cons x a ih =>
   simp only[AV.ltL,AV.offL,Bool.and_eq_true,List.cons_append] at ha hb ih ⊢;have:=ih ⟨ha.1.2,ha.2.2⟩;exact⟨⟨ha.1.1,this.1⟩,ha.2.1,this.2⟩
 have h:=ha _ _ (ok_map (n:=g) (ρ:=ρ) h1 h2 l) (hr (n-l.length));unfold okL;split
 ·simp only[Bool.and_eq_true] at h;exact h.1
 ·exact h
theorem wk_set {α:Type} {enc:α->AV} {z v:AV} {s:AS} {F:List Rid} {ρ:Ren} {g n:Nat} {q:List α} {x:α} (hq:q.length<n) (h:WkV s F ρ g v (enc x)) (he:∀ x,okV ρ g (enc x)=true) (hz:okV ρ g z=true) :
  ∀ (j:Nat) (a b:AV),((fillV enc z n q).set q.length v)[j]?=some a->(fillV enc z n (q++[x]))[j]?=some b->WkV s F ρ g a b:=fun j a b ha hb=>by
 rw[<- fillV_set hq] at hb;rw[List.getElem?_set] at ha hb;by_cases hj:q.length=j
 ·rw[if_pos hj] at ha hb;have hl:q.length<(fillV enc z n q).length:=by rw[fillV_len (Nat.le_of_lt hq)]; exact hq
  rw[if_pos hl] at ha hb;cases ha;cases hb;exact h
 ·rw[if_neg hj] at ha hb;rw[ha] at hb;cases hb;refine .inl ⟨.refl _,?_⟩;have hm:=List.mem_of_getElem? ha;unfold fillV at hm;rcases List.mem_append.1 hm with hm | hm
  ·obtain⟨y,_,rfl⟩:=List.mem_map.1 hm;exact he y
  ·rw[(List.mem_replicate.1 hm).2];exact hz
theorem frz_row {s:AS} {F:Rid->Prop} {i:Rid} {n k:Nat} {t:FS} {e:TypeId} {w:Nat} (hF:F i) (h:s.st i=some ⟨e,w,(List.replicate n zSp).set k (spa t)⟩):FrzV s F (.own i n) (lS (drow n t k)) :=
 .own i n _ _ hF h (by simp) (by simp[drow]) fun j x y hx hy=>by
  have hx:((List.replicate n zSp).set k (spa t))[j]?=some x:=hx;have hy:((drow n t k).map spa)[j]?=some y:=hy;unfold drow at hy;rw[List.getElem?_map,List.getElem?_set] at hy;rw[List.getElem?_set] at hx;by_cases hj:k=j
  ·rw[if_pos hj] at hx hy;by_cases hl:k<n
   ·rw[if_pos (by simpa using hl)] at hx hy;cases hx;cases hy;exact .refl rfl
   ·rw[if_neg (by simpa using hl)] at hx;cases hx
  ·rw[if_neg hj,List.getElem?_replicate] at hx hy;by_cases hl:j<n
   ·rw[if_pos hl] at hx hy;cases hx;cases hy;exact .sh _ _ rfl le_s0
   ·rw[if_neg hl] at hx;cases hx
theorem c_zTimes (z:ZO) (t:FS) (bits:Int) (hb:BOk bits) (hc:z.c.length<1000000) (hg:z.g.length<1000000) (hr2:Rows6 z.g) (hzr:z.r.length<1000000):ACalls prog 124 [zo z,spa t,i64 bits] (tZO (zTimes bits z t)):=by
 have hlc:(((z.c.map dyad).length:Nat):Int)=(z.c.length:Int):=by simp
 have CI:=c_zImage (diag z.c.length t) z bits hb (by simp[diag]; exact hc) (fun r hr=>by
  obtain⟨i,_,rfl⟩:=List.mem_map.1 hr;simp;exact hc) hc hg hr2 hzr
 unfold zTimes;refine conP func124 rfl (by kernel_rfl) ?_;repeat ((first | refine .gF ?_ | refine .eF ?_ | refine⟨⟨by omega,rfl,by simp only[lenLim]; omega⟩,?_⟩ | refine xK ?_ | rw[decide_eq_true (by omega)] | rw[decide_eq_false (by omega)]); conv=>whnf)
 refine .cut (fun _:Unit=>True) (fun _=>{ F:=[(2,1)],fr:=[(2,i64 bits),(3,.ptr (0,0) 0 0),(6,.ptr (0,2) 0 0),(9,lU (diag z.c.length t))],st:=[((0,0),⟨zTy,3,[zo z]⟩),((0,2),⟨zTy,3,[AV.ofVal (ty zTy).zero]⟩)],g:=60 }) ?_ ?_
 ·repeat ((first | refine .gF ?_ | refine .eF ?_ | refine xK ?_ | rw[decide_eq_true (by omega)] | rw[decide_eq_false (by omega)]); conv=>whnf)
  rw[hlc];refine .block (.loop (fun q:List (List FS)=>q.length<=z.c.length/\q=(List.range q.length).map (drow z.c.length t)) (fun q=>{ fr:=[(2,i64 bits),(3,.ptr (0,0) 0 0),(4,.ptr (0,1) 0 0),(6,.ptr (0,2) 0 0),(8,i64 (z.c.length:Nat)),(9,.own (2,1) z.c.length),(17,i64 (z.c.length:Nat)),(18,i64 (q.length:Nat))],st:=[((0,0),⟨zTy,3,[zo z]⟩),((0,1),⟨150,6,[spa t]⟩),((0,2),⟨zTy,3,[AV.ofVal (ty zTy).zero]⟩),((2,1),⟨110,1,fillV lS nilA z.c.length q⟩)],g:=9 }) (fun q=>z.c.length-q.length) [] ⟨Nat.zero_le _,rfl⟩ ?_ ?_)
  ·dsimp only;rw[fillV_nil];repeat' (first | exact trivial | exact .inl ⟨.refl _,rfl⟩ | exact⟨.same rfl rfl,nMb rfl,x_L⟩ | exact⟨_,rfl⟩ | exact x_W | exact rfl | exact .same rfl (ltL_rep rfl _) | exact x_E hlc | exact nMb rfl | exact Nat.le_of_ble_eq_true rfl | refine⟨?_,?_⟩)
   trace_state
  rintro q ⟨h1,h2⟩;dsimp only at h1 h2 ⊢;repeat ((first | refine .gF ?_ | refine .eF ?_ | refine xK ?_ | rw[decide_eq_true (by omega)] | rw[decide_eq_false (by omega)]); conv=>whnf)
  refine Br.mk (fun b=>?_) (fun b=>?_)
  ·have hlt:q.length<z.c.length:=by
    have:=of_decide_eq_true b;omega
   clear b;have hq1:(q++[drow z.c.length t q.length]).length=q.length+1:=by simp
   have hn:q++[drow z.c.length t q.length]=(List.range (q.length+1)).map (drow z.c.length t):=by
    rw[List.range_succ,List.map_append,<- h2];rfl
   conv=>whnf
   refine .cut (fun _:Unit=>True) (fun _=>{ F:=[(11,3)],fr:=[(2,i64 bits),(3,.ptr (0,0) 0 0),(4,.ptr (0,1) 0 0),(6,.ptr (0,2) 0 0),(8,i64 (z.c.length:Nat)),(9,.own (2,1) z.c.length),(17,i64 (z.c.length:Nat)),(18,i64 (q.length:Nat))],st:=[((0,0),⟨zTy,3,[zo z]⟩),((0,1),⟨150,6,[spa t]⟩),((0,2),⟨zTy,3,[AV.ofVal (ty zTy).zero]⟩),((2,1),⟨110,1,fillV lS nilA z.c.length (q++[drow z.c.length t q.length])⟩)],g:=9 }) ?_ ?_
   ·refine .block ?_;have hrep:(List.replicate z.c.length zSp)[q.length]?=some zSp:=by rw[List.getElem?_replicate,if_pos hlt]
    have hset:∀ v:AV,((fillV lS nilA z.c.length q).set q.length v)[q.length]?=some v:=fun v=>by
     rw[List.getElem?_set,if_pos rfl,if_pos (by rw[fillV_len h1]; exact hlt)]
    repeat ((first | refine .gF ?_ | refine .eF ?_ | refine⟨⟨by omega,rfl,by simp only[lenLim]; omega⟩,?_⟩ | refine⟨⟨rfl,rfl⟩,⟨by omega,by omega⟩,?_⟩ | refine elA_mk nilA (fillV_get (enc:=lS) (z:=nilA) hlt) ?_ | refine elA_mk zSp hrep ?_ | refine elA_mk _ (hset _) ?_ | refine xK ?_ | rw[decide_eq_true (by omega)] | rw[decide_eq_false (by omega)]); conv=>whnf)
    refine⟨(),trivial,?_⟩
    trace_state
    repeat' (first | exact trivial | exact .inl ⟨.refl _,rfl⟩ | exact⟨.same rfl rfl,nMb rfl,x_L⟩ | exact⟨_,rfl⟩ | exact x_W | exact rfl | exact .less _ rfl (by simp[fillV]; omega) (wk_set hlt (.inr (.inl (frz_row (.head _) rfl))) (fun _=>rfl) rfl) | exact nMb rfl | exact Nat.le_of_ble_eq_true rfl | refine⟨?_,?_⟩)
    trace_state
   ·rintro⟨⟩ _;repeat ((first | refine .gF ?_ | refine .eF ?_ | refine xK ?_ | rw[decide_eq_true (by omega)] | rw[decide_eq_false (by omega)]); conv=>whnf)
    refine⟨q++[drow z.c.length t q.length],⟨by omega,by rw[hq1]; exact hn⟩,?_,by show z.c.length-(q++[drow z.c.length t q.length]).length<z.c.length-q.length; omega⟩;repeat' (first | exact trivial | exact .inl ⟨.refl _,rfl⟩ | exact⟨.same rfl rfl,nMb rfl,x_L⟩ | exact⟨_,rfl⟩ | exact x_W | exact rfl | exact .same rfl (ok_fill (fun _=>rfl) (fun _=>rfl) rfl rfl) | exact x_E ((wI (n:=(q.length:Int)+1) (by omega) (by omega)).trans (by simp)) | exact nMb rfl | exact Nat.le_of_ble_eq_true rfl | refine⟨?_,?_⟩)
    trace_state
  ·have he:q.length=z.c.length:=by
    have:=of_decide_eq_false b;omega
   conv=>whnf
   refine⟨(),trivial,?_⟩;dsimp only;rw[he] at h2;rw[fillV_full (enc:=lS) (z:=nilA) he,h2,<- diag_drow];repeat' (first | exact trivial | exact .inl ⟨.refl _,rfl⟩ | exact⟨.same rfl rfl,nMb rfl,x_L⟩ | exact⟨_,rfl⟩ | exact x_W | exact rfl | exact .inr (.inl (.own2 (.head _) rfl (by simp[diag]) (closedL_map (fun _=>rfl) _) rfl)) | exact nMb rfl | exact Nat.le_of_ble_eq_true rfl | refine⟨?_,?_⟩)
   trace_state
 ·rintro⟨⟩ _;dsimp only;repeat ((first | refine .gF ?_ | refine .eF ?_ | refine cE CI ?_ | refine xK ?_ | rw[decide_eq_true (by omega)] | rw[decide_eq_false (by omega)]); conv=>whnf)
  exact⟨fin rfl rfl,fin rfl rfl,trivial⟩
end
end Go.Proofs.YtjdkdcmpifapeaaGreatDoor.Abs
