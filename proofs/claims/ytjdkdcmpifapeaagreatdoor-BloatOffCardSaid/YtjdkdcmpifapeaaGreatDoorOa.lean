/- Ratios: one divided by another one; whole numbers below and above. -/
import Derived.Test.YtjdkdcmpifapeaaGreatDoorMk
import Derived.Test.YtjdkdcmpifapeaaGreatDoorMl
import Derived.Test.YtjdkdcmpifapeaaGreatDoorNf
import Derived.Test.YtjdkdcmpifapeaaGreatDoorMp
import Derived.Test.YtjdkdcmpifapeaaGreatDoorMv
import Derived.Test.YtjdkdcmpifapeaaGreatDoorNe
set_option linter.unusedVariables false
set_option linter.unusedSectionVars false
set_option linter.unusedSimpArgs false
set_option maxHeartbeats 4000000
set_option maxRecDepth 10000
namespace Go.Proofs.YtjdkdcmpifapeaaGreatDoor.Abs
section
open Go Go.RowKit Go.Proofs.Tryz
attribute [local irreducible] qMake zMul zDiv
theorem qDiv_err {a b:FQ} (h:(if errN (zMul (qNum a) (qDen b))=0 then errN (zMul (qDen a) (qNum b)) else errN (zMul (qNum a) (qDen b)))≠0) :
  okOr q0 (qDiv a b)=q0/\errN (qDiv a b)=(if errN (zMul (qNum a) (qDen b))=0 then errN (zMul (qDen a) (qNum b)) else errN (zMul (qNum a) (qDen b))):=by
 unfold qDiv bnd;cases e1:zMul (qNum a) (qDen b) <;> cases e2:zMul (qDen a) (qNum b) <;> rw[e1,e2] at h <;> simp_all [errN,okOr]
theorem qDiv_step {a b:FQ} (h:(if errN (zMul (qNum a) (qDen b))=0 then errN (zMul (qDen a) (qNum b)) else errN (zMul (qNum a) (qDen b)))=0) :
  qDiv a b=qMake (okOr z0 (zMul (qNum a) (qDen b))) (okOr z0 (zMul (qDen a) (qNum b))):=by
 unfold qDiv bnd;cases e1:zMul (qNum a) (qDen b) <;> cases e2:zMul (qDen a) (qNum b) <;> rw[e1,e2] at h <;> simp_all [errN,okOr]
theorem c_qDiv (a b:FQ):ACalls prog 198 [rat a.q,rat b.q] (tQ (qDiv a b)):=by
 obtain⟨x1,e1,C1,hx1,he1⟩:=varT (t_wMul (qNum a) (qDen b));obtain⟨x2,e2,C2,hx2,he2⟩:=varT (t_wMul (qDen a) (qNum b));obtain⟨x3,e3,C3,hx3,he3⟩:=varT (c_qMake x1 x2);obtain⟨x,e,hx,he⟩:∃ x e,okOr q0 (qDiv a b)=x/\errN (qDiv a b)=e:=⟨_,_,rfl,rfl⟩
 obtain⟨f,hf,C4⟩:∃ f:Nat,(if e1=0 then e2 else e1)=f/\ACalls prog 93 [.sl [i64 (e1:Int),i64 (e2:Int)]] (i64 (f:Int)):=⟨_,rfl,by
  have:=c_first [(e1:Int),(e2:Int)] (Nat.le_of_ble_eq_true rfl);rwa [first2] at this⟩
 have hbad:f≠0->x=q0/\e=f:=fun h=>by
  have:=qDiv_err (a:=a) (b:=b) (by rw[he1,he2,hf]; exact h);rwa [hx,he,he1,he2,hf] at this
 have hgood:f=0->x=x3/\e=e3:=fun h=>by
  have:=qDiv_step (a:=a) (b:=b) (by rw[he1,he2,hf]; exact h);rw[hx1,hx2] at this;rw[<- hx,<- he,this];exact⟨hx3,he3⟩
 show ACalls prog _ _ (.tup [rat (okOr q0 (qDiv a b)).q,i64 (errN (qDiv a b))]);rw[hx,he];clear hx1 he1 hx2 he2 hx3 he3 hx he hf;refine conN func198 rfl (by kernel_rfl) ?_;conv=>whnf
 refine xK ?_;conv=>whnf
 refine cE (c_qDen b) ?_;conv=>whnf
 refine cE C1 ?_;conv=>whnf
 refine xK ?_;conv=>whnf
 refine cE (c_qDen a) ?_;conv=>whnf
 refine cE C2 ?_;conv=>whnf
 refine callL [(3,2)] [.sl [i64 (e1:Int),i64 (e2:Int)]] ⟨⟨_,rfl⟩,trivial⟩ ⟨.own2 (.head _) rfl rfl rfl rfl,trivial⟩ C4 rfl ?_;conv=>whnf
 refine Br.mk (fun h=>?_) (fun h=>?_)
 ·have hq:=hbad (by simpa using h);conv=>whnf
  refine cE c_qZero ?_;conv=>whnf
  exact⟨fin rfl (congrArg (fun x:FQ=>rat x.q) hq.1.symm),fin rfl (congrArg (fun x:Nat=>i64 x) hq.2.symm),trivial⟩
 ·have hq:=hgood (by simpa using h);conv=>whnf
  refine cE C3 ?_;conv=>whnf
  exact⟨fin rfl (congrArg (fun x:FQ=>rat x.q) hq.1.symm),fin rfl (congrArg (fun x:Nat=>i64 x) hq.2.symm),trivial⟩
def qFloor (a:FQ):FZ:=⟨a.q.num/(a.q.den:Int),Nat.lt_of_le_of_lt (ediv_natAbs_le _ (by have:=a.q.den_pos; omega)) a.hn⟩
def qCeil (a:FQ):FZ:=zNeg (qFloor (qNeg a))
theorem c_qFloor (a:FQ):ACalls prog 229 [rat a.q] (int (qFloor a).z):=by
 have C1:=c_qDen a;have C2:=c_wDiv (qNum a) (qDen a) (by show (a.q.den:Int)≠0; have:=a.q.den_pos; omega);refine conN func229 rfl (by kernel_rfl) ?_;conv=>whnf
 repeat ((first | refine .gF ?_ | refine .eF ?_ | refine cE C1 ?_ | refine cE C2 ?_ | refine xK ?_ | rw[decide_eq_true (by omega)] | rw[decide_eq_false (by omega)]); conv=>whnf)
 exact fin rfl rfl
theorem c_qCeil (a:FQ):ACalls prog 199 [rat a.q] (int (qCeil a).z):=by
 have C1:=c_qNeg a;have C2:=c_qFloor (qNeg a);have C3:=c_wNeg (qFloor (qNeg a));refine conN func199 rfl (by kernel_rfl) ?_;conv=>whnf
 repeat ((first | refine .gF ?_ | refine .eF ?_ | refine cE C1 ?_ | refine cE C2 ?_ | refine cE C3 ?_ | refine xK ?_ | rw[decide_eq_true (by omega)] | rw[decide_eq_false (by omega)]); conv=>whnf)
 exact fin rfl rfl
end
section
open Go Go.RowKit Go.Proofs.Tryz
attribute [local irreducible] dRound dAdd dMul dCmp dMin dMax dAbs dLess sOut sAdd sMul sNear sSize vNear vPlus vInner dOf dNeg
def lD (l:List FD):AV:=.sl (l.map dyad)
def zDy:AV:=AV.ofVal (ty 76).zero
def dHalf:FD:=dOf 1 (-1)
def sMid (a:FS):Except Nat FD:=bnd (dAdd a.lo a.hi) fun s=>dMul s dHalf
def mid1 (bits:Int) (x:FS):Except Nat (FD×FD):=bnd (sMid x) fun h=>bnd (dRound h bits false) fun m=>bnd (sSub x (sPoint m) bits) fun up=>.ok (m,sSize up)
theorem c_sNeg (a:FS):ACalls prog 270 [spa a] (spa (sNeg a)):=by
 have C1:=c_dNeg a.hi;have C2:=c_dNeg a.lo;unfold sNeg;obtain⟨x,hx⟩:∃ x,dNeg a.hi=x:=⟨_,rfl⟩
 obtain⟨y,hy⟩:∃ x,dNeg a.lo=x:=⟨_,rfl⟩
 rw[hx] at C1 ⊢;rw[hy] at C2 ⊢;refine conP func270 rfl (by kernel_rfl) ?_;repeat ((first | refine .gF ?_ | refine .eF ?_ | refine cE C1 ?_ | refine cE C2 ?_ | refine xK ?_ | rw[decide_eq_true (by omega)] | rw[decide_eq_false (by omega)]); conv=>whnf)
 exact fin rfl rfl
theorem c_sSub (a b:FS) (bits:Int) (hb:BOk bits):ACalls prog 263 [spa a,spa b,i64 bits] (tS (sSub a b bits)):=by
 obtain⟨x1,e1,C1,hx1,he1⟩:=varT (c_sAdd a (sNeg b) bits hb);show ACalls prog _ _ (.tup [spa (okOr s0 (sAdd a (sNeg b) bits)),i64 (errN (sAdd a (sNeg b) bits))]);rw[hx1,he1];have CN:=c_sNeg b;obtain⟨n,hn⟩:∃ n,sNeg b=n:=⟨_,rfl⟩
 rw[hn] at C1 CN;refine conP func263 rfl (by kernel_rfl) ?_;repeat ((first | refine .gF ?_ | refine .eF ?_ | refine cE CN ?_ | refine cE C1 ?_ | refine xK ?_ | rw[decide_eq_true (by omega)] | rw[decide_eq_false (by omega)]); conv=>whnf)
 exact⟨fin rfl rfl,fin rfl rfl,trivial⟩
theorem c_sMid (a:FS):ACalls prog 262 [spa a] (tD (sMid a)):=by
 have C1:=c_dAdd a.lo a.hi;have C2:=c_dOf 1 (-1) (by decide) (by decide);unfold sMid;change ACalls prog _ _ (dyad dHalf) at C2;obtain⟨hf,hhf⟩:∃ h,dHalf=h:=⟨_,rfl⟩
 rw[hhf] at C2 ⊢;cases h1:dAdd a.lo a.hi with
 |error e =>
  rw[h1] at C1;show ACalls prog _ _ (.tup [dyad d0,i64 ((e+1:Nat):Int)]);refine conP func262 rfl (by kernel_rfl) ?_;repeat ((first | refine .gF ?_ | refine .eF ?_ | refine cE C1 ?_ | refine xK ?_ | rw[decide_eq_true (by omega)] | rw[decide_eq_false (by omega)]); conv=>whnf)
  exact⟨.sh _ _ rfl le_dy0,fin rfl rfl,trivial⟩
 |ok s =>
  rw[h1] at C1;obtain⟨x2,e2,C3,hx2,he2⟩:=varT (c_dMul s hf);show ACalls prog _ _ (.tup [dyad (okOr d0 (dMul s hf)),i64 (errN (dMul s hf))]);rw[hx2,he2];refine conP func262 rfl (by kernel_rfl) ?_;repeat ((first | refine .gF ?_ | refine .eF ?_ | refine cE C1 ?_ | refine cE C2 ?_ | refine cE C3 ?_ | refine xK ?_ | rw[decide_eq_true (by omega)] | rw[decide_eq_false (by omega)]); conv=>whnf)
  exact⟨fin rfl rfl,fin rfl rfl,trivial⟩
end
section
open Go Go.RowKit Go.Proofs.Tryz
attribute [local irreducible] dRound dAdd dMul dCmp dMin dMax dAbs dLess sOut sAdd sMul sNear sSize vNear vPlus vInner dOf dNeg sSub mid1
def rowW (r:Except Nat (List FD)):List Row:=match r with
 |.ok l=>[⟨76,3,l.map dyad⟩]
 |.error _=>[]
def resW (r:Except Nat (List FD)):AV:=match r with
 |.ok l=>.tup [.own (0,0) l.length,i64 0]
 |.error e=>.tup [nilA,i64 ((e+1:Nat):Int)]
def wid1 (bits:Int) (p:FD×FD):Except Nat FD:=bnd (sAdd (sPoint p.1) (sPoint p.2) bits) fun s=>.ok s.hi
def zWid (bits:Int) (a b:List FD):Except Nat (List FD):=runE (wid1 bits) (a.zip b)
theorem zipl_get {α β:Type} {a:List α} {b:List β} {n:Nat} (hn:n<a.length) (hab:a.length<=b.length):(a.zip b)[n]'(by simp; omega)=(a[n],b[n]'(by omega)):=List.getElem_zip
theorem zipl_len {α β:Type} {a:List α} {b:List β} (hab:a.length<=b.length):(a.zip b).length=a.length:=by simp; omega
theorem lD_get {l:List FD} {i:Nat} (h:i<l.length):(l.map dyad)[((i:Nat):Int).toNat]?=some (dyad l[i]):=by
 rw[Int.toNat_natCast,List.getElem?_map,List.getElem?_eq_getElem h];rfl
theorem c_zWid (a b:List FD) (bits:Int) (hb:BOk bits) (hab:a.length<=b.length) (hl:a.length<1000000):ACallsN prog 146 [lD a,lD b,i64 bits] (rowW (zWid bits a b)) (resW (zWid bits a b)):=by
 have hla:(((a.map dyad).length:Nat):Int)=(a.length:Int):=by simp
 have hza:(a.map dyad).length=a.length:=by simp
 refine conNP func146 rfl (by kernel_rfl) ?_;repeat ((first | refine .gF ?_ | refine .eF ?_ | refine⟨⟨by omega,rfl,by simp only[lenLim]; omega⟩,?_⟩ | refine xK ?_ | rw[decide_eq_true (by omega)] | rw[decide_eq_false (by omega)]); conv=>whnf)
 refine .cut (fun r:List FD=>zWid bits a b=.ok r) (fun r=>{ fr:=[(8,.own (1,2) r.length)],st:=[((1,2),⟨76,3,r.map dyad⟩)],g:=60 }) ?_ ?_
 ·repeat ((first | refine .gF ?_ | refine .eF ?_ | refine xK ?_ | rw[decide_eq_true (by omega)] | rw[decide_eq_false (by omega)]); conv=>whnf)
  rw[hla];refine .block (.loop (fun r:List FD=>r.length<=a.length/\runE (wid1 bits) ((a.zip b).take r.length)=.ok r) (fun r=>{ fr:=[(0,lD a),(1,lD b),(2,i64 bits),(8,.own (1,2) a.length),(15,lD a),(16,i64 (a.length:Nat)),(17,i64 (r.length:Nat))],st:=[((1,2),⟨76,3,fillV dyad zDy a.length r⟩)],g:=9 }) (fun r=>a.length-r.length) [] ⟨Nat.zero_le _,rfl⟩ ?_ ?_)
  ·dsimp only;rw[fillV_nil];repeat' (first | exact trivial | exact .inl ⟨.refl _,rfl⟩ | exact⟨.same rfl rfl,nMb rfl,x_L⟩ | exact⟨_,rfl⟩ | exact x_W | exact rfl | exact .same rfl (ltL_rep rfl _) | exact nMb rfl | exact Nat.le_of_ble_eq_true rfl | refine⟨?_,?_⟩)
  rintro r ⟨h1,h2⟩;dsimp only at h1 h2 ⊢;repeat ((first | refine .gF ?_ | refine .eF ?_ | refine xK ?_ | rw[decide_eq_true (by omega)] | rw[decide_eq_false (by omega)]); conv=>whnf)
  refine Br.mk (fun q=>?_) (fun q=>?_)
  ·have hlt:r.length<a.length:=by
    have:=of_decide_eq_true q;omega
   clear q;have hltb:r.length<b.length:=by omega
   have hA:=lD_get hlt;have hB:=lD_get hltb;have hz:=zipl_get hlt hab;have hstep:=fun (x:FD) (e:Nat)=>runE_step (f:=wid1 bits) (l:=a.zip b) (d:=d0) (x:=x) (e:=e) (by rw[zipl_len hab]; exact hlt) h2
   rw[hz] at hstep;obtain⟨x,hx⟩:∃ x,a[r.length]=x:=⟨_,rfl⟩
   obtain⟨y,hy⟩:∃ x,b[r.length]=x:=⟨_,rfl⟩
   rw[hx] at hA hstep;rw[hy] at hB hstep;have C1:=c_sPoint x;have C2:=c_sPoint y;have C3:=c_sAdd (sPoint x) (sPoint y) bits hb;conv=>whnf
   cases hs:sAdd (sPoint x) (sPoint y) bits with
   |error e =>
    have hw:wid1 bits (x,y)=.error e:=by unfold wid1; show bnd (sAdd (sPoint x) (sPoint y) bits) _=_; rw[hs]; rfl
    have he:=(hstep d0 (e+1) (by rw[hw]; rfl) (by rw[hw]; rfl)).1 (by omega);rw[hs] at C3;have hR:zWid bits a b=.error e:=he;rw[hR];refine .cut (fun _:Unit=>False) (fun _=>{ fr:=[],st:=[],g:=60 }) ?_ ?_
    ·refine .block ?_;repeat ((first | refine .gF ?_ | refine .eF ?_ | refine cE C1 ?_ | refine cE C2 ?_ | refine cE C3 ?_ | refine⟨_,⟨by omega,hA,rfl,rfl⟩,?_⟩ | refine⟨_,⟨by omega,hB,rfl,rfl⟩,?_⟩ | refine xK ?_ | rw[decide_eq_true (by omega)] | rw[decide_eq_false (by omega)]); conv=>whnf)
     exact⟨[],⟨.frz _ _ (fin rfl rfl),.frz _ _ (fin rfl rfl),trivial⟩,trivial,List.nodup_nil⟩
    ·rintro⟨⟩ q;exact q.elim
   |ok s =>
    have hw:wid1 bits (x,y)=.ok s.hi:=by unfold wid1; show bnd (sAdd (sPoint x) (sPoint y) bits) _=_; rw[hs]; rfl
    have he:=(hstep s.hi 0 (by rw[hw]; rfl) (by rw[hw]; rfl)).2 rfl;rw[hs] at C3;refine .cut (fun _:Unit=>True) (fun _=>{ fr:=[(0,lD a),(1,lD b),(2,i64 bits),(8,.own (1,2) a.length),(15,lD a),(16,i64 (a.length:Nat)),(17,i64 (r.length:Nat))],st:=[((1,2),⟨76,3,fillV dyad zDy a.length (r++[s.hi])⟩)],g:=60 }) ?_ ?_
    ·refine .block ?_;repeat ((first | refine .gF ?_ | refine .eF ?_ | refine cE C1 ?_ | refine cE C2 ?_ | refine cE C3 ?_ | refine⟨_,⟨by omega,hA,rfl,rfl⟩,?_⟩ | refine⟨_,⟨by omega,hB,rfl,rfl⟩,?_⟩ | refine⟨⟨rfl,rfl⟩,⟨by omega,by omega⟩,?_⟩ | refine elA_mk zDy (fillV_get (enc:=dyad) (z:=zDy) hlt) ?_ | refine xK ?_ | rw[decide_eq_true (by omega)] | rw[decide_eq_false (by omega)]); conv=>whnf)
     refine⟨(),trivial,?_⟩;repeat' (first | exact trivial | exact .inl ⟨.refl _,rfl⟩ | exact⟨.same rfl rfl,nMb rfl,x_L⟩ | exact⟨_,rfl⟩ | exact x_W | exact rfl | exact .same (congrArg (fun z=>some (Row.mk 76 3 z)) (fillV_set (enc:=dyad) hlt)) (ltL_fillV (fun _=>rfl) rfl) | exact nMb rfl | exact Nat.le_of_ble_eq_true rfl | refine⟨?_,?_⟩)
     trace_state
    ·rintro⟨⟩ _;repeat ((first | refine .gF ?_ | refine .eF ?_ | refine xK ?_ | rw[decide_eq_true (by omega)] | rw[decide_eq_false (by omega)]); conv=>whnf)
     refine⟨r++[s.hi],⟨by simp; omega,by rw[List.length_append]; exact he⟩,?_,by show a.length-(r++[s.hi]).length<a.length-r.length; simp; omega⟩;repeat' (first | exact trivial | exact .inl ⟨.refl _,rfl⟩ | exact⟨.same rfl rfl,nMb rfl,x_L⟩ | exact⟨_,rfl⟩ | exact x_W | exact rfl | exact .same rfl (ltL_fillV (fun _=>rfl) rfl) | exact x_E ((wI (n:=(r.length:Int)+1) (by omega) (by omega)).trans (by simp)) | exact nMb rfl | exact Nat.le_of_ble_eq_true rfl | refine⟨?_,?_⟩)
     trace_state
  ·have he:r.length=a.length:=by
    have:=of_decide_eq_false q;omega
   conv=>whnf
   refine⟨r,?_,?_⟩
   ·rw[he,<- zipl_len hab,List.take_length] at h2;exact h2
   ·dsimp only;rw[<- fillV_full (enc:=dyad) (z:=zDy) he,he];repeat' (first | exact trivial | exact .inl ⟨.refl _,rfl⟩ | exact⟨.same rfl rfl,nMb rfl,x_L⟩ | exact⟨_,rfl⟩ | exact x_W | exact rfl | exact .same rfl (ltL_fillV (fun _=>rfl) rfl) | exact nMb rfl | exact Nat.le_of_ble_eq_true rfl | refine⟨?_,?_⟩)
    trace_state
 ·intro r hr;rw[hr];repeat ((first | refine .gF ?_ | refine .eF ?_ | refine xK ?_ | rw[decide_eq_true (by omega)] | rw[decide_eq_false (by omega)]); conv=>whnf)
  refine⟨[(1,2)],⟨⟨.own 0 (1,2) r.length rfl,.frz _ _ (fin rfl rfl),trivial⟩,⟨⟨_,rfl,.same (closedL_map (fun _=>rfl) _)⟩,trivial⟩,by decide⟩⟩
end
section
open Go Go.RowKit Go.Proofs.Tryz
attribute [local irreducible] dRound dAdd dMul dCmp dMin dMax dAbs dLess sOut sAdd sMul sNear sSize vNear vPlus vInner dOf dNeg sSub sMid
def rowP (r:Except Nat (List (FD×FD))):List Row:=match r with
 |.ok l=>[⟨76,3,l.map fun p=>dyad p.1⟩,⟨76,3,l.map fun p=>dyad p.2⟩]
 |.error _=>[]
def resP (r:Except Nat (List (FD×FD))):AV:=match r with
 |.ok l=>.tup [.own (0,0) l.length,.own (0,1) l.length,i64 0]
 |.error e=>.tup [nilA,nilA,i64 ((e+1:Nat):Int)]
def zMids (bits:Int) (s:List FS):Except Nat (List (FD×FD)):=runE (mid1 bits) s
theorem lS_get {l:List FS} {i:Nat} (h:i<l.length):(l.map spa)[((i:Nat):Int).toNat]?=some (spa l[i]):=by
 rw[Int.toNat_natCast,List.getElem?_map,List.getElem?_eq_getElem h];rfl
theorem mid1_cases (bits:Int) (x:FS):(∃ e,sMid x=.error e/\mid1 bits x=.error e)\/(∃ h e,sMid x=.ok h/\dRound h bits false=.error e/\mid1 bits x=.error e) \/
  (∃ h m e,sMid x=.ok h/\dRound h bits false=.ok m/\sSub x (sPoint m) bits=.error e/\mid1 bits x=.error e)\/∃ h m u,sMid x=.ok h/\dRound h bits false=.ok m/\sSub x (sPoint m) bits=.ok u/\mid1 bits x=.ok (m,sSize u):=by
 unfold mid1;cases h1:sMid x with
 |error e=>exact .inl ⟨e,rfl,rfl⟩
 |ok h =>
  rw[bnd_okk];cases h2:dRound h bits false with
  |error e=>exact .inr (.inl ⟨h,e,rfl,h2,rfl⟩)
  |ok m =>
   rw[bnd_okk];cases h3:sSub x (sPoint m) bits with
   |error e=>exact .inr (.inr (.inl ⟨h,m,e,rfl,h2,h3,rfl⟩))
   |ok u=>exact .inr (.inr (.inr ⟨h,m,u,rfl,h2,h3,rfl⟩))
abbrev e1 (p:FD×FD):AV:=dyad p.1
abbrev e2 (p:FD×FD):AV:=dyad p.2
theorem c_zMids (a:List FS) (bits:Int) (hb:BOk bits) (hl:a.length<1000000):ACallsN prog 220 [lS a,i64 bits] (rowP (zMids bits a)) (resP (zMids bits a)):=by
 have hla:(((a.map spa).length:Nat):Int)=(a.length:Int):=by simp
 have hza:(a.map spa).length=a.length:=by simp
 refine conNP func220 rfl (by kernel_rfl) ?_;repeat ((first | refine .gF ?_ | refine .eF ?_ | refine⟨⟨by omega,rfl,by simp only[lenLim]; omega⟩,?_⟩ | refine xK ?_ | rw[decide_eq_true (by omega)] | rw[decide_eq_false (by omega)]); conv=>whnf)
 refine .cut (fun r:List (FD×FD)=>zMids bits a=.ok r) (fun r=>{ fr:=[(7,.own (1,2) r.length),(8,.own (1,5) r.length)],st:=[((1,2),⟨76,3,r.map e1⟩),((1,5),⟨76,3,r.map e2⟩)],g:=60 }) ?_ ?_
 ·repeat ((first | refine .gF ?_ | refine .eF ?_ | refine xK ?_ | rw[decide_eq_true (by omega)] | rw[decide_eq_false (by omega)]); conv=>whnf)
  rw[hla];refine .block (.loop (fun r:List (FD×FD)=>r.length<=a.length/\runE (mid1 bits) (a.take r.length)=.ok r) (fun r=>{ fr:=[(1,i64 bits),(7,.own (1,2) a.length),(8,.own (1,5) a.length),(20,lS a),(21,i64 (a.length:Nat)),(22,i64 (r.length:Nat))],st:=[((1,2),⟨76,3,fillV e1 zDy a.length r⟩),((1,5),⟨76,3,fillV e2 zDy a.length r⟩)],g:=9 }) (fun r=>a.length-r.length) [] ⟨Nat.zero_le _,rfl⟩ ?_ ?_)
  ·dsimp only;rw[fillV_nil,fillV_nil];repeat' (first | exact trivial | exact .inl ⟨.refl _,rfl⟩ | exact⟨.same rfl rfl,nMb rfl,x_L⟩ | exact⟨_,rfl⟩ | exact x_W | exact rfl | exact .same rfl (ltL_rep rfl _) | exact nMb rfl | exact Nat.le_of_ble_eq_true rfl | refine⟨?_,?_⟩)
  rintro r ⟨h1,h2⟩;dsimp only at h1 h2 ⊢;repeat ((first | refine .gF ?_ | refine .eF ?_ | refine xK ?_ | rw[decide_eq_true (by omega)] | rw[decide_eq_false (by omega)]); conv=>whnf)
  refine Br.mk (fun q=>?_) (fun q=>?_)
  ·have hlt:r.length<a.length:=by
    have:=of_decide_eq_true q;omega
   clear q;have hA:=lS_get hlt;have hstep:=fun (x:FD×FD) (e:Nat)=>runE_step (f:=mid1 bits) (l:=a) (d:=(d0,d0)) (x:=x) (e:=e) hlt h2
   obtain⟨x,hx⟩:∃ x,a[r.length]=x:=⟨_,rfl⟩
   rw[hx] at hA hstep;have C1:=c_sMid x;conv=>whnf
   rcases mid1_cases bits x with ⟨e,k1,hw⟩ | ⟨h,e,k1,k2,hw⟩ | ⟨h,m,e,k1,k2,k3,hw⟩ | ⟨h,m,u,k1,k2,k3,hw⟩
   ·rw[k1] at C1;have hR:zMids bits a=.error e:=(hstep (d0,d0) (e+1) (by rw[hw]; rfl) (by rw[hw]; rfl)).1 (by omega);rw[hR];clear hstep hR;refine .cut (fun _:Unit=>False) (fun _=>{ fr:=[],st:=[],g:=60 }) ?_ ?_
    ·refine .block ?_;repeat ((first | refine .gF ?_ | refine .eF ?_ | refine cE C1 ?_ | refine⟨_,⟨by omega,hA,rfl,rfl⟩,?_⟩ | refine xK ?_ | rw[decide_eq_true (by omega)] | rw[decide_eq_false (by omega)]); conv=>whnf)
     exact⟨[],⟨.frz _ _ (fin rfl rfl),.frz _ _ (fin rfl rfl),.frz _ _ (fin rfl rfl),trivial⟩,trivial,List.nodup_nil⟩
    ·rintro⟨⟩ q;exact q.elim
   ·have C2:=c_dRound h bits false hb.1 hb.2;rw[k1] at C1;rw[k2] at C2;have hR:zMids bits a=.error e:=(hstep (d0,d0) (e+1) (by rw[hw]; rfl) (by rw[hw]; rfl)).1 (by omega);rw[hR];clear hstep hR;refine .cut (fun _:Unit=>False) (fun _=>{ fr:=[],st:=[],g:=60 }) ?_ ?_
    ·refine .block ?_;repeat ((first | refine .gF ?_ | refine .eF ?_ | refine cE C1 ?_ | refine cE C2 ?_ | refine⟨_,⟨by omega,hA,rfl,rfl⟩,?_⟩ | refine xK ?_ | rw[decide_eq_true (by omega)] | rw[decide_eq_false (by omega)]); conv=>whnf)
     exact⟨[],⟨.frz _ _ (fin rfl rfl),.frz _ _ (fin rfl rfl),.frz _ _ (fin rfl rfl),trivial⟩,trivial,List.nodup_nil⟩
    ·rintro⟨⟩ q;exact q.elim
   ·have C2:=c_dRound h bits false hb.1 hb.2;have C3:=c_sPoint m;have C4:=c_sSub x (sPoint m) bits hb;rw[k1] at C1;rw[k2] at C2;rw[k3] at C4;have hR:zMids bits a=.error e:=(hstep (d0,d0) (e+1) (by rw[hw]; rfl) (by rw[hw]; rfl)).1 (by omega);rw[hR];clear hstep hR;refine .cut (fun _:Unit=>False) (fun _=>{ fr:=[],st:=[],g:=60 }) ?_ ?_
    ·refine .block ?_;repeat ((first | refine .gF ?_ | refine .eF ?_ | refine cE C1 ?_ | refine cE C2 ?_ | refine cE C3 ?_ | refine cE C4 ?_ | refine⟨_,⟨by omega,hA,rfl,rfl⟩,?_⟩ | refine xK ?_ | rw[decide_eq_true (by omega)] | rw[decide_eq_false (by omega)]); conv=>whnf)
     exact⟨[],⟨.frz _ _ (fin rfl rfl),.frz _ _ (fin rfl rfl),.frz _ _ (fin rfl rfl),trivial⟩,trivial,List.nodup_nil⟩
    ·rintro⟨⟩ q;exact q.elim
   ·have C2:=c_dRound h bits false hb.1 hb.2;have C3:=c_sPoint m;have C4:=c_sSub x (sPoint m) bits hb;have C5:=c_sSize u;rw[k1] at C1;rw[k2] at C2;rw[k3] at C4;obtain⟨y,hy⟩:∃ y,sSize u=y:=⟨_,rfl⟩
    rw[hy] at C5 hw;have he:=(hstep (m,y) 0 (by rw[hw]; rfl) (by rw[hw]; rfl)).2 rfl;refine .cut (fun _:Unit=>True) (fun _=>{ fr:=[(1,i64 bits),(7,.own (1,2) a.length),(8,.own (1,5) a.length),(20,lS a),(21,i64 (a.length:Nat)),(22,i64 (r.length:Nat))],st:=[((1,2),⟨76,3,fillV e1 zDy a.length (r++[(m,y)])⟩),((1,5),⟨76,3,fillV e2 zDy a.length (r++[(m,y)])⟩)],g:=60 }) ?_ ?_
    ·refine .block ?_;repeat ((first | refine .gF ?_ | refine .eF ?_ | refine cE C1 ?_ | refine cE C2 ?_ | refine cE C3 ?_ | refine cE C4 ?_ | refine cE C5 ?_ | refine⟨_,⟨by omega,hA,rfl,rfl⟩,?_⟩ | refine⟨⟨rfl,rfl⟩,⟨by omega,by omega⟩,?_⟩ | refine elA_mk zDy (fillV_get (enc:=e1) (z:=zDy) hlt) ?_ | refine elA_mk zDy (fillV_get (enc:=e2) (z:=zDy) hlt) ?_ | refine xK ?_ | rw[decide_eq_true (by omega)] | rw[decide_eq_false (by omega)]); conv=>whnf)
     refine⟨(),trivial,?_⟩;repeat' (first | exact trivial | exact .inl ⟨.refl _,rfl⟩ | exact⟨.same rfl rfl,nMb rfl,x_L⟩ | exact⟨_,rfl⟩ | exact x_W | exact rfl | exact .same (congrArg (fun z=>some (Row.mk 76 3 z)) (fillV_set (enc:=e1) (x:=(m,y)) hlt)) (ltL_fillV (fun _=>rfl) rfl) | exact .same (congrArg (fun z=>some (Row.mk 76 3 z)) (fillV_set (enc:=e2) (x:=(m,y)) hlt)) (ltL_fillV (fun _=>rfl) rfl) | exact nMb rfl | exact Nat.le_of_ble_eq_true rfl | refine⟨?_,?_⟩)
    ·rintro⟨⟩ _;repeat ((first | refine .gF ?_ | refine .eF ?_ | refine xK ?_ | rw[decide_eq_true (by omega)] | rw[decide_eq_false (by omega)]); conv=>whnf)
     refine⟨r++[(m,y)],⟨by simp; omega,by rw[List.length_append]; exact he⟩,?_,by show a.length-(r++[(m,y)]).length<a.length-r.length; simp; omega⟩;repeat' (first | exact trivial | exact .inl ⟨.refl _,rfl⟩ | exact⟨.same rfl rfl,nMb rfl,x_L⟩ | exact⟨_,rfl⟩ | exact x_W | exact rfl | exact .same rfl (ltL_fillV (fun _=>rfl) rfl) | exact x_E ((wI (n:=(r.length:Int)+1) (by omega) (by omega)).trans (by simp)) | exact nMb rfl | exact Nat.le_of_ble_eq_true rfl | refine⟨?_,?_⟩)
  ·have he:r.length=a.length:=by
    have:=of_decide_eq_false q;omega
   conv=>whnf
   refine⟨r,?_,?_⟩
   ·rw[he,List.take_length] at h2;exact h2
   ·dsimp only;rw[<- fillV_full (enc:=e1) (z:=zDy) he,<- fillV_full (enc:=e2) (z:=zDy) he,he];repeat' (first | exact trivial | exact .inl ⟨.refl _,rfl⟩ | exact⟨.same rfl rfl,nMb rfl,x_L⟩ | exact⟨_,rfl⟩ | exact x_W | exact rfl | exact .same rfl (ltL_fillV (fun _=>rfl) rfl) | exact nMb rfl | exact Nat.le_of_ble_eq_true rfl | refine⟨?_,?_⟩)
 ·intro r hr;rw[hr];repeat ((first | refine .gF ?_ | refine .eF ?_ | refine xK ?_ | rw[decide_eq_true (by omega)] | rw[decide_eq_false (by omega)]); conv=>whnf)
  refine⟨[(1,2),(1,5)],⟨⟨.own 0 (1,2) r.length rfl,.own 1 (1,5) r.length rfl,.frz _ _ (fin rfl rfl),trivial⟩,⟨⟨_,rfl,.same (closedL_map (fun _=>rfl) _)⟩,⟨_,rfl,.same (closedL_map (fun _=>rfl) _)⟩,trivial⟩,by decide⟩⟩
end
section
open Go Go.RowKit Go.Proofs.Tryz
attribute [local irreducible] dRound dAdd dMul dCmp dMin dMax dAbs dLess sOut sAdd sMul sNear sSize vNear vPlus vInner dOf dNeg sSub sMid mid1
theorem mvL_map {α:Type} {g:Nat} {f:α->AV} (h:∀ x,(f x).mv g=f x):∀ l:List α,AV.mvL g (l.map f)=l.map f
 |[]=>rfl
 |x::l=>by
  show (f x).mv g::AV.mvL g (l.map f)=f x::l.map f;rw[h x,mvL_map h l]
theorem c_zPoints (a:List FD) (hl:a.length<1000000):ACalls prog 148 [lD a] (lS (a.map sPoint)):=by
 have hla:(((a.map dyad).length:Nat):Int)=(a.length:Int):=by simp
 have hza:(a.map dyad).length=a.length:=by simp
 refine conP func148 rfl (by kernel_rfl) ?_;repeat ((first | refine .gF ?_ | refine .eF ?_ | refine⟨⟨by omega,rfl,by simp only[lenLim]; omega⟩,?_⟩ | refine xK ?_ | rw[decide_eq_true (by omega)] | rw[decide_eq_false (by omega)]); conv=>whnf)
 refine .cut (fun _:Unit=>True) (fun _=>{ fr:=[(3,.own (1,2) a.length)],st:=[((1,2),⟨150,6,(a.map sPoint).map spa⟩)],g:=60 }) ?_ ?_
 ·repeat ((first | refine .gF ?_ | refine .eF ?_ | refine xK ?_ | rw[decide_eq_true (by omega)] | rw[decide_eq_false (by omega)]); conv=>whnf)
  rw[hla];refine .block (.loop (fun r:List FS=>r.length<=a.length/\r=(a.take r.length).map sPoint) (fun r=>{ fr:=[(3,.own (1,2) a.length),(9,lD a),(10,i64 (a.length:Nat)),(11,i64 (r.length:Nat))],st:=[((1,2),⟨150,6,fillV spa zSp a.length r⟩)],g:=9 }) (fun r=>a.length-r.length) [] ⟨Nat.zero_le _,rfl⟩ ?_ ?_)
  ·dsimp only;rw[fillV_nil];repeat' (first | exact trivial | exact .inl ⟨.refl _,rfl⟩ | exact⟨.same rfl rfl,nMb rfl,x_L⟩ | exact⟨_,rfl⟩ | exact x_W | exact rfl | exact .same rfl (ltL_rep rfl _) | exact nMb rfl | exact Nat.le_of_ble_eq_true rfl | refine⟨?_,?_⟩)
  rintro r ⟨h1,h2⟩;dsimp only at h1 h2 ⊢;repeat ((first | refine .gF ?_ | refine .eF ?_ | refine xK ?_ | rw[decide_eq_true (by omega)] | rw[decide_eq_false (by omega)]); conv=>whnf)
  refine Br.mk (fun q=>?_) (fun q=>?_)
  ·have hlt:r.length<a.length:=by
    have:=of_decide_eq_true q;omega
   clear q;have hA:=lD_get hlt;have hn:r++[sPoint a[r.length]]=(a.take (r.length+1)).map sPoint:=by rw[List.take_succ_eq_append_getElem hlt,List.map_append,<- h2]; rfl
   obtain⟨x,hx⟩:∃ x,a[r.length]=x:=⟨_,rfl⟩
   rw[hx] at hA hn;have C1:=c_sPoint x;conv=>whnf
   refine .cut (fun _:Unit=>True) (fun _=>{ fr:=[(3,.own (1,2) a.length),(9,lD a),(10,i64 (a.length:Nat)),(11,i64 (r.length:Nat))],st:=[((1,2),⟨150,6,fillV spa zSp a.length (r++[sPoint x])⟩)],g:=60 }) ?_ ?_
   ·refine .block ?_;repeat ((first | refine .gF ?_ | refine .eF ?_ | refine cE C1 ?_ | refine⟨_,⟨by omega,hA,rfl,rfl⟩,?_⟩ | refine⟨⟨rfl,rfl⟩,⟨by omega,by omega⟩,?_⟩ | refine elA_mk zSp (fillV_get (enc:=spa) (z:=zSp) hlt) ?_ | refine xK ?_ | rw[decide_eq_true (by omega)] | rw[decide_eq_false (by omega)]); conv=>whnf)
    refine⟨(),trivial,?_⟩;repeat' (first | exact trivial | exact .inl ⟨.refl _,rfl⟩ | exact⟨.same rfl rfl,nMb rfl,x_L⟩ | exact⟨_,rfl⟩ | exact x_W | exact rfl | exact .same (congrArg (fun z=>some (Row.mk 150 6 z)) (fillV_set (enc:=spa) (x:=sPoint x) hlt)) (ltL_fillV (fun _=>rfl) rfl) | exact nMb rfl | exact Nat.le_of_ble_eq_true rfl | refine⟨?_,?_⟩)
   ·rintro⟨⟩ _;repeat ((first | refine .gF ?_ | refine .eF ?_ | refine xK ?_ | rw[decide_eq_true (by omega)] | rw[decide_eq_false (by omega)]); conv=>whnf)
    refine⟨r++[sPoint x],⟨by simp; omega,by rw[List.length_append]; exact hn⟩,?_,by show a.length-(r++[sPoint x]).length<a.length-r.length; simp; omega⟩;repeat' (first | exact trivial | exact .inl ⟨.refl _,rfl⟩ | exact⟨.same rfl rfl,nMb rfl,x_L⟩ | exact⟨_,rfl⟩ | exact x_W | exact rfl | exact .same rfl (ltL_fillV (fun _=>rfl) rfl) | exact x_E ((wI (n:=(r.length:Int)+1) (by omega) (by omega)).trans (by simp)) | exact nMb rfl | exact Nat.le_of_ble_eq_true rfl | refine⟨?_,?_⟩)
  ·have he:r.length=a.length:=by
    have:=of_decide_eq_false q;omega
   conv=>whnf
   refine⟨(),trivial,?_⟩;dsimp only;rw[he,List.take_length] at h2;rw[<- h2,<- fillV_full (enc:=spa) (z:=zSp) he];repeat' (first | exact trivial | exact .inl ⟨.refl _,rfl⟩ | exact⟨.same rfl rfl,nMb rfl,x_L⟩ | exact⟨_,rfl⟩ | exact x_W | exact rfl | exact .same rfl (ltL_fillV (fun _=>rfl) rfl) | exact nMb rfl | exact Nat.le_of_ble_eq_true rfl | refine⟨?_,?_⟩)
 ·rintro⟨⟩ _;repeat ((first | refine .gF ?_ | refine .eF ?_ | refine xK ?_ | rw[decide_eq_true (by omega)] | rw[decide_eq_false (by omega)]); conv=>whnf)
  exact .own2 trivial rfl (by simp) (closedL_map (fun _=>rfl) _) rfl
def zList (bits:Int) (x:List FQ):Except Nat (List (FD×FD)):=bnd (vNear x bits) (zMids bits)
theorem c_zList (x:List FQ) (bits:Int) (hb:BOk bits) (hl:x.length<1000000):ACallsN prog 145 [lQ x,i64 bits] (rowP (zList bits x)) (resP (zList bits x)):=by
 have C1:=c_vNear x bits hb hl;unfold zList;cases h1:vNear x bits with
 |error e =>
  rw[h1] at C1;refine conNP func145 rfl (by kernel_rfl) ?_;repeat ((first | refine .gF ?_ | refine .eF ?_ | refine cE C1 ?_ | refine xK ?_ | rw[decide_eq_true (by omega)] | rw[decide_eq_false (by omega)]); conv=>whnf)
  exact⟨[],⟨.frz _ _ (fin rfl rfl),.frz _ _ (fin rfl rfl),.frz _ _ (fin rfl rfl),trivial⟩,trivial,List.nodup_nil⟩
 |ok s =>
  rw[h1] at C1;rw[bnd_okk];have hs:s.length=x.length:=runE_length (f:=fun a=>sNear a bits) (by unfold vNear at h1; exact h1);have C2:=c_zMids s bits hb (by omega);cases h2:zMids bits s with
  |error e =>
   rw[h2] at C2;refine conNP func145 rfl (by kernel_rfl) ?_;repeat ((first | refine .gF ?_ | refine .eF ?_ | refine cE C1 ?_ | refine callN C2 rfl ?_ | refine xK ?_ | rw[decide_eq_true (by omega)] | rw[decide_eq_false (by omega)]); conv=>whnf)
   exact⟨[],⟨.frz _ _ (fin rfl rfl),.frz _ _ (fin rfl rfl),.frz _ _ (fin rfl rfl),trivial⟩,trivial,List.nodup_nil⟩
  |ok l =>
   rw[h2] at C2;refine conNP func145 rfl (by kernel_rfl) ?_;repeat ((first | refine .gF ?_ | refine .eF ?_ | refine cE C1 ?_ | refine callN C2 rfl ?_ | refine xK ?_ | rw[decide_eq_true (by omega)] | rw[decide_eq_false (by omega)]); conv=>whnf)
   refine⟨[(4,0),(4,1)],⟨⟨.own 0 _ _ rfl,.own 1 _ _ rfl,.frz _ _ (fin rfl rfl),trivial⟩,⟨⟨_,congrArg (fun z=>some (Row.mk 76 3 z)) (mvL_map (fun _=>rfl) l),.same (closedL_map (fun _=>rfl) _)⟩,⟨_,congrArg (fun z=>some (Row.mk 76 3 z)) (mvL_map (fun _=>rfl) l),.same (closedL_map (fun _=>rfl) _)⟩,trivial⟩,by decide⟩⟩
end
section
open Go Go.RowKit Go.Proofs.Tryz
attribute [local irreducible] dRound dAdd dMul dCmp dMin dMax dAbs dLess sOut sAdd sMul sNear sSize vNear vPlus vInner dOf dNeg sSub sMid mid1
def inn (bits:Int) (x:List FD) (r:List FS):Except Nat FS:=vInner bits r (x.map sPoint)
def zImg (bits:Int) (a:List (List FS)) (x:List FD):Except Nat (List (FD×FD)):=bnd (runE (inn bits x) a) (zMids bits)
theorem lU_get {a:List (List FS)} {i:Nat} (h:i<a.length):(a.map lS)[((i:Nat):Int).toNat]?=some (lS a[i]):=by
 rw[Int.toNat_natCast,List.getElem?_map,List.getElem?_eq_getElem h];rfl
theorem c_zImg (a:List (List FS)) (x:List FD) (bits:Int) (hb:BOk bits) (hl:a.length<1000000) (hr:Rows6 a) (hx:x.length<1000000):ACallsN prog 246 [lU a,lD x,i64 bits] (rowP (zImg bits a x)) (resP (zImg bits a x)):=by
 have hla:(((a.map lS).length:Nat):Int)=(a.length:Int):=by simp
 have hza:(a.map lS).length=a.length:=by simp
 have CP:=c_zPoints x hx;refine conNP func246 rfl (by kernel_rfl) ?_;repeat ((first | refine .gF ?_ | refine .eF ?_ | refine⟨⟨by omega,rfl,by simp only[lenLim]; omega⟩,?_⟩ | refine xK ?_ | rw[decide_eq_true (by omega)] | rw[decide_eq_false (by omega)]); conv=>whnf)
 refine .cut (fun r:List FS=>runE (inn bits x) a=.ok r/\r.length=a.length) (fun r=>{ fr:=[(2,i64 bits),(9,.own (1,2) r.length)],st:=[((1,2),⟨150,6,r.map spa⟩)],g:=60 }) ?_ ?_
 ·repeat ((first | refine .gF ?_ | refine .eF ?_ | refine xK ?_ | rw[decide_eq_true (by omega)] | rw[decide_eq_false (by omega)]); conv=>whnf)
  rw[hla];refine .block (.loop (fun r:List FS=>r.length<=a.length/\runE (inn bits x) (a.take r.length)=.ok r) (fun r=>{ fr:=[(1,lD x),(2,i64 bits),(9,.own (1,2) a.length),(17,lU a),(18,i64 (a.length:Nat)),(19,i64 (r.length:Nat))],st:=[((1,2),⟨150,6,fillV spa zSp a.length r⟩)],g:=9 }) (fun r=>a.length-r.length) [] ⟨Nat.zero_le _,rfl⟩ ?_ ?_)
  ·dsimp only;rw[fillV_nil];repeat' (first | exact trivial | exact .inl ⟨.refl _,rfl⟩ | exact⟨.same rfl rfl,nMb rfl,x_L⟩ | exact⟨_,rfl⟩ | exact x_W | exact rfl | exact .same rfl (ltL_rep rfl _) | exact nMb rfl | exact Nat.le_of_ble_eq_true rfl | refine⟨?_,?_⟩)
  rintro r ⟨h1,h2⟩;dsimp only at h1 h2 ⊢;repeat ((first | refine .gF ?_ | refine .eF ?_ | refine xK ?_ | rw[decide_eq_true (by omega)] | rw[decide_eq_false (by omega)]); conv=>whnf)
  refine Br.mk (fun q=>?_) (fun q=>?_)
  ·have hlt:r.length<a.length:=by
    have:=of_decide_eq_true q;omega
   clear q;have hA:=lU_get hlt;have hstep:=fun (y:FS) (e:Nat)=>runE_step (f:=inn bits x) (l:=a) (d:=s0) (x:=y) (e:=e) hlt h2
   have C1:=c_vInner a[r.length] (x.map sPoint) bits hb (hr _ (List.getElem_mem hlt));change ACalls prog _ _ (tS (inn bits x a[r.length])) at C1;obtain⟨w,hw⟩:∃ w,a[r.length]=w:=⟨_,rfl⟩
   rw[hw] at hA hstep C1;conv=>whnf
   cases hs:inn bits x w with
   |error e =>
    have he:=(hstep s0 (e+1) (by rw[hs]; rfl) (by rw[hs]; rfl)).1 (by omega);rw[hs] at C1;have hR:zImg bits a x=.error e:=by unfold zImg; rw[he]; rfl
    rw[hR];refine .cut (fun _:Unit=>False) (fun _=>{ fr:=[],st:=[],g:=60 }) ?_ ?_
    ·refine .block ?_;repeat ((first | refine .gF ?_ | refine .eF ?_ | refine cE CP ?_ | refine cE C1 ?_ | refine⟨_,⟨by omega,hA,rfl,rfl⟩,?_⟩ | refine xK ?_ | rw[decide_eq_true (by omega)] | rw[decide_eq_false (by omega)]); conv=>whnf)
     exact⟨[],⟨.frz _ _ (fin rfl rfl),.frz _ _ (fin rfl rfl),.frz _ _ (fin rfl rfl),trivial⟩,trivial,List.nodup_nil⟩
    ·rintro⟨⟩ q;exact q.elim
   |ok s =>
    have he:=(hstep s 0 (by rw[hs]; rfl) (by rw[hs]; rfl)).2 rfl;rw[hs] at C1;refine .cut (fun _:Unit=>True) (fun _=>{ fr:=[(1,lD x),(2,i64 bits),(9,.own (1,2) a.length),(17,lU a),(18,i64 (a.length:Nat)),(19,i64 (r.length:Nat))],st:=[((1,2),⟨150,6,fillV spa zSp a.length (r++[s])⟩)],g:=60 }) ?_ ?_
    ·refine .block ?_;repeat ((first | refine .gF ?_ | refine .eF ?_ | refine cE CP ?_ | refine cE C1 ?_ | refine⟨_,⟨by omega,hA,rfl,rfl⟩,?_⟩ | refine⟨⟨rfl,rfl⟩,⟨by omega,by omega⟩,?_⟩ | refine elA_mk zSp (fillV_get (enc:=spa) (z:=zSp) hlt) ?_ | refine xK ?_ | rw[decide_eq_true (by omega)] | rw[decide_eq_false (by omega)]); conv=>whnf)
     refine⟨(),trivial,?_⟩;repeat' (first | exact trivial | exact .inl ⟨.refl _,rfl⟩ | exact⟨.same rfl rfl,nMb rfl,x_L⟩ | exact⟨_,rfl⟩ | exact x_W | exact rfl | exact .same (congrArg (fun z=>some (Row.mk 150 6 z)) (fillV_set (enc:=spa) (x:=s) hlt)) (ltL_fillV (fun _=>rfl) rfl) | exact nMb rfl | exact Nat.le_of_ble_eq_true rfl | refine⟨?_,?_⟩)
    ·rintro⟨⟩ _;repeat ((first | refine .gF ?_ | refine .eF ?_ | refine xK ?_ | rw[decide_eq_true (by omega)] | rw[decide_eq_false (by omega)]); conv=>whnf)
     refine⟨r++[s],⟨by simp; omega,by rw[List.length_append]; exact he⟩,?_,by show a.length-(r++[s]).length<a.length-r.length; simp; omega⟩;repeat' (first | exact trivial | exact .inl ⟨.refl _,rfl⟩ | exact⟨.same rfl rfl,nMb rfl,x_L⟩ | exact⟨_,rfl⟩ | exact x_W | exact rfl | exact .same rfl (ltL_fillV (fun _=>rfl) rfl) | exact x_E ((wI (n:=(r.length:Int)+1) (by omega) (by omega)).trans (by simp)) | exact nMb rfl | exact Nat.le_of_ble_eq_true rfl | refine⟨?_,?_⟩)
  ·have he:r.length=a.length:=by
    have:=of_decide_eq_false q;omega
   conv=>whnf
   refine⟨r,⟨?_,he⟩,?_⟩
   ·rw[he,List.take_length] at h2;exact h2
   ·dsimp only;rw[<- fillV_full (enc:=spa) (z:=zSp) he,he];repeat' (first | exact trivial | exact .inl ⟨.refl _,rfl⟩ | exact⟨.same rfl rfl,nMb rfl,x_L⟩ | exact⟨_,rfl⟩ | exact x_W | exact rfl | exact .same rfl (ltL_fillV (fun _=>rfl) rfl) | exact nMb rfl | exact Nat.le_of_ble_eq_true rfl | refine⟨?_,?_⟩)
 ·rintro r ⟨hr,hrl⟩;have hR:zImg bits a x=zMids bits r:=by unfold zImg; rw[hr]; rfl
  rw[hR];have C2:=c_zMids r bits hb (by omega);cases h2:zMids bits r with
  |error e =>
   rw[h2] at C2;repeat ((first | refine .gF ?_ | refine .eF ?_ | refine callNL [(1,2)] [lS r,i64 bits] ⟨⟨_,rfl⟩,trivial⟩ ⟨.own2 (.head _) rfl (by simp) (closedL_map (fun _=>rfl) _) rfl,fin rfl rfl,trivial⟩ C2 ?_ | refine xK ?_ | rw[decide_eq_true (by omega)] | rw[decide_eq_false (by omega)]); conv=>whnf)
   exact⟨[],⟨.frz _ _ (fin rfl rfl),.frz _ _ (fin rfl rfl),.frz _ _ (fin rfl rfl),trivial⟩,trivial,List.nodup_nil⟩
  |ok l =>
   rw[h2] at C2;repeat ((first | refine .gF ?_ | refine .eF ?_ | refine callNL [(1,2)] [lS r,i64 bits] ⟨⟨_,rfl⟩,trivial⟩ ⟨.own2 (.head _) rfl (by simp) (closedL_map (fun _=>rfl) _) rfl,fin rfl rfl,trivial⟩ C2 ?_ | refine xK ?_ | rw[decide_eq_true (by omega)] | rw[decide_eq_false (by omega)]); conv=>whnf)
   refine⟨[(61,0),(61,1)],⟨⟨.own 0 _ _ rfl,.own 1 _ _ rfl,.frz _ _ (fin rfl rfl),trivial⟩,⟨⟨_,congrArg (fun z=>some (Row.mk 76 3 z)) (mvL_map (fun _=>rfl) l),.same (closedL_map (fun _=>rfl) _)⟩,⟨_,congrArg (fun z=>some (Row.mk 76 3 z)) (mvL_map (fun _=>rfl) l),.same (closedL_map (fun _=>rfl) _)⟩,trivial⟩,by decide⟩⟩
end
section
open Go Go.RowKit Go.Proofs.Tryz
attribute [local irreducible] dRound dAdd dMul dCmp dMin dMax dAbs dLess sOut sAdd sMul sNear sSize vNear vPlus vInner dOf dNeg sSub sMid mid1 wid1
structure ZO where
 c:List FD
 g:List (List FD)
 r:List FD
def lG (g:List (List FD)):AV:=.sl (g.map lD)
def zo (z:ZO):AV:=.agg [lD z.c,lG z.g,lD z.r]
def zo0:ZO:=⟨[],[],[]⟩
def tZO (r:Except Nat ZO):AV:=resT zo zo0 r
theorem le_zo0:Le (.agg [nilA,nilA,nilA]) (zo zo0):=.ag ⟨.nil,.nil,.nil,trivial⟩
structure MZ where
 c:List FQ
 g:List (List FQ)
def mz (z:MZ):AV:=.agg [lQ z.c,lT z.g]
def ofStep (bits:Int) (n:Nat) (st:List FD×List (List FD)) (g:List FQ):Except Nat (List FD×List (List FD)) :=
 if g.length≠n then .error eShape else bnd (zList bits g) fun mo=>bnd (zWid bits st.1 (mo.map (·.2))) fun r=>.ok (r,st.2++[mo.map (·.1)])
def zOf (bits:Int) (z:MZ):Except Nat ZO:=bnd (zList bits z.c) fun mo=>bnd (foldE (ofStep bits mo.length) (mo.map (·.2),[]) z.g) fun st=>.ok ⟨mo.map (·.1),st.2,st.1⟩
theorem zList_len {bits:Int} {x:List FQ} {l:List (FD×FD)} (h:zList bits x=.ok l):l.length=x.length:=by
 unfold zList at h;cases h1:vNear x bits with
 |error e=>rw[h1] at h; cases h
 |ok s =>
  rw[h1,bnd_okk] at h;have h2:s.length=x.length:=runE_length (f:=fun a=>sNear a bits) (by unfold vNear at h1; exact h1);have h3:l.length=s.length:=runE_length (f:=mid1 bits) h;omega
theorem zWid_len {bits:Int} {a b l:List FD} (h:zWid bits a b=.ok l) (hab:a.length<=b.length):l.length=a.length:=by
 have:=runE_length (f:=wid1 bits) h;rw[zipl_len hab] at this;exact this
theorem wk_snoc {s:AS} {F:List Rid} {ρ:Ren} {g:Nat} {xs:List AV} {a b:AV} (h:okL ρ g xs=true) (hab:WkV s F ρ g a b):∀ (j:Nat) (x y:AV),(xs++[a])[j]?=some x->(xs++[b])[j]?=some y->WkV s F ρ g x y:=fun j x y hx hy=>by
 by_cases hj:j<xs.length
 ·rw[List.getElem?_append_left hj] at hx hy;rw[hx] at hy;cases hy;exact .inl ⟨.refl _,okL_get h hx⟩
 ·rw[List.getElem?_append_right (by omega)] at hx hy;obtain⟨k,hk⟩:∃ k,j-xs.length=k:=⟨_,rfl⟩
  rw[hk] at hx hy;cases k with
  |zero=>simp at hx hy; subst hx hy; exact hab
  |succ k=>simp at hx
theorem foldE_step {σ α:Type} {f:σ->α->Except Nat σ} {l:List α} {n:Nat} {s s1:σ} {x:α} (hn:n<l.length) (h:foldE f s (l.take n)=.ok s1) (hx:l[n]=x):(∀ s2,f s1 x=.ok s2->foldE f s (l.take (n+1))=.ok s2)/\∀ e,f s1 x=.error e->foldE f s l=.error e:=by
 have ht:=foldE_take hn h;rw[hx] at ht;exact⟨fun s2 h2=>ht.trans h2,fun e h2=>foldE_err (n:=n+1) (ht.trans h2)⟩
def gsV (g:List (List FD)):List AV:=g.map lD
theorem gsV_snoc (g:List (List FD)) (l:List FD):gsV (g++[l])=gsV g++[lD l]:=by simp[gsV]
theorem gsV_cl (g:List (List FD)):AV.closedL (gsV g)=true:=closedL_map (fun _=>rfl) _
theorem gsV_ok {ρ:Ren} {n:Nat} (g:List (List FD)):okL ρ n (gsV g)=true:=by
 unfold okL;split
 ·exact ltL_map (fun _=>rfl) g
 ·rename_i p q;have:∀ l:List (List FD),(AV.ltL n (gsV l)&&AV.offL (p::q) (gsV l))=true:=fun l=>by
   induction l with
   |nil=>rfl
   |cons x l ih =>
    have e:gsV (x::l)=lD x::gsV l:=rfl;rw[e];simp only[AV.ltL,AV.offL,Bool.and_eq_true] at ih ⊢;exact⟨⟨rfl,ih.1⟩,rfl,ih.2⟩
  exact this g
theorem lQ_get1 {l:List (List FQ)} {i:Nat} (h:i<l.length):(l.map lQ)[((i:Nat):Int).toNat]?=some (lQ l[i]):=by
 rw[Int.toNat_natCast,List.getElem?_map,List.getElem?_eq_getElem h];rfl
theorem frz_mv {s:AS} {F:Rid->Prop} {i:Rid} {n g k:Nat} {e:TypeId} {α:Type} {f:α->AV} {l:List α} {ys:List AV} (hF:F i) (h:s.st i=some ⟨e,k,AV.mvL g (l.map f)⟩) (hf:∀ x,(f x).mv g=f x) (hc:∀ x,(f x).closed=true) (hn:l.length=n) (hy:l.map f=ys):FrzV s F (.own i n) (.sl ys):=by
 rw[mvL_map hf] at h;exact .own2 hF h (by simp[hn]) (closedL_map hc _) hy
theorem wk_one {s:AS} {F:List Rid} {ρ:Ren} {g:Nat} {a b:AV} (h:WkV s F ρ g a b):∀ (j:Nat) (x y:AV),[a][j]?=some x->[b][j]?=some y->WkV s F ρ g x y:=fun j x y hx hy=>by
 cases j with
 |zero=>simp at hx hy; subst hx hy; exact h
 |succ k=>simp at hx
theorem fst_map (l:List (FD×FD)):l.map e1=(l.map (·.1)).map dyad:=by rw[List.map_map]; rfl
theorem snd_map (l:List (FD×FD)):l.map e2=(l.map (·.2)).map dyad:=by rw[List.map_map]; rfl
theorem frz3 {s:AS} {F:Rid->Prop} {a b c x y z:AV} (h1:FrzV s F a x) (h2:FrzV s F b y) (h3:FrzV s F c z):∀ (j:Nat) (u v:AV),[a,b,c][j]?=some u->[x,y,z][j]?=some v->FrzV s F u v:=fun j u v hu hv =>
 match j with
 |0=>by cases hu; cases hv; exact h1
 |1=>by cases hu; cases hv; exact h2
 |2=>by cases hu; cases hv; exact h3
 |j+3=>by cases hu
abbrev zTy:TypeId:=74
theorem c_zOf (z:MZ) (bits:Int) (hb:BOk bits) (hl:z.c.length<1000000) (hg:z.g.length<1000000) (hr:Rows6 z.g):ACalls prog 55 [mz z,i64 bits] (tZO (zOf bits z)):=by
 have CL:=c_zList z.c bits hb hl;have hlg:(((z.g.map lQ).length:Nat):Int)=(z.g.length:Int):=by simp
 unfold zOf;cases h1:zList bits z.c with
 |error e =>
  rw[h1] at CL;show ACalls prog _ _ (.tup [zo zo0,i64 ((e+1:Nat):Int)]);refine conP func55 rfl (by kernel_rfl) ?_;repeat ((first | refine .gF ?_ | refine .eF ?_ | refine callN CL rfl ?_ | refine xK ?_ | rw[decide_eq_true (by omega)] | rw[decide_eq_false (by omega)]); conv=>whnf)
  exact⟨.sh _ _ rfl le_zo0,fin rfl rfl,trivial⟩
 |ok mo =>
  rw[h1] at CL;rw[bnd_okk];have hmo:=zList_len h1;obtain⟨R,hR⟩:∃ R,(bnd (foldE (ofStep bits mo.length) (mo.map (·.2),[]) z.g) fun st=>(.ok ⟨mo.map (·.1),st.2,st.1⟩:Except Nat ZO))=R:=⟨_,rfl⟩
  rw[hR];refine conP func55 rfl (by kernel_rfl) ?_;repeat ((first | refine .gF ?_ | refine .eF ?_ | refine callN CL rfl ?_ | refine xK ?_ | rw[decide_eq_true (by omega)] | rw[decide_eq_false (by omega)]); conv=>whnf)
  refine .weaken (i:={ F:=[(2,0),(2,1)],fr:=[(1,i64 bits),(2,.ptr (0,0) 0 0),(4,.ptr (0,1) 0 0),(6,lD (mo.map (·.1))),(9,.ptr (5,3) 0 0)],st:=[((0,0),⟨65,2,[mz z]⟩),((0,1),⟨zTy,3,[AV.ofVal (ty zTy).zero]⟩),((5,3),⟨zTy,3,[.agg [lD (mo.map (·.1)),nilA,lD (mo.map (·.2))]]⟩)],g:=9 }) ?_ ?_
  ·repeat' (first | exact trivial | exact .inl ⟨.refl _,rfl⟩ | exact⟨.same rfl rfl,nMb rfl,x_L⟩ | exact⟨_,rfl⟩ | exact x_W | exact rfl | exact .inr (.inl (frz_mv (f:=e1) (.head _) rfl (fun _=>rfl) (fun _=>rfl) rfl (fst_map mo))) | exact⟨.less [_] rfl rfl (wk_one (.ag ⟨.frz _ _ (frz_mv (f:=e1) (.head _) rfl (fun _=>rfl) (fun _=>rfl) rfl (fst_map mo)),.le _ _ (.refl _) rfl,.frz _ _ (frz_mv (f:=e2) (.tail _ (.head _)) rfl (fun _=>rfl) (fun _=>rfl) rfl (snd_map mo)),trivial⟩)),nMb rfl,x_L⟩ | exact nMb rfl | exact Nat.le_of_ble_eq_true rfl | refine⟨?_,?_⟩)
   trace_state
  refine .cut (fun x:List FD×List (List FD)=>foldE (ofStep bits mo.length) (mo.map (·.2),[]) z.g=.ok x/\x.2.length=z.g.length) (fun x=>match x.2 with
   |[]=>{ fr:=[(4,.ptr (0,1) 0 0),(9,.ptr (5,3) 0 0)],st:=[((0,1),⟨zTy,3,[AV.ofVal (ty zTy).zero]⟩),((5,3),⟨zTy,3,[.agg [lD (mo.map (·.1)),nilA,lD x.1]]⟩)],g:=60 }
   |y::l=>{ fr:=[(4,.ptr (0,1) 0 0),(9,.ptr (5,3) 0 0)],st:=[((0,1),⟨zTy,3,[AV.ofVal (ty zTy).zero]⟩),((5,3),⟨zTy,3,[.agg [lD (mo.map (·.1)),.own (5,0) (l.length+1),lD x.1]]⟩),((5,0),⟨71,1,gsV (y::l)⟩)],g:=60 }) ?_ ?_
  ·repeat ((first | refine .gF ?_ | refine .eF ?_ | refine xK ?_ | rw[decide_eq_true (by omega)] | rw[decide_eq_false (by omega)]); conv=>whnf)
   rw[hlg];refine .block (.loop (fun x:Nat×List FD×List (List FD)=>x.1<=z.g.length/\foldE (ofStep bits mo.length) (mo.map (·.2),[]) (z.g.take x.1)=.ok x.2/\x.2.2.length=x.1/\x.2.1.length=mo.length) (fun x=>match x.1 with
    |0=>{ fr:=[(1,i64 bits),(4,.ptr (0,1) 0 0),(6,lD (mo.map (·.1))),(9,.ptr (5,3) 0 0),(31,lT z.g),(32,i64 (z.g.length:Nat)),(33,i64 (0:Nat))],st:=[((0,1),⟨zTy,3,[AV.ofVal (ty zTy).zero]⟩),((5,3),⟨zTy,3,[.agg [lD (mo.map (·.1)),nilA,lD x.2.1]]⟩)],g:=9 }
    |k+1=>{ fr:=[(1,i64 bits),(4,.ptr (0,1) 0 0),(6,lD (mo.map (·.1))),(9,.ptr (5,3) 0 0),(31,lT z.g),(32,i64 (z.g.length:Nat)),(33,i64 (k+1:Nat))],st:=[((0,1),⟨zTy,3,[AV.ofVal (ty zTy).zero]⟩),((5,3),⟨zTy,3,[.agg [lD (mo.map (·.1)),.own (5,0) (k+1),lD x.2.1]]⟩),((5,0),⟨71,1,gsV x.2.2⟩)],g:=9 }) (fun x=>z.g.length-x.1) (0,mo.map (·.2),[]) ⟨Nat.zero_le _,rfl,rfl,by simp⟩ ?_ ?_)
   ·repeat' (first | exact trivial | exact .inl ⟨.refl _,rfl⟩ | exact⟨.same rfl rfl,nMb rfl,x_L⟩ | exact⟨_,rfl⟩ | exact x_W | exact rfl | exact nMb rfl | exact Nat.le_of_ble_eq_true rfl | refine⟨?_,?_⟩)
    trace_state
   rintro⟨i,r,g⟩ ⟨hi,hf,hgl,hrl⟩;cases i with
   |zero =>
    dsimp only at hi hf hgl hrl ⊢;obtain rfl:g=[]:=List.eq_nil_of_length_eq_zero hgl;repeat ((first | refine .gF ?_ | refine .eF ?_ | refine xK ?_ | rw[decide_eq_true (by omega)] | rw[decide_eq_false (by omega)]); conv=>whnf)
    refine Br.mk (fun q=>?_) (fun q=>?_)
    ·have hi':0<z.g.length:=by
      have:=of_decide_eq_true q;omega
     clear q;conv=>whnf
     obtain⟨x,hgi⟩:∃ x,z.g[0]=x:=⟨_,rfl⟩
     have hxr:=hr x (by rw[<- hgi]; exact List.getElem_mem hi');have hI:(z.g.map lQ)[((0:Nat):Int).toNat]?=some (lQ x):=hgi▸lQ_get1 hi';have hlq:(((x.map ratv).length:Nat):Int)=(x.length:Int):=by simp
     have hlm:(((((mo.map (·.1)).map dyad).length:Nat):Int))=(mo.length:Int):=by simp
     by_cases hxl:x.length=mo.length
     ·have C1:=c_zList x bits hb hxr;cases h2:zList bits x with
      |error e =>
       rw[h2] at C1;have hstep:ofStep bits mo.length (r,([]:List (List FD))) x=.error e:=by unfold ofStep; rw[if_neg (by simpa using hxl),h2]; rfl
       have hR':R=.error e:=by
        rw[<- hR,(foldE_step hi' hf hgi).2 _ hstep];rfl
       rw[hR'];clear hR hR';refine .cut (fun _:Unit=>False) (fun _=>{ fr:=[],st:=[],g:=60 }) ?_ ?_
       ·refine .block ?_;repeat ((first | refine .gF ?_ | refine .eF ?_ | rw[hlm,hxl,show (((mo.length:Nat):Int) !=((mo.length:Nat):Int))=false by simp] | refine callN C1 rfl ?_ | refine⟨_,⟨by omega,hI,rfl,rfl⟩,?_⟩ | rw[hlq] | rw[show (((x.length:Nat):Int) !=((mo.length:Nat):Int))=true by simp; omega] | rw[show (((x.length:Nat):Int) !=((mo.length:Nat):Int))=false by simp; omega] | refine xK ?_ | rw[decide_eq_true (by omega)] | rw[decide_eq_false (by omega)]); conv=>whnf)
        exact⟨.sh _ _ rfl le_zo0,fin rfl rfl,trivial⟩
       ·rintro⟨⟩ q;exact q.elim
      |ok l =>
       rw[h2] at C1;have hll:=zList_len h2;have C2:=c_zWid r (l.map (·.2)) bits hb (by simp; omega) (by omega);cases h3:zWid bits r (l.map (·.2)) with
       |error e =>
        rw[h3] at C2;have hstep:ofStep bits mo.length (r,([]:List (List FD))) x=.error e:=by unfold ofStep; rw[if_neg (by simpa using hxl),h2,bnd_okk]; show bnd (zWid bits r (l.map (·.2))) _=_; rw[h3]; rfl
        have hR':R=.error e:=by
         rw[<- hR,(foldE_step hi' hf hgi).2 _ hstep];rfl
        rw[hR'];clear hR hR';refine .cut (fun _:Unit=>False) (fun _=>{ fr:=[],st:=[],g:=60 }) ?_ ?_
        ·refine .block ?_;repeat ((first | refine .gF ?_ | refine .eF ?_ | rw[hlm,hxl,show (((mo.length:Nat):Int) !=((mo.length:Nat):Int))=false by simp] | refine callN C1 rfl ?_ | refine callNL [(13,1)] [lD r,lD (l.map (·.2)),i64 bits] ⟨⟨_,rfl⟩,trivial⟩ ⟨fin rfl rfl,frz_mv (f:=e2) (.head _) rfl (fun _=>rfl) (fun _=>rfl) rfl (snd_map l),fin rfl rfl,trivial⟩ C2 ?_ | refine⟨_,⟨by omega,hI,rfl,rfl⟩,?_⟩ | rw[hlq] | rw[show (((x.length:Nat):Int) !=((mo.length:Nat):Int))=true by simp; omega] | rw[show (((x.length:Nat):Int) !=((mo.length:Nat):Int))=false by simp; omega] | refine xK ?_ | rw[decide_eq_true (by omega)] | rw[decide_eq_false (by omega)]); conv=>whnf)
         exact⟨.sh _ _ rfl le_zo0,fin rfl rfl,trivial⟩
        ·rintro⟨⟩ q;exact q.elim
       |ok r2 =>
        rw[h3] at C2;have hstep:ofStep bits mo.length (r,([]:List (List FD))) x=.ok (r2,([]:List (List FD))++[l.map (·.1)]):=by unfold ofStep; rw[if_neg (by simpa using hxl),h2,bnd_okk]; show bnd (zWid bits r (l.map (·.2))) _=_; rw[h3]; rfl
        have hnext:=(foldE_step hi' hf hgi).1 _ hstep;have hr2:=zWid_len h3 (by simp; omega);have hsn:=gsV_snoc ([]:List (List FD)) (l.map (·.1));refine .cut (fun _:Unit=>True) (fun _=>{ F:=[(13,0),(17,0)],ren:=[((20,4),(5,0))],fr:=[(1,i64 bits),(4,.ptr (0,1) 0 0),(6,lD (mo.map (·.1))),(9,.ptr (5,3) 0 0),(31,lT z.g),(32,i64 (z.g.length:Nat)),(33,i64 (0:Nat))],st:=[((0,1),⟨zTy,3,[AV.ofVal (ty zTy).zero]⟩),((5,3),⟨zTy,3,[.agg [lD (mo.map (·.1)),.own (5,0) (0+1),lD r2]]⟩),((5,0),⟨71,1,gsV (([]:List (List FD))++[l.map (·.1)])⟩)],g:=60 }) ?_ ?_
        ·refine .block ?_;repeat ((first | refine .gF ?_ | refine .eF ?_ | rw[hlm,hxl,show (((mo.length:Nat):Int) !=((mo.length:Nat):Int))=false by simp] | refine callN C1 rfl ?_ | refine callNL [(13,1)] [lD r,lD (l.map (·.2)),i64 bits] ⟨⟨_,rfl⟩,trivial⟩ ⟨fin rfl rfl,frz_mv (f:=e2) (.head _) rfl (fun _=>rfl) (fun _=>rfl) rfl (snd_map l),fin rfl rfl,trivial⟩ C2 ?_ | refine⟨_,⟨by omega,hI,rfl,rfl⟩,?_⟩ | rw[hlq] | refine⟨⟨by show 0<1; decide,by show 1<=1099511627776; decide,trivial⟩,?_⟩ | refine xK ?_ | rw[decide_eq_true (by omega)] | rw[decide_eq_false (by omega)]); conv=>whnf)
         refine⟨(),trivial,?_⟩;rw[hsn];repeat' (first | exact trivial | exact .inl ⟨.refl _,rfl⟩ | exact⟨.same rfl rfl,nMb rfl,x_L⟩ | exact⟨_,rfl⟩ | exact x_W | exact rfl | exact⟨.less [_] rfl rfl (wk_one (.ag ⟨.le _ _ (.refl _) rfl,.own (5,0) (0+1) rfl,.frz _ _ (frz_mv (f:=dyad) (.tail _ (.head _)) rfl (fun _=>rfl) (fun _=>rfl) rfl rfl),trivial⟩)),nMb rfl,x_L⟩ | exact⟨.less (gsV ([]:List (List FD))++[_]) rfl (by simp) (wk_snoc (gsV_ok ([]:List (List FD))) (.inr (.inl (frz_mv (f:=e1) (.head _) rfl (fun _=>rfl) (fun _=>rfl) rfl (fst_map l))))),nMb rfl,x_L⟩ | exact nMb rfl | exact Nat.le_of_ble_eq_true rfl | refine⟨?_,?_⟩)
         trace_state
        ·rintro⟨⟩ _;repeat ((first | refine .gF ?_ | refine .eF ?_ | refine xK ?_ | rw[decide_eq_true (by omega)] | rw[decide_eq_false (by omega)]); conv=>whnf)
         refine⟨(0+1,r2,([]:List (List FD))++[l.map (·.1)]),⟨hi',hnext,by rw[List.length_append,hgl]; rfl,by show r2.length=mo.length; omega⟩,?_,by show z.g.length-(0+1)<z.g.length-(0); omega⟩;repeat' (first | exact trivial | exact .inl ⟨.refl _,rfl⟩ | exact⟨.same rfl rfl,nMb rfl,x_L⟩ | exact⟨_,rfl⟩ | exact x_W | exact rfl | exact⟨.same rfl (gsV_ok _),nMb rfl,x_L⟩ | exact nMb rfl | exact Nat.le_of_ble_eq_true rfl | refine⟨?_,?_⟩)
         trace_state
     ·have hstep:ofStep bits mo.length (r,([]:List (List FD))) x=.error eShape:=by unfold ofStep; rw[if_pos (by simpa using hxl)]
      have hR':R=.error eShape:=by
       rw[<- hR,(foldE_step hi' hf hgi).2 _ hstep];rfl
      rw[hR'];clear hR hR';refine .cut (fun _:Unit=>False) (fun _=>{ fr:=[],st:=[],g:=60 }) ?_ ?_
      ·refine .block ?_;repeat ((first | refine .gF ?_ | refine .eF ?_ | rw[hlm,show (((x.length:Nat):Int) !=((mo.length:Nat):Int))=true by simp; omega] | refine⟨_,⟨by omega,hI,rfl,rfl⟩,?_⟩ | rw[hlq] | rw[show (((x.length:Nat):Int) !=((mo.length:Nat):Int))=true by simp; omega] | rw[show (((x.length:Nat):Int) !=((mo.length:Nat):Int))=false by simp; omega] | refine xK ?_ | rw[decide_eq_true (by omega)] | rw[decide_eq_false (by omega)]); conv=>whnf)
       exact⟨.sh _ _ rfl le_zo0,fin rfl rfl,trivial⟩
      ·rintro⟨⟩ q;exact q.elim
    ·have hn:z.g.length=0:=by
      have:=of_decide_eq_false q;omega
     conv=>whnf
     refine⟨(r,[]),⟨?_,by show 0=z.g.length; omega⟩,?_⟩
     ·have e:z.g=[]:=List.eq_nil_of_length_eq_zero hn;rw[e] at hf ⊢;exact hf
     ·repeat' (first | exact trivial | exact .inl ⟨.refl _,rfl⟩ | exact⟨.same rfl rfl,nMb rfl,x_L⟩ | exact⟨_,rfl⟩ | exact x_W | exact rfl | exact nMb rfl | exact Nat.le_of_ble_eq_true rfl | refine⟨?_,?_⟩)
      trace_state
   |succ k =>
    dsimp only at hi hf hgl hrl ⊢;repeat ((first | refine .gF ?_ | refine .eF ?_ | refine xK ?_ | rw[decide_eq_true (by omega)] | rw[decide_eq_false (by omega)]); conv=>whnf)
    refine Br.mk (fun q=>?_) (fun q=>?_)
    ·have hi':k+1<z.g.length:=by
      have:=of_decide_eq_true q;omega
     clear q;conv=>whnf
     obtain⟨x,hgi⟩:∃ x,z.g[k+1]=x:=⟨_,rfl⟩
     have hxr:=hr x (by rw[<- hgi]; exact List.getElem_mem hi');have hI:(z.g.map lQ)[((k+1:Nat):Int).toNat]?=some (lQ x):=hgi▸lQ_get1 hi';have hlq:(((x.map ratv).length:Nat):Int)=(x.length:Int):=by simp
     have hlm:(((((mo.map (·.1)).map dyad).length:Nat):Int))=(mo.length:Int):=by simp
     by_cases hxl:x.length=mo.length
     ·have C1:=c_zList x bits hb hxr;cases h2:zList bits x with
      |error e =>
       rw[h2] at C1;have hstep:ofStep bits mo.length (r,g) x=.error e:=by unfold ofStep; rw[if_neg (by simpa using hxl),h2]; rfl
       have hR':R=.error e:=by
        rw[<- hR,(foldE_step hi' hf hgi).2 _ hstep];rfl
       rw[hR'];clear hR hR';refine .cut (fun _:Unit=>False) (fun _=>{ fr:=[],st:=[],g:=60 }) ?_ ?_
       ·refine .block ?_;repeat ((first | refine .gF ?_ | refine .eF ?_ | rw[hlm,hxl,show (((mo.length:Nat):Int) !=((mo.length:Nat):Int))=false by simp] | refine callN C1 rfl ?_ | refine⟨_,⟨by omega,hI,rfl,rfl⟩,?_⟩ | rw[hlq] | rw[show (((x.length:Nat):Int) !=((mo.length:Nat):Int))=true by simp; omega] | rw[show (((x.length:Nat):Int) !=((mo.length:Nat):Int))=false by simp; omega] | refine xK ?_ | rw[decide_eq_true (by omega)] | rw[decide_eq_false (by omega)]); conv=>whnf)
        exact⟨.sh _ _ rfl le_zo0,fin rfl rfl,trivial⟩
       ·rintro⟨⟩ q;exact q.elim
      |ok l =>
       rw[h2] at C1;have hll:=zList_len h2;have C2:=c_zWid r (l.map (·.2)) bits hb (by simp; omega) (by omega);cases h3:zWid bits r (l.map (·.2)) with
       |error e =>
        rw[h3] at C2;have hstep:ofStep bits mo.length (r,g) x=.error e:=by unfold ofStep; rw[if_neg (by simpa using hxl),h2,bnd_okk]; show bnd (zWid bits r (l.map (·.2))) _=_; rw[h3]; rfl
        have hR':R=.error e:=by
         rw[<- hR,(foldE_step hi' hf hgi).2 _ hstep];rfl
        rw[hR'];clear hR hR';refine .cut (fun _:Unit=>False) (fun _=>{ fr:=[],st:=[],g:=60 }) ?_ ?_
        ·refine .block ?_;repeat ((first | refine .gF ?_ | refine .eF ?_ | rw[hlm,hxl,show (((mo.length:Nat):Int) !=((mo.length:Nat):Int))=false by simp] | refine callN C1 rfl ?_ | refine callNL [(13,1)] [lD r,lD (l.map (·.2)),i64 bits] ⟨⟨_,rfl⟩,trivial⟩ ⟨fin rfl rfl,frz_mv (f:=e2) (.head _) rfl (fun _=>rfl) (fun _=>rfl) rfl (snd_map l),fin rfl rfl,trivial⟩ C2 ?_ | refine⟨_,⟨by omega,hI,rfl,rfl⟩,?_⟩ | rw[hlq] | rw[show (((x.length:Nat):Int) !=((mo.length:Nat):Int))=true by simp; omega] | rw[show (((x.length:Nat):Int) !=((mo.length:Nat):Int))=false by simp; omega] | refine xK ?_ | rw[decide_eq_true (by omega)] | rw[decide_eq_false (by omega)]); conv=>whnf)
         exact⟨.sh _ _ rfl le_zo0,fin rfl rfl,trivial⟩
        ·rintro⟨⟩ q;exact q.elim
       |ok r2 =>
        rw[h3] at C2;have hstep:ofStep bits mo.length (r,g) x=.ok (r2,g++[l.map (·.1)]):=by unfold ofStep; rw[if_neg (by simpa using hxl),h2,bnd_okk]; show bnd (zWid bits r (l.map (·.2))) _=_; rw[h3]; rfl
        have hnext:=(foldE_step hi' hf hgi).1 _ hstep;have hr2:=zWid_len h3 (by simp; omega);have hsn:=gsV_snoc g (l.map (·.1));refine .cut (fun _:Unit=>True) (fun _=>{ F:=[(13,0),(17,0)],ren:=[((20,4),(5,0))],fr:=[(1,i64 bits),(4,.ptr (0,1) 0 0),(6,lD (mo.map (·.1))),(9,.ptr (5,3) 0 0),(31,lT z.g),(32,i64 (z.g.length:Nat)),(33,i64 (k+1:Nat))],st:=[((0,1),⟨zTy,3,[AV.ofVal (ty zTy).zero]⟩),((5,3),⟨zTy,3,[.agg [lD (mo.map (·.1)),.own (5,0) (k+1+1),lD r2]]⟩),((5,0),⟨71,1,gsV (g++[l.map (·.1)])⟩)],g:=60 }) ?_ ?_
        ·refine .block ?_;repeat ((first | refine .gF ?_ | refine .eF ?_ | rw[hlm,hxl,show (((mo.length:Nat):Int) !=((mo.length:Nat):Int))=false by simp] | refine callN C1 rfl ?_ | refine callNL [(13,1)] [lD r,lD (l.map (·.2)),i64 bits] ⟨⟨_,rfl⟩,trivial⟩ ⟨fin rfl rfl,frz_mv (f:=e2) (.head _) rfl (fun _=>rfl) (fun _=>rfl) rfl (snd_map l),fin rfl rfl,trivial⟩ C2 ?_ | refine⟨_,⟨by omega,hI,rfl,rfl⟩,?_⟩ | rw[hlq] | refine⟨⟨by show (gsV g).length=k+1; simp[gsV,hgl],rfl,rfl,by show k+1+1<=1099511627776; omega,trivial⟩,?_⟩ | refine xK ?_ | rw[decide_eq_true (by omega)] | rw[decide_eq_false (by omega)]); conv=>whnf)
         refine⟨(),trivial,?_⟩;rw[hsn];repeat' (first | exact trivial | exact .inl ⟨.refl _,rfl⟩ | exact⟨.same rfl rfl,nMb rfl,x_L⟩ | exact⟨_,rfl⟩ | exact x_W | exact rfl | exact⟨.less [_] rfl rfl (wk_one (.ag ⟨.le _ _ (.refl _) rfl,.own (5,0) (k+1+1) rfl,.frz _ _ (frz_mv (f:=dyad) (.tail _ (.head _)) rfl (fun _=>rfl) (fun _=>rfl) rfl rfl),trivial⟩)),nMb rfl,x_L⟩ | exact⟨.less (gsV g++[_]) rfl (by simp) (wk_snoc (gsV_ok g) (.inr (.inl (frz_mv (f:=e1) (.head _) rfl (fun _=>rfl) (fun _=>rfl) rfl (fst_map l))))),nMb rfl,x_L⟩ | exact nMb rfl | exact Nat.le_of_ble_eq_true rfl | refine⟨?_,?_⟩)
         trace_state
        ·rintro⟨⟩ _;repeat ((first | refine .gF ?_ | refine .eF ?_ | refine xK ?_ | rw[decide_eq_true (by omega)] | rw[decide_eq_false (by omega)]); conv=>whnf)
         refine⟨(k+1+1,r2,g++[l.map (·.1)]),⟨hi',hnext,by rw[List.length_append,hgl]; rfl,by show r2.length=mo.length; omega⟩,?_,by show z.g.length-(k+1+1)<z.g.length-(k+1); omega⟩;repeat' (first | exact trivial | exact .inl ⟨.refl _,rfl⟩ | exact⟨.same rfl rfl,nMb rfl,x_L⟩ | exact⟨_,rfl⟩ | exact x_W | exact rfl | exact⟨.same rfl (gsV_ok _),nMb rfl,x_L⟩ | exact nMb rfl | exact Nat.le_of_ble_eq_true rfl | refine⟨?_,?_⟩)
         trace_state
     ·have hstep:ofStep bits mo.length (r,g) x=.error eShape:=by unfold ofStep; rw[if_pos (by simpa using hxl)]
      have hR':R=.error eShape:=by
       rw[<- hR,(foldE_step hi' hf hgi).2 _ hstep];rfl
      rw[hR'];clear hR hR';refine .cut (fun _:Unit=>False) (fun _=>{ fr:=[],st:=[],g:=60 }) ?_ ?_
      ·refine .block ?_;repeat ((first | refine .gF ?_ | refine .eF ?_ | rw[hlm,show (((x.length:Nat):Int) !=((mo.length:Nat):Int))=true by simp; omega] | refine⟨_,⟨by omega,hI,rfl,rfl⟩,?_⟩ | rw[hlq] | rw[show (((x.length:Nat):Int) !=((mo.length:Nat):Int))=true by simp; omega] | rw[show (((x.length:Nat):Int) !=((mo.length:Nat):Int))=false by simp; omega] | refine xK ?_ | rw[decide_eq_true (by omega)] | rw[decide_eq_false (by omega)]); conv=>whnf)
       exact⟨.sh _ _ rfl le_zo0,fin rfl rfl,trivial⟩
      ·rintro⟨⟩ q;exact q.elim
    ·have hn:z.g.length=k+1:=by
      have:=of_decide_eq_false q;omega
     conv=>whnf
     refine⟨(r,g),⟨?_,by show g.length=z.g.length; omega⟩,?_⟩
     ·rw[<- hn,List.take_length] at hf;exact hf
     ·cases g with
      |nil=>cases hgl
      |cons y l =>
       have hll:l.length=k:=by simpa using hgl
       subst hll;repeat' (first | exact trivial | exact .inl ⟨.refl _,rfl⟩ | exact⟨.same rfl rfl,nMb rfl,x_L⟩ | exact⟨_,rfl⟩ | exact x_W | exact rfl | exact⟨.same rfl (gsV_ok _),nMb rfl,x_L⟩ | exact nMb rfl | exact Nat.le_of_ble_eq_true rfl | refine⟨?_,?_⟩)
       trace_state
  ·rintro⟨r,g⟩ ⟨hf,hgl⟩;have hR':R=.ok ⟨mo.map (·.1),g,r⟩:=by
    rw[<- hR,hf];rfl
   rw[hR'];cases g with
   |nil =>
    repeat ((first | refine .gF ?_ | refine .eF ?_ | refine xK ?_ | rw[decide_eq_true (by omega)] | rw[decide_eq_false (by omega)]); conv=>whnf)
    exact⟨.agg _ _ rfl (frz3 (.sh _ _ rfl (.refl _)) (.sh _ _ rfl .nil) (.sh _ _ rfl (.refl _))),fin rfl rfl,trivial⟩
   |cons y l =>
    repeat ((first | refine .gF ?_ | refine .eF ?_ | refine xK ?_ | rw[decide_eq_true (by omega)] | rw[decide_eq_false (by omega)]); conv=>whnf)
    exact⟨.agg _ _ rfl (frz3 (.sh _ _ rfl (.refl _)) (.own2 trivial rfl (by simp[gsV]) (gsV_cl _) rfl) (.sh _ _ rfl (.refl _))),fin rfl rfl,trivial⟩
end
end Go.Proofs.YtjdkdcmpifapeaaGreatDoor.Abs
