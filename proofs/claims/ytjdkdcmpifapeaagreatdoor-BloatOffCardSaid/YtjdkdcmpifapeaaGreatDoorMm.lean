/- Lists of ratios and of spans: made, checked, reckoned place by place. -/
import Derived.Test.YtjdkdcmpifapeaaGreatDoorMl
import Derived.Test.YtjdkdcmpifapeaaGreatDoorMh
set_option linter.unusedVariables false
set_option linter.unusedSectionVars false
set_option linter.unusedSimpArgs false
set_option maxHeartbeats 4000000
namespace Go.Proofs.YtjdkdcmpifapeaaGreatDoor.Abs
section
open Go Go.RowKit Go.Proofs.Tryz
attribute [local irreducible] zMul zAdd zLeft zRight fitZ qMake zDiv dMake dLevel dRound dNear dAdd dMul dRatio dCmp dMin dMax dAbs dLess qCmp sOut qAdd qMul sAdd sMul sNear
theorem conON {f:FuncId} {fn:Func} {c:Code} {args:List AV} {r:Row} (hf:prog.funcs[f]?=some fn) (hb:fn.body=some c)
  (hc:((fn.name == "runtime.NumGoroutine")==false&&codeN fn.ntmps c&&Nat.ble args.length fn.ntmps)=true)
  (h:nwp prog ty fn.ntmps c (frI args 0) [] 0 (fun e fr st g=>resO fn.results.toList r e (mkS fr st g))):ACallsO prog f args r:=by
 refine conO hf hb hc ?_;rw[initS_mk];exact awp_mono _ _ _ _ (fun e s ⟨fr,st,g,hs,h⟩=>hs▸h) (nwp_sound c _ _ _ _ h)
def fillV {α:Type} (enc:α->AV) (z:AV) (n:Nat) (l:List α):List AV:=l.map enc++List.replicate (n-l.length) z
section
variable {α:Type} {enc:α->AV} {z:AV} {n:Nat} {l:List α}
theorem fillV_nil:fillV enc z n []=List.replicate n z:=by simp[fillV]
theorem fillV_len (h:l.length<=n):(fillV enc z n l).length=n:=by simp[fillV]; omega
theorem fillV_get (h:l.length<n):(fillV enc z n l)[l.length]?=some z:=by
 unfold fillV;rw[List.getElem?_append_right (by simp),List.length_map,Nat.sub_self,List.getElem?_replicate,if_pos (by omega)]
theorem fillV_set {x:α} (h:l.length<n):(fillV enc z n l).set l.length (enc x)=fillV enc z n (l++[x]):=by
 unfold fillV;rw[List.set_append_right _ _ (by simp)];simp only[List.length_map,Nat.sub_self,List.map_append,List.map_cons,List.map_nil,List.append_assoc,List.length_append,List.length_cons,List.length_nil];congr 1;obtain⟨m,hm⟩:∃ m,n-l.length=m+1:=⟨n-l.length-1,by omega⟩
 rw[hm,show n-(l.length+(0+1))=m by omega];rfl
theorem fillV_full (h:l.length=n):fillV enc z n l=l.map enc:=by
 subst h;simp[fillV]
theorem ltL_map {g:Nat} (h:∀ a,(enc a).lt g=true):∀ l:List α,AV.ltL g (l.map enc)=true
 |[]=>rfl
 |a::l=>by
  show ((enc a).lt g&&AV.ltL g (l.map enc))=true;rw[h a,ltL_map h l]; rfl
theorem ltL_append {g:Nat}:∀ {xs ys:List AV},AV.ltL g xs=true->AV.ltL g ys=true->AV.ltL g (xs++ys)=true
 |[],ys,_,h=>h
 |x::xs,ys,h1,h2=>by
  have h1:(x.lt g&&AV.ltL g xs)=true:=h1;rw[Bool.and_eq_true] at h1;show (x.lt g&&AV.ltL g (xs++ys))=true;rw[h1.1,ltL_append h1.2 h2]; rfl
theorem ltL_rep {g:Nat} (h:z.lt g=true):∀ n,AV.ltL g (List.replicate n z)=true
 |0=>rfl
 |n+1=>by
  show (z.lt g&&AV.ltL g (List.replicate n z))=true;rw[h,ltL_rep h n]; rfl
theorem ltL_fillV {g:Nat} (h:∀ a,(enc a).lt g=true) (hz:z.lt g=true):AV.ltL g (fillV enc z n l)=true:=ltL_append (ltL_map h l) (ltL_rep hz _)
theorem closedL_map (h:∀ a,(enc a).closed=true):∀ l:List α,AV.closedL (l.map enc)=true
 |[]=>rfl
 |a::l=>by
  show ((enc a).closed&&AV.closedL (l.map enc))=true;rw[h a,closedL_map h l]; rfl
end
def ratv (a:FQ):AV:=rat a.q
def lQ (l:List FQ):AV:=.sl (l.map ratv)
def lS (l:List FS):AV:=.sl (l.map spa)
def zR:AV:=AV.ofVal (ty 28).zero
def zSp:AV:=AV.ofVal (ty 150).zero
def clampI (n:Int):Int:=let x:=if (0:Int) > n then 0 else n; if (16:Int)<x then 16 else x
def clampN (n:Int):Nat:=(clampI n).toNat
theorem clamp_b (n:Int):0<=clampI n/\clampI n<=16:=by
 unfold clampI;dsimp only;split <;> split <;> omega
theorem clamp_c (n:Int):clampI n=(clampN n:Int):=by have:=clamp_b n; unfold clampN; omega
theorem c_vZeroO (n:Int):ACallsO prog 65 [i64 n] ⟨28,3,(List.replicate (clampN n) q0).map ratv⟩:=by
 have hb:=clamp_b n;have hc:=clamp_c n;obtain⟨k,hk⟩:∃ k,clampN n=k:=⟨_,rfl⟩
 rw[hk] at hc ⊢;refine conON func65 rfl (by kernel_rfl) ?_;conv=>whnf
 have hc':(if (16:Int)<(if (0:Int) > n then 0 else n) then 16 else (if (0:Int) > n then 0 else n))=(k:Int):=hc;rw[hc'];have hk16:k<=16:=by omega
 clear hc hc' hb hk;refine⟨⟨by omega,rfl,by simp only[lenLim]; omega⟩,?_⟩;conv=>whnf
 refine⟨Nat,fun i=>i<=k,fun i=>{ fr:=[(3,.own (1,3) k),(10,i64 k),(11,i64 i)],st:=[((1,3),⟨28,3,fillV ratv zR k (List.replicate i q0)⟩)],g:=9 },
  fun i=>k-i,0,Nat.zero_le _,⟨trivial,⟨.inl ⟨.of_eq rfl,rfl⟩,.inl ⟨.of_eq rfl,rfl⟩,x_R,trivial⟩,⟨.same ?_ ?_,x_N,x_L⟩,trivial⟩,?_⟩
 ·exact congrArg (fun z=>some (Row.mk 28 3 z)) (fillV_nil (enc:=ratv)).symm
 ·exact ltL_fillV (fun _=>rfl) rfl
 intro i hi;dsimp only at hi ⊢;conv=>whnf
 refine Br.mk (fun h=>?_) (fun h=>?_)
 ·have hlt:i<k:=by simpa using h
  conv=>whnf
  refine cE c_qZero ?_;conv=>whnf
  refine⟨⟨rfl,rfl⟩,⟨by omega,by omega⟩,?_⟩;conv=>whnf
  have hl:(List.replicate i q0).length=i:=List.length_replicate;refine elA_mk zR (by have:=fillV_get (enc:=ratv) (z:=zR) (n:=k) (l:=List.replicate i q0) (by omega); rw[hl] at this; exact this) ?_;conv=>whnf
  refine⟨i+1,hlt,⟨trivial,⟨x_R,x_R,x_E ?_,trivial⟩,⟨.same ?_ ?_,x_N,x_L⟩,trivial⟩,by show k-(i+1)<k-i; omega⟩
  ·exact (wI (n:=(i:Int)+1) (by omega) (by omega)).trans (by simp)
  ·refine congrArg (fun z=>some (Row.mk 28 3 z)) ?_;have:=fillV_set (enc:=ratv) (z:=zR) (n:=k) (l:=List.replicate i q0) (x:=q0) (by omega);rw[hl] at this;rw[List.replicate_succ'];exact this
  ·exact ltL_fillV (fun _=>rfl) rfl
 ·have he:i=k:=by
   have:¬ i<k:=by simpa using h
   omega
  subst he;conv=>whnf
  refine⟨(1,3),?_,?_,?_⟩
  ·simp;rfl
  ·exact congrArg (fun z=>some (Row.mk 28 3 z)) (fillV_full (by simp))
  ·intro e he;obtain⟨x,_,rfl⟩:=List.mem_map.1 he;rfl
end
section
open Go Go.RowKit Go.Proofs.Tryz
attribute [local irreducible] zMul zAdd zLeft zRight fitZ qMake zDiv dMake dLevel dRound dNear dAdd dMul dRatio dCmp dMin dMax dAbs dLess qCmp sOut qAdd qMul sAdd sMul sNear
def vUnit (n at':Int):List FQ:=if 0<=at'/\at'<clampN n then (List.replicate (clampN n) q0).set at'.toNat (qOf 1 1) else List.replicate (clampN n) q0
theorem c_vUnit (n at':Int):ACalls prog 129 [i64 n,i64 at'] (lQ (vUnit n at')):=by
 have C:=c_vZeroO n;unfold vUnit;have hk16:clampN n<=16:=by have:=clamp_b n; have:=clamp_c n; omega
 generalize clampN n=k at *
 refine conN func129 rfl (by kernel_rfl) ?_;conv=>whnf
 refine callO C rfl ?_;conv=>whnf
 have hlen:(((List.replicate k q0).map ratv).length:Int)=(k:Int):=by simp
 by_cases h1:at' ≥ 0
 ·rw[decide_eq_true h1];conv=>whnf
  by_cases h2:at'<(k:Int)
  ·rw[if_pos ⟨h1,h2⟩];rw[hlen,decide_eq_true h2];conv=>whnf
   refine callS (c_qOf 1 1 (by decide) (by decide) (by decide) (by decide)) rfl rfl ?_;conv=>whnf
   refine⟨⟨rfl,rfl⟩,⟨h1,by rw[hlen]; exact h2⟩,?_⟩;conv=>whnf
   refine elA_mk (rat 0) (by rw[List.getElem?_map,List.getElem?_replicate,if_pos (by omega)]; rfl) ?_;conv=>whnf
   have e:((List.replicate k q0).map ratv).set at'.toNat (rat (qOf 1 1).q)=((List.replicate k q0).set at'.toNat (qOf 1 1)).map ratv:=(List.map_set (f:=ratv)).symm;exact .own2 trivial rfl (by simp) ((congrArg AV.closedL e).trans (closedL_map (fun _=>rfl) _)) e
  ·rw[if_neg (fun q=>h2 q.2)];rw[hlen,decide_eq_false h2];conv=>whnf
   exact .own2 trivial rfl (by simp) (closedL_map (fun _=>rfl) _) rfl
 ·rw[if_neg (fun q=>h1 q.1)];rw[decide_eq_false h1];conv=>whnf
  exact .own2 trivial rfl (by simp) (closedL_map (fun _=>rfl) _) rfl
def ratL (m:Bool) (n d:List Nat):AV:=.agg [boo m,lst n,lst d]
def qCheckG (g:Nat) (m:Bool) (n d:List Nat):Int :=
 if checkN n≠0 then checkN n else if m=true/\n=[] then 2 else if checkN d≠0 then checkN d else if d=[]\/g≠1 then 2 else 0
def qCheck (m:Bool) (n d:List Nat):Int:=qCheckG (Nat.gcd (val n) (val d)) m n d
theorem checkN_can {l:List Nat} (h:checkN l=0) (hl:∀ x∈l,x<B):Can l/\l.length<=512:=by
 unfold checkN at h;split at h
 ·cases h
 ·split at h
  ·cases h
  ·exact⟨⟨hl,by assumption⟩,by omega⟩
theorem can_lst {l:List Nat} (h:Can l):lst l=nat (val l):=by
 show lst l=lst (digs (val l));rw[digs_val h]
theorem cmpN_one {g:Nat}:((cmpN g 1 !=0):Bool)=decide (g≠1):=by
 unfold cmpN;by_cases h:g=1
 ·subst h; rfl
 ·by_cases h2:g<1
  ·rw[if_pos h2,decide_eq_true h]; rfl
  ·rw[if_neg h2,if_neg h,decide_eq_true h]; rfl
theorem c_qCheck (m:Bool) (n d:List Nat) (hn:n.length<=9223372036854775807) (hd:d.length<=9223372036854775807) (hnB:∀ x∈n,x<B) (hdB:∀ x∈d,x<B):ACalls prog 16 [ratL m n d] (i64 (qCheck m n d)):=by
 have C1:=c_wCheck m n (by omega);have C2:=c_CheckN d (by omega);unfold qCheck;obtain⟨g,hgv⟩:∃ g,Nat.gcd (val n) (val d)=g:=⟨_,rfl⟩
 rw[hgv];unfold qCheckG;refine conN func16 rfl (by kernel_rfl) ?_;conv=>whnf
 refine cE C1 ?_;by_cases h1:checkN n≠0
 ·rw[if_pos h1,if_pos h1];conv=>whnf
  refine Br.mk (fun h=>?_) (fun h=>?_)
  ·conv=>whnf
   exact fin rfl rfl
  ·exact absurd (by simpa using h) h1
 rw[if_neg h1,if_neg h1];by_cases h2:m=true/\n=[]
 ·rw[if_pos h2,if_pos h2];conv=>whnf
  exact fin rfl rfl
 rw[if_neg h2,if_neg h2];have h1:checkN n=0:=by simpa using h1
 obtain⟨hcn,hln⟩:=checkN_can h1 hnB;conv=>whnf
 refine cE C2 ?_;conv=>whnf
 refine Br.mk (fun h=>?_) (fun h=>?_)
 ·have h3:checkN d≠0:=by simpa using h
  rw[if_pos h3];conv=>whnf
  exact fin rfl rfl
 have h3:checkN d=0:=by simpa using h
 clear h;rw[if_neg (by simpa using h3)];obtain⟨hcd,hld⟩:=checkN_can h3 hdB;conv=>whnf
 by_cases h4:d=[]
 ·subst h4;rw[if_pos (.inl rfl)];conv=>whnf
  exact fin rfl rfl
 have hl:((((d.map dg).length:Nat):Int)==0)=false:=by
  cases d with
  |nil=>exact absurd rfl h4
  |cons x d=>simp; omega
 have hBn:val n<Big:=lt_Big.2 (by rw[digs_val hcn]; exact hln);have hBd:val d<Big:=lt_Big.2 (by rw[digs_val hcd]; exact hld);have G:=c_Gcd (val n) (val d) hBn hBd;rw[<- can_lst hcn,<- can_lst hcd] at G;have hg:Nat.gcd (val n) (val d)<Big:=by
  have h0:val d≠0:=by
   intro h0;have:=digs_val hcd;rw[h0,digs_zero] at this;exact h4 this.symm
  exact Nat.lt_of_le_of_lt (Nat.gcd_le_right _ (by omega)) hBd
 have G2:=c_Compare (Nat.gcd (val n) (val d)) 1 hg one_lt_Big;have hc:=cmpN_one (g:=Nat.gcd (val n) (val d));rw[hgv] at G G2 hc;rw[hl];conv=>whnf
 refine cE G ?_;conv=>whnf
 refine callS (c_Of 1 (by decide)) rfl rfl ?_;conv=>whnf
 refine cE G2 ?_;conv=>whnf
 rw[hc];by_cases h5:g=1
 ·rw[if_neg (by rintro (q | q); exact h4 q; exact q h5),decide_eq_false (by simpa using h5)];conv=>whnf
  exact fin rfl rfl
 ·rw[if_pos (.inr h5),decide_eq_true h5];conv=>whnf
  exact fin rfl rfl
end
section
open Go Go.RowKit Go.Proofs.Tryz
attribute [local irreducible] zMul zAdd zLeft zRight fitZ qMake zDiv dMake dLevel dRound dNear dAdd dMul dRatio dCmp dMin dMax dAbs dLess qCmp sOut qAdd qMul sAdd sMul sNear qSum sSize
theorem runE_step {α β:Type} {f:α->Except Nat β} {l:List α} {r:List β} {d x:β} {e:Nat} (hn:r.length<l.length) (h:runE f (l.take r.length)=.ok r) (hx:okOr d (f l[r.length])=x) (he:errN (f l[r.length])=e) :
  (e≠0->runE f l=.error (e-1))/\(e=0->runE f (l.take (r.length+1))=.ok (r++[x])):=by
 have ht:=runE_take hn h;cases hq:f l[r.length] with
 |error e' =>
  rw[hq] at he ht;refine⟨fun _=>runE_err (n:=r.length+1) (ht.trans ?_),fun h0=>?_⟩
  ·rw[<- he]; rfl
  ·rw[h0] at he; cases he
 |ok b =>
  rw[hq] at he ht hx;refine⟨fun h0=>absurd he.symm h0,fun _=>?_⟩;rw[ht,<- hx];rfl
def tLS (r:Except Nat (List FS)):AV:=resT lS [] r
def tLQ (r:Except Nat (List FQ)):AV:=resT lQ [] r
def vNear (l:List FQ) (bits:Int):Except Nat (List FS):=runE (fun a=>sNear a bits) l
theorem c_vNear (l:List FQ) (bits:Int) (hb:BOk bits) (hl:l.length<1000000):ACalls prog 56 [lQ l,i64 bits] (tLS (vNear l bits)):=by
 refine conN func56 rfl (by kernel_rfl) ?_;have hlen:(((l.map ratv).length:Nat):Int)=(l.length:Int):=by simp
 conv=>whnf
 refine⟨⟨by omega,rfl,by simp only[lenLim]; omega⟩,?_⟩;conv=>whnf
 refine⟨List FS,fun r=>r.length<=l.length/\vNear (l.take r.length) bits=.ok r,fun r=>{ fr:=[(14,lQ l),(15,i64 l.length),(16,i64 r.length),(6,.own (1,2) l.length),(1,i64 bits)],st:=[((1,2),⟨150,6,fillV spa zSp l.length r⟩)],g:=9 },
  fun r=>l.length-r.length,[],⟨Nat.zero_le _,rfl⟩,⟨trivial,⟨x_R,x_E hlen,x_R,.inl ⟨.of_eq (congrArg (AV.own (1,2)) (by simp)),rfl⟩,x_R,trivial⟩,⟨.same ?_ ?_,x_N,x_L⟩,trivial⟩,?_⟩
 ·refine congrArg (fun z=>some (Row.mk 150 6 z)) ?_;rw[fillV_nil];exact congrArg (fun n=>List.replicate n zSp) (by simp)
 ·exact ltL_fillV (fun _=>rfl) rfl
 rintro r ⟨h1,h2⟩;dsimp only at h1 h2 ⊢;conv=>whnf
 refine Br.mk (fun h=>?_) (fun h=>?_)
 ·have hlt:r.length<l.length:=by simpa using h
  obtain⟨x1,e1,C1,hx1,he1⟩:=varT (c_sNear l[r.length] bits hb);have hstep:=runE_step hlt h2 hx1 he1;conv=>whnf
  refine⟨ratv l[r.length],⟨by omega,by simp[hlt],rfl,rfl⟩,?_⟩;conv=>whnf
  refine cE C1 ?_;conv=>whnf
  refine Br.mk (fun h=>?_) (fun h=>?_)
  ·have z:=lit0 h;have:vNear l bits=.error (e1-1):=hstep.1 z;rw[this];conv=>whnf
   exact⟨.sh _ _ rfl .nil,fin rfl (congrArg (fun x:Nat=>i64 x) (by omega:e1=e1-1+1)),trivial⟩
  have z:=lit1 h;conv=>whnf
  refine⟨⟨rfl,rfl⟩,⟨by omega,by omega⟩,?_⟩;conv=>whnf
  refine elA_mk zSp (fillV_get (enc:=spa) (z:=zSp) hlt) ?_;conv=>whnf
  have hq:=(hstep.2 z)
  refine⟨r++[x1],⟨by simp; omega,by rw[List.length_append]; exact hq⟩,⟨trivial,⟨x_R,x_R,x_E ?_,x_R,x_R,trivial⟩,⟨.same ?_ ?_,x_N,x_L⟩,trivial⟩,by show l.length-(r++[x1]).length<l.length-r.length; simp; omega⟩
  ·exact (wI (n:=(r.length:Int)+1) (by omega) (by omega)).trans (by simp)
  ·exact congrArg (fun z=>some (Row.mk 150 6 z)) (fillV_set (enc:=spa) hlt)
  ·exact ltL_fillV (fun _=>rfl) rfl
 ·have he:r.length=l.length:=by
   have:¬ r.length<l.length:=by simpa using h
   omega
  have:vNear l bits=.ok r:=by rw[he,List.take_length] at h2; exact h2
  rw[this];conv=>whnf
  exact⟨.own2 trivial rfl (by rw[fillV_len (by omega)]) (by rw[fillV_full he]; exact closedL_map (fun _=>rfl) _) (fillV_full he),fin rfl rfl,trivial⟩
theorem zip_get {α β:Type} {a:List α} {b:List β} {n:Nat} (hn:n<a.length) (hab:a.length=b.length):(a.zip b)[n]'(by simp; omega)=(a[n],b[n]'(by omega)):=List.getElem_zip
theorem zip_len {α β:Type} {a:List α} {b:List β} (hab:a.length=b.length):(a.zip b).length=a.length:=by simp; omega
def vEach (op:FQ->FQ->Except Nat FQ) (a b:List FQ):Except Nat (List FQ):=if a.length≠b.length then .error eShape else runE (fun p=>op p.1 p.2) (a.zip b)
def vPlus (bits:Int) (a b:List FS):Except Nat (List FS):=if a.length≠b.length then .error eShape else runE (fun p=>sAdd p.1 p.2 bits) (a.zip b)
theorem c_vEachF (f:FuncId) (op:FQ->FQ->Except Nat FQ) (hf:∀ x y:FQ,ACalls prog f [rat x.q,rat y.q] (tQ (op x y))) (a b:List FQ) (hl:a.length<1000000):ACalls prog 126 [lQ a,lQ b,.lit (.func (.func f) #[] #[])] (tLQ (vEach op a b)):=by
 refine conN func126 rfl (by kernel_rfl) ?_;have hlen:(((a.map ratv).length:Nat):Int)=(a.length:Int):=by simp
 have hlenb:(((b.map ratv).length:Nat):Int)=(b.length:Int):=by simp
 conv=>whnf
 refine Br.mk (fun h=>?_) (fun h=>?_)
 ·have hne:a.length≠b.length:=by
   simp at h;omega
  have:vEach op a b=.error eShape:=by unfold vEach; rw[if_pos hne]
  rw[this];conv=>whnf
  exact⟨.sh _ _ rfl .nil,fin rfl rfl,trivial⟩
 have hab:a.length=b.length:=by
  simp at h;omega
 clear h;have hsp:vEach op a b=runE (fun p=>op p.1 p.2) (a.zip b):=by unfold vEach; rw[if_neg (by simpa using hab)]
 rw[hsp];clear hsp;conv=>whnf
 refine⟨⟨by omega,rfl,by simp only[lenLim]; omega⟩,?_⟩;conv=>whnf
 refine⟨List FQ,fun r=>r.length<=a.length/\runE (fun p=>op p.1 p.2) ((a.zip b).take r.length)=.ok r,fun r=>{ fr:=[(21,i64 a.length),(22,i64 r.length),(8,.own (2,2) a.length),(0,lQ a),(1,lQ b),(2,.lit (.func (.func f) #[] #[]))],st:=[((2,2),⟨28,3,fillV ratv zR a.length r⟩)],g:=9 },
  fun r=>a.length-r.length,[],⟨Nat.zero_le _,rfl⟩,⟨trivial,⟨x_E hlen,x_R,.inl ⟨.of_eq (congrArg (AV.own (2,2)) (by simp)),rfl⟩,x_R,x_R,x_R,trivial⟩,⟨.same ?_ ?_,x_N,x_L⟩,trivial⟩,?_⟩
 ·refine congrArg (fun z=>some (Row.mk 28 3 z)) ?_;rw[fillV_nil];exact congrArg (fun n=>List.replicate n zR) (by simp)
 ·exact ltL_fillV (fun _=>rfl) rfl
 rintro r ⟨h1,h2⟩;dsimp only at h1 h2 ⊢;conv=>whnf
 refine Br.mk (fun h=>?_) (fun h=>?_)
 ·have hlt:r.length<a.length:=by simpa using h
  have hltb:r.length<b.length:=by omega
  obtain⟨x1,e1,C1,hx1,he1⟩:=varT (hf a[r.length] b[r.length]);have hstep:=runE_step (f:=fun p=>op p.1 p.2) (l:=a.zip b) (by rw[zip_len hab]; exact hlt) h2 (x:=x1) (e:=e1) (by rw[zip_get hlt hab]; exact hx1) (by rw[zip_get hlt hab]; exact he1);conv=>whnf
  refine xK ?_;conv=>whnf
  refine⟨ratv a[r.length],⟨by omega,by simp[hlt],rfl,rfl⟩,?_⟩;conv=>whnf
  refine⟨ratv b[r.length],⟨by omega,by simp[hltb],rfl,rfl⟩,?_⟩;conv=>whnf
  refine cE C1 ?_;conv=>whnf
  refine Br.mk (fun h=>?_) (fun h=>?_)
  ·have z:=lit0 h;rw[hstep.1 z];conv=>whnf
   exact⟨.sh _ _ rfl .nil,fin rfl (congrArg (fun x:Nat=>i64 x) (by omega:e1=e1-1+1)),trivial⟩
  have z:=lit1 h;conv=>whnf
  refine⟨⟨rfl,rfl⟩,⟨by omega,by omega⟩,?_⟩;conv=>whnf
  refine elA_mk zR (fillV_get (enc:=ratv) (z:=zR) hlt) ?_;conv=>whnf
  have hq:=(hstep.2 z)
  refine⟨r++[x1],⟨by simp; omega,by rw[List.length_append]; exact hq⟩,⟨trivial,⟨x_R,x_E ?_,x_R,x_R,x_R,x_R,trivial⟩,⟨.same ?_ ?_,x_N,x_L⟩,trivial⟩,by show a.length-(r++[x1]).length<a.length-r.length; simp; omega⟩
  ·exact (wI (n:=(r.length:Int)+1) (by omega) (by omega)).trans (by simp)
  ·exact congrArg (fun z=>some (Row.mk 28 3 z)) (fillV_set (enc:=ratv) hlt)
  ·exact ltL_fillV (fun _=>rfl) rfl
 ·have he:r.length=a.length:=by
   have:¬ r.length<a.length:=by simpa using h
   omega
  have:runE (fun p=>op p.1 p.2) (a.zip b)=.ok r:=by rw[List.take_of_length_le (by rw[zip_len hab]; omega)] at h2; exact h2
  rw[this];conv=>whnf
  exact⟨.own2 trivial rfl (by rw[fillV_len (by omega)]) (by rw[fillV_full he]; exact closedL_map (fun _=>rfl) _) (fillV_full he),fin rfl rfl,trivial⟩
theorem c_vEachC (f:FuncId) (op:FQ->FQ->Except Nat FQ) (c:FQ) (hf:∀ x y:FQ,ACalls prog f [rat x.q,rat y.q,.rptr (rat c.q) 0] (tQ (op x y))) (a b:List FQ) (hl:a.length<1000000):ACalls prog 126 [lQ a,lQ b,.clo f [.rptr (rat c.q) 0]] (tLQ (vEach op a b)):=by
 refine conN func126 rfl (by kernel_rfl) ?_;have hlen:(((a.map ratv).length:Nat):Int)=(a.length:Int):=by simp
 have hlenb:(((b.map ratv).length:Nat):Int)=(b.length:Int):=by simp
 conv=>whnf
 refine Br.mk (fun h=>?_) (fun h=>?_)
 ·have hne:a.length≠b.length:=by
   simp at h;omega
  have:vEach op a b=.error eShape:=by unfold vEach; rw[if_pos hne]
  rw[this];conv=>whnf
  exact⟨.sh _ _ rfl .nil,fin rfl rfl,trivial⟩
 have hab:a.length=b.length:=by
  simp at h;omega
 clear h;have hsp:vEach op a b=runE (fun p=>op p.1 p.2) (a.zip b):=by unfold vEach; rw[if_neg (by simpa using hab)]
 rw[hsp];clear hsp;conv=>whnf
 refine⟨⟨by omega,rfl,by simp only[lenLim]; omega⟩,?_⟩;conv=>whnf
 refine⟨List FQ,fun r=>r.length<=a.length/\runE (fun p=>op p.1 p.2) ((a.zip b).take r.length)=.ok r,fun r=>{ fr:=[(21,i64 a.length),(22,i64 r.length),(8,.own (2,2) a.length),(0,lQ a),(1,lQ b),(2,.clo f [.rptr (rat c.q) 0])],st:=[((2,2),⟨28,3,fillV ratv zR a.length r⟩)],g:=9 },
  fun r=>a.length-r.length,[],⟨Nat.zero_le _,rfl⟩,⟨trivial,⟨x_E hlen,x_R,.inl ⟨.of_eq (congrArg (AV.own (2,2)) (by simp)),rfl⟩,x_R,x_R,x_R,trivial⟩,⟨.same ?_ ?_,x_N,x_L⟩,trivial⟩,?_⟩
 ·refine congrArg (fun z=>some (Row.mk 28 3 z)) ?_;rw[fillV_nil];exact congrArg (fun n=>List.replicate n zR) (by simp)
 ·exact ltL_fillV (fun _=>rfl) rfl
 rintro r ⟨h1,h2⟩;dsimp only at h1 h2 ⊢;conv=>whnf
 refine Br.mk (fun h=>?_) (fun h=>?_)
 ·have hlt:r.length<a.length:=by simpa using h
  have hltb:r.length<b.length:=by omega
  obtain⟨x1,e1,C1,hx1,he1⟩:=varT (hf a[r.length] b[r.length]);have hstep:=runE_step (f:=fun p=>op p.1 p.2) (l:=a.zip b) (by rw[zip_len hab]; exact hlt) h2 (x:=x1) (e:=e1) (by rw[zip_get hlt hab]; exact hx1) (by rw[zip_get hlt hab]; exact he1);conv=>whnf
  refine xK ?_;conv=>whnf
  refine⟨ratv a[r.length],⟨by omega,by simp[hlt],rfl,rfl⟩,?_⟩;conv=>whnf
  refine⟨ratv b[r.length],⟨by omega,by simp[hltb],rfl,rfl⟩,?_⟩;conv=>whnf
  refine cE C1 ?_;conv=>whnf
  refine Br.mk (fun h=>?_) (fun h=>?_)
  ·have z:=lit0 h;rw[hstep.1 z];conv=>whnf
   exact⟨.sh _ _ rfl .nil,fin rfl (congrArg (fun x:Nat=>i64 x) (by omega:e1=e1-1+1)),trivial⟩
  have z:=lit1 h;conv=>whnf
  refine⟨⟨rfl,rfl⟩,⟨by omega,by omega⟩,?_⟩;conv=>whnf
  refine elA_mk zR (fillV_get (enc:=ratv) (z:=zR) hlt) ?_;conv=>whnf
  have hq:=(hstep.2 z)
  refine⟨r++[x1],⟨by simp; omega,by rw[List.length_append]; exact hq⟩,⟨trivial,⟨x_R,x_E ?_,x_R,x_R,x_R,x_R,trivial⟩,⟨.same ?_ ?_,x_N,x_L⟩,trivial⟩,by show a.length-(r++[x1]).length<a.length-r.length; simp; omega⟩
  ·exact (wI (n:=(r.length:Int)+1) (by omega) (by omega)).trans (by simp)
  ·exact congrArg (fun z=>some (Row.mk 28 3 z)) (fillV_set (enc:=ratv) hlt)
  ·exact ltL_fillV (fun _=>rfl) rfl
 ·have he:r.length=a.length:=by
   have:¬ r.length<a.length:=by simpa using h
   omega
  have:runE (fun p=>op p.1 p.2) (a.zip b)=.ok r:=by rw[List.take_of_length_le (by rw[zip_len hab]; omega)] at h2; exact h2
  rw[this];conv=>whnf
  exact⟨.own2 trivial rfl (by rw[fillV_len (by omega)]) (by rw[fillV_full he]; exact closedL_map (fun _=>rfl) _) (fillV_full he),fin rfl rfl,trivial⟩
theorem c_vPlus (a b:List FS) (bits:Int) (hb:BOk bits) (hl:a.length<1000000):ACalls prog 113 [lS a,lS b,i64 bits] (tLS (vPlus bits a b)):=by
 have hf:∀ x y:FS,ACalls prog 149 [spa x,spa y,i64 bits] (tS (sAdd x y bits)):=fun x y=>c_sAdd x y bits hb
 refine conN func113 rfl (by kernel_rfl) ?_;have hlen:(((a.map spa).length:Nat):Int)=(a.length:Int):=by simp
 have hlenb:(((b.map spa).length:Nat):Int)=(b.length:Int):=by simp
 conv=>whnf
 refine Br.mk (fun h=>?_) (fun h=>?_)
 ·have hne:a.length≠b.length:=by
   simp at h;omega
  have:vPlus bits a b=.error eShape:=by unfold vPlus; rw[if_pos hne]
  rw[this];conv=>whnf
  exact⟨.sh _ _ rfl .nil,fin rfl rfl,trivial⟩
 have hab:a.length=b.length:=by
  simp at h;omega
 clear h;have hsp:vPlus bits a b=runE (fun p=>sAdd p.1 p.2 bits) (a.zip b):=by unfold vPlus; rw[if_neg (by simpa using hab)]
 rw[hsp];clear hsp;conv=>whnf
 refine⟨⟨by omega,rfl,by simp only[lenLim]; omega⟩,?_⟩;conv=>whnf
 refine⟨List FS,fun r=>r.length<=a.length/\runE (fun p=>sAdd p.1 p.2 bits) ((a.zip b).take r.length)=.ok r,fun r=>{ fr:=[(21,i64 a.length),(22,i64 r.length),(8,.own (2,2) a.length),(0,lS a),(1,lS b),(2,i64 bits)],st:=[((2,2),⟨150,6,fillV spa zSp a.length r⟩)],g:=9 },
  fun r=>a.length-r.length,[],⟨Nat.zero_le _,rfl⟩,⟨trivial,⟨x_E hlen,x_R,.inl ⟨.of_eq (congrArg (AV.own (2,2)) (by simp)),rfl⟩,x_R,x_R,x_R,trivial⟩,⟨.same ?_ ?_,x_N,x_L⟩,trivial⟩,?_⟩
 ·refine congrArg (fun z=>some (Row.mk 150 6 z)) ?_;rw[fillV_nil];exact congrArg (fun n=>List.replicate n zSp) (by simp)
 ·exact ltL_fillV (fun _=>rfl) rfl
 rintro r ⟨h1,h2⟩;dsimp only at h1 h2 ⊢;conv=>whnf
 refine Br.mk (fun h=>?_) (fun h=>?_)
 ·have hlt:r.length<a.length:=by simpa using h
  have hltb:r.length<b.length:=by omega
  obtain⟨x1,e1,C1,hx1,he1⟩:=varT (hf a[r.length] b[r.length]);have hstep:=runE_step (f:=fun p=>sAdd p.1 p.2 bits) (l:=a.zip b) (by rw[zip_len hab]; exact hlt) h2 (x:=x1) (e:=e1) (by rw[zip_get hlt hab]; exact hx1) (by rw[zip_get hlt hab]; exact he1);conv=>whnf
  refine xK ?_;conv=>whnf
  refine⟨spa a[r.length],⟨by omega,by simp[hlt],rfl,rfl⟩,?_⟩;conv=>whnf
  refine⟨spa b[r.length],⟨by omega,by simp[hltb],rfl,rfl⟩,?_⟩;conv=>whnf
  refine cE C1 ?_;conv=>whnf
  refine Br.mk (fun h=>?_) (fun h=>?_)
  ·have z:=lit0 h;rw[hstep.1 z];conv=>whnf
   exact⟨.sh _ _ rfl .nil,fin rfl (congrArg (fun x:Nat=>i64 x) (by omega:e1=e1-1+1)),trivial⟩
  have z:=lit1 h;conv=>whnf
  refine⟨⟨rfl,rfl⟩,⟨by omega,by omega⟩,?_⟩;conv=>whnf
  refine elA_mk zSp (fillV_get (enc:=spa) (z:=zSp) hlt) ?_;conv=>whnf
  have hq:=(hstep.2 z)
  refine⟨r++[x1],⟨by simp; omega,by rw[List.length_append]; exact hq⟩,⟨trivial,⟨x_R,x_E ?_,x_R,x_R,x_R,x_R,trivial⟩,⟨.same ?_ ?_,x_N,x_L⟩,trivial⟩,by show a.length-(r++[x1]).length<a.length-r.length; simp; omega⟩
  ·exact (wI (n:=(r.length:Int)+1) (by omega) (by omega)).trans (by simp)
  ·exact congrArg (fun z=>some (Row.mk 150 6 z)) (fillV_set (enc:=spa) hlt)
  ·exact ltL_fillV (fun _=>rfl) rfl
 ·have he:r.length=a.length:=by
   have:¬ r.length<a.length:=by simpa using h
   omega
  have:runE (fun p=>sAdd p.1 p.2 bits) (a.zip b)=.ok r:=by rw[List.take_of_length_le (by rw[zip_len hab]; omega)] at h2; exact h2
  rw[this];conv=>whnf
  exact⟨.own2 trivial rfl (by rw[fillV_len (by omega)]) (by rw[fillV_full he]; exact closedL_map (fun _=>rfl) _) (fillV_full he),fin rfl rfl,trivial⟩
theorem c_vAdd (a b:List FQ) (hl:a.length<1000000):ACalls prog 39 [lQ a,lQ b] (tLQ (vEach qAdd a b)):=by
 obtain⟨x,e,C,hx,he⟩:=varT (c_vEachF 29 qAdd c_qAdd a b hl);show ACalls prog _ _ (.tup [lQ (okOr [] (vEach qAdd a b)),i64 (errN (vEach qAdd a b))]);rw[hx,he];refine conN func39 rfl (by kernel_rfl) ?_;conv=>whnf
 refine cE C ?_;conv=>whnf
 exact⟨fin rfl rfl,fin rfl rfl,trivial⟩
theorem c_vScale1 (by' x y:FQ):ACalls prog 147 [rat x.q,rat y.q,.rptr (rat by'.q) 0] (tQ (qMul x by')):=by
 obtain⟨r,e,C,hx,he⟩:=varT (c_qMul x by');show ACalls prog _ _ (.tup [rat (okOr q0 (qMul x by')).q,i64 (errN (qMul x by'))]);rw[hx,he];refine conN func147 rfl (by kernel_rfl) ?_;conv=>whnf
 refine cE C ?_;conv=>whnf
 exact⟨fin rfl rfl,fin rfl rfl,trivial⟩
def vScale (a:List FQ) (k:FQ):Except Nat (List FQ):=vEach (fun x _=>qMul x k) a a
theorem c_vScale (a:List FQ) (k:FQ) (hl:a.length<1000000):ACalls prog 57 [lQ a,rat k.q] (tLQ (vScale a k)):=by
 obtain⟨x,e,C,hx,he⟩:=varT (c_vEachC 147 (fun x _=>qMul x k) k (fun x y=>c_vScale1 k x y) a a hl);show ACalls prog _ _ (.tup [lQ (okOr [] (vScale a k)),i64 (errN (vScale a k))]);unfold vScale;rw[hx,he];refine conN func57 rfl (by kernel_rfl) ?_;conv=>whnf
 refine⟨[(0,0)],[.rptr (rat k.q) 0],⟨⟨_,rfl⟩,trivial⟩,⟨.ptr (0,0) 0 0 _ _ _ (.head _) rfl rfl (.refl rfl),trivial⟩,?_⟩;conv=>whnf
 refine cE C ?_;conv=>whnf
 exact⟨fin rfl rfl,fin rfl rfl,trivial⟩
def vDot (a b:List FQ):Except Nat FQ:=bnd (vEach qMul a b) fun p=>qSum p
theorem vEach_len {op:FQ->FQ->Except Nat FQ} {a b p:List FQ} (h:vEach op a b=.ok p):p.length=a.length/\a.length=b.length:=by
 unfold vEach at h;split at h
 ·cases h
 ·rename_i hab;have hab:a.length=b.length:=by simpa using hab
  rw[runE_length h,zip_len hab];exact⟨rfl,hab⟩
theorem c_vDot (a b:List FQ) (hl:a.length<1000000):ACalls prog 47 [lQ a,lQ b] (tQ (vDot a b)):=by
 obtain⟨x,e,C,hx,he⟩:=varT (c_vEachF 27 qMul c_qMul a b hl);have hxl:x.length<1000000:=by
  rw[<- hx];cases hv:vEach qMul a b with
  |ok p=>have:=vEach_len hv; show p.length<_; omega
  |error e=>show ([]:List FQ).length<_; simp
 obtain⟨x2,e2,C2,hx2,he2⟩:=varT (c_qSum x hxl);obtain⟨X,E,hX,hE⟩:∃ x e,okOr q0 (vDot a b)=x/\errN (vDot a b)=e:=⟨_,_,rfl,rfl⟩
 have key:(e≠0->X=q0/\E=e)/\(e=0->X=x2/\E=e2):=by
  unfold vDot at hX hE;rcases bnd_cases (vEach qMul a b) (fun p=>qSum p) [] q0 with ⟨g1,g2,g3⟩ | ⟨g1,g2⟩
  ·rw[g2] at hX; rw[g3] at hE; rw[he] at g1 hE
   exact⟨fun _=>⟨hX.symm,hE.symm⟩,fun h=>absurd h g1⟩
  ·rw[g2,hx] at hX hE;rw[he] at g1;exact⟨fun h=>absurd g1 h,fun _=>⟨hX▸hx2,hE▸he2⟩⟩
 show ACalls prog _ _ (.tup [rat (okOr q0 (vDot a b)).q,i64 (errN (vDot a b))]);rw[hX,hE];clear hX hE hx he hx2 he2;refine conN func47 rfl (by kernel_rfl) ?_;conv=>whnf
 refine cE C ?_;conv=>whnf
 refine Br.mk (fun h=>?_) (fun h=>?_)
 ·obtain⟨rfl,rfl⟩:=key.1 (lit0 h);conv=>whnf
  refine cE c_qZero ?_;conv=>whnf
  exact⟨fin rfl rfl,fin rfl rfl,trivial⟩
 ·obtain⟨rfl,rfl⟩:=key.2 (lit1 h);conv=>whnf
  refine cE C2 ?_;conv=>whnf
  exact⟨fin rfl rfl,fin rfl rfl,trivial⟩
end
section
open Go Go.RowKit Go.Proofs.Tryz
attribute [local irreducible] zMul zAdd zLeft zRight fitZ qMake zDiv dMake dLevel dRound dNear dAdd dMul dRatio dCmp dMin dMax dAbs dLess qCmp sOut qAdd qMul sAdd sMul sNear qSum sSize
abbrev RawQ:=Bool×List Nat×List Nat
def rawv (x:RawQ):AV:=ratL x.1 x.2.1 x.2.2
def RawOk (x:RawQ):Prop:=x.2.1.length<=9223372036854775807/\x.2.2.length<=9223372036854775807/\(∀ y∈x.2.1,y<B)/\∀ y∈x.2.2,y<B
def rawCheck (x:RawQ):Int:=qCheck x.1 x.2.1 x.2.2
def vCheck (l:List RawQ) (n:Int):Int:=if n<0\/n > 16\/(l.length:Int)≠n then 20 else firstE (l.map rawCheck)
theorem c_vCheck (l:List RawQ) (n:Int) (h:∀ x∈l,RawOk x) (hl:l.length<=9223372036854775807):ACalls prog 116 [.sl (l.map rawv),i64 n] (i64 (vCheck l n)):=by
 have hlen:(((l.map rawv).length:Nat):Int)=(l.length:Int):=by simp
 unfold vCheck;refine conN func116 rfl (by kernel_rfl) ?_;conv=>whnf
 by_cases h1:n<0
 ·rw[decide_eq_true h1,if_pos (.inl h1)];conv=>whnf
  exact fin rfl rfl
 rw[decide_eq_false h1];conv=>whnf
 by_cases h2:n > 16
 ·rw[decide_eq_true h2,if_pos (.inr (.inl h2))];conv=>whnf
  exact fin rfl rfl
 rw[decide_eq_false h2];conv=>whnf
 refine Br.mk (fun h=>?_) (fun h=>?_)
 ·have h3:(l.length:Int)≠n:=by simpa using h
  rw[if_pos (.inr (.inr h3))];conv=>whnf
  exact fin rfl rfl
 have h3:(l.length:Int)=n:=by simpa using h
 have hn:¬ (n<0\/n > 16\/(l.length:Int)≠n):=by omega
 rw[if_neg hn];clear h;conv=>whnf
 refine⟨Nat,fun i=>i<=l.length/\∀ x∈(l.map rawCheck).take i,x=0,fun i=>{ fr:=[(20,.sl (l.map rawv)),(21,i64 l.length),(22,i64 i)],g:=9 },fun i=>l.length-i,0,⟨Nat.zero_le _,by simp⟩,
  ⟨trivial,⟨x_R,x_E hlen,x_R,trivial⟩,trivial⟩,?_⟩
 rintro i ⟨k1,k2⟩;dsimp only at k1 k2 ⊢;conv=>whnf
 refine Br.mk (fun h=>?_) (fun h=>?_)
 ·have hlt:i<l.length:=by simpa using h
  obtain⟨w1,w2,w3,w4⟩:=‹∀ x∈l,RawOk x› l[i] (List.getElem_mem hlt);obtain⟨c,C,hc⟩:∃ c,ACalls prog 16 [rawv l[i]] (i64 c)/\rawCheck l[i]=c:=⟨_,c_qCheck l[i].1 l[i].2.1 l[i].2.2 w1 w2 w3 w4,rfl⟩
  have hlm:i<(l.map rawCheck).length:=by simpa using hlt
  have hg:(l.map rawCheck)[i]=c:=by simp[hc]
  conv=>whnf
  refine⟨rawv l[i],⟨by omega,by simp[hlt],rfl,rfl⟩,?_⟩;conv=>whnf
  refine cE C ?_;conv=>whnf
  refine Br.mk (fun h=>?_) (fun h=>?_)
  ·have h0:c≠0:=by simpa using h
   conv=>whnf
   refine fin rfl (congrArg i64 ?_);rw[<- firstE_drop k2,List.drop_eq_getElem_cons hlm,hg,firstE,if_neg h0]
  ·have h0:c=0:=by simpa using h
   conv=>whnf
   refine⟨i+1,⟨by omega,fun x hx=>?_⟩,⟨trivial,⟨x_R,x_R,x_E ?_,trivial⟩,trivial⟩,by show l.length-(i+1)<l.length-i; omega⟩
   ·rw[List.take_succ_eq_append_getElem hlm,List.mem_append] at hx;rcases hx with hx | hx
    ·exact k2 x hx
    ·simp only[List.mem_singleton] at hx;rw[hx,hg,h0]
   ·exact (wI (n:=(i:Int)+1) (by omega) (by omega)).trans (by simp)
 ·have he:i=l.length:=by
   have:¬ i<l.length:=by simpa using h
   omega
  conv=>whnf
  refine fin rfl (congrArg i64 ?_);rw[<- firstE_drop k2,he,List.drop_eq_nil_of_le (by simp)];rfl
def rawQ (a:FQ):RawQ:=(decide (a.q.num<0),digs a.q.num.natAbs,digs a.q.den)
theorem rawv_rawQ (a:FQ):rawv (rawQ a)=ratv a:=rfl
theorem checkN_digs {n:Nat} (h:n<Big):checkN (digs n)=0:=by
 have h1:=len_fit h;have h2:=(can_digs n).2;unfold checkN;rw[if_neg (by omega),if_neg h2]
theorem rawCheck_rawQ (a:FQ):rawCheck (rawQ a)=0:=by
 show qCheckG (Nat.gcd (val (digs a.q.num.natAbs)) (val (digs a.q.den))) (decide (a.q.num<0)) (digs a.q.num.natAbs) (digs a.q.den)=0;rw[val_digs,val_digs];have hg:Nat.gcd a.q.num.natAbs a.q.den=1:=a.q.reduced;rw[hg];unfold qCheckG;rw[checkN_digs a.hn,checkN_digs a.hd];simp only[ne_eq,not_true_eq_false,if_false];rw[if_neg,if_neg]
 ·rintro (h | h)
  ·have:=a.q.den_pos;have:=digs_eq_nil.1 h;omega
  ·exact h
 ·rintro⟨h1,h2⟩;have h1:a.q.num<0:=by simpa using h1
  have:=digs_eq_nil.1 h2;omega
theorem rawQ_ok (a:FQ):RawOk (rawQ a):=by
 have h1:=len_fit a.hn;have h2:=len_fit a.hd;exact⟨by show (digs a.q.num.natAbs).length<=_; omega,by show (digs a.q.den).length<=_; omega,fun y hy=>digs_lt hy,fun y hy=>digs_lt hy⟩
theorem c_vCheckQ (l:List FQ) (n:Int) (hl:l.length<1000000):ACalls prog 116 [lQ l,i64 n] (i64 (if n<0\/n > 16\/(l.length:Int)≠n then 20 else 0)):=by
 have C:=c_vCheck (l.map rawQ) n (fun x hx=>by
  obtain⟨a,_,rfl⟩:=List.mem_map.1 hx;exact rawQ_ok a) (by simp; omega)
 have e1:(l.map rawQ).map rawv=l.map ratv:=by rw[List.map_map]; rfl
 have e2:firstE ((l.map rawQ).map rawCheck)=0:=by
  rw[List.map_map,<- firstE_drop (n:=l.length),List.drop_eq_nil_of_le (by simp)]
  ·rfl
  ·intro x hx;obtain⟨a,_,rfl⟩:=List.mem_map.1 (List.mem_of_mem_take hx);exact rawCheck_rawQ a
 rw[e1] at C;unfold vCheck at C;rw[e2,List.length_map] at C;exact C
def vTimes (l:List FS) (k:FS) (bits:Int):Except Nat (List FS):=runE (fun a=>sMul a k bits) l
theorem c_vTimes (l:List FS) (k:FS) (bits:Int) (hb:BOk bits) (hl:l.length<1000000):ACalls prog 180 [lS l,spa k,i64 bits] (tLS (vTimes l k bits)):=by
 refine conN func180 rfl (by kernel_rfl) ?_;have hlen:(((l.map spa).length:Nat):Int)=(l.length:Int):=by simp
 conv=>whnf
 refine⟨⟨by omega,rfl,by simp only[lenLim]; omega⟩,?_⟩;conv=>whnf
 refine⟨List FS,fun r=>r.length<=l.length/\vTimes (l.take r.length) k bits=.ok r,fun r=>{ fr:=[(16,lS l),(17,i64 l.length),(18,i64 r.length),(8,.own (1,2) l.length),(2,i64 bits),(4,.ptr (0,0) 0 0)],st:=[((1,2),⟨150,6,fillV spa zSp l.length r⟩),((0,0),⟨150,6,[spa k]⟩)],g:=9 },
  fun r=>l.length-r.length,[],⟨Nat.zero_le _,rfl⟩,⟨trivial,⟨x_R,x_E hlen,x_R,.inl ⟨.of_eq (congrArg (AV.own (1,2)) (by simp)),rfl⟩,x_R,x_R,trivial⟩,⟨.same ?_ ?_,x_N,x_L⟩,x_S,trivial⟩,?_⟩
 ·refine congrArg (fun z=>some (Row.mk 150 6 z)) ?_;rw[fillV_nil];exact congrArg (fun n=>List.replicate n zSp) (by simp)
 ·exact ltL_fillV (fun _=>rfl) rfl
 rintro r ⟨h1,h2⟩;dsimp only at h1 h2 ⊢;conv=>whnf
 refine Br.mk (fun h=>?_) (fun h=>?_)
 ·have hlt:r.length<l.length:=by simpa using h
  obtain⟨x1,e1,C1,hx1,he1⟩:=varT (c_sMul l[r.length] k bits hb);have hstep:=runE_step hlt h2 hx1 he1;conv=>whnf
  refine⟨spa l[r.length],⟨by omega,by simp[hlt],rfl,rfl⟩,?_⟩;conv=>whnf
  refine cE C1 ?_;conv=>whnf
  refine Br.mk (fun h=>?_) (fun h=>?_)
  ·have z:=lit0 h;have:vTimes l k bits=.error (e1-1):=hstep.1 z;rw[this];conv=>whnf
   exact⟨.sh _ _ rfl .nil,fin rfl (congrArg (fun x:Nat=>i64 x) (by omega:e1=e1-1+1)),trivial⟩
  have z:=lit1 h;conv=>whnf
  refine⟨⟨rfl,rfl⟩,⟨by omega,by omega⟩,?_⟩;conv=>whnf
  refine elA_mk zSp (fillV_get (enc:=spa) (z:=zSp) hlt) ?_;conv=>whnf
  have hq:=(hstep.2 z)
  refine⟨r++[x1],⟨by simp; omega,by rw[List.length_append]; exact hq⟩,⟨trivial,⟨x_R,x_R,x_E ?_,x_R,x_R,x_R,trivial⟩,⟨.same ?_ ?_,x_N,x_L⟩,x_S,trivial⟩,by show l.length-(r++[x1]).length<l.length-r.length; simp; omega⟩
  ·exact (wI (n:=(r.length:Int)+1) (by omega) (by omega)).trans (by simp)
  ·exact congrArg (fun z=>some (Row.mk 150 6 z)) (fillV_set (enc:=spa) hlt)
  ·exact ltL_fillV (fun _=>rfl) rfl
 ·have he:r.length=l.length:=by
   have:¬ r.length<l.length:=by simpa using h
   omega
  have:vTimes l k bits=.ok r:=by rw[he,List.take_length] at h2; exact h2
  rw[this];conv=>whnf
  exact⟨.own2 trivial rfl (by rw[fillV_len (by omega)]) (by rw[fillV_full he]; exact closedL_map (fun _=>rfl) _) (fillV_full he),fin rfl rfl,trivial⟩
def innerStep (bits:Int) (s:FS) (p:FS×FS):Except Nat FS:=bnd (sMul p.1 p.2 bits) fun x=>sAdd s x bits
def vInner (bits:Int) (a b:List FS):Except Nat FS:=if a.length≠b.length then .error eShape else foldE (innerStep bits) s0 (a.zip b)
theorem c_vInner (a b:List FS) (bits:Int) (hb:BOk bits) (hl:a.length<1000000):ACalls prog 112 [lS a,lS b,i64 bits] (tS (vInner bits a b)):=by
 have hlen:(((a.map spa).length:Nat):Int)=(a.length:Int):=by simp
 refine conN func112 rfl (by kernel_rfl) ?_;conv=>whnf
 refine Br.mk (fun h=>?_) (fun h=>?_)
 ·have hne:a.length≠b.length:=by
   simp at h;omega
  have:vInner bits a b=.error eShape:=by unfold vInner; rw[if_pos hne]
  rw[this];conv=>whnf
  exact⟨.sh _ _ rfl le_s0,fin rfl rfl,trivial⟩
 have hab:a.length=b.length:=by
  simp at h;omega
 clear h;have hsp:vInner bits a b=foldE (innerStep bits) s0 (a.zip b):=by unfold vInner; rw[if_neg (by simpa using hab)]
 rw[hsp];clear hsp;conv=>whnf
 refine⟨Nat×FS,fun q=>q.1<=a.length/\foldE (innerStep bits) s0 ((a.zip b).take q.1)=.ok q.2,
  fun q=>{ fr:=[(19,i64 a.length),(20,i64 q.1),(8,.ptr (2,0) 0 0),(6,.ptr (0,0) 0 0),(0,lS a),(1,lS b),(2,i64 bits)],st:=[((2,0),⟨150,6,[spa q.2]⟩),((0,0),⟨150,6,[zSp]⟩)],g:=9 },
  fun q=>a.length-q.1,(0,s0),⟨Nat.zero_le _,rfl⟩,⟨trivial,⟨x_E hlen,x_R,x_R,x_R,x_R,x_R,x_R,trivial⟩,
   ⟨.less [zSp] rfl rfl (one_less le_s0),x_N,x_L⟩,x_S,trivial⟩,?_⟩
 rintro⟨n,s⟩ ⟨h1,h2⟩;dsimp only at h1 h2 ⊢;conv=>whnf
 refine Br.mk (fun h=>?_) (fun h=>?_)
 ·have hlt:n<a.length:=by simpa using h
  have hltb:n<b.length:=by omega
  have hz:n<(a.zip b).length:=by rw[zip_len hab]; exact hlt
  have ht:=foldE_take hz h2;rw[zip_get hlt hab] at ht;obtain⟨x1,e1,C1,hx1,he1⟩:=varT (c_sMul a[n] b[n] bits hb);obtain⟨x2,e2,C2,hx2,he2⟩:=varT (c_sAdd s x1 bits hb);have key:(e1≠0->foldE (innerStep bits) s0 (a.zip b)=.error (e1-1))/\(e1=0->(e2≠0->foldE (innerStep bits) s0 (a.zip b)=.error (e2-1))/\(e2=0->foldE (innerStep bits) s0 ((a.zip b).take (n+1))=.ok x2)):=by
   unfold innerStep at ht ⊢;dsimp only at ht;cases hq:sMul a[n] b[n] bits with
   |error e =>
    rw[hq] at ht he1;have hee:e1=e+1:=he1.symm;refine⟨fun _=>foldE_err (n:=n+1) (ht.trans ?_),fun h=>by omega⟩;rw[hee];rfl
   |ok x =>
    rw[hq] at ht he1 hx1;have hee:e1=0:=he1.symm;have hxx:x=x1:=hx1;refine⟨fun h=>absurd hee h,fun _=>?_⟩;change foldE _ s0 _=sAdd s x bits at ht;rw[hxx] at ht;cases hq2:sAdd s x1 bits with
    |error e =>
     rw[hq2] at ht he2;have hee:e2=e+1:=he2.symm;refine⟨fun _=>foldE_err (n:=n+1) (ht.trans ?_),fun h=>by omega⟩;rw[hee];rfl
    |ok y =>
     rw[hq2] at ht he2 hx2;have hee:e2=0:=he2.symm;have hyy:y=x2:=hx2;refine⟨fun h=>absurd hee h,fun _=>?_⟩;rw[ht,hyy]
  conv=>whnf
  refine xK ?_;conv=>whnf
  refine⟨spa a[n],⟨by omega,by simp[hlt],rfl,rfl⟩,?_⟩;conv=>whnf
  refine⟨spa b[n],⟨by omega,by simp[hltb],rfl,rfl⟩,?_⟩;conv=>whnf
  refine cE C1 ?_;conv=>whnf
  refine Br.mk (fun h=>?_) (fun h=>?_)
  ·have z:=lit0 h;rw[key.1 z];conv=>whnf
   exact⟨.sh _ _ rfl le_s0,fin rfl (congrArg (fun x:Nat=>i64 x) (by omega:e1=e1-1+1)),trivial⟩
  have key:=key.2 (lit1 h);conv=>whnf
  refine cE C2 ?_;conv=>whnf
  refine Br.mk (fun h=>?_) (fun h=>?_)
  ·have z:=lit0 h;rw[key.1 z];conv=>whnf
   exact⟨.sh _ _ rfl le_s0,fin rfl (congrArg (fun x:Nat=>i64 x) (by omega:e2=e2-1+1)),trivial⟩
  have z:=lit1 h;conv=>whnf
  refine⟨(n+1,x2),⟨by show n+1<=_; omega,key.2 z⟩,⟨trivial,⟨x_R,x_E ?_,x_R,x_R,x_R,x_R,x_R,trivial⟩,
   x_S,x_S,trivial⟩,by show a.length-(n+1)<a.length-n; omega⟩
  exact (wI (n:=(n:Int)+1) (by omega) (by omega)).trans (by simp)
 ·have he:n=a.length:=by
   have:¬ n<a.length:=by simpa using h
   omega
  rw[List.take_of_length_le (by rw[zip_len hab]; omega)] at h2;rw[h2];conv=>whnf
  exact⟨fin rfl rfl,fin rfl rfl,trivial⟩
def vNorm (l:List FS):FD:=l.foldl (fun m x=>dMax m (sSize x)) d0
theorem foldl_take {σ α:Type} {f:σ->α->σ} {l:List α} {n:Nat} {s:σ} (hn:n<l.length):(l.take (n+1)).foldl f s=f ((l.take n).foldl f s) l[n]:=by
 rw[List.take_succ_eq_append_getElem hn,List.foldl_append];rfl
theorem c_vNorm (l:List FS) (hl:l.length<1000000):ACalls prog 251 [lS l] (dyad (vNorm l)):=by
 have hlen:(((l.map spa).length:Nat):Int)=(l.length:Int):=by simp
 refine conN func251 rfl (by kernel_rfl) ?_;conv=>whnf
 refine⟨Nat×FD,fun q=>q.1<=l.length/\(l.take q.1).foldl (fun m x=>dMax m (sSize x)) d0=q.2,
  fun q=>{ fr:=[(6,lS l),(7,i64 l.length),(8,i64 q.1),(3,.ptr (1,0) 0 0),(2,.ptr (0,0) 0 0)],st:=[((1,0),⟨76,3,[dyad q.2]⟩),((0,0),⟨76,3,[AV.ofVal (ty 76).zero]⟩)],g:=9 },
  fun q=>l.length-q.1,(0,d0),⟨Nat.zero_le _,rfl⟩,⟨trivial,⟨x_R,x_E hlen,x_R,x_R,x_R,trivial⟩,
   ⟨.less [.agg [boo false,nilA,i64 0]] rfl rfl (one_less le_dy0),x_N,x_L⟩,x_S,trivial⟩,?_⟩
 rintro⟨n,s⟩ ⟨h1,h2⟩;dsimp only at h1 h2 ⊢;conv=>whnf
 refine Br.mk (fun h=>?_) (fun h=>?_)
 ·have hlt:n<l.length:=by simpa using h
  have ht:=foldl_take (f:=fun m x=>dMax m (sSize x)) (s:=d0) hlt;rw[h2] at ht;conv=>whnf
  refine⟨spa l[n],⟨by omega,by simp[hlt],rfl,rfl⟩,?_⟩;conv=>whnf
  refine xK ?_;conv=>whnf
  refine cE (c_sSize l[n]) ?_;conv=>whnf
  refine callD (c_dMax s (sSize l[n])) rfl rfl ?_;conv=>whnf
  refine⟨(n+1,_),⟨by show n+1<=_; omega,ht⟩,⟨trivial,⟨x_R,x_R,x_E ?_,x_R,x_R,trivial⟩,
   x_S,x_S,trivial⟩,by show l.length-(n+1)<l.length-n; omega⟩
  exact (wI (n:=(n:Int)+1) (by omega) (by omega)).trans (by simp)
 ·have he:n=l.length:=by
   have:¬ n<l.length:=by simpa using h
   omega
  rw[he,List.take_length] at h2;have:vNorm l=s:=h2;rw[this];conv=>whnf
  exact fin rfl rfl
end
section
open Go Go.RowKit Go.Proofs.Tryz
attribute [local irreducible] zMul zAdd zLeft zRight fitZ qMake zDiv dMake dLevel dRound dNear dAdd dMul dRatio dCmp dMin dMax dAbs dLess qCmp sOut qAdd qMul sAdd sMul sNear qSum sSize
theorem digs_inj {a b:Nat} (h:digs a=digs b):a=b:=by rw[<- val_digs a,<- val_digs b,h]
end
end Go.Proofs.YtjdkdcmpifapeaaGreatDoor.Abs
