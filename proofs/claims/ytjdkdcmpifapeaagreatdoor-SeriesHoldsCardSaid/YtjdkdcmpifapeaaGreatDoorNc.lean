/- The document's digits, to the base 256 (the first part made by genref.py, a program of this session). -/
import Derived.Test.YtjdkdcmpifapeaaGreatDoorMe
import Derived.Test.YtjdkdcmpifapeaaGreatDoorMc
set_option linter.unusedVariables false
set_option linter.unusedSectionVars false
set_option linter.unusedSimpArgs false
set_option maxHeartbeats 4000000
namespace Go.Proofs.YtjdkdcmpifapeaaGreatDoor.Abs
section
open Go Go.RowKit Go.Proofs.Tryz
def B8:Nat:=256
theorem Bpos8:0<B8:=by decide
theorem B18:1<B8:=by decide
def val8:List Nat->Nat
 |[]=>0
 |x::l=>x+B8*val8 l
def digs8 (n:Nat):List Nat:=if h:n=0 then [] else n%B8::digs8 (n/B8)
termination_by n
decreasing_by exact Nat.div_lt_self (Nat.pos_of_ne_zero h) B18
theorem digs_zero8:digs8 0=[]:=by rw[digs8]; rfl
theorem digs_pos8 {n:Nat} (h:n≠0):digs8 n=n%B8::digs8 (n/B8):=by rw[digs8]; simp[h]
theorem val_digs8 (n:Nat):val8 (digs8 n)=n:=by
 induction n using Nat.strongRecOn with
 |_ n ih =>
  by_cases h:n=0
  ·subst h; rw[digs_zero8]; rfl
  ·rw[digs_pos8 h,val8,ih _ (Nat.div_lt_self (Nat.pos_of_ne_zero h) B18)];exact Nat.mod_add_div n B8
theorem digs_eq_nil8 {n:Nat}:digs8 n=[]↔n=0:=by
 constructor
 ·intro h;have:=val_digs8 n;rw[h] at this;exact this.symm
 ·rintro rfl; exact digs_zero8
theorem digs_lt8 {n x:Nat} (h:x∈digs8 n):x<B8:=by
 induction n using Nat.strongRecOn with
 |_ n ih =>
  by_cases h0:n=0
  ·subst h0; rw[digs_zero8] at h; cases h
  ·rw[digs_pos8 h0,List.mem_cons] at h;rcases h with rfl | h
   ·exact Nat.mod_lt _ (by decide)
   ·exact ih _ (Nat.div_lt_self (Nat.pos_of_ne_zero h0) B18) h
def Can8 (l:List Nat):Prop:=(∀ x∈l,x<B8)/\l.getLast?≠some 0
theorem val_lt8:∀ {l:List Nat},(∀ x∈l,x<B8)->val8 l<B8^l.length
 |[],_=>by simp[val8]
 |x::l,h=>by
  have h1:=val_lt8 (l:=l) fun y hy=>h y (by simp[hy])
  have h2:=h x (by simp);simp only[val8,List.length_cons,Nat.pow_succ];have:B8*(val8 l+1)<=B8*B8^l.length:=Nat.mul_le_mul_left B8 h1;rw[Nat.mul_add] at this;rw[Nat.mul_comm (B8^l.length) B8];omega
theorem val_zero8:∀ {l:List Nat},val8 l=0->∀ x∈l,x=0
 |[],_,x,hx=>by cases hx
 |y::l,h,x,hx=>by
  simp only[val8] at h;have h1:y=0:=by omega
  have h2:B8*val8 l=0:=by omega
  have h3:val8 l=0:=by
   rcases Nat.mul_eq_zero.1 h2 with h | h
   ·exact absurd h (by decide)
   ·exact h
  rcases List.mem_cons.1 hx with rfl | hx
  ·exact h1
  ·exact val_zero8 h3 x hx
theorem digs_val8:∀ {l:List Nat},Can8 l->digs8 (val8 l)=l
 |[],_=>digs_zero8
 |x::l,h=>by
  have hx:=h.1 x (by simp);have hc:Can8 l:=⟨fun y hy=>h.1 y (by simp[hy]),by
   cases l with
   |nil=>simp
   |cons y l=>have:=h.2; simpa using this⟩
  have hne:val8 (x::l)≠0:=by
   intro h0;have:=val_zero8 h0 ((x::l).getLast (by simp)) (List.getLast_mem _);apply h.2;rw[List.getLast?_eq_some_getLast (by simp),this]
  rw[digs_pos8 hne];have e1:val8 (x::l)%B8=x:=by
   simp only[val8];rw[Nat.add_mul_mod_self_left,Nat.mod_eq_of_lt hx]
  have e2:val8 (x::l)/B8=val8 l:=by
   simp only[val8];rw[Nat.add_mul_div_left _ _ (by decide),Nat.div_eq_of_lt hx,Nat.zero_add]
  rw[e1,e2,digs_val8 hc]
theorem val_append8 (l r:List Nat):val8 (l++r)=val8 l+B8^l.length*val8 r:=by
 induction l with
 |nil=>simp[val8]
 |cons x l ih =>
  simp only[List.cons_append,val8,ih,List.length_cons,Nat.pow_succ];rw[Nat.mul_add,<- Nat.mul_assoc,Nat.mul_comm B8 (B8^l.length)];omega
theorem can_digs8 (n:Nat):Can8 (digs8 n):=by
 refine⟨fun x hx=>digs_lt8 hx,?_⟩
 induction n using Nat.strongRecOn with
 |_ n ih =>
  by_cases h0:n=0
  ·subst h0; rw[digs_zero8]; simp
  ·rw[digs_pos8 h0];by_cases h1:n/B8=0
   ·rw[h1,digs_zero8];have:n%B8=n:=Nat.mod_eq_of_lt ((Nat.div_eq_zero_iff_lt (by decide)).1 h1);simpa [this] using h0
   ·have:=ih _ (Nat.div_lt_self (Nat.pos_of_ne_zero h0) B18);cases hd:digs8 (n/B8) with
    |nil=>exact absurd (digs_eq_nil8.1 hd) h1
    |cons y l=>rw[hd] at this; simpa using this
theorem length_digs_le8 {n k:Nat}:(digs8 n).length<=k↔n<B8^k:=by
 induction k generalizing n with
 |zero =>
  rw[Nat.le_zero,List.length_eq_zero_iff,digs_eq_nil8];simp
 |succ k ih =>
  by_cases h0:n=0
  ·subst h0;rw[digs_zero8];exact⟨fun _=>Nat.pow_pos (show 0<B8 by decide),fun _=>Nat.zero_le _⟩
  ·rw[digs_pos8 h0,List.length_cons,Nat.add_le_add_iff_right,ih,Nat.pow_succ];exact Nat.div_lt_iff_lt_mul Bpos8
theorem val_take8 {l:List Nat} {n:Nat} (h:∀ x∈l.drop n,x=0):val8 (l.take n)=val8 l:=by
 have e:val8 l=val8 (l.take n++l.drop n):=by rw[List.take_append_drop]
 rw[e,val_append8];have:val8 (l.drop n)=0:=by
  generalize l.drop n=d at h
  induction d with
  |nil=>rfl
  |cons x d ih =>
   simp only[val8];rw[h x (by simp),ih fun y hy=>h y (by simp[hy])];rfl
 rw[this]; simp
def i8 (x:Nat):AV:=i64 (x:Nat)
def l8 (l:List Nat):AV:=.sl (l.map i8)
def n8 (n:Nat):AV:=l8 (digs8 n)
theorem le_nil8:Le nilA (n8 0):=by
 show Le nilA (l8 (digs8 0));rw[digs_zero8];exact .nil
theorem c_rCut (l:List Nat) (hl:∀ x∈l,x<B8) (hn:l.length<1000000):ACalls prog 190 [l8 l] (n8 (val8 l)):=by
 refine con func190 rfl (by kernel_rfl) ?_;conv=>whnf
 refine⟨Nat,fun n=>n<=l.length/\∀ x∈l.drop n,x=0,fun n=>{ fr:=[(0,l8 l),(3,i64 n)],g:=9 },fun n=>n,l.length,⟨Nat.le_refl _,by simp⟩,?_,?_⟩
 ·exact⟨trivial,⟨x_R,x_E (by simp),trivial⟩,trivial⟩
 intro n ⟨h1,h2⟩;conv=>whnf
 cases hb:decide ((n:Int) > 0)
 ·have hn0:n=0:=by simpa using hb
  conv=>whnf
  refine⟨⟨by omega,by omega,by simp; omega,by simp,fun v hv=>?_⟩,?_⟩
  ·cases l with
   |nil=>simp at hv
   |cons x l=>simp at hv; subst hv; rfl
  ·have e:AV.sl (((l.map i8).take (n:Int).toNat).drop (0:Int).toNat)=n8 (val8 l):=by
    subst hn0;rw[<- val_take8 h2];simp[n8,l8,val8,digs_zero8]
   exact .sh _ _ rfl (.of_eq e)
 ·have hn0:0<n:=by simpa using hb
  have hw:IntKind.i64.wrap ((n:Int)-1)=((n-1:Nat):Int):=by rw[wI] <;> omega
  have hlt:n-1<l.length:=by omega
  conv=>whnf
  rw[hw];refine⟨i8 l[n-1],⟨by omega,by simp[hlt],rfl,rfl⟩,?_⟩;conv=>whnf
  cases hb2:((l[n-1]:Nat):Int)==0
  ·conv=>whnf
   refine⟨⟨by omega,by omega,by simp; omega,by simp,fun v hv=>?_⟩,?_⟩
   ·cases l with
    |nil=>simp at hv
    |cons x l=>simp at hv; subst hv; rfl
   ·have e:AV.sl (((l.map i8).take (n:Int).toNat).drop (0:Int).toNat)=n8 (val8 l):=by
     rw[<- val_take8 h2,n8,digs_val8]
     ·simp[l8]
     ·refine⟨fun x hx=>hl x (List.mem_of_mem_take hx),fun h=>?_⟩;have hne:l.take n≠[]:=by
       intro h0;rw[h0] at h;simp at h
      rw[List.getLast?_eq_some_getLast hne] at h;simp at h;rw[List.getLast_eq_getElem] at h;simp[Nat.min_eq_left h1] at h;simp[h] at hb2
    exact .sh _ _ rfl (.of_eq e)
  ·conv=>whnf
   refine⟨n-1,⟨by omega,fun x hx=>?_⟩,⟨trivial,⟨x_R,x_E hw,trivial⟩,trivial⟩,(by omega:n-1<n)⟩;rw[List.drop_eq_getElem_cons hlt,List.mem_cons] at hx;rcases hx with rfl | hx
   ·have:=hb2;simp at this;omega
   ·rw[Nat.sub_add_cancel hn0] at hx;exact h2 x hx
end
section
open Go Go.RowKit Go.Proofs.Tryz
def oR (g:Nat->Nat) (m:Nat):List AV:=(List.range m).map fun k=>i8 (g k)
theorem oR_len (g:Nat->Nat) (m:Nat):(oR g m).length=m:=by simp[oR]
theorem oR_succ (g:Nat->Nat) (m:Nat):oR g m++[i8 (g m)]=oR g (m+1):=by simp[oR,List.range_succ]
theorem i8_map_lt {n:Nat} {g:Nat->Nat}:∀ l:List Nat,AV.ltL n (l.map fun k=>i8 (g k))=true
 |[]=>rfl
 |a::l=>by show (true&&_)=true; rw[i8_map_lt l]; rfl
theorem i8_map_off {ρ:Ren} {g:Nat->Nat}:∀ l:List Nat,AV.offL ρ (l.map fun k=>i8 (g k))=true
 |[]=>rfl
 |a::l=>by show (true&&_)=true; rw[i8_map_off l]; rfl
theorem oR_ok {ρ:Ren} {n:Nat} {g:Nat->Nat} {m:Nat}:(AV.ltL n (oR g m)&&AV.offL ρ (oR g m))=true:=by
 unfold oR;rw[i8_map_lt,i8_map_off];rfl
theorem oR_lt {n:Nat} {g:Nat->Nat} {m:Nat}:AV.ltL n (oR g m)=true:=i8_map_lt _
theorem oR_closed {g:Nat->Nat}:∀ m:Nat,AV.closedL (oR g m)=true:=fun m=>by
 unfold oR;generalize List.range m=l
 induction l with
 |nil=>rfl
 |cons a l ih=>show (true&&_)=true; rw[ih]; rfl
theorem oR_l8 (g:Nat->Nat) (m:Nat):AV.sl (oR g m)=l8 ((List.range m).map g):=by
 unfold oR l8;rw[List.map_map];rfl
def ob (A:List Nat) (j:Nat):Nat:=A.getD (j/4) 0/256^(j%4)%256
theorem ob_val:∀ (A:List Nat),(∀ x∈A,x<B)->val8 ((List.range (4*A.length)).map (ob A))=val A
 |[],_=>rfl
 |x::A,h=>by
  have hx:x<4294967296:=h x (by simp);have ih:=ob_val A fun y hy=>h y (by simp[hy])
  have e:(List.range (4*(x::A).length)).map (ob (x::A))=x%256::(x/256%256)::(x/65536%256)::(x/16777216%256)::(List.range (4*A.length)).map (ob A):=by
   rw[List.length_cons,Nat.mul_add,Nat.mul_one,Nat.add_comm,List.range_add];simp only[List.map_append,List.map_map];have e1:(List.range 4).map (ob (x::A))=[x%256,x/256%256,x/65536%256,x/16777216%256]:=by
    simp[ob,List.range_succ]
   rw[e1];simp only[List.cons_append,List.nil_append,List.cons.injEq,true_and];refine List.map_congr_left fun k _=>?_
   show ob (x::A) (4+k)=ob A k;unfold ob;rw[show (4+k)/4=k/4+1 by omega,show (4+k)%4=k%4 by omega];rfl
  rw[e];simp only[val8,val,ih,B8,B];omega
def ofI (A:List Nat) (x i k:Nat):Inv:=match 4*i+k with
 |0=>{ fr:=[(0,lst A),(3,nilA),(4,i64 (i:Nat)),(5,i64 (x/256^k:Nat)),(6,i64 (k:Nat))],st:=[],g:=9 }
 |m+1=>{ ren:=[((10,4),(5,0))],fr:=[(0,lst A),(3,.own (5,0) (m+1)),(4,i64 (i:Nat)),(5,i64 (x/256^k:Nat)),(6,i64 (k:Nat))],st:=[((5,0),⟨3,1,oR (ob A) (m+1)⟩)],g:=9 }
def ofO (A:List Nat) (c i:Nat):Inv:=match c with
 |0=>{ fr:=[(0,lst A),(3,nilA),(4,i64 (i:Nat))],st:=[],g:=60 }
 |m+1=>{ fr:=[(0,lst A),(3,.own (5,0) (m+1)),(4,i64 (i:Nat))],st:=[((5,0),⟨3,1,oR (ob A) (m+1)⟩)],g:=60 }
noncomputable def ofCode (l:List Bool):Code:=Code.at' (bodyOf f104) l
theorem of_round {A:List Nat} {x i k:Nat} (hi:i<A.length) (hx:A.getD i 0=x) (hxB:x<B) (hk:k<=4) (hn:A.length<100000) (K:NPost) :
  Pc prog f104.ntmps (ofCode [true,true,false,true,false,false,true,false,false,true,true,false,false]) (ofI A x i k).fr (ofI A x i k).st (ofI A x i k).g
   (loopP (fun k=>k<=4) (ofI A x i) (fun k=>4-k) k (blockP 2 (blockP 1 (thenP (wkP (fun _:Unit=>True) (fun _=>ofO A (4*i+4) i)) K)))):=by
 have hxB:x<4294967296:=hxB;have hd:k<4->x/256^k%256=ob A (4*i+k):=fun h=>by
  unfold ob;rw[show (4*i+k)/4=i by omega,show (4*i+k)%4=k by omega,hx]
 have hle:x/256^k<=x:=Nat.div_le_self _ _;have hq:x/256^(k+1)=x/256^k/256:=by rw[Nat.pow_succ,Nat.div_div_eq_div_mul]
 obtain⟨t,ht⟩:∃ t,x/256^k=t:=⟨_,rfl⟩
 have k1:IntKind.wrap .i64 ((t:Int).tdiv 256)=((t/256:Nat):Int):=by
  rw[show (t:Int).tdiv 256=((t/256:Nat):Int) from rfl];exact wI (by omega) (by omega)
 have k3:IntKind.wrap .i64 ((k:Int)+1)=((k+1:Nat):Int):=(wI (by omega) (by omega)).trans (by simp);have e2:ofI A x i (k+1)={ ren:=[((10,4),(5,0))],fr:=[(0,lst A),(3,.own (5,0) (4*i+k+1)),(4,i64 (i:Nat)),(5,i64 (x/256^(k+1):Nat)),(6,i64 (k+1:Nat))],st:=[((5,0),⟨3,1,oR (ob A) (4*i+k+1)⟩)],g:=9 }:=rfl;by_cases h4:k<4
 ·have hd:=hd h4;rw[ht] at hd hq hle;cases hm:4*i+k with
  |zero =>
   have e1:ofI A x i k={ fr:=[(0,lst A),(3,nilA),(4,i64 (i:Nat)),(5,i64 (x/256^k:Nat)),(6,i64 (k:Nat))],st:=[],g:=9 }:=by unfold ofI; rw[hm]
   rw[e1,ht];rw[hm] at hd;rw[hm,Nat.zero_add] at e2;refine pcK ?_;conv=>whnf
   refine Br.mk (fun h=>?_) (fun h=>?_)
   ·clear h;conv=>whnf
    refine⟨⟨by show 0<1; decide,by show 1<=1099511627776; decide,trivial⟩,?_⟩;conv=>whnf
    refine⟨k+1,by show k+1<=4; omega,?_,by show 4-(k+1)<4-k; omega⟩;rw[e2];refine⟨⟨trivial,rfl⟩,⟨x_R,.inr (.inr (.own (5,0) 1 rfl)),x_R,x_E ?_,x_E k3,trivial⟩,⟨.same ?_ rfl,x_N,x_L⟩,trivial⟩
    ·rw[k1,hq]
    ·refine congrArg (fun z=>some (Row.mk 3 1 z)) ?_;rw[show (t:Int).tmod 256=((t%256:Nat):Int) from rfl,hd];rfl
   ·exact absurd h (by simp; omega)
  |succ m =>
   have e1:ofI A x i k={ ren:=[((10,4),(5,0))],fr:=[(0,lst A),(3,.own (5,0) (m+1)),(4,i64 (i:Nat)),(5,i64 (x/256^k:Nat)),(6,i64 (k:Nat))],st:=[((5,0),⟨3,1,oR (ob A) (m+1)⟩)],g:=9 }:=by unfold ofI; rw[hm]
   rw[e1,ht];rw[hm] at hd e2;refine pcK ?_;conv=>whnf
   refine Br.mk (fun h=>?_) (fun h=>?_)
   ·clear h;conv=>whnf
    refine⟨⟨oR_len _ (m+1),rfl,rfl,by show m+1+1<=1099511627776; omega,trivial⟩,?_⟩;conv=>whnf
    refine⟨k+1,by show k+1<=4; omega,?_,by show 4-(k+1)<4-k; omega⟩;rw[e2];refine⟨⟨trivial,rfl⟩,⟨x_R,.inr (.inr (.own (5,0) (m+1+1) rfl)),x_R,x_E ?_,x_E k3,trivial⟩,⟨.same ?_ oR_ok,x_N,x_L⟩,trivial⟩
    ·rw[k1,hq]
    ·refine congrArg (fun z=>some (Row.mk 3 1 z)) ?_;rw[show (t:Int).tmod 256=((t%256:Nat):Int) from rfl,hd];exact oR_succ _ (m+1)
   ·exact absurd h (by simp; omega)
 ·obtain rfl:k=4:=by omega
  have e1:ofI A x i 4={ ren:=[((10,4),(5,0))],fr:=[(0,lst A),(3,.own (5,0) (4*i+4)),(4,i64 (i:Nat)),(5,i64 (x/256^4:Nat)),(6,i64 (4:Nat))],st:=[((5,0),⟨3,1,oR (ob A) (4*i+4)⟩)],g:=9 }:=rfl;rw[e1];refine pcK ?_;conv=>whnf
  exact⟨(),trivial,⟨trivial,⟨x_R,x_R,x_R,trivial⟩,⟨.same rfl oR_lt,x_N,x_L⟩,trivial⟩⟩
theorem c_rOf (A:List Nat) (hA:∀ x∈A,x<B) (hn:A.length<100000):ACalls prog 104 [lst A] (n8 (val A)):=by
 have hlen:(((A.map dg).length:Nat):Int)=(A.length:Int):=by simp
 have CC:ACalls prog 190 [l8 ((List.range (4*A.length)).map (ob A))] (n8 (val A)):=by
  rw[<- ob_val A hA];exact c_rCut _ (fun x hx=>by
   obtain⟨k,_,rfl⟩:=List.mem_map.1 hx;exact Nat.mod_lt _ (by decide)) (by simp; omega)
 refine conP func104 rfl (by kernel_rfl) ?_;refine .gk ?_;conv=>whnf
 refine .gk ?_;conv=>whnf
 refine .cut (fun _:Unit=>True) (fun _=>ofO A (4*A.length) A.length) ?_ ?_
 ·refine .gk ?_;conv=>whnf
  refine .block (.loop (fun i:Nat=>i<=A.length) (fun i=>ofO A (4*i) i) (fun i=>A.length-i) 0 (Nat.zero_le _) ?_ ?_)
  ·exact⟨trivial,⟨x_R,x_R,x_R,trivial⟩,trivial⟩
  intro i hi;cases hm:4*i with
  |zero =>
   have e1:ofO A (4*i) i={ fr:=[(0,lst A),(3,nilA),(4,i64 (i:Nat))],st:=[],g:=60 }:=by unfold ofO; rw[hm]
   refine .gk ?_;conv=>whnf
   refine Br.mk (fun h=>?_) (fun h=>?_)
   ·have hlt:i<A.length:=by
     have:=of_decide_eq_true h;rw[hlen] at this;omega
    clear h;have hxB:A[i]<B:=hA _ (List.getElem_mem _);have hxi:A.getD i 0=A[i]:=by simp[hlt]
    have hxw:IntKind.wrap .i64 ((A[i]:Nat):Int)=((A[i]:Nat):Int):=wI (by omega) (by unfold B at hxB; omega);have hget:(A.map dg)[((i:Nat):Int).toNat]?=some (dg A[i]):=by simp[hlt]
    obtain⟨x,hx⟩:∃ x,A[i]=x:=⟨_,rfl⟩
    rw[hx] at hxB hxi hxw hget;conv=>whnf
    refine .cut (fun _:Unit=>True) (fun _=>ofO A (4*i+4) i) ?_ ?_
    ·refine .block ?_;refine .gk ?_;conv=>whnf
     refine⟨dg x,⟨Int.natCast_nonneg _,hget,rfl,rfl⟩,?_⟩;conv=>whnf
     rw[hxw];refine .gk ?_;conv=>whnf
     refine .block (.loop (fun k:Nat=>k<=4) (ofI A x i) (fun k=>4-k) 0 (Nat.zero_le _) ?_ ?_)
     ·have e3:ofI A x i 0={ fr:=[(0,lst A),(3,nilA),(4,i64 (i:Nat)),(5,i64 (x/256^0:Nat)),(6,i64 (0:Nat))],st:=[],g:=9 }:=by unfold ofI; rw[Nat.add_zero,hm]
      rw[e3];exact⟨trivial,⟨x_R,x_R,x_R,x_E (by simp),x_R,trivial⟩,trivial⟩
     ·intro k hk;exact of_round hlt hxi hxB hk hn _
    ·rintro⟨⟩ _;refine pcK ?_;conv=>whnf
     refine⟨i+1,hlt,?_,by show A.length-(i+1)<A.length-i; omega⟩;exact⟨trivial,⟨x_R,x_R,x_E ((wI (n:=(i:Int)+1) (by omega) (by omega)).trans (by simp)),trivial⟩,⟨.same rfl oR_lt,x_N,x_L⟩,trivial⟩
   ·have hge:i=A.length:=by
     have:=of_decide_eq_false h;rw[hlen] at this;omega
    clear h;subst hge;conv=>whnf
    refine⟨(),trivial,?_⟩;dsimp only;rw[e1];exact⟨trivial,⟨x_R,x_R,x_R,trivial⟩,trivial⟩
  |succ m =>
   have e1:ofO A (4*i) i={ fr:=[(0,lst A),(3,.own (5,0) (m+1)),(4,i64 (i:Nat))],st:=[((5,0),⟨3,1,oR (ob A) (m+1)⟩)],g:=60 }:=by unfold ofO; rw[hm]
   refine .gk ?_;conv=>whnf
   refine Br.mk (fun h=>?_) (fun h=>?_)
   ·have hlt:i<A.length:=by
     have:=of_decide_eq_true h;rw[hlen] at this;omega
    clear h;have hxB:A[i]<B:=hA _ (List.getElem_mem _);have hxi:A.getD i 0=A[i]:=by simp[hlt]
    have hxw:IntKind.wrap .i64 ((A[i]:Nat):Int)=((A[i]:Nat):Int):=wI (by omega) (by unfold B at hxB; omega);have hget:(A.map dg)[((i:Nat):Int).toNat]?=some (dg A[i]):=by simp[hlt]
    obtain⟨x,hx⟩:∃ x,A[i]=x:=⟨_,rfl⟩
    rw[hx] at hxB hxi hxw hget;conv=>whnf
    refine .cut (fun _:Unit=>True) (fun _=>ofO A (4*i+4) i) ?_ ?_
    ·refine .block ?_;refine .gk ?_;conv=>whnf
     refine⟨dg x,⟨Int.natCast_nonneg _,hget,rfl,rfl⟩,?_⟩;conv=>whnf
     rw[hxw];refine .gk ?_;conv=>whnf
     refine .block (.loop (fun k:Nat=>k<=4) (ofI A x i) (fun k=>4-k) 0 (Nat.zero_le _) ?_ ?_)
     ·have e3:ofI A x i 0={ ren:=[((10,4),(5,0))],fr:=[(0,lst A),(3,.own (5,0) (m+1)),(4,i64 (i:Nat)),(5,i64 (x/256^0:Nat)),(6,i64 (0:Nat))],st:=[((5,0),⟨3,1,oR (ob A) (m+1)⟩)],g:=9 }:=by unfold ofI; rw[Nat.add_zero,hm]
      rw[e3];exact⟨⟨trivial,rfl⟩,⟨x_R,.inr (.inr (.own (5,0) (m+1) rfl)),x_R,x_E (by simp),x_R,trivial⟩,⟨.same rfl oR_ok,x_N,x_L⟩,trivial⟩
     ·intro k hk;exact of_round hlt hxi hxB hk hn _
    ·rintro⟨⟩ _;refine pcK ?_;conv=>whnf
     refine⟨i+1,hlt,?_,by show A.length-(i+1)<A.length-i; omega⟩;exact⟨trivial,⟨x_R,x_R,x_E ((wI (n:=(i:Int)+1) (by omega) (by omega)).trans (by simp)),trivial⟩,⟨.same rfl oR_lt,x_N,x_L⟩,trivial⟩
   ·have hge:i=A.length:=by
     have:=of_decide_eq_false h;rw[hlen] at this;omega
    clear h;subst hge;conv=>whnf
    refine⟨(),trivial,?_⟩;dsimp only;rw[e1];exact⟨trivial,⟨x_R,x_R,x_R,trivial⟩,⟨.same rfl oR_lt,x_N,x_L⟩,trivial⟩
 ·rintro⟨⟩ _;cases hm:4*A.length with
  |zero =>
   rw[hm] at CC;refine pcK ?_;conv=>whnf
   refine callL [] [l8 ((List.range 0).map (ob A))] trivial ⟨.sh _ _ rfl .nil,trivial⟩ CC rfl ?_;conv=>whnf
   exact fin rfl rfl
  |succ m =>
   rw[hm] at CC;refine pcK ?_;conv=>whnf
   refine callL [(5,0)] [l8 ((List.range (m+1)).map (ob A))] ⟨⟨_,rfl⟩,trivial⟩ ⟨.own2 (.head _) rfl (oR_len _ _) (oR_closed _) (AV.sl.inj (oR_l8 _ _)),trivial⟩ CC rfl ?_;conv=>whnf
   exact fin rfl rfl
end
section
open Go Go.RowKit Go.Proofs.Tryz
theorem val8_snoc (l:List Nat) (x:Nat):val8 (l++[x])=val8 l+256^l.length*x:=by
 rw[val_append8];simp[val8,B8]
theorem val8_take (A:List Nat) (i:Nat):val8 (A.take (i+1))=val8 (A.take i)+256^i*A.getD i 0:=by
 by_cases h:i<A.length
 ·rw[List.take_succ_eq_append_getElem h,val8_snoc,List.length_take,Nat.min_eq_left (by omega)];simp[h]
 ·rw[List.take_of_length_le (by omega),List.take_of_length_le (by omega)];simp[List.getD,h]
def aC (A D:List Nat):Nat->Nat
 |0=>0
 |i+1=>(aC A D i+A.getD i 0+D.getD i 0)/256
def aG (A D:List Nat) (i:Nat):Nat:=(aC A D i+A.getD i 0+D.getD i 0)%256
theorem getD_lt8 {A:List Nat} (h:∀ x∈A,x<B8) (i:Nat):A.getD i 0<256:=by
 by_cases hi:i<A.length
 ·have:=h A[i] (List.getElem_mem hi);simpa [List.getD,hi,B8] using this
 ·simp[List.getD,hi]
theorem aC_le {A D:List Nat} (hA:∀ x∈A,x<B8) (hD:∀ x∈D,x<B8):∀ i,aC A D i<=1
 |0=>by unfold aC; omega
 |i+1=>by
  have:=aC_le hA hD i;have:=getD_lt8 hA i;have:=getD_lt8 hD i;unfold aC;omega
theorem aG_val (A D:List Nat):∀ i,val8 ((List.range i).map (aG A D))+256^i*aC A D i=val8 (A.take i)+val8 (D.take i)
 |0=>by simp[aC,val8]
 |i+1=>by
  have ih:=aG_val A D i;rw[List.range_succ,List.map_append,List.map_singleton,val8_snoc,List.length_map,List.length_range,val8_take,val8_take];have e:aG A D i+256*aC A D (i+1)=aC A D i+A.getD i 0+D.getD i 0:=Nat.mod_add_div _ _;have e2:=congrArg (256^i*·) e;simp only[Nat.mul_add] at e2;rw[Nat.pow_succ,Nat.mul_assoc];omega
theorem aG_end {A D:List Nat} {i:Nat} (h1:A.length<=i) (h2:D.length<=i) (h:aC A D i=0):val8 ((List.range i).map (aG A D))=val8 A+val8 D:=by
 have:=aG_val A D i;rw[List.take_of_length_le h1,List.take_of_length_le h2,h] at this;omega
theorem aC_out {A D:List Nat} (hA:∀ x∈A,x<B8) (hD:∀ x∈D,x<B8) {i:Nat} (h1:A.length<=i) (h2:D.length<=i):aC A D (i+1)=0:=by
 have:=aC_le hA hD i;have e1:A.getD i 0=0:=by simp[List.getD,h1]
 have e2:D.getD i 0=0:=by simp[List.getD,h2]
 unfold aC;rw[e1,e2];omega
def adI (A D:List Nat) (i:Nat):Inv:=match i with
 |0=>{ fr:=[(0,l8 A),(1,l8 D),(5,nilA),(6,i64 (aC A D 0:Nat)),(7,i64 (0:Nat))],st:=[],g:=9 }
 |m+1=>{ ren:=[((14,4),(5,0)),((13,4),(5,0)),((12,4),(5,0))],fr:=[(0,l8 A),(1,l8 D),(5,.own (5,0) (m+1)),(6,i64 (aC A D (m+1):Nat)),(7,i64 (m+1:Nat))],st:=[((5,0),⟨3,1,oR (aG A D) (m+1)⟩)],g:=9 }
def adO (A D:List Nat) (i:Nat):Inv:=match i with
 |0=>{ fr:=[(5,nilA)],st:=[],g:=60 }
 |m+1=>{ fr:=[(5,.own (5,0) (m+1))],st:=[((5,0),⟨3,1,oR (aG A D) (m+1)⟩)],g:=60 }
theorem ad_w {c a:Nat} (h:c+a<100000):IntKind.wrap .i64 ((c:Int)+(a:Int))=((c+a:Nat):Int):=(wI (by omega) (by omega)).trans (by simp)
theorem ad_div {s:Nat} (h:s<100000):IntKind.wrap .i64 ((s:Int).tdiv 256)=((s/256:Nat):Int):=by
 rw[show (s:Int).tdiv 256=((s/256:Nat):Int) from rfl];exact wI (by omega) (by omega)
theorem ad_mod (s:Nat):(s:Int).tmod 256=((s%256:Nat):Int):=rfl
theorem get8 {A:List Nat} {i:Nat} (h:i<A.length):(A.map i8)[((i:Nat):Int).toNat]?=some (i8 (A.getD i 0)):=by
 simp[h]
theorem lt8 {A:List Nat} {i:Nat}:((i:Nat):Int)<(((A.map i8).length:Nat):Int)↔i<A.length:=by
 rw[List.length_map];omega
theorem c_rAdd (a b:Nat) (ha:(digs8 a).length<100000) (hb:(digs8 b).length<100000):ACalls prog 243 [n8 a,n8 b] (n8 (a+b)):=by
 have main:∀ (A D:List Nat),(∀ x∈A,x<B8)->(∀ x∈D,x<B8)->A.length<100000->D.length<100000->ACalls prog 243 [l8 A,l8 D] (n8 (val8 A+val8 D)):=by
  intro A D hA8 hD8 hAn hDn;refine conP func243 rfl (by kernel_rfl) ?_;refine .gk ?_;conv=>whnf
  refine .gk ?_;conv=>whnf
  refine .gk ?_;conv=>whnf
  refine .cut (fun i:Nat=>A.length<=i/\D.length<=i/\aC A D i=0/\i<200001) (adO A D) ?_ ?_
  ·refine .gk ?_;conv=>whnf
   refine .block (.loop (fun i:Nat=>i<=A.length+D.length+1/\(i=A.length+D.length+1->aC A D i=0)) (adI A D) (fun i=>A.length+D.length+2-i) 0 ⟨Nat.zero_le _,fun h=>by omega⟩ ?_ ?_)
   ·exact⟨trivial,⟨x_R,x_R,x_R,x_R,x_R,trivial⟩,trivial⟩
   rintro i ⟨hi,hi2⟩;have hc1:=aC_le hA8 hD8 i;have hnext:i+1=A.length+D.length+1->aC A D (i+1)=0:=fun h=>aC_out hA8 hD8 (by omega) (by omega)
   have ga:=getD_lt8 hA8 i;have gd:=getD_lt8 hD8 i;cases i with
   |zero =>
    refine .gk ?_;conv=>whnf
    by_cases hA:0<A.length
    ·rw[decide_eq_true (lt8.2 hA)];conv=>whnf
     refine pcK ?_;conv=>whnf
     rw[decide_eq_true (lt8.2 hA)];conv=>whnf
     refine⟨i8 (A.getD (0) 0),⟨Int.natCast_nonneg _,get8 hA,rfl,rfl⟩,?_⟩;conv=>whnf
     by_cases hD:0<D.length
     ·rw[decide_eq_true (lt8.2 hD)];conv=>whnf
      refine⟨i8 (D.getD (0) 0),⟨Int.natCast_nonneg _,get8 hD,rfl,rfl⟩,?_⟩;conv=>whnf
      refine⟨⟨by show 0<1; decide,by show 1<=1099511627776; decide,trivial⟩,?_⟩;conv=>whnf
      refine⟨0+1,⟨by omega,hnext⟩,?_,by show A.length+D.length+2-(0+1)<A.length+D.length+2-(0); omega⟩;refine⟨⟨trivial,rfl⟩,⟨x_R,x_R,.inr (.inr (.own (5,0) (0+1) rfl)),x_E ?_,x_E ((wI (n:=((0:Nat):Int)+1) (by omega) (by omega)).trans (by simp)),trivial⟩,⟨.same ?_ rfl,x_N,x_L⟩,trivial⟩
      ·rw[ad_w (by omega),ad_w (by omega)];rw[ad_div (by omega)];show _=(((aC A D (0)+A.getD (0) 0+D.getD (0) 0)/256:Nat):Int)
       rfl
      ·refine congrArg (fun z=>some (Row.mk 3 1 z)) ?_;rw[ad_w (by omega),ad_w (by omega)];rw[ad_mod];have hg:aG A D (0)=(aC A D (0)+A.getD (0) 0+D.getD (0) 0)%256:=rfl
       skip
       rw[<- hg];rfl
     ·have eD:D.getD (0) 0=0:=by simp[List.getD,show D.length<=0 by omega]
      rw[decide_eq_false (fun h=>hD (lt8.1 h))];conv=>whnf
      refine⟨⟨by show 0<1; decide,by show 1<=1099511627776; decide,trivial⟩,?_⟩;conv=>whnf
      refine⟨0+1,⟨by omega,hnext⟩,?_,by show A.length+D.length+2-(0+1)<A.length+D.length+2-(0); omega⟩;refine⟨⟨trivial,rfl⟩,⟨x_R,x_R,.inr (.inr (.own (5,0) (0+1) rfl)),x_E ?_,x_E ((wI (n:=((0:Nat):Int)+1) (by omega) (by omega)).trans (by simp)),trivial⟩,⟨.same ?_ rfl,x_N,x_L⟩,trivial⟩
      ·rw[ad_w (by omega)];rw[ad_div (by omega)];show _=(((aC A D (0)+A.getD (0) 0+D.getD (0) 0)/256:Nat):Int)
       simp only[eD,Nat.add_zero]
      ·refine congrArg (fun z=>some (Row.mk 3 1 z)) ?_;rw[ad_w (by omega)];rw[ad_mod];have hg:aG A D (0)=(aC A D (0)+A.getD (0) 0+D.getD (0) 0)%256:=rfl;simp only[eD,Nat.add_zero] at hg;rw[<- hg];rfl
    ·have eA:A.getD (0) 0=0:=by simp[List.getD,show A.length<=0 by omega]
     rw[decide_eq_false (fun h=>hA (lt8.1 h))];conv=>whnf
     by_cases hD:0<D.length
     ·rw[decide_eq_true (lt8.2 hD)];conv=>whnf
      refine pcK ?_;conv=>whnf
      rw[decide_eq_false (fun h=>hA (lt8.1 h))];conv=>whnf
      rw[decide_eq_true (lt8.2 hD)];conv=>whnf
      refine⟨i8 (D.getD (0) 0),⟨Int.natCast_nonneg _,get8 hD,rfl,rfl⟩,?_⟩;conv=>whnf
      refine⟨⟨by show 0<1; decide,by show 1<=1099511627776; decide,trivial⟩,?_⟩;conv=>whnf
      refine⟨0+1,⟨by omega,hnext⟩,?_,by show A.length+D.length+2-(0+1)<A.length+D.length+2-(0); omega⟩;refine⟨⟨trivial,rfl⟩,⟨x_R,x_R,.inr (.inr (.own (5,0) (0+1) rfl)),x_E ?_,x_E ((wI (n:=((0:Nat):Int)+1) (by omega) (by omega)).trans (by simp)),trivial⟩,⟨.same ?_ rfl,x_N,x_L⟩,trivial⟩
      ·rw[ad_w (by omega)];rw[ad_div (by omega)];show _=(((aC A D (0)+A.getD (0) 0+D.getD (0) 0)/256:Nat):Int)
       simp only[eA,Nat.add_zero]
      ·refine congrArg (fun z=>some (Row.mk 3 1 z)) ?_;rw[ad_w (by omega)];rw[ad_mod];have hg:aG A D (0)=(aC A D (0)+A.getD (0) 0+D.getD (0) 0)%256:=rfl;simp only[eA,Nat.add_zero] at hg;rw[<- hg];rfl
     ·have eD:D.getD (0) 0=0:=by simp[List.getD,show D.length<=0 by omega]
      rw[decide_eq_false (fun h=>hD (lt8.1 h))];conv=>whnf
      by_cases hc:((aC A D (0):Nat):Int) > 0
      ·exact absurd hc (by simp[aC])
      ·rw[decide_eq_false hc];conv=>whnf
       refine⟨0,⟨by omega,by omega,by omega,by omega⟩,?_⟩;exact⟨trivial,⟨x_R,trivial⟩,trivial⟩
   |succ m =>
    refine .gk ?_;conv=>whnf
    by_cases hA:m+1<A.length
    ·rw[decide_eq_true (lt8.2 hA)];conv=>whnf
     refine pcK ?_;conv=>whnf
     rw[decide_eq_true (lt8.2 hA)];conv=>whnf
     refine⟨i8 (A.getD (m+1) 0),⟨Int.natCast_nonneg _,get8 hA,rfl,rfl⟩,?_⟩;conv=>whnf
     by_cases hD:m+1<D.length
     ·rw[decide_eq_true (lt8.2 hD)];conv=>whnf
      refine⟨i8 (D.getD (m+1) 0),⟨Int.natCast_nonneg _,get8 hD,rfl,rfl⟩,?_⟩;conv=>whnf
      refine⟨⟨oR_len _ (m+1),rfl,rfl,by show m+1+1<=1099511627776; omega,trivial⟩,?_⟩;conv=>whnf
      refine⟨m+1+1,⟨by omega,hnext⟩,?_,by show A.length+D.length+2-(m+1+1)<A.length+D.length+2-(m+1); omega⟩;refine⟨⟨trivial,rfl⟩,⟨x_R,x_R,.inr (.inr (.own (5,0) (m+1+1) rfl)),x_E ?_,x_E ((wI (n:=((m+1:Nat):Int)+1) (by omega) (by omega)).trans (by simp)),trivial⟩,⟨.same ?_ oR_ok,x_N,x_L⟩,trivial⟩
      ·rw[ad_w (by omega),ad_w (by omega)];rw[ad_div (by omega)];show _=(((aC A D (m+1)+A.getD (m+1) 0+D.getD (m+1) 0)/256:Nat):Int)
       rfl
      ·refine congrArg (fun z=>some (Row.mk 3 1 z)) ?_;rw[ad_w (by omega),ad_w (by omega)];rw[ad_mod];have hg:aG A D (m+1)=(aC A D (m+1)+A.getD (m+1) 0+D.getD (m+1) 0)%256:=rfl
       skip
       rw[<- hg];exact oR_succ _ (m+1)
     ·have eD:D.getD (m+1) 0=0:=by simp[List.getD,show D.length<=m+1 by omega]
      rw[decide_eq_false (fun h=>hD (lt8.1 h))];conv=>whnf
      refine⟨⟨oR_len _ (m+1),rfl,rfl,by show m+1+1<=1099511627776; omega,trivial⟩,?_⟩;conv=>whnf
      refine⟨m+1+1,⟨by omega,hnext⟩,?_,by show A.length+D.length+2-(m+1+1)<A.length+D.length+2-(m+1); omega⟩;refine⟨⟨trivial,rfl⟩,⟨x_R,x_R,.inr (.inr (.own (5,0) (m+1+1) rfl)),x_E ?_,x_E ((wI (n:=((m+1:Nat):Int)+1) (by omega) (by omega)).trans (by simp)),trivial⟩,⟨.same ?_ oR_ok,x_N,x_L⟩,trivial⟩
      ·rw[ad_w (by omega)];rw[ad_div (by omega)];show _=(((aC A D (m+1)+A.getD (m+1) 0+D.getD (m+1) 0)/256:Nat):Int)
       simp only[eD,Nat.add_zero]
      ·refine congrArg (fun z=>some (Row.mk 3 1 z)) ?_;rw[ad_w (by omega)];rw[ad_mod];have hg:aG A D (m+1)=(aC A D (m+1)+A.getD (m+1) 0+D.getD (m+1) 0)%256:=rfl;simp only[eD,Nat.add_zero] at hg;rw[<- hg];exact oR_succ _ (m+1)
    ·have eA:A.getD (m+1) 0=0:=by simp[List.getD,show A.length<=m+1 by omega]
     rw[decide_eq_false (fun h=>hA (lt8.1 h))];conv=>whnf
     by_cases hD:m+1<D.length
     ·rw[decide_eq_true (lt8.2 hD)];conv=>whnf
      refine pcK ?_;conv=>whnf
      rw[decide_eq_false (fun h=>hA (lt8.1 h))];conv=>whnf
      rw[decide_eq_true (lt8.2 hD)];conv=>whnf
      refine⟨i8 (D.getD (m+1) 0),⟨Int.natCast_nonneg _,get8 hD,rfl,rfl⟩,?_⟩;conv=>whnf
      refine⟨⟨oR_len _ (m+1),rfl,rfl,by show m+1+1<=1099511627776; omega,trivial⟩,?_⟩;conv=>whnf
      refine⟨m+1+1,⟨by omega,hnext⟩,?_,by show A.length+D.length+2-(m+1+1)<A.length+D.length+2-(m+1); omega⟩;refine⟨⟨trivial,rfl⟩,⟨x_R,x_R,.inr (.inr (.own (5,0) (m+1+1) rfl)),x_E ?_,x_E ((wI (n:=((m+1:Nat):Int)+1) (by omega) (by omega)).trans (by simp)),trivial⟩,⟨.same ?_ oR_ok,x_N,x_L⟩,trivial⟩
      ·rw[ad_w (by omega)];rw[ad_div (by omega)];show _=(((aC A D (m+1)+A.getD (m+1) 0+D.getD (m+1) 0)/256:Nat):Int)
       simp only[eA,Nat.add_zero]
      ·refine congrArg (fun z=>some (Row.mk 3 1 z)) ?_;rw[ad_w (by omega)];rw[ad_mod];have hg:aG A D (m+1)=(aC A D (m+1)+A.getD (m+1) 0+D.getD (m+1) 0)%256:=rfl;simp only[eA,Nat.add_zero] at hg;rw[<- hg];exact oR_succ _ (m+1)
     ·have eD:D.getD (m+1) 0=0:=by simp[List.getD,show D.length<=m+1 by omega]
      rw[decide_eq_false (fun h=>hD (lt8.1 h))];conv=>whnf
      by_cases hc:((aC A D (m+1):Nat):Int) > 0
      ·have hlt:m+1<A.length+D.length+1:=by
        apply Nat.lt_of_le_of_ne hi;intro e;rw[hi2 e] at hc;omega
       rw[decide_eq_true hc];conv=>whnf
       refine pcK ?_;conv=>whnf
       rw[decide_eq_false (fun h=>hA (lt8.1 h))];conv=>whnf
       rw[decide_eq_false (fun h=>hD (lt8.1 h))];conv=>whnf
       refine⟨⟨oR_len _ (m+1),rfl,rfl,by show m+1+1<=1099511627776; omega,trivial⟩,?_⟩;conv=>whnf
       refine⟨m+1+1,⟨by omega,hnext⟩,?_,by show A.length+D.length+2-(m+1+1)<A.length+D.length+2-(m+1); omega⟩;refine⟨⟨trivial,rfl⟩,⟨x_R,x_R,.inr (.inr (.own (5,0) (m+1+1) rfl)),x_E ?_,x_E ((wI (n:=((m+1:Nat):Int)+1) (by omega) (by omega)).trans (by simp)),trivial⟩,⟨.same ?_ oR_ok,x_N,x_L⟩,trivial⟩
       ·skip
        rw[ad_div (by omega)];show _=(((aC A D (m+1)+A.getD (m+1) 0+D.getD (m+1) 0)/256:Nat):Int)
        simp only[eA,eD,Nat.add_zero]
       ·refine congrArg (fun z=>some (Row.mk 3 1 z)) ?_
        skip
        rw[ad_mod];have hg:aG A D (m+1)=(aC A D (m+1)+A.getD (m+1) 0+D.getD (m+1) 0)%256:=rfl;simp only[eA,eD,Nat.add_zero] at hg;rw[<- hg];exact oR_succ _ (m+1)
      ·rw[decide_eq_false hc];conv=>whnf
       refine⟨m+1,⟨by omega,by omega,by omega,by omega⟩,?_⟩;exact⟨trivial,⟨x_R,trivial⟩,⟨.same rfl oR_lt,x_N,x_L⟩,trivial⟩
  ·rintro i ⟨h1,h2,h3,h4⟩;have CC:ACalls prog 190 [l8 ((List.range i).map (aG A D))] (n8 (val8 A+val8 D)):=by
    rw[<- aG_end h1 h2 h3];exact c_rCut _ (fun x hx=>by
     obtain⟨k,_,rfl⟩:=List.mem_map.1 hx;exact Nat.mod_lt _ (by decide)) (by simp; omega)
   cases i with
   |zero =>
    refine pcK ?_;conv=>whnf
    refine callL [] [l8 ((List.range 0).map (aG A D))] trivial ⟨.sh _ _ rfl .nil,trivial⟩ CC rfl ?_;conv=>whnf
    exact fin rfl rfl
   |succ m =>
    refine pcK ?_;conv=>whnf
    refine callL [(5,0)] [l8 ((List.range (m+1)).map (aG A D))] ⟨⟨_,rfl⟩,trivial⟩ ⟨.own2 (.head _) rfl (oR_len _ _) (oR_closed _) (AV.sl.inj (oR_l8 _ _)),trivial⟩ CC rfl ?_;conv=>whnf
    exact fin rfl rfl
 have:=main (digs8 a) (digs8 b) (fun x hx=>digs_lt8 hx) (fun x hx=>digs_lt8 hx) ha hb;rwa [val_digs8,val_digs8] at this
end
section
open Go Go.RowKit Go.Proofs.Tryz
theorem val8_drop (A:List Nat) (i:Nat):val8 (A.drop i)=A.getD i 0+256*val8 (A.drop (i+1)):=by
 by_cases h:i<A.length
 ·rw[List.drop_eq_getElem_cons h];simp[val8,B8,h]
 ·rw[List.drop_of_length_le (by omega),List.drop_of_length_le (by omega)];simp[val8,List.getD,h]
theorem val8_split (A:List Nat) (i:Nat):val8 A=val8 (A.take i)+256^i*val8 (A.drop i):=by
 by_cases h:i<=A.length
 ·conv=>lhs; rw[<- List.take_append_drop i A,val_append8]
  rw[List.length_take,Nat.min_eq_left h];rfl
 ·rw[List.take_of_length_le (by omega),List.drop_of_length_le (by omega)];simp[val8]
theorem val8_take_lt {A:List Nat} (hA:∀ x∈A,x<B8) (i:Nat):val8 (A.take i)<256^i:=by
 have h:=val_lt8 (l:=A.take i) fun x hx=>hA x (List.mem_of_mem_take hx)
 exact Nat.lt_of_lt_of_le h (Nat.pow_le_pow_right (by decide) (by rw[List.length_take]; omega))
theorem cmp8 {A D:List Nat} (hA:∀ x∈A,x<B8) {i:Nat} (h:val8 (A.drop (i+1))=val8 (D.drop (i+1))) (hlt:A.getD i 0<D.getD i 0):val8 A<val8 D:=by
 rw[val8_split A i,val8_split D i,val8_drop A i,val8_drop D i,h];have h1:=val8_take_lt hA i;have h2:256^i*(A.getD i 0+256*val8 (D.drop (i+1)))+256^i<=256^i*(D.getD i 0+256*val8 (D.drop (i+1))):=by
  rw[<- Nat.mul_succ];exact Nat.mul_le_mul_left _ (by omega)
 omega
def cmpN8 (a b:Nat):Int:=if a<b then -1 else if b<a then 1 else 0
theorem c_rCompare (a b:Nat) (ha:(digs8 a).length<100000) (hb:(digs8 b).length<100000):ACalls prog 244 [n8 a,n8 b] (i64 (cmpN8 a b)):=by
 have main:∀ (A D:List Nat),(∀ x∈A,x<B8)->(∀ x∈D,x<B8)->A.length<100000->D.length<100000->ACalls prog 244 [l8 A,l8 D] (i64 (cmpN8 (val8 A) (val8 D))):=by
  intro A D hA8 hD8 hAn hDn;refine conP func244 rfl (by kernel_rfl) ?_;refine .gk ?_;conv=>whnf
  refine .cut (fun _:Unit=>val8 A=val8 D) (fun _=>{ fr:=[],st:=[],g:=60 }) ?_ ?_
  ·refine .gk ?_;conv=>whnf
   refine .block (.loop (fun n:Nat=>n<=100000/\val8 (A.drop n)=val8 (D.drop n)) (fun n=>{ fr:=[(0,l8 A),(1,l8 D),(5,i64 ((n:Int)-1))],st:=[],g:=9 }) (fun n=>n) (max A.length D.length) ⟨by omega,by rw[List.drop_of_length_le (by omega),List.drop_of_length_le (by omega)]⟩ ?_ ?_)
   ·refine⟨trivial,⟨x_R,x_R,x_E ?_,trivial⟩,trivial⟩;rw[List.length_map,List.length_map];split
    ·rw[wI (by omega) (by omega)];omega
    ·rw[wI (by omega) (by omega)];omega
   rintro n ⟨h0,h⟩;cases n with
   |zero =>
    refine .gk ?_;conv=>whnf
    exact⟨(),h,⟨trivial,trivial,trivial⟩⟩
   |succ i =>
    have ei:(((i+1:Nat):Int)-1)=((i:Nat):Int):=by omega
    dsimp only;rw[ei];have hd:=val8_drop A i;have hd2:=val8_drop D i;have low:A.getD i 0<D.getD i 0->cmpN8 (val8 A) (val8 D)=-1:=fun q=>by
     have:=cmp8 hA8 h q;unfold cmpN8;rw[if_pos this]
    have high:D.getD i 0<A.getD i 0->cmpN8 (val8 A) (val8 D)=1:=fun q=>by
     have:=cmp8 hD8 h.symm q;unfold cmpN8;rw[if_neg (by omega),if_pos this]
    have next:A.getD i 0=D.getD i 0->val8 (A.drop i)=val8 (D.drop i):=fun q=>by
     rw[hd,hd2,q,h]
    refine .gk ?_;conv=>whnf
    rw[decide_eq_true (by omega:((i:Nat):Int) ≥ 0)];conv=>whnf
    refine .gk ?_;conv=>whnf
    by_cases hA:i<A.length
    ·rw[decide_eq_true (lt8.2 hA)];conv=>whnf
     refine⟨i8 (A.getD i 0),⟨Int.natCast_nonneg _,get8 hA,rfl,rfl⟩,?_⟩;conv=>whnf
     by_cases hD:i<D.length
     ·rw[decide_eq_true (lt8.2 hD)];conv=>whnf
      refine⟨i8 (D.getD i 0),⟨Int.natCast_nonneg _,get8 hD,rfl,rfl⟩,?_⟩;conv=>whnf
      by_cases c1:((A.getD i 0:Nat):Int)<((D.getD i 0:Nat):Int)
      ·rw[decide_eq_true c1];conv=>whnf
       exact fin rfl (congrArg i64 (low (by omega)).symm)
      ·rw[decide_eq_false c1];conv=>whnf
       by_cases c2:((A.getD i 0:Nat):Int) > ((D.getD i 0:Nat):Int)
       ·rw[decide_eq_true c2];conv=>whnf
        exact fin rfl (congrArg i64 (high (by omega)).symm)
       ·rw[decide_eq_false c2];conv=>whnf
        refine pcK ?_;conv=>whnf
        refine⟨i,⟨by omega,next (by omega)⟩,?_,by show i<i+1; omega⟩;exact⟨trivial,⟨x_R,x_R,x_E (wI (by omega) (by omega)),trivial⟩,trivial⟩
     ·have eD:D.getD i 0=0:=by simp[List.getD,show D.length<=i by omega]
      rw[decide_eq_false (fun h=>hD (lt8.1 h))];conv=>whnf
      by_cases c2:((A.getD i 0:Nat):Int) > 0
      ·rw[decide_eq_true c2];conv=>whnf
       exact fin rfl (congrArg i64 (high (by omega)).symm)
      ·rw[decide_eq_false c2];conv=>whnf
       refine pcK ?_;conv=>whnf
       refine⟨i,⟨by omega,next (by omega)⟩,?_,by show i<i+1; omega⟩;exact⟨trivial,⟨x_R,x_R,x_E (wI (by omega) (by omega)),trivial⟩,trivial⟩
    ·have eA:A.getD i 0=0:=by simp[List.getD,show A.length<=i by omega]
     rw[decide_eq_false (fun h=>hA (lt8.1 h))];conv=>whnf
     by_cases hD:i<D.length
     ·rw[decide_eq_true (lt8.2 hD)];conv=>whnf
      refine⟨i8 (D.getD i 0),⟨Int.natCast_nonneg _,get8 hD,rfl,rfl⟩,?_⟩;conv=>whnf
      by_cases c1:(0:Int)<((D.getD i 0:Nat):Int)
      ·rw[decide_eq_true c1];conv=>whnf
       exact fin rfl (congrArg i64 (low (by omega)).symm)
      ·rw[decide_eq_false c1];conv=>whnf
       refine pcK ?_;conv=>whnf
       refine⟨i,⟨by omega,next (by omega)⟩,?_,by show i<i+1; omega⟩;exact⟨trivial,⟨x_R,x_R,x_E (wI (by omega) (by omega)),trivial⟩,trivial⟩
     ·have eD:D.getD i 0=0:=by simp[List.getD,show D.length<=i by omega]
      rw[decide_eq_false (fun h=>hD (lt8.1 h))];conv=>whnf
      refine pcK ?_;conv=>whnf
      refine⟨i,⟨by omega,next (by omega)⟩,?_,by show i<i+1; omega⟩;exact⟨trivial,⟨x_R,x_R,x_E (wI (by omega) (by omega)),trivial⟩,trivial⟩
  ·rintro⟨⟩ h;refine pcK ?_;conv=>whnf
   have e:cmpN8 (val8 A) (val8 D)=0:=by unfold cmpN8; rw[h,if_neg (by omega),if_neg (by omega)]
   rw[e];exact fin rfl rfl
 have:=main (digs8 a) (digs8 b) (fun x hx=>digs_lt8 hx) (fun x hx=>digs_lt8 hx) ha hb;rwa [val_digs8,val_digs8] at this
end
section
open Go Go.RowKit Go.Proofs.Tryz
def sO (A D:List Nat):Nat->Nat
 |0=>0
 |i+1=>if A.getD i 0<sO A D i+D.getD i 0 then 1 else 0
def sG (A D:List Nat) (i:Nat):Nat:=(A.getD i 0+256-sO A D i-D.getD i 0)%256
theorem sO_le (A D:List Nat):∀ i,sO A D i<=1
 |0=>by unfold sO; omega
 |i+1=>by unfold sO; split <;> omega
theorem sG_val {A D:List Nat} (hA:∀ x∈A,x<B8) (hD:∀ x∈D,x<B8):∀ i,val8 ((List.range i).map (sG A D))+val8 (D.take i)=val8 (A.take i)+256^i*sO A D i
 |0=>by simp[sO,val8]
 |i+1=>by
  have ih:=sG_val hA hD i;rw[List.range_succ,List.map_append,List.map_singleton,val8_snoc,List.length_map,List.length_range,val8_take,val8_take];have h1:=sO_le A D i;have h2:=getD_lt8 hA i;have h3:=getD_lt8 hD i;have e:sG A D i+sO A D i+D.getD i 0=A.getD i 0+256*sO A D (i+1):=by
   unfold sG;rw[show sO A D (i+1)=if A.getD i 0<sO A D i+D.getD i 0 then 1 else 0 from rfl];split <;> omega
  have e2:=congrArg (256^i*·) e;simp only[Nat.mul_add] at e2;rw[Nat.pow_succ,Nat.mul_assoc];omega
theorem sG_end {A D:List Nat} (hA:∀ x∈A,x<B8) (hD:∀ x∈D,x<B8) (hl:D.length<=A.length) (h:val8 D<=val8 A):val8 ((List.range A.length).map (sG A D))=val8 A-val8 D:=by
 have h1:=sG_val hA hD A.length;rw[List.take_of_length_le hl,List.take_of_length_le (Nat.le_refl _)] at h1;have h2:=val_lt8 (l:=(List.range A.length).map (sG A D)) fun x hx=>by
  obtain⟨k,_,rfl⟩:=List.mem_map.1 hx;exact Nat.mod_lt _ (by decide)
 rw[List.length_map,List.length_range] at h2;have h2:_<256^A.length:=h2;have h3:=val_lt8 hD;have h3:val8 D<256^D.length:=h3;have h4:256^D.length<=256^A.length:=Nat.pow_le_pow_right (by decide) hl;have h5:=sO_le A D A.length;have h6:sO A D A.length=0\/sO A D A.length=1:=by omega
 rcases h6 with h6 | h6
 ·rw[h6] at h1;omega
 ·rw[h6] at h1;have h7:=val_lt8 hA;have h7:val8 A<256^A.length:=h7;omega
def suI (A D:List Nat) (i:Nat):Inv:=match i with
 |0=>{ fr:=[(0,l8 A),(1,l8 D),(5,nilA),(6,i64 (sO A D 0:Nat)),(7,i64 (0:Nat))],st:=[],g:=9 }
 |m+1=>{ ren:=[((14,3),(5,0)),((15,3),(5,0)),((16,3),(5,0)),((17,3),(5,0))],fr:=[(0,l8 A),(1,l8 D),(5,.own (5,0) (m+1)),(6,i64 (sO A D (m+1):Nat)),(7,i64 (m+1:Nat))],st:=[((5,0),⟨3,1,oR (sG A D) (m+1)⟩)],g:=9 }
def suO (A D:List Nat) (i:Nat):Inv:=match i with
 |0=>{ fr:=[(5,nilA)],st:=[],g:=60 }
 |m+1=>{ fr:=[(5,.own (5,0) (m+1))],st:=[((5,0),⟨3,1,oR (sG A D) (m+1)⟩)],g:=60 }
theorem su_w {z:Int} (h:-1000<=z/\z<=1000):IntKind.wrap .i64 z=z:=wI (by omega) (by omega)
theorem c_rSub (a b:Nat) (hab:b<=a) (ha:(digs8 a).length<100000):ACalls prog 245 [n8 a,n8 b] (n8 (a-b)):=by
 have main:∀ (A D:List Nat),(∀ x∈A,x<B8)->(∀ x∈D,x<B8)->A.length<100000->D.length<=A.length->val8 D<=val8 A->ACalls prog 245 [l8 A,l8 D] (n8 (val8 A-val8 D)):=by
  intro A D hA8 hD8 hAn hl hv;have CC:ACalls prog 190 [l8 ((List.range A.length).map (sG A D))] (n8 (val8 A-val8 D)):=by
   rw[<- sG_end hA8 hD8 hl hv];exact c_rCut _ (fun x hx=>by
    obtain⟨k,_,rfl⟩:=List.mem_map.1 hx;exact Nat.mod_lt _ (by decide)) (by simp; omega)
  refine conP func245 rfl (by kernel_rfl) ?_;refine .gk ?_;conv=>whnf
  refine .gk ?_;conv=>whnf
  refine .gk ?_;conv=>whnf
  refine .cut (fun _:Unit=>True) (fun _=>suO A D A.length) ?_ ?_
  ·refine .gk ?_;conv=>whnf
   refine .block (.loop (fun i:Nat=>i<=A.length) (suI A D) (fun i=>A.length-i) 0 (Nat.zero_le _) ?_ ?_)
   ·exact⟨trivial,⟨x_R,x_R,x_R,x_R,x_R,trivial⟩,trivial⟩
   intro i hi;have ho:=sO_le A D i;have ga:=getD_lt8 hA8 i;have gd:=getD_lt8 hD8 i;cases i with
   |zero =>
    refine .gk ?_;conv=>whnf
    by_cases hA:0<A.length
    ·rw[decide_eq_true (lt8.2 hA)];conv=>whnf
     refine pcK ?_;conv=>whnf
     refine⟨i8 (A.getD (0) 0),⟨Int.natCast_nonneg _,get8 hA,rfl,rfl⟩,?_⟩;conv=>whnf
     rw[su_w (z:=((A.getD (0) 0:Nat):Int)-((sO A D (0):Nat):Int)) (by omega)];by_cases hD:0<D.length
     ·rw[decide_eq_true (lt8.2 hD)];conv=>whnf
      refine⟨i8 (D.getD (0) 0),⟨Int.natCast_nonneg _,get8 hD,rfl,rfl⟩,?_⟩;conv=>whnf
      rw[su_w (z:=((A.getD (0) 0:Nat):Int)-((sO A D (0):Nat):Int)-((D.getD (0) 0:Nat):Int)) (by omega)];by_cases hn:((A.getD (0) 0:Nat):Int)-((sO A D (0):Nat):Int)-((D.getD (0) 0:Nat):Int)<0
      ·rw[decide_eq_true hn];conv=>whnf
       rw[su_w (z:=((A.getD (0) 0:Nat):Int)-((sO A D (0):Nat):Int)-((D.getD (0) 0:Nat):Int)+256) (by omega)];refine⟨⟨by show 0<1; decide,by show 1<=1099511627776; decide,trivial⟩,?_⟩;conv=>whnf
       refine⟨0+1,(by omega),?_,by show A.length-(0+1)<A.length-(0); omega⟩;have so:sO A D (0+1)=1:=by
        show (if A.getD (0) 0<sO A D (0)+D.getD (0) 0 then 1 else 0)=1;rw[if_pos (by omega)]
       have sg:((sG A D (0):Nat):Int)=((A.getD (0) 0:Nat):Int)-((sO A D (0):Nat):Int)-((D.getD (0) 0:Nat):Int)+256:=by
        unfold sG;omega
       refine⟨⟨trivial,rfl⟩,⟨x_R,x_R,.inr (.inr (.own (5,0) (0+1) rfl)),x_E (by rw[so]; rfl),x_E ((wI (n:=((0:Nat):Int)+1) (by omega) (by omega)).trans (by simp)),trivial⟩,⟨.same ?_ rfl,x_N,x_L⟩,trivial⟩;refine congrArg (fun z=>some (Row.mk 3 1 z)) ?_;rw[<- sg];rfl
      ·rw[decide_eq_false hn];conv=>whnf
       refine⟨⟨by show 0<1; decide,by show 1<=1099511627776; decide,trivial⟩,?_⟩;conv=>whnf
       refine⟨0+1,(by omega),?_,by show A.length-(0+1)<A.length-(0); omega⟩;have so:sO A D (0+1)=0:=by
        show (if A.getD (0) 0<sO A D (0)+D.getD (0) 0 then 1 else 0)=0;rw[if_neg (by omega)]
       have sg:((sG A D (0):Nat):Int)=((A.getD (0) 0:Nat):Int)-((sO A D (0):Nat):Int)-((D.getD (0) 0:Nat):Int):=by
        unfold sG;omega
       refine⟨⟨trivial,rfl⟩,⟨x_R,x_R,.inr (.inr (.own (5,0) (0+1) rfl)),x_E (by rw[so]; rfl),x_E ((wI (n:=((0:Nat):Int)+1) (by omega) (by omega)).trans (by simp)),trivial⟩,⟨.same ?_ rfl,x_N,x_L⟩,trivial⟩;refine congrArg (fun z=>some (Row.mk 3 1 z)) ?_;rw[<- sg];rfl
     ·have eD:D.getD (0) 0=0:=by simp[List.getD,show D.length<=0 by omega]
      rw[decide_eq_false (fun h=>hD (lt8.1 h))];conv=>whnf
      by_cases hn:((A.getD (0) 0:Nat):Int)-((sO A D (0):Nat):Int)<0
      ·exact absurd hn (by have:sO A D 0=0:=rfl; omega)
      ·rw[decide_eq_false hn];conv=>whnf
       refine⟨⟨by show 0<1; decide,by show 1<=1099511627776; decide,trivial⟩,?_⟩;conv=>whnf
       refine⟨0+1,(by omega),?_,by show A.length-(0+1)<A.length-(0); omega⟩;have so:sO A D (0+1)=0:=by
        show (if A.getD (0) 0<sO A D (0)+D.getD (0) 0 then 1 else 0)=0;rw[if_neg (by omega)]
       have sg:((sG A D (0):Nat):Int)=((A.getD (0) 0:Nat):Int)-((sO A D (0):Nat):Int):=by
        unfold sG;omega
       refine⟨⟨trivial,rfl⟩,⟨x_R,x_R,.inr (.inr (.own (5,0) (0+1) rfl)),x_E (by rw[so]; rfl),x_E ((wI (n:=((0:Nat):Int)+1) (by omega) (by omega)).trans (by simp)),trivial⟩,⟨.same ?_ rfl,x_N,x_L⟩,trivial⟩;refine congrArg (fun z=>some (Row.mk 3 1 z)) ?_;rw[<- sg];rfl
    ·have he:0=A.length:=by omega
     rw[decide_eq_false (fun h=>hA (lt8.1 h))];conv=>whnf
     refine⟨(),trivial,?_⟩;rw[<- he];exact⟨trivial,⟨x_R,trivial⟩,trivial⟩
   |succ m =>
    refine .gk ?_;conv=>whnf
    by_cases hA:m+1<A.length
    ·rw[decide_eq_true (lt8.2 hA)];conv=>whnf
     refine pcK ?_;conv=>whnf
     refine⟨i8 (A.getD (m+1) 0),⟨Int.natCast_nonneg _,get8 hA,rfl,rfl⟩,?_⟩;conv=>whnf
     rw[su_w (z:=((A.getD (m+1) 0:Nat):Int)-((sO A D (m+1):Nat):Int)) (by omega)];by_cases hD:m+1<D.length
     ·rw[decide_eq_true (lt8.2 hD)];conv=>whnf
      refine⟨i8 (D.getD (m+1) 0),⟨Int.natCast_nonneg _,get8 hD,rfl,rfl⟩,?_⟩;conv=>whnf
      rw[su_w (z:=((A.getD (m+1) 0:Nat):Int)-((sO A D (m+1):Nat):Int)-((D.getD (m+1) 0:Nat):Int)) (by omega)];by_cases hn:((A.getD (m+1) 0:Nat):Int)-((sO A D (m+1):Nat):Int)-((D.getD (m+1) 0:Nat):Int)<0
      ·rw[decide_eq_true hn];conv=>whnf
       rw[su_w (z:=((A.getD (m+1) 0:Nat):Int)-((sO A D (m+1):Nat):Int)-((D.getD (m+1) 0:Nat):Int)+256) (by omega)];refine⟨⟨oR_len _ (m+1),rfl,rfl,by show m+1+1<=1099511627776; omega,trivial⟩,?_⟩;conv=>whnf
       refine⟨m+1+1,(by omega),?_,by show A.length-(m+1+1)<A.length-(m+1); omega⟩;have so:sO A D (m+1+1)=1:=by
        show (if A.getD (m+1) 0<sO A D (m+1)+D.getD (m+1) 0 then 1 else 0)=1;rw[if_pos (by omega)]
       have sg:((sG A D (m+1):Nat):Int)=((A.getD (m+1) 0:Nat):Int)-((sO A D (m+1):Nat):Int)-((D.getD (m+1) 0:Nat):Int)+256:=by
        unfold sG;omega
       refine⟨⟨trivial,rfl⟩,⟨x_R,x_R,.inr (.inr (.own (5,0) (m+1+1) rfl)),x_E (by rw[so]; rfl),x_E ((wI (n:=((m+1:Nat):Int)+1) (by omega) (by omega)).trans (by simp)),trivial⟩,⟨.same ?_ oR_ok,x_N,x_L⟩,trivial⟩;refine congrArg (fun z=>some (Row.mk 3 1 z)) ?_;rw[<- sg];exact oR_succ _ (m+1)
      ·rw[decide_eq_false hn];conv=>whnf
       refine⟨⟨oR_len _ (m+1),rfl,rfl,by show m+1+1<=1099511627776; omega,trivial⟩,?_⟩;conv=>whnf
       refine⟨m+1+1,(by omega),?_,by show A.length-(m+1+1)<A.length-(m+1); omega⟩;have so:sO A D (m+1+1)=0:=by
        show (if A.getD (m+1) 0<sO A D (m+1)+D.getD (m+1) 0 then 1 else 0)=0;rw[if_neg (by omega)]
       have sg:((sG A D (m+1):Nat):Int)=((A.getD (m+1) 0:Nat):Int)-((sO A D (m+1):Nat):Int)-((D.getD (m+1) 0:Nat):Int):=by
        unfold sG;omega
       refine⟨⟨trivial,rfl⟩,⟨x_R,x_R,.inr (.inr (.own (5,0) (m+1+1) rfl)),x_E (by rw[so]; rfl),x_E ((wI (n:=((m+1:Nat):Int)+1) (by omega) (by omega)).trans (by simp)),trivial⟩,⟨.same ?_ oR_ok,x_N,x_L⟩,trivial⟩;refine congrArg (fun z=>some (Row.mk 3 1 z)) ?_;rw[<- sg];exact oR_succ _ (m+1)
     ·have eD:D.getD (m+1) 0=0:=by simp[List.getD,show D.length<=m+1 by omega]
      rw[decide_eq_false (fun h=>hD (lt8.1 h))];conv=>whnf
      by_cases hn:((A.getD (m+1) 0:Nat):Int)-((sO A D (m+1):Nat):Int)<0
      ·rw[decide_eq_true hn];conv=>whnf
       rw[su_w (z:=((A.getD (m+1) 0:Nat):Int)-((sO A D (m+1):Nat):Int)+256) (by omega)];refine⟨⟨oR_len _ (m+1),rfl,rfl,by show m+1+1<=1099511627776; omega,trivial⟩,?_⟩;conv=>whnf
       refine⟨m+1+1,(by omega),?_,by show A.length-(m+1+1)<A.length-(m+1); omega⟩;have so:sO A D (m+1+1)=1:=by
        show (if A.getD (m+1) 0<sO A D (m+1)+D.getD (m+1) 0 then 1 else 0)=1;rw[if_pos (by omega)]
       have sg:((sG A D (m+1):Nat):Int)=((A.getD (m+1) 0:Nat):Int)-((sO A D (m+1):Nat):Int)+256:=by
        unfold sG;omega
       refine⟨⟨trivial,rfl⟩,⟨x_R,x_R,.inr (.inr (.own (5,0) (m+1+1) rfl)),x_E (by rw[so]; rfl),x_E ((wI (n:=((m+1:Nat):Int)+1) (by omega) (by omega)).trans (by simp)),trivial⟩,⟨.same ?_ oR_ok,x_N,x_L⟩,trivial⟩;refine congrArg (fun z=>some (Row.mk 3 1 z)) ?_;rw[<- sg];exact oR_succ _ (m+1)
      ·rw[decide_eq_false hn];conv=>whnf
       refine⟨⟨oR_len _ (m+1),rfl,rfl,by show m+1+1<=1099511627776; omega,trivial⟩,?_⟩;conv=>whnf
       refine⟨m+1+1,(by omega),?_,by show A.length-(m+1+1)<A.length-(m+1); omega⟩;have so:sO A D (m+1+1)=0:=by
        show (if A.getD (m+1) 0<sO A D (m+1)+D.getD (m+1) 0 then 1 else 0)=0;rw[if_neg (by omega)]
       have sg:((sG A D (m+1):Nat):Int)=((A.getD (m+1) 0:Nat):Int)-((sO A D (m+1):Nat):Int):=by
        unfold sG;omega
       refine⟨⟨trivial,rfl⟩,⟨x_R,x_R,.inr (.inr (.own (5,0) (m+1+1) rfl)),x_E (by rw[so]; rfl),x_E ((wI (n:=((m+1:Nat):Int)+1) (by omega) (by omega)).trans (by simp)),trivial⟩,⟨.same ?_ oR_ok,x_N,x_L⟩,trivial⟩;refine congrArg (fun z=>some (Row.mk 3 1 z)) ?_;rw[<- sg];exact oR_succ _ (m+1)
    ·have he:m+1=A.length:=by omega
     rw[decide_eq_false (fun h=>hA (lt8.1 h))];conv=>whnf
     refine⟨(),trivial,?_⟩;rw[<- he];exact⟨trivial,⟨x_R,trivial⟩,⟨.same rfl oR_lt,x_N,x_L⟩,trivial⟩
  ·rintro⟨⟩ _;generalize A.length=i at CC;cases i with
   |zero =>
    refine pcK ?_;conv=>whnf
    refine callL [] [l8 ((List.range 0).map (sG A D))] trivial ⟨.sh _ _ rfl .nil,trivial⟩ CC rfl ?_;conv=>whnf
    exact fin rfl rfl
   |succ m =>
    refine pcK ?_;conv=>whnf
    refine callL [(5,0)] [l8 ((List.range (m+1)).map (sG A D))] ⟨⟨_,rfl⟩,trivial⟩ ⟨.own2 (.head _) rfl (oR_len _ _) (oR_closed _) (AV.sl.inj (oR_l8 _ _)),trivial⟩ CC rfl ?_;conv=>whnf
    exact fin rfl rfl
 have h1:(digs8 b).length<=(digs8 a).length:=length_digs_le8.2 (Nat.lt_of_le_of_lt hab (length_digs_le8.1 (Nat.le_refl _)));have:=main (digs8 a) (digs8 b) (fun x hx=>digs_lt8 hx) (fun x hx=>digs_lt8 hx) ha h1 (by rw[val_digs8,val_digs8]; exact hab);rwa [val_digs8,val_digs8] at this
end
section
open Go Go.RowKit Go.Proofs.Tryz
def bH (A:List Nat) (m:Nat):Nat->Nat
 |0=>0
 |s+1=>bH A m s*256+A.getD (4*m+(3-s)) 0
def bG (A:List Nat) (m:Nat):Nat:=bH A m 4
theorem bG_eq (A:List Nat) (m:Nat):bG A m=A.getD (4*m) 0+256*(A.getD (4*m+1) 0+256*(A.getD (4*m+2) 0+256*A.getD (4*m+3) 0)):=by
 simp only[bG,bH];show (((0*256+A.getD (4*m+3) 0)*256+A.getD (4*m+2) 0)*256+A.getD (4*m+1) 0)*256+A.getD (4*m) 0=_;omega
theorem bH_lt {A:List Nat} (hA:∀ x∈A,x<B8) (m:Nat):∀ s,bH A m s<256^s
 |0=>by simp[bH]
 |s+1=>by
  have h1:=bH_lt hA m s;have h2:=getD_lt8 hA (4*m+(3-s));unfold bH;rw[Nat.pow_succ];omega
theorem bG_val:∀ (m:Nat) (A:List Nat),A.length<=4*m->val ((List.range m).map (bG A))=val8 A
 |0,A,h=>by
  have:A=[]:=List.eq_nil_of_length_eq_zero (by omega);subst this;rfl
 |m+1,A,h=>by
  have ih:=bG_val m (A.drop 4) (by rw[List.length_drop]; omega);rw[List.range_succ_eq_map,List.map_cons,List.map_map];have e:(List.range m).map (bG A ∘ Nat.succ)=(List.range m).map (bG (A.drop 4)):=List.map_congr_left fun k _=>by
   show bG A (k+1)=bG (A.drop 4) k;rw[bG_eq,bG_eq];have g:∀ j,(A.drop 4).getD j 0=A.getD (4+j) 0:=fun j=>by simp[List.getD]
   rw[g,g,g,g,show 4*(k+1)=4+4*k by omega,show 4+4*k+1=4+(4*k+1) by omega,show 4+4*k+2=4+(4*k+2) by omega,show 4+4*k+3=4+(4*k+3) by omega]
  rw[e];simp only[val,ih,B];have d0:=val8_drop A 0;have d1:=val8_drop A 1;have d2:=val8_drop A 2;have d3:=val8_drop A 3;rw[List.drop_zero] at d0;have e0:=bG_eq A 0;simp only[Nat.mul_zero,Nat.zero_add] at e0;rw[e0];simp only[Nat.zero_add,Nat.reduceAdd] at d0 d1 d2 d3;omega
theorem bG_can {A:List Nat} (hA:Can8 A) {m:Nat} (h1:A.length<=4*m) (h2:4*m<=A.length+3):Can ((List.range m).map (bG A)):=by
 refine⟨fun x hx=>?_,?_⟩
 ·obtain⟨k,_,rfl⟩:=List.mem_map.1 hx;exact bH_lt hA.1 k 4
 ·cases m with
  |zero=>simp
  |succ k =>
   rw[List.range_succ,List.map_append,List.map_singleton,List.getLast?_concat];intro e;have e:=Option.some.inj e;rw[bG_eq] at e;have hne:A≠[]:=by
    rintro rfl;simp at h2;omega
   have hl:A.getLast?=some (A.getD (A.length-1) 0):=by
    rw[List.getLast?_eq_getElem?];have:A.length-1<A.length:=by
     have:=List.length_pos_iff.2 hne;omega
    simp[this]
   have hj:A.length-1=4*k\/A.length-1=4*k+1\/A.length-1=4*k+2\/A.length-1=4*k+3:=by
    have:=List.length_pos_iff.2 hne;omega
   apply hA.2;rw[hl];congr 1;rcases hj with h | h | h | h <;> rw[h] <;> omega
theorem getD_out {A:List Nat} {i:Nat} (h:A.length<=i):A.getD i 0=0:=by simp[List.getD,h]
def dR (g:Nat->Nat) (m:Nat):List AV:=(List.range m).map fun k=>dg (g k)
theorem dR_len (g:Nat->Nat) (m:Nat):(dR g m).length=m:=by simp[dR]
theorem dR_succ (g:Nat->Nat) (m:Nat):dR g m++[dg (g m)]=dR g (m+1):=by simp[dR,List.range_succ]
theorem dg_map_lt {n:Nat} {g:Nat->Nat}:∀ l:List Nat,AV.ltL n (l.map fun k=>dg (g k))=true
 |[]=>rfl
 |a::l=>by show (true&&_)=true; rw[dg_map_lt l]; rfl
theorem dg_map_off {ρ:Ren} {g:Nat->Nat}:∀ l:List Nat,AV.offL ρ (l.map fun k=>dg (g k))=true
 |[]=>rfl
 |a::l=>by show (true&&_)=true; rw[dg_map_off l]; rfl
theorem dR_lt {n:Nat} {g:Nat->Nat} {m:Nat}:AV.ltL n (dR g m)=true:=dg_map_lt _
theorem dR_ok {ρ:Ren} {n:Nat} {g:Nat->Nat} {m:Nat}:(AV.ltL n (dR g m)&&AV.offL ρ (dR g m))=true:=by
 unfold dR;rw[dg_map_lt,dg_map_off];rfl
theorem dR_closed {g:Nat->Nat}:∀ m:Nat,AV.closedL (dR g m)=true:=fun m=>by
 unfold dR;generalize List.range m=l
 induction l with
 |nil=>rfl
 |cons a l ih=>show (true&&_)=true; rw[ih]; rfl
theorem dR_eq (g:Nat->Nat) (m:Nat):dR g m=((List.range m).map g).map dg:=by
 unfold dR;rw[List.map_map];rfl
def bkI (A:List Nat) (m s:Nat):Inv:=match m with
 |0=>{ fr:=[(0,l8 A),(3,nilA),(4,i64 (0:Nat)),(5,i64 (bH A 0 s:Nat)),(6,i64 (3-(s:Int)))],st:=[],g:=30 }
 |m+1=>{ fr:=[(0,l8 A),(3,.own (5,0) (m+1)),(4,i64 (4*(m+1):Nat)),(5,i64 (bH A (m+1) s:Nat)),(6,i64 (3-(s:Int)))],st:=[((5,0),⟨207,1,dR (bG A) (m+1)⟩)],g:=30 }
def bkO (A:List Nat) (m:Nat):Inv:=match m with
 |0=>{ fr:=[(0,l8 A),(3,nilA),(4,i64 (0:Nat))],st:=[],g:=9 }
 |m+1=>{ ren:=[((40,4),(5,0))],fr:=[(0,l8 A),(3,.own (5,0) (m+1)),(4,i64 (4*(m+1):Nat))],st:=[((5,0),⟨207,1,dR (bG A) (m+1)⟩)],g:=9 }
def bkX (A:List Nat) (m:Nat):Inv:=match m with
 |0=>{ fr:=[(0,l8 A),(3,nilA),(4,i64 (0:Nat)),(5,i64 (bG A 0:Nat))],st:=[],g:=40 }
 |m+1=>{ fr:=[(0,l8 A),(3,.own (5,0) (m+1)),(4,i64 (4*(m+1):Nat)),(5,i64 (bG A (m+1):Nat))],st:=[((5,0),⟨207,1,dR (bG A) (m+1)⟩)],g:=40 }
def bkY (A:List Nat) (m:Nat):Inv:={ ren:=[((40,4),(5,0))],fr:=[(0,l8 A),(3,.own (5,0) (m+1)),(4,i64 (4*m:Nat))],st:=[((5,0),⟨207,1,dR (bG A) (m+1)⟩)],g:=50 }
def bkE (A:List Nat) (m:Nat):Inv:=match m with
 |0=>{ fr:=[(3,nilA)],st:=[],g:=60 }
 |m+1=>{ fr:=[(3,.own (5,0) (m+1))],st:=[((5,0),⟨207,1,dR (bG A) (m+1)⟩)],g:=60 }
theorem c_rBack (n:Nat) (hn:(digs8 n).length<100000):ACalls prog 133 [n8 n] (nat n):=by
 have main:∀ (A:List Nat),Can8 A->A.length<100000->ACalls prog 133 [l8 A] (nat (val8 A)):=by
  intro A hA hAn;have hA8:=hA.1;refine conP func133 rfl (by kernel_rfl) ?_;refine .gk ?_;conv=>whnf
  refine .gk ?_;conv=>whnf
  refine .cut (fun m:Nat=>A.length<=4*m/\4*m<=A.length+3) (bkE A) ?_ ?_
  ·refine .gk ?_;conv=>whnf
   refine .block (.loop (fun m:Nat=>4*m<=A.length+3) (bkO A) (fun m=>A.length-m) 0 (by omega) ?_ ?_)
   ·exact⟨trivial,⟨x_R,x_R,x_R,trivial⟩,trivial⟩
   intro m hm;cases m with
   |zero =>
    refine .gk ?_;conv=>whnf
    by_cases hi:4*(0)<A.length
    ·have hi':(((0:Nat):Int))<(((A.map i8).length:Nat):Int):=by rw[List.length_map]; omega
     rw[decide_eq_true hi'];conv=>whnf
     refine .cut (fun _:Unit=>True) (fun _=>bkY A (0)) ?_ ?_
     ·refine .block ?_;refine .gk ?_;conv=>whnf
      refine .cut (fun _:Unit=>True) (fun _=>bkX A (0)) ?_ ?_
      ·refine .gk ?_;conv=>whnf
       refine .block (.loop (fun s:Nat=>s<=4) (bkI A (0)) (fun s=>4-s) 0 (Nat.zero_le _) ?_ ?_)
       ·exact⟨trivial,⟨x_R,x_R,x_R,x_R,x_R,trivial⟩,trivial⟩
       intro s hs;have hb:=bH_lt hA8 (0) s;have hp:256^s<=4294967296:=Nat.le_trans (Nat.pow_le_pow_right (by decide) hs) (by decide);have hs':s=4\/s<4:=by omega
       rcases hs' with rfl | hs4
       ·refine .gk ?_;conv=>whnf
        refine⟨(),trivial,?_⟩;exact⟨trivial,⟨x_R,x_R,x_R,x_R,trivial⟩,trivial⟩
       have hpos:256^s*256<=4294967296:=by
        rw[<- Nat.pow_succ];exact Nat.le_trans (Nat.pow_le_pow_right (by decide) (by omega:s+1<=4)) (by decide)
       have hw1:IntKind.wrap .i64 (((bH A (0) s:Nat):Int)*256)=((bH A (0) s*256:Nat):Int):=(wI (by omega) (by omega)).trans (by simp);have gd:=getD_lt8 hA8 (4*(0)+(3-s));have hw2:IntKind.wrap .i64 (((bH A (0) s*256:Nat):Int)+((A.getD (4*(0)+(3-s)) 0:Nat):Int))=((bH A (0) (s+1):Nat):Int):=(wI (by omega) (by omega)).trans (by simp[bH]);have hn0:A.length<=4*(0)+(3-s)->bH A (0) s*256=bH A (0) (s+1):=fun h=>by
        show _=bH A (0) s*256+A.getD (4*(0)+(3-s)) 0;have:A.getD (4*(0)+(3-s)) 0=0:=getD_out h;omega
       have hw4:IntKind.wrap .i64 ((3:Int)-(s:Int)-1)=(3:Int)-((s+1:Nat):Int):=(wI (by omega) (by omega)).trans (by omega);have hix:IntKind.wrap .i64 (((0:Nat):Int)+((3:Int)-(s:Int)))=((4*(0)+(3-s):Nat):Int):=(wI (by omega) (by omega)).trans (by omega);refine .gk ?_;conv=>whnf
       rw[decide_eq_true (by omega:(3:Int)-(s:Int) ≥ 0)];conv=>whnf
       refine pcK ?_;conv=>whnf
       rw[hix,hw1];by_cases hlt:4*(0)+(3-s)<A.length
       ·rw[decide_eq_true (lt8.2 hlt)];conv=>whnf
        rw[hix];refine⟨i8 (A.getD (4*(0)+(3-s)) 0),⟨Int.natCast_nonneg _,get8 hlt,rfl,rfl⟩,?_⟩;conv=>whnf
        refine⟨s+1,hs4,?_,by show 4-(s+1)<4-s; omega⟩;exact⟨trivial,⟨x_R,x_R,x_R,x_E hw2,x_E hw4,trivial⟩,trivial⟩
       ·rw[decide_eq_false (fun h=>hlt (lt8.1 h))];conv=>whnf
        refine⟨s+1,hs4,?_,by show 4-(s+1)<4-s; omega⟩;exact⟨trivial,⟨x_R,x_R,x_R,.inl ⟨.of_eq (congrArg (fun n:Nat=>i64 n) (hn0 (by omega))),rfl⟩,x_E hw4,trivial⟩,trivial⟩
      ·rintro⟨⟩ _;refine pcK ?_;conv=>whnf
       refine⟨⟨by show 0<1; decide,by show 1<=1099511627776; decide,trivial⟩,?_⟩;conv=>whnf
       refine⟨(),trivial,?_⟩;refine⟨⟨trivial,rfl⟩,⟨x_R,.inr (.inr (.own (5,0) (0+1) rfl)),x_R,trivial⟩,⟨.same ?_ rfl,x_N,x_L⟩,trivial⟩;refine congrArg (fun z=>some (Row.mk 207 1 z)) ?_;have hw:IntKind.wrap .u32 ((bG A (0):Nat):Int)=((bG A (0):Nat):Int):=by
        have h1:=bH_lt hA8 (0) 4;have h1:bG A (0)<4294967296:=h1;rw[w32,Nat.mod_eq_of_lt h1]
       rw[hw];rfl
     ·rintro⟨⟩ _;refine pcK ?_;conv=>whnf
      refine⟨0+1,by omega,?_,by show A.length-(0+1)<A.length-(0); omega⟩;exact⟨⟨trivial,rfl⟩,⟨x_R,.inr (.inr (.own (5,0) (0+1) rfl)),x_E ((wI (n:=((4*(0):Nat):Int)+4) (by omega) (by omega)).trans (show ((4*(0):Nat):Int)+4=((4*(0+1):Nat):Int) by omega)),trivial⟩,x_S,trivial⟩
    ·have hi':¬ (((0:Nat):Int))<(((A.map i8).length:Nat):Int):=by rw[List.length_map]; omega
     rw[decide_eq_false hi'];conv=>whnf
     refine⟨0,⟨by omega,by omega⟩,?_⟩;exact⟨trivial,⟨x_R,trivial⟩,trivial⟩
   |succ m =>
    refine .gk ?_;conv=>whnf
    by_cases hi:4*(m+1)<A.length
    ·have hi':(((4*(m+1):Nat):Int))<(((A.map i8).length:Nat):Int):=by rw[List.length_map]; omega
     rw[decide_eq_true hi'];conv=>whnf
     refine .cut (fun _:Unit=>True) (fun _=>bkY A (m+1)) ?_ ?_
     ·refine .block ?_;refine .gk ?_;conv=>whnf
      refine .cut (fun _:Unit=>True) (fun _=>bkX A (m+1)) ?_ ?_
      ·refine .gk ?_;conv=>whnf
       refine .block (.loop (fun s:Nat=>s<=4) (bkI A (m+1)) (fun s=>4-s) 0 (Nat.zero_le _) ?_ ?_)
       ·exact⟨trivial,⟨x_R,x_R,x_R,x_R,x_R,trivial⟩,⟨.same rfl dR_lt,x_N,x_L⟩,trivial⟩
       intro s hs;have hb:=bH_lt hA8 (m+1) s;have hp:256^s<=4294967296:=Nat.le_trans (Nat.pow_le_pow_right (by decide) hs) (by decide);have hs':s=4\/s<4:=by omega
       rcases hs' with rfl | hs4
       ·refine .gk ?_;conv=>whnf
        refine⟨(),trivial,?_⟩;exact⟨trivial,⟨x_R,x_R,x_R,x_R,trivial⟩,⟨.same rfl dR_lt,x_N,x_L⟩,trivial⟩
       have hpos:256^s*256<=4294967296:=by
        rw[<- Nat.pow_succ];exact Nat.le_trans (Nat.pow_le_pow_right (by decide) (by omega:s+1<=4)) (by decide)
       have hw1:IntKind.wrap .i64 (((bH A (m+1) s:Nat):Int)*256)=((bH A (m+1) s*256:Nat):Int):=(wI (by omega) (by omega)).trans (by simp);have gd:=getD_lt8 hA8 (4*(m+1)+(3-s));have hw2:IntKind.wrap .i64 (((bH A (m+1) s*256:Nat):Int)+((A.getD (4*(m+1)+(3-s)) 0:Nat):Int))=((bH A (m+1) (s+1):Nat):Int):=(wI (by omega) (by omega)).trans (by simp[bH]);have hn0:A.length<=4*(m+1)+(3-s)->bH A (m+1) s*256=bH A (m+1) (s+1):=fun h=>by
        show _=bH A (m+1) s*256+A.getD (4*(m+1)+(3-s)) 0;have:A.getD (4*(m+1)+(3-s)) 0=0:=getD_out h;omega
       have hw4:IntKind.wrap .i64 ((3:Int)-(s:Int)-1)=(3:Int)-((s+1:Nat):Int):=(wI (by omega) (by omega)).trans (by omega);have hix:IntKind.wrap .i64 (((4*(m+1):Nat):Int)+((3:Int)-(s:Int)))=((4*(m+1)+(3-s):Nat):Int):=(wI (by omega) (by omega)).trans (by omega);refine .gk ?_;conv=>whnf
       rw[decide_eq_true (by omega:(3:Int)-(s:Int) ≥ 0)];conv=>whnf
       refine pcK ?_;conv=>whnf
       rw[hix,hw1];by_cases hlt:4*(m+1)+(3-s)<A.length
       ·rw[decide_eq_true (lt8.2 hlt)];conv=>whnf
        rw[hix];refine⟨i8 (A.getD (4*(m+1)+(3-s)) 0),⟨Int.natCast_nonneg _,get8 hlt,rfl,rfl⟩,?_⟩;conv=>whnf
        refine⟨s+1,hs4,?_,by show 4-(s+1)<4-s; omega⟩;exact⟨trivial,⟨x_R,x_R,x_R,x_E hw2,x_E hw4,trivial⟩,⟨.same rfl dR_lt,x_N,x_L⟩,trivial⟩
       ·rw[decide_eq_false (fun h=>hlt (lt8.1 h))];conv=>whnf
        refine⟨s+1,hs4,?_,by show 4-(s+1)<4-s; omega⟩;exact⟨trivial,⟨x_R,x_R,x_R,.inl ⟨.of_eq (congrArg (fun n:Nat=>i64 n) (hn0 (by omega))),rfl⟩,x_E hw4,trivial⟩,⟨.same rfl dR_lt,x_N,x_L⟩,trivial⟩
      ·rintro⟨⟩ _;refine pcK ?_;conv=>whnf
       refine⟨⟨dR_len _ (m+1),rfl,rfl,by show m+1+1<=1099511627776; omega,trivial⟩,?_⟩;conv=>whnf
       refine⟨(),trivial,?_⟩;refine⟨⟨trivial,rfl⟩,⟨x_R,.inr (.inr (.own (5,0) (m+1+1) rfl)),x_R,trivial⟩,⟨.same ?_ dR_ok,x_N,x_L⟩,trivial⟩;refine congrArg (fun z=>some (Row.mk 207 1 z)) ?_;have hw:IntKind.wrap .u32 ((bG A (m+1):Nat):Int)=((bG A (m+1):Nat):Int):=by
        have h1:=bH_lt hA8 (m+1) 4;have h1:bG A (m+1)<4294967296:=h1;rw[w32,Nat.mod_eq_of_lt h1]
       rw[hw];exact dR_succ _ (m+1)
     ·rintro⟨⟩ _;refine pcK ?_;conv=>whnf
      refine⟨m+1+1,by omega,?_,by show A.length-(m+1+1)<A.length-(m+1); omega⟩;exact⟨⟨trivial,rfl⟩,⟨x_R,.inr (.inr (.own (5,0) (m+1+1) rfl)),x_E ((wI (n:=((4*(m+1):Nat):Int)+4) (by omega) (by omega)).trans (show ((4*(m+1):Nat):Int)+4=((4*(m+1+1):Nat):Int) by omega)),trivial⟩,⟨.same rfl dR_ok,x_N,x_L⟩,trivial⟩
    ·have hi':¬ (((4*(m+1):Nat):Int))<(((A.map i8).length:Nat):Int):=by rw[List.length_map]; omega
     rw[decide_eq_false hi'];conv=>whnf
     refine⟨m+1,⟨by omega,by omega⟩,?_⟩;exact⟨trivial,⟨x_R,trivial⟩,⟨.same rfl dR_lt,x_N,x_L⟩,trivial⟩
  ·rintro m ⟨h1,h2⟩;have hv:nat (val8 A)=.sl (((List.range m).map (bG A)).map dg):=by
    rw[<- bG_val m A h1];unfold nat lst;rw[digs_val (bG_can hA h1 h2)]
   rw[hv];cases m with
   |zero =>
    refine .gk ?_;conv=>whnf
    refine pcK ?_;conv=>whnf
    exact .sh _ _ rfl .nil
   |succ m =>
    refine .gk ?_;conv=>whnf
    refine pcK ?_;conv=>whnf
    exact .own2 trivial rfl (dR_len _ _) (dR_closed _) (dR_eq _ _)
 have:=main (digs8 n) (can_digs8 n) hn;rwa [val_digs8] at this
end
end Go.Proofs.YtjdkdcmpifapeaaGreatDoor.Abs
