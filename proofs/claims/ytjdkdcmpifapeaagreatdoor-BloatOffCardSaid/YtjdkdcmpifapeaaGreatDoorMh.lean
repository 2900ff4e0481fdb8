/- Limbs: the laws of long division: a guess at a digit, what is left. -/
import Derived.Test.YtjdkdcmpifapeaaGreatDoorMf
import Derived.Test.YtjdkdcmpifapeaaGreatDoorMg
set_option linter.unusedVariables false
set_option linter.unusedSectionVars false
set_option linter.unusedSimpArgs false
set_option maxHeartbeats 4000000
namespace Go.Proofs.YtjdkdcmpifapeaaGreatDoor.Abs
section
open Go Go.RowKit Go.Proofs.Tryz
theorem ACallsO.sh {P:Program} {f:FuncId} {args:List AV} {r:Row} (h:ACallsO P f args r):ACalls P f args (.sl r.els):=by
 refine⟨h.1,fun S w vs h1 h2 h3=>Calls.mono (h.2 S w vs h1 h2 h3) ?_⟩;rintro e w' ⟨b,cap,S',c,rfl,hB,s1,s2,s3,hb,hbw,hh,hc,hl,hm,hels⟩;have cell:∀ o,w'.cell? ⟨b,o,none⟩=c[o]?:=fun o=>by simp[World.cell?,hh]
 have hmono:∀ {x:AV} {v:Value},SRep S' w' x v->SRep (fun x=>S' x\/x=b) w' x v:=fun h=>h.mono (fun _ h=>.inl h) fun _ _=>rfl
 refine⟨_,fun x=>S' x\/x=b,rfl,hB,fun x hx=>.inl (s1 x hx),?_,?_,?_⟩
 ·rintro x (hx | rfl)
  ·exact s2 x hx
  ·exact .inr hbw
 ·rintro x (hx | rfl)
  ·exact s3 x hx
  ·exact (Array.getElem?_eq_some_iff.1 hh).1
 ·refine .sl r.els b 0 r.els.length cap r.k (fun i j=>(c[i*r.k+j]?).getD undef) rfl hl (.inr rfl) (fun i x hx=>(hels i x hx).1) ?_ ?_
  ·intro i x j y hx hy;obtain⟨u,q1,q2⟩:=(hels i x hx).2 j y hy;rw[Nat.zero_add,cell,q1];rfl
  ·intro i x j y hx hy;obtain⟨u,q1,q2⟩:=(hels i x hx).2 j y hy;rw[q1];exact hmono q2
theorem guess_high {q Q V V12 W U U3:Nat} (hV:V12*W<=V) (hU:U<(U3+1)*W) (hq:q*V<=U) (h:U3<Q*V12):q<Q:=by
 apply Nat.lt_of_not_le;intro g;have h1:Q*V12*W<=q*V:=by
  rw[Nat.mul_assoc];exact Nat.mul_le_mul g hV
 have h2:(U3+1)*W<=Q*V12*W:=Nat.mul_le_mul_right _ h;omega
theorem guess_near {q Q V V12 W U U3:Nat} (hV1:V<(V12+1)*W) (hU:U3*W<=U) (hq:U<(q+1)*V) (h:Q*V12<=U3) (hQ:Q<B) (hV:B*W<=V):Q<=q+1:=by
 apply Nat.le_of_not_lt;intro g;have h1:Q*V12*W<=U3*W:=Nat.mul_le_mul_right _ h;have h2:(q+1)*V<=(Q-1)*V:=Nat.mul_le_mul_right _ (by omega);have h3:(Q-1)*V+V=Q*V:=by
  rw[<- Nat.succ_mul];congr 1;omega
 have h4:Q*V<=Q*((V12+1)*W):=Nat.mul_le_mul_left _ (Nat.le_of_lt hV1);have h5:Q*((V12+1)*W)=Q*V12*W+Q*W:=by
  rw[Nat.add_mul,Nat.one_mul,Nat.mul_add,Nat.mul_assoc]
 have h6:Q*W<=B*W:=Nat.mul_le_mul_right _ (Nat.le_of_lt hQ);omega
structure GI (high V1 q Q r:Nat):Prop where
 e:Q*V1+r=high
 h:q<=Q
theorem guess_step {high V1 q Q r:Nat} (h:GI high V1 q Q r) (hq:q<Q):GI high V1 q (Q-1) (r+V1):=by
 refine⟨?_,by omega⟩;have h3:(Q-1)*V1+V1=Q*V1:=by
  rw[<- Nat.succ_mul];congr 1;omega
 have:=h.e;omega
theorem guess_rest {high V1 q Q r:Nat} (h:GI high V1 q Q r) (hh:high<V1*B+B) (hr:B<=r):Q<B:=by
 apply Nat.lt_of_not_le;intro g;have:B*V1<=Q*V1:=Nat.mul_le_mul_right _ g;rw[Nat.mul_comm] at this;have:=h.e;omega
theorem guess_end {high V1 V2 q Q r u2:Nat} (h:GI high V1 q Q r) (hc:Q*V2<=r*B+u2):Q*(V1*B+V2)<=high*B+u2:=by
 have e:high*B=Q*V1*B+r*B:=by rw[<- h.e,Nat.add_mul]
 rw[Nat.mul_add,<- Nat.mul_assoc,e];omega
theorem guess_brk {high V1 V2 q Q r u2:Nat} (h:GI high V1 q Q r) (hQ:Q<B) (hV:V2<B) (hr:B<=r):Q*V2<=r*B+u2:=by
 have h1:Q*V2<=B*B:=Nat.mul_le_mul (Nat.le_of_lt hQ) (Nat.le_of_lt hV);have h2:B*B<=r*B:=Nat.mul_le_mul_right _ hr;omega
theorem guess_more {high V1 V2 q Q r u2:Nat} (h:GI high V1 q Q r) (hc:r*B+u2<Q*V2):high*B+u2<Q*(V1*B+V2):=by
 have e:high*B=Q*V1*B+r*B:=by rw[<- h.e,Nat.add_mul]
 rw[Nat.mul_add,<- Nat.mul_assoc,e];omega
theorem guess_first {high V1:Nat} (hV:0<V1) (hh:high<V1*B+B) (hV1:B<=2*V1):high/V1<=B+1:=by
 have:high/V1<B+2:=(Nat.div_lt_iff_lt_mul hV).2 (by
  rw[Nat.add_mul,Nat.mul_comm B V1];omega)
 omega
theorem outer_step {A V n k q:Nat} {pre seg post Qhi:List Nat} (hs:seg.length=n+1) (hp:pre.length=k) (h0:val post=0) (hV:0<V) (hVn:V<=B^(n+1))
  (hA:A=val (pre++seg++post)+V*B^(k+1)*val Qhi) (hq:q=val seg/V) :
  A=val (pre++padD (n+1) (val seg%V)++post)+V*B^k*val (q::Qhi)/\val (padD (n+1) (val seg%V)++post)<V:=by
 have hr:val seg%V<V:=Nat.mod_lt _ hV;have hpad:val (padD (n+1) (val seg%V))=val seg%V:=val_padD (Nat.lt_of_lt_of_le hr hVn);have hd:=Nat.div_add_mod (val seg) V;rw[<- hq] at hd;constructor
 ·rw[hA];simp only[val_append,hpad,h0,Nat.mul_zero,Nat.add_zero,hp,val];have e1:V*B^(k+1)*val Qhi=V*B^k*(B*val Qhi):=by rw[Nat.pow_succ]; ac_rfl
  have e2:B^k*val seg=V*B^k*q+B^k*(val seg%V):=by
   rw[<- hd];rw[Nat.mul_add,Nat.mul_add_mod,Nat.mod_mod];congr 1
   ac_rfl
  rw[e1,e2,Nat.mul_add];omega
 ·simp only[val_append,hpad,h0,Nat.mul_zero,Nat.add_zero];exact hr
theorem val_cut {l:List Nat} {j:Nat} (hl:∀ x∈l,x<B) (hj:j<=l.length):B^j*val (l.drop j)<=val l/\val l<B^j*(val (l.drop j)+1):=by
 have e:val l=val (l.take j)+B^j*val (l.drop j):=by
  conv=>lhs; rw[<- List.take_append_drop j l,val_append]
  rw[List.length_take,Nat.min_eq_left hj]
 have h:=val_lt (l:=l.take j) fun x hx=>hl x (List.mem_of_mem_take hx)
 rw[List.length_take,Nat.min_eq_left hj] at h;rw[Nat.mul_add,Nat.mul_one];omega
theorem drop_two {l:List Nat} {j:Nat} (h:l.length=j+2):val (l.drop j)=l[j]+B*l[j+1]:=by
 rw[List.drop_eq_getElem_cons (by omega),List.drop_eq_getElem_cons (by omega),List.drop_eq_nil_of_le (by omega)];simp[val]
theorem drop_three {l:List Nat} {j:Nat} (h:l.length=j+3):val (l.drop j)=l[j]+B*(l[j+1]+B*l[j+2]):=by
 rw[List.drop_eq_getElem_cons (by omega),List.drop_eq_getElem_cons (by omega),List.drop_eq_getElem_cons (by omega),List.drop_eq_nil_of_le (by omega)];simp[val]
structure Top (V W U V1 V2 x y z:Nat):Prop where
 v1:(V1*B+V2)*W<=V
 v2:V<(V1*B+V2+1)*W
 u1:((x*B+y)*B+z)*W<=U
 u2:U<((x*B+y)*B+z+1)*W
 h:U<B*V
 hV2:V2<B
 hy:y<B
 hz:z<B
 hV1:B<=2*V1
 hV1B:V1<B
 hW:0<W
theorem Top.of {v seg:List Nat} {j:Nat} (hv:v.length=j+2) (hs:seg.length=j+3) (hvB:∀ x∈v,x<B) (hsB:∀ x∈seg,x<B) (h1:B<=2*v[j+1]) (h2:val seg<B*val v) :
  Top (val v) (B^j) (val seg) v[j+1] v[j] seg[j+2] seg[j+1] seg[j]:=by
 have a:=val_cut hvB (j:=j) (by omega);have b:=val_cut hsB (j:=j) (by omega);rw[drop_two hv] at a;rw[drop_three hs] at b;have e1:v[j]+B*v[j+1]=v[j+1]*B+v[j]:=by rw[Nat.mul_comm B,Nat.add_comm]
 have e2:seg[j]+B*(seg[j+1]+B*seg[j+2])=(seg[j+2]*B+seg[j+1])*B+seg[j]:=by
  rw[Nat.mul_comm B (seg[j+1]+_),Nat.mul_comm B (seg[j+2]),Nat.add_comm (seg[j+1]),Nat.add_comm]
 rw[e1] at a;rw[e2] at b;exact⟨by rw[Nat.mul_comm]; exact a.1,by rw[Nat.mul_comm]; exact a.2,by rw[Nat.mul_comm]; exact b.1,by rw[Nat.mul_comm]; exact b.2,h2,hvB _ (List.getElem_mem _),hsB _ (List.getElem_mem _),hsB _ (List.getElem_mem _),h1,hvB _ (List.getElem_mem _),Nat.pow_pos Bpos⟩
section
variable {V W U V1 V2 x y z:Nat}
theorem Top.high (h:Top V W U V1 V2 x y z):x*B+y<V1*B+B:=by
 apply Nat.lt_of_not_le;intro g;have h1:(V1*B+B)*B<=(x*B+y)*B:=Nat.mul_le_mul_right _ g;have h2:(V1*B+B)*B*W<=((x*B+y)*B+z)*W:=Nat.mul_le_mul_right _ (by omega);have h3:(V1*B+V2+1)*W*B<=(V1*B+B)*B*W:=by
  have h4:=h.hV2;have h5:(V1*B+V2+1)*B<=(V1*B+B)*B:=Nat.mul_le_mul_right _ (by omega);have h6:=Nat.mul_le_mul_right W h5;have e:(V1*B+V2+1)*W*B=(V1*B+V2+1)*B*W:=by ac_rfl
  rw[e];exact h6
 have h7:V*B<=(V1*B+V2+1)*W*B:=Nat.mul_le_mul_right _ (Nat.le_of_lt h.v2);have h8:=h.u1;have h9:=h.h;rw[Nat.mul_comm] at h9;omega
theorem Top.pos (h:Top V W U V1 V2 x y z):0<V:=by
 have h1:=h.v1;have h2:=h.hV1;have h3:=h.hW;have h4:0<V1:=by have:=Bpos; omega
 have:0<(V1*B+V2)*W:=Nat.mul_pos (by have:=Nat.mul_pos h4 Bpos; omega) h3;omega
theorem Top.q (h:Top V W U V1 V2 x y z):U/V<B:=(Nat.div_lt_iff_lt_mul h.pos).2 h.h
theorem Top.first (h:Top V W U V1 V2 x y z):GI (x*B+y) V1 (U/V) ((x*B+y)/V1) ((x*B+y)%V1):=by
 refine⟨by rw[Nat.mul_comm]; exact Nat.div_add_mod _ _,?_⟩;have hV1:0<V1:=by have:=h.hV1; have:=Bpos; omega
 apply (Nat.le_div_iff_mul_le hV1).2
 -- the quotient times the top digit is no more than what stands there
 apply Nat.le_of_not_lt;intro g;have h1:(x*B+y+1)*B<=U/V*V1*B:=Nat.mul_le_mul_right _ g;have h2:U/V*V1*B<=U/V*(V1*B+V2):=by rw[Nat.mul_assoc]; exact Nat.mul_le_mul_left _ (by omega)
 have h3:U/V*(V1*B+V2)*W<=U/V*V:=by rw[Nat.mul_assoc]; exact Nat.mul_le_mul_left _ h.v1
 have h4:U/V*V<=U:=Nat.div_mul_le_self _ _;have h5:=h.u2;have h6:((x*B+y)*B+z+1)*W<=U/V*(V1*B+V2)*W:=Nat.mul_le_mul_right _ (by
  have:=h.hz;rw[Nat.add_mul,Nat.one_mul] at h1;omega)
 omega
theorem Top.more {Q r:Nat} (h:Top V W U V1 V2 x y z) (g:GI (x*B+y) V1 (U/V) Q r) (hc:r*B+z<Q*V2):U/V<Q :=
 guess_high h.v1 h.u2 (Nat.div_mul_le_self _ _) (guess_more g hc)
theorem Top.near {Q r:Nat} (h:Top V W U V1 V2 x y z) (g:GI (x*B+y) V1 (U/V) Q r) (hQ:Q<B) (hc:Q*V2<=r*B+z):Q<=U/V+1:=by
 refine guess_near h.v2 h.u1 ?_ (guess_end g hc) hQ ?_
 ·have:=Nat.div_add_mod U V;have:=Nat.mod_lt U h.pos;rw[Nat.add_mul,Nat.one_mul,Nat.mul_comm];omega
 ·have h1:=h.v1;have h2:=h.hV1;have h3:1<=V1:=by have:=Bpos; omega
  have h4:B*W<=(V1*B+V2)*W:=Nat.mul_le_mul_right _ (by
   have:1*B<=V1*B:=Nat.mul_le_mul_right _ h3;omega)
  omega
end
end
section
open Go Go.RowKit Go.Proofs.Tryz
theorem seg_split {u:List Nat} {kk n:Nat}:u.take kk++(u.drop kk).take n++u.drop (kk+n)=u:=by
 rw[List.append_assoc,<- List.drop_drop,List.take_append_drop,List.take_append_drop]
theorem seg_len {u:List Nat} {m j kk:Nat} (h1:u.length=m+(j+2)+1) (hk:kk+1<=m+1):((u.drop kk).take (j+3)).length=j+3:=by
 simp;omega
theorem seg_facts {u:List Nat} {m j kk V:Nat} (h1:u.length=m+(j+2)+1) (hk:kk+1<=m+1) (hB:∀ x∈u,x<B) (hV:V<B^(j+2)) (h6:val (u.drop (kk+1))<V) :
  val ((u.drop kk).take (j+3))<B*V/\val (u.drop (kk+(j+3)))=0:=by
 have hlt:kk<u.length:=by omega
 have e2:val (u.drop kk)=u[kk]+B*val (u.drop (kk+1)):=by
  rw[List.drop_eq_getElem_cons hlt];rfl
 have e3:val (u.drop kk)=val ((u.drop kk).take (j+3))+B^(j+3)*val (u.drop (kk+(j+3))):=by
  conv=>lhs; rw[<- List.take_append_drop (j+3) (u.drop kk),val_append]
  rw[List.drop_drop,seg_len h1 hk]
 have hb:u[kk]<B:=hB _ (List.getElem_mem hlt);have e4:B*(val (u.drop (kk+1))+1)<=B*V:=Nat.mul_le_mul_left _ h6;have e5:B*V<=B^(j+3):=by
  rw[Nat.pow_succ,Nat.mul_comm];exact Nat.mul_le_mul_right _ (Nat.le_of_lt hV)
 rw[Nat.mul_add,Nat.mul_one] at e4;refine⟨by omega,?_⟩;apply Nat.eq_zero_of_not_pos;intro hp;have e6:B^(j+3)*1<=B^(j+3)*val (u.drop (kk+(j+3))):=Nat.mul_le_mul_left _ hp;omega
theorem seg_top {u Lv:List Nat} {m j kk V x y z:Nat} (h1:u.length=m+(j+2)+1) (hk:kk+1<=m+1) (hB:∀ x∈u,x<B) (hLB:∀ x∈Lv,x<B) (lLv:Lv.length=j+2) (hvL:val Lv=V) (hV:V<B^(j+2)) (h6:val (u.drop (kk+1))<V)
  (hV1:B<=2*Lv[j+1]) (hx:u[kk+(j+2)]?=some x) (hy:u[kk+(j+1)]?=some y) (hz:u[kk+j]?=some z) :
  Top V (B^j) (val ((u.drop kk).take (j+3))) Lv[j+1] Lv[j] x y z:=by
 have hs:=seg_len h1 hk;have hT:=Top.of (v:=Lv) (seg:=(u.drop kk).take (j+3)) lLv hs hLB (fun x hx=>hB x (List.mem_of_mem_drop (List.mem_of_mem_take hx))) hV1 (by rw[hvL]; exact (seg_facts h1 hk hB hV h6).1);have ex:((u.drop kk).take (j+3))[j+2]=x:=by
  rw[List.getElem?_eq_getElem (by omega)] at hx;simpa using hx
 have ey:((u.drop kk).take (j+3))[j+1]=y:=by
  rw[List.getElem?_eq_getElem (by omega)] at hy;simpa using hy
 have ez:((u.drop kk).take (j+3))[j]=z:=by
  rw[List.getElem?_eq_getElem (by omega)] at hz;simpa using hz
 rw[ex,ey,ez,hvL] at hT;exact hT
theorem seg_top' {u Lv:List Nat} {m j kk V V1 V2 x y z:Nat} (h1:u.length=m+(j+2)+1) (hk:kk+1<=m+1) (hB:∀ x∈u,x<B) (hLB:∀ x∈Lv,x<B) (lLv:Lv.length=j+2) (hvL:val Lv=V) (hV:V<B^(j+2)) (h6:val (u.drop (kk+1))<V)
  (d1:Lv[j+1]?=some V1) (d2:Lv[j]?=some V2) (hV1:B<=2*V1) (hx:u[kk+(j+2)]?=some x) (hy:u[kk+(j+1)]?=some y) (hz:u[kk+j]?=some z) :
  Top V (B^j) (val ((u.drop kk).take (j+3))) V1 V2 x y z:=by
 have e1:Lv[j+1]=V1:=(List.getElem?_eq_some_iff.1 d1).2;have e2:Lv[j]=V2:=(List.getElem?_eq_some_iff.1 d2).2;have:=seg_top h1 hk hB hLB lLv hvL hV h6 (by rw[e1]; exact hV1) hx hy hz;rwa [e1,e2] at this
theorem round_end {V W V1 V2 x y z Q r n U:Nat} (hT:Top V W U V1 V2 x y z) (g:GI (x*B+y) V1 (U/V) Q r) (hQ:Q<B) (hc:Q*V2<=r*B+z) (hVn:V<=B^n) :
  (U<Q*V->Q-1=U/V/\padD n (val (padD n (lessV n U (Q*V)))+V)=padD n (U%V))/\(¬ U<Q*V->Q=U/V/\padD n (lessV n U (Q*V))=padD n (U%V)):=by
 have near:=hT.near g hQ hc;have low:=g.h;have hp:=hT.pos;have hm:U%V<V:=Nat.mod_lt _ hp;have hd:U/V*V+U%V=U:=by rw[Nat.mul_comm]; exact Nat.div_add_mod U V
 have k1:U<Q*V->U/V<Q:=fun h=>(Nat.div_lt_iff_lt_mul hp).2 h
 have k2:¬ U<Q*V->Q<=U/V:=fun h=>(Nat.le_div_iff_mul_le hp).2 (Nat.le_of_not_lt h)
 clear g hT hc;generalize U/V=q0 at *
 generalize U%V=m0 at *
 refine⟨fun h=>?_,fun h=>?_⟩
 ·have h1:q0<Q:=k1 h;have h2:Q=q0+1:=by omega
  refine⟨by omega,?_⟩;have h3:Q*V=q0*V+V:=by rw[h2,Nat.add_mul,Nat.one_mul]
  have h4:lessV n U (Q*V)=B^n+m0-V:=by
   unfold lessV;rw[if_neg (by omega)];omega
  rw[h4,val_padD (by omega),show B^n+m0-V+V=m0+B^n*1 by omega,padD_add]
 ·have h1:Q*V<=U:=Nat.le_of_not_lt h;have h2:Q<=q0:=k2 h;have h3:Q=q0:=by omega
  refine⟨h3,?_⟩;unfold lessV;rw[if_pos h1];congr 1;rw[h3];omega
theorem round_inv {u Qd:List Nat} {m j kk A V q:Nat} (h1:u.length=m+(j+2)+1) (h2:Qd.length=m+1) (hk:kk+1<=m+1) (h3:∀ x∈u,x<B) (hVp:0<V) (hV:V<B^(j+2)) (h6:val (u.drop (kk+1))<V)
  (h7:A=val u+V*B^(kk+1)*val (Qd.drop (kk+1))) (hq:q=val ((u.drop kk).take (j+3))/V) {u':List Nat} (hu':u'=u.take kk++padD (j+3) (val ((u.drop kk).take (j+3))%V)++u.drop (kk+(j+3))) :
  u'.length=m+(j+2)+1/\(∀ x∈u',x<B)/\val (u'.drop kk)<V/\A=val u'+V*B^kk*val ((Qd.set kk q).drop kk):=by
 obtain⟨f1,f2⟩:=seg_facts h1 hk h3 hV h6;have hlen:(u.take kk).length=kk:=by simp; omega
 have hA:A=val (u.take kk++(u.drop kk).take (j+3)++u.drop (kk+(j+3)))+V*B^(kk+1)*val (Qd.drop (kk+1)):=by rw[seg_split]; exact h7
 have hVn:V<=B^(j+2+1):=Nat.le_of_lt (Nat.lt_of_lt_of_le hV (Nat.pow_le_pow_right Bpos (by omega)));have O:=outer_step (seg_len h1 hk) hlen f2 hVp hVn hA hq;have eq1:(Qd.set kk q).drop kk=q::Qd.drop (kk+1):=by
  rw[List.drop_eq_getElem_cons (by simp; omega)];simp[List.drop_set]
 have eu:u'.drop kk=padD (j+3) (val ((u.drop kk).take (j+3))%V)++u.drop (kk+(j+3)):=by
  rw[hu',List.append_assoc,List.drop_left' hlen]
 refine⟨?_,?_,?_,?_⟩
 ·rw[hu'];simp[padD_length];omega
 ·intro x hx;rw[hu',List.mem_append,List.mem_append] at hx;rcases hx with (hx | hx) | hx
  ·exact h3 x (List.mem_of_mem_take hx)
  ·exact padD_lt hx
  ·exact h3 x (List.mem_of_mem_drop hx)
 ·rw[eu];exact O.2
 ·rw[hu',eq1];exact O.1
end
section
open Go Go.RowKit Go.Proofs.Tryz
theorem norm_facts {b n s:Nat} (hn:(digs b).length=n+1) (hs:32-blen (digs b)[n]=s):s<32/\b*2^s<B^(n+1)/\B^(n+1)<=2*(b*2^s)/\B^n*2^s<=b*2^s:=by
 have ht0:(digs b)[n]≠0:=by
  intro h;apply (can_digs b).2;rw[List.getLast?_eq_getElem?,hn];simp[h,hn]
 have htB:(digs b)[n]<B:=digs_lt (List.getElem_mem _);have hc:=val_cut (l:=digs b) (j:=n) (fun x=>digs_lt) (by omega);have hd:val ((digs b).drop n)=(digs b)[n]:=by
  rw[List.drop_eq_getElem_cons (by omega),List.drop_eq_nil_of_le (by omega)];simp[val]
 rw[val_digs,hd] at hc;generalize (digs b)[n]=t at *
 have h32:blen t<=32:=blen_le.2 htB;have h1:t<2^blen t:=blen_le.1 (Nat.le_refl _);have h0:0<blen t:=by
  apply Nat.pos_of_ne_zero;intro h;rw[h] at h1;omega
 have h2:2^(blen t-1)<=t:=by
  apply Nat.le_of_not_lt;intro h;have:=blen_le.2 h;omega
 have hp:2^blen t*2^s=B:=by
  rw[<- Nat.pow_add,show blen t+s=32 by omega];rfl
 have hp2:2^(blen t-1)*2^s*2=B:=by
  rw[<- hp,<- Nat.pow_add,<- Nat.pow_add,<- Nat.pow_succ];congr 1;omega
 have hspos:0<2^s:=Nat.pow_pos (by decide);refine⟨by omega,?_,?_,?_⟩
 ·have h3:(t+1)*2^s<=B:=by rw[<- hp]; exact Nat.mul_le_mul_right _ h1
  have h4:B^n*(t+1)*2^s<=B^(n+1):=by
   rw[Nat.mul_assoc,Nat.pow_succ];exact Nat.mul_le_mul_left _ h3
  exact Nat.lt_of_lt_of_le (Nat.mul_lt_mul_of_pos_right hc.2 hspos) h4
 ·have h3:B<=t*2^s*2:=by rw[<- hp2]; exact Nat.mul_le_mul_right _ (Nat.mul_le_mul_right _ h2)
  have h4:B^(n+1)<=B^n*(t*2^s*2):=by
   rw[Nat.pow_succ];exact Nat.mul_le_mul_left _ h3
  have h5:B^n*t*2^s<=b*2^s:=Nat.mul_le_mul_right _ hc.1;have e:B^n*(t*2^s*2)=2*(B^n*t*2^s):=by ac_rfl
  rw[e] at h4;omega
 ·have h3:B^n*1<=B^n*t:=Nat.mul_le_mul_left _ (by omega);rw[Nat.mul_one] at h3;exact Nat.mul_le_mul_right _ (Nat.le_trans h3 hc.1)
theorem long_facts {La:List Nat} {a b j m s A V:Nat} {U0 V0 Lv:List Nat} (hb0:0<b) (hm:La.length=m+(j+2)) (s1:s<32)
  (hV:b*2^s<B^(j+2)) (hV2:B^(j+2)<=2*(b*2^s)) (hV3:B^(j+1)*2^s<=b*2^s) (haN:a<B^La.length)
  (hU0:padD (m+(j+2)+1) (a*2^s)=U0) (hV0:padD (j+3) (b*2^s)=V0) (hLv:V0.take (j+2)=Lv) (hA:a*2^s=A) (hVe:b*2^s=V) (lLv:Lv.length=j+2) (lU0:U0.length=m+(j+2)+1) :
  val U0=A/\(∀ x∈Lv,x<B)/\val Lv=V/\0<V/\B<=2*Lv[j+1]/\val (U0.drop (m+1))<V:=by
 have h2p:0<2^s:=Nat.pow_pos (by decide);have h2s:2^s<B:=by
  have e:B=2^32:=by decide
  rw[e];exact (Nat.pow_lt_pow_iff_right (by decide)).2 s1
 have g5:a*2^s<B^La.length*2^s:=Nat.mul_lt_mul_of_pos_right haN h2p;have hvU:val U0=A:=by
  rw[<- hU0,<- hA];refine val_padD ?_;have g6:B^La.length*2^s<=B^La.length*B:=Nat.mul_le_mul_left _ (Nat.le_of_lt h2s);rw[<- Nat.pow_succ,hm] at g6;rw[hm] at g5;exact Nat.lt_of_lt_of_le g5 g6
 have hLB:∀ x∈Lv,x<B:=fun x hx=>by
  rw[<- hLv,<- hV0] at hx;exact padD_lt (List.mem_of_mem_take hx)
 have hvL:val Lv=V:=by
  have e1:padD (j+3) (b*2^s)=padD (j+2) (b*2^s)++[0%B]:=by
   rw[padD_succ,Nat.div_eq_of_lt hV]
  rw[<- hLv,<- hV0,e1,List.take_left' (padD_length _ _),val_padD hV,hVe]
 have hVpos:0<V:=by rw[<- hVe]; exact Nat.mul_pos hb0 h2p
 refine⟨hvU,hLB,hvL,hVpos,?_,?_⟩
 ·have hc:=val_cut hLB (j:=j+1) (by omega);have hd:val (Lv.drop (j+1))=Lv[j+1]:=by
   rw[List.drop_eq_getElem_cons (by omega),List.drop_eq_nil_of_le (by omega)];simp[val]
  rw[hvL,hd,<- hVe] at hc;have g1:B^(j+1)*B<B^(j+1)*(2*(Lv[j+1]+1)):=by
   rw[<- Nat.pow_succ];have e:B^(j+1)*(2*(Lv[j+1]+1))=2*(B^(j+1)*(Lv[j+1]+1)):=by ac_rfl
   rw[e];exact Nat.lt_of_le_of_lt hV2 (by omega)
  have g2:=Nat.lt_of_mul_lt_mul_left g1;have e:B=4294967296:=rfl;rw[e] at g2 ⊢;omega
 ·apply Nat.lt_of_not_le;intro g;have hc:=val_cut (l:=U0) (j:=m+1) (fun x hx=>by rw[<- hU0] at hx; exact padD_lt hx) (by omega);have g2:B^(m+1)*V<=B^(m+1)*val (U0.drop (m+1)):=Nat.mul_le_mul_left _ g;have g3:B^(m+1)*(B^(j+1)*2^s)<=B^(m+1)*V:=Nat.mul_le_mul_left _ (by rw[<- hVe]; exact hV3);have g4:B^(m+1)*(B^(j+1)*2^s)=B^La.length*2^s:=by
   rw[<- Nat.mul_assoc,<- Nat.pow_add,hm];congr 2;omega
  rw[hvU] at hc;rw[hA] at g5;rw[g4] at g3;exact Nat.lt_irrefl _ (Nat.lt_of_lt_of_le g5 (Nat.le_trans g3 (Nat.le_trans g2 hc.1)))
theorem drop_rep (m:Nat):(List.replicate (m+1) 0).drop (m+1)=([]:List Nat):=List.drop_eq_nil_of_le (Nat.le_of_eq List.length_replicate)
theorem init_eq {A V W:Nat} {U0 Q:List Nat} (h:val U0=A) (hQ:Q=[]):A=val U0+V*W*val Q:=by
 subst hQ;have e1:val ([]:List Nat)=0:=rfl;rw[e1,h,Nat.mul_zero,Nat.add_zero]
theorem orH {x y:Nat} (hx:x<B) (hy:y<B):IntKind.wrap .u64 (((BitVec.ofInt IntKind.u64.bits (IntKind.wrap .u64 (IntKind.wrap .u64 (x:Int)*2^min 32 IntKind.u64.bits)) ||| BitVec.ofInt IntKind.u64.bits (IntKind.wrap .u64 (y:Int))).toNat:Nat):Int)=((x*B+y:Nat):Int):=by
 have e1:IntKind.wrap .u64 (x:Int)=(x:Int):=by rw[wU,Nat.mod_eq_of_lt (Nat.lt_trans hx (by decide))]
 have e2:IntKind.wrap .u64 (y:Int)=(y:Int):=by rw[wU,Nat.mod_eq_of_lt (Nat.lt_trans hy (by decide))]
 have e3:IntKind.wrap .u64 ((x:Int)*2^min 32 IntKind.u64.bits)=((x*B:Nat):Int):=by
  rw[show (x:Int)*2^min 32 IntKind.u64.bits=((x*B:Nat):Int) by rw[Int.natCast_mul]; rfl,wU,Nat.mod_eq_of_lt (by unfold B at *; omega)]
 rw[e1,e2,e3,BitVec.or_comm,or64 hy hx,Nat.mul_comm B x,Nat.add_comm]
theorem end_facts {a b s A V r q P:Nat} (hA:a*2^s=A) (hV:b*2^s=V) (h:r<V) (hP:P=1) (e:A=r+V*P*q):q=a/b/\r/2^s=a%b:=by
 have h2p:0<2^s:=Nat.pow_pos (by decide);generalize 2^s=t at *
 subst hP;rw[Nat.mul_one] at e;have hVp:0<V:=Nat.lt_of_le_of_lt (Nat.zero_le _) h;have h1:A/V=q:=by rw[e,Nat.add_mul_div_left _ _ hVp,Nat.div_eq_of_lt h,Nat.zero_add]
 have h2:A%V=r:=by rw[e,Nat.add_mul_mod_self_left,Nat.mod_eq_of_lt h]
 rw[<- hA,<- hV] at h1 h2;rw[Nat.mul_div_mul_right _ _ h2p] at h1;rw[Nat.mul_mod_mul_right] at h2;refine⟨h1.symm,?_⟩;rw[<- h2,Nat.mul_div_cancel _ h2p]
theorem orH2 {x y:Nat} (hx:x<B) (hy:y<B):IntKind.wrap .u64 (((BitVec.ofInt IntKind.u64.bits (IntKind.wrap .u64 ((x:Int)*2^min 32 IntKind.u64.bits)) ||| BitVec.ofInt IntKind.u64.bits (IntKind.wrap .u64 (y:Int))).toNat:Nat):Int)=((x*B+y:Nat):Int):=by
 have h:=orH hx hy;rwa [show IntKind.wrap .u64 (x:Int)=(x:Int) by rw[wU,Nat.mod_eq_of_lt (Nat.lt_trans hx (by decide))]] at h
noncomputable def lCode (l:List Bool):Code:=Code.at' (bodyOf f240) l
def longP (m j A V:Nat) (q:List Nat×List Nat×Nat):Prop:=q.1.length=m+(j+2)+1/\q.2.1.length=m+1/\(∀ x∈q.1,x<B)/\(∀ x∈q.2.1,x<B)/\q.2.2<=m+1/\val (q.1.drop q.2.2)<V/\A=val q.1+V*B^q.2.2*val (q.2.1.drop q.2.2)
def longI (m j s:Nat) (Lv:List Nat) (q:List Nat×List Nat×Nat):Inv :=
 { fr:=[(6,i64 s),(7,lst Lv),(8,.own (3,2) (m+(j+2)+1)),(9,.own (4,6) (m+1)),(10,i64 (j+2:Nat)),(11,i64 ((q.2.2:Int)-1))],st:=[((3,2),⟨207,1,q.1.map dg⟩),((4,6),⟨207,1,q.2.1.map dg⟩)],g:=9 }
def longI2 (m j s:Nat) (Lv:List Nat) (q:List Nat×List Nat×Nat):Inv :=
 { fr:=[(6,i64 s),(7,lst Lv),(8,.own (3,2) (m+(j+2)+1)),(9,.own (4,6) (m+1)),(10,i64 (j+2:Nat)),(11,i64 (q.2.2:Int))],st:=[((3,2),⟨207,1,q.1.map dg⟩),((4,6),⟨207,1,q.2.1.map dg⟩)],g:=40 }
def gueI (m j s kk:Nat) (Lv u Qd:List Nat) (g:Nat) (hg:Nat.blt 0 g=true) (q:Nat×Nat):Inv :=
 { fr:=[(6,i64 s),(7,lst Lv),(8,.own (3,2) (m+(j+2)+1)),(9,.own (4,6) (m+1)),(10,i64 (j+2:Nat)),(11,i64 (kk:Int)),(13,u64 q.1),(14,u64 q.2)],st:=[((3,2),⟨207,1,u.map dg⟩),((4,6),⟨207,1,Qd.map dg⟩)],g:=g,pos:=hg }
def gueP (high V1 U V:Nat) (q:Nat×Nat):Prop:=GI high V1 (U/V) q.1 q.2/\q.1<=B+1/\q.2<B
def gueE (high V1 V2 z U V:Nat) (q:Nat×Nat):Prop:=GI high V1 (U/V) q.1 q.2/\q.1<B/\q.1*V2<=q.2*B+z
theorem long_guess {m j s kk V V1 V2 x y z W U:Nat} {Lv u Qd:List Nat} (lu:u.length=m+(j+2)+1) (hk:kk+1<=m+1) (hb:m+(j+2)<=512) (hTop:Top V W U V1 V2 x y z)
  (dv1:(Lv.map dg)[j+1]?=some (dg V1)) (dv2:(Lv.map dg)[j]?=some (dg V2)) (dz:(u.map dg)[kk+j]?=some (dg z)) (Q r:Nat) (g1:GI (x*B+y) V1 (U/V) Q r) (g2:Q<=B+1) (g3:r<B) (K:NPost) :
  Pc prog f240.ntmps (lCode [true,true,true,true,true,true,false,true,false,false,true,false,false,true,true,false,false,false]) (gueI m j s kk Lv u Qd 20 rfl (Q,r)).fr (gueI m j s kk Lv u Qd 20 rfl (Q,r)).st (gueI m j s kk Lv u Qd 20 rfl (Q,r)).g
   (loopP (gueP (x*B+y) V1 U V) (gueI m j s kk Lv u Qd 20 rfl) (fun q=>q.1) (Q,r) (blockP 2 (thenP (wkP (gueE (x*B+y) V1 V2 z U V) (gueI m j s kk Lv u Qd 30 rfl)) K))):=by
 refine pcK ?_;have wk1:IntKind.wrap .i64 ((kk:Int)+((j+2:Nat):Int))=((kk+(j+2):Nat):Int):=by rw[wI] <;> omega
 have wk3:IntKind.wrap .i64 (((kk+(j+2):Nat):Int)-2)=((kk+j:Nat):Int):=by rw[wI] <;> omega
 have wv1:IntKind.wrap .i64 (((j+2:Nat):Int)-1)=((j+1:Nat):Int):=by rw[wI] <;> omega
 have wv2:IntKind.wrap .i64 (((j+2:Nat):Int)-2)=((j:Nat):Int):=by rw[wI] <;> omega
 have eV1:IntKind.wrap .u64 (V1:Int)=(V1:Int):=by rw[wU,Nat.mod_eq_of_lt (Nat.lt_trans hTop.hV1B (by decide))]
 have hzB:=hTop.hz;have hfd:((Q:Int).fdiv (2^min 32 IntKind.u64.bits))=((Q/B:Nat):Int):=by
  show (Q:Int).fdiv 4294967296=_;rw[Int.fdiv_eq_ediv_of_nonneg _ (by decide)];rfl
 conv=>whnf
 refine xK ?_;conv=>whnf
 by_cases hQ:B<=Q
 ·have hb1:((Q:Int).fdiv (2^min 32 IntKind.u64.bits) !=0)=true:=by
   rw[hfd];have:0<Q/B:=Nat.div_pos hQ Bpos;simp;omega
  rw[hb1];conv=>whnf
  have hqlt:=Nat.lt_of_lt_of_le hTop.q hQ;have g1':=guess_step g1 hqlt;have hQp:0<Q:=Nat.lt_of_le_of_lt (Nat.zero_le _) hqlt;have hQ1:IntKind.wrap .u64 ((Q:Int)-1)=((Q-1:Nat):Int):=by
   rw[show ((Q:Int)-1)=((Q-1:Nat):Int) by omega,wU,Nat.mod_eq_of_lt (Nat.lt_of_le_of_lt (Nat.le_trans (Nat.sub_le _ _) g2) (by decide))]
  have hRB:r+V1<18446744073709551616:=Nat.lt_trans (Nat.add_lt_add g3 hTop.hV1B) (by decide);have hR1:IntKind.wrap .u64 ((r:Int)+(V1:Int))=((r+V1:Nat):Int):=by
   rw[<- Int.natCast_add,wU,Nat.mod_eq_of_lt hRB]
  have hfr:(((r+V1:Nat):Int).fdiv (2^min 32 IntKind.u64.bits))=(((r+V1)/B:Nat):Int):=by
   show ((r+V1:Nat):Int).fdiv 4294967296=_;rw[Int.fdiv_eq_ediv_of_nonneg _ (by decide)];rfl
  rw[wv1];refine⟨dg V1,⟨Int.natCast_nonneg _,dv1,rfl,rfl⟩,?_⟩;conv=>whnf
  rw[eV1,hR1,hQ1];refine Br.mk (fun h=>?_) (fun h=>?_)
  ·have hr2:B<=r+V1:=by
    rw[hfr] at h;apply Nat.le_of_not_lt;intro g;rw[Nat.div_eq_of_lt g] at h;exact absurd h (by decide)
   have hQB:=guess_rest g1' hTop.high hr2;have hQc:=guess_brk (u2:=z) g1' hQB hTop.hV2 hr2;conv=>whnf
   refine⟨(Q-1,r+V1),⟨g1',hQB,hQc⟩,?_⟩;exact⟨trivial,⟨x_R,x_R,x_R,x_R,x_R,x_R,x_R,x_R,trivial⟩,⟨.same rfl (ltL_dg _),x_N,x_L⟩,⟨.same rfl (ltL_dg _),x_N,x_L⟩,trivial⟩
  ·have hr2:r+V1<B:=by
    rw[hfr] at h;apply Nat.lt_of_not_le;intro g;have:0<(r+V1)/B:=Nat.div_pos g Bpos;have h1:(r+V1)/B=0:=Int.ofNat.inj (bne_eq_false_iff_eq.1 h);rw[h1] at this;exact Nat.lt_irrefl _ this
   conv=>whnf
   refine⟨(Q-1,r+V1),⟨g1',Nat.le_trans (Nat.sub_le _ _) g2,hr2⟩,?_,Nat.sub_lt hQp (by decide)⟩;exact⟨trivial,⟨x_R,x_R,x_R,x_R,x_R,x_R,x_R,x_R,trivial⟩,⟨.same rfl (ltL_dg _),x_N,x_L⟩,⟨.same rfl (ltL_dg _),x_N,x_L⟩,trivial⟩
 ·have hb1:((Q:Int).fdiv (2^min 32 IntKind.u64.bits) !=0)=false:=by
   rw[hfd,Nat.div_eq_of_lt (by omega)];rfl
  rw[hb1];conv=>whnf
  rw[wv2];refine⟨dg V2,⟨Int.natCast_nonneg _,dv2,rfl,rfl⟩,?_⟩;conv=>whnf
  rw[wk1,wk3];have hm1:IntKind.wrap .u64 ((Q:Int)*IntKind.wrap .u64 (V2:Int))=((Q*V2:Nat):Int):=by
   rw[wU,Nat.mod_eq_of_lt (Nat.lt_trans hTop.hV2 (by decide)),<- Int.natCast_mul,wU,Nat.mod_eq_of_lt];have:Q*V2<=(B-1)*(B-1):=Nat.mul_le_mul (by omega) (by have:=hTop.hV2; omega);exact Nat.lt_of_le_of_lt this (by decide)
  have hm2:=orH2 g3 hzB;obtain⟨g93,hg93⟩:∃ g,IntKind.wrap .u64 ((Q:Int)*IntKind.wrap .u64 (V2:Int))=g:=⟨_,rfl⟩
  obtain⟨g95,hg95⟩:∃ g,IntKind.wrap .u64 ((r:Int)*2^min 32 IntKind.u64.bits)=g:=⟨_,rfl⟩
  obtain⟨zv,hzv⟩:∃ zv:Int,((z:Nat):Int)=zv:=⟨_,rfl⟩
  rw[hg93,hg95];rw[hg95,hzv] at hm2;rw[hg93] at hm1;have dz':(u.map dg)[kk+j]?=some (.lit (.int .u32 zv)):=by rw[dz,<- hzv]; rfl
  refine⟨⟨rfl,rfl⟩,⟨Int.natCast_nonneg _,by omega⟩,?_⟩;conv=>whnf
  refine elA_mk (.lit (.int .u32 zv)) dz' ?_;conv=>whnf
  refine Br.mk (fun h=>?_) (fun h=>?_)
  ·have hc:r*B+z<Q*V2:=by
    rw[hm2,hm1] at h;simp at h;omega
   have hqlt:=hTop.more g1 hc;clear h hc;conv=>whnf
   have g1':=guess_step g1 hqlt;have hQp:0<Q:=Nat.lt_of_le_of_lt (Nat.zero_le _) hqlt;have hQ1:IntKind.wrap .u64 ((Q:Int)-1)=((Q-1:Nat):Int):=by
    rw[show ((Q:Int)-1)=((Q-1:Nat):Int) by omega,wU,Nat.mod_eq_of_lt (Nat.lt_of_le_of_lt (Nat.le_trans (Nat.sub_le _ _) g2) (by decide))]
   have hRB:r+V1<18446744073709551616:=Nat.lt_trans (Nat.add_lt_add g3 hTop.hV1B) (by decide);have hR1:IntKind.wrap .u64 ((r:Int)+(V1:Int))=((r+V1:Nat):Int):=by
    rw[<- Int.natCast_add,wU,Nat.mod_eq_of_lt hRB]
   have hfr:(((r+V1:Nat):Int).fdiv (2^min 32 IntKind.u64.bits))=(((r+V1)/B:Nat):Int):=by
    show ((r+V1:Nat):Int).fdiv 4294967296=_;rw[Int.fdiv_eq_ediv_of_nonneg _ (by decide)];rfl
   rw[wv1];refine⟨dg V1,⟨Int.natCast_nonneg _,dv1,rfl,rfl⟩,?_⟩;conv=>whnf
   rw[eV1,hR1,hQ1];refine Br.mk (fun h=>?_) (fun h=>?_)
   ·have hr2:B<=r+V1:=by
     rw[hfr] at h;apply Nat.le_of_not_lt;intro g;rw[Nat.div_eq_of_lt g] at h;exact absurd h (by decide)
    have hQB:=guess_rest g1' hTop.high hr2;have hQc:=guess_brk (u2:=z) g1' hQB hTop.hV2 hr2;conv=>whnf
    refine⟨(Q-1,r+V1),⟨g1',hQB,hQc⟩,?_⟩;exact⟨trivial,⟨x_R,x_R,x_R,x_R,x_R,x_R,x_R,x_R,trivial⟩,⟨.same rfl (ltL_dg _),x_N,x_L⟩,⟨.same rfl (ltL_dg _),x_N,x_L⟩,trivial⟩
   ·have hr2:r+V1<B:=by
     rw[hfr] at h;apply Nat.lt_of_not_le;intro g;have:0<(r+V1)/B:=Nat.div_pos g Bpos;have h1:(r+V1)/B=0:=Int.ofNat.inj (bne_eq_false_iff_eq.1 h);rw[h1] at this;exact Nat.lt_irrefl _ this
    conv=>whnf
    refine⟨(Q-1,r+V1),⟨g1',Nat.le_trans (Nat.sub_le _ _) g2,hr2⟩,?_,Nat.sub_lt hQp (by decide)⟩;exact⟨trivial,⟨x_R,x_R,x_R,x_R,x_R,x_R,x_R,x_R,trivial⟩,⟨.same rfl (ltL_dg _),x_N,x_L⟩,⟨.same rfl (ltL_dg _),x_N,x_L⟩,trivial⟩
  ·have hQc:Q*V2<=r*B+z:=by
    rw[hm2,hm1] at h;simp at h;omega
   clear h;conv=>whnf
   refine⟨(Q,r),⟨g1,by omega,hQc⟩,?_⟩;exact⟨trivial,⟨x_R,x_R,x_R,x_R,x_R,x_R,x_R,x_R,trivial⟩,⟨.same rfl (ltL_dg _),x_N,x_L⟩,⟨.same rfl (ltL_dg _),x_N,x_L⟩,trivial⟩
end
section
open Go Go.RowKit Go.Proofs.Tryz
theorem long_cont {m j s kk A V V1 V2 x y z W:Nat} {Lv u Qd:List Nat} (hP:longP m j A V (u,Qd,kk+1)) (hb:m+(j+2)<=512) (lLv:Lv.length=j+2) (hvL:val Lv=V) (hVpos:0<V) (hVj:V<B^(j+2)) (hLB:∀ x∈Lv,x<B)
  (hTop:Top V W (val ((u.drop kk).take (j+3))) V1 V2 x y z) (Q' r':Nat) (hE:gueE (x*B+y) V1 V2 z (val ((u.drop kk).take (j+3))) V (Q',r')) (K:NPost) :
  Pc prog f240.ntmps (lCode [true,true,true,true,true,true,false,true,false,false,true,false,false,true,true,true]) (gueI m j s kk Lv u Qd 30 rfl (Q',r')).fr (gueI m j s kk Lv u Qd 30 rfl (Q',r')).st (gueI m j s kk Lv u Qd 30 rfl (Q',r')).g
   (blockP 1 (thenP (wkP (fun q=>q.2.2=kk/\longP m j A V q) (longI2 m j s Lv)) K)):=by
 obtain⟨h1,h2,h3,h4,h5,h6,h7⟩:=hP;obtain⟨g1',hQB,hQc⟩:=hE;dsimp only at h1 h2 h3 h4 h5 h6 h7 g1' hQB hQc;have hVn:V<=B^(j+3):=Nat.le_of_lt (Nat.lt_of_lt_of_le hVj (Nat.pow_le_pow_right Bpos (by omega)));have RE:=round_end (n:=j+3) hTop g1' hQB hQc hVn;have ls:=seg_len h1 h5;have eu:=seg_split (u:=u) (kk:=kk) (n:=j+3);have RI:=fun q hq=>round_inv h1 h2 h5 h3 hVpos hVj h6 h7 (q:=q) hq rfl
 have lp:(u.take kk).length=kk:=by simp; omega
 have hsB:∀ x∈(u.drop kk).take (j+3),x<B:=fun x hx=>h3 x (List.mem_of_mem_drop (List.mem_of_mem_take hx))
 clear hVn h6 h7 hVj g1' hQc hTop h3;obtain⟨seg,hseg⟩:∃ seg,(u.drop kk).take (j+3)=seg:=⟨_,rfl⟩
 obtain⟨pre,hpre⟩:∃ pre,u.take kk=pre:=⟨_,rfl⟩
 obtain⟨post,hpost⟩:∃ post,u.drop (kk+(j+3))=post:=⟨_,rfl⟩
 rw[hseg] at ls hsB RE;rw[hpre] at lp;rw[hseg,hpre,hpost] at eu;simp only[hseg,hpre,hpost] at RI;have wk1:IntKind.wrap .i64 ((kk:Int)+((j+2:Nat):Int))=((kk+(j+2):Nat):Int):=by rw[wI] <;> omega
 have wk4:IntKind.wrap .i64 (IntKind.wrap .i64 ((kk:Int)+((j+2:Nat):Int))+1)=((kk+(j+3):Nat):Int):=by
  rw[wk1,wI (by omega) (by omega)];omega
 have wk5:(((kk+(j+3):Nat):Int)-(kk:Int)).toNat=j+3:=by omega
 have lvC:Lv.length<100000:=by omega
 have lpC:pre.length<100000:=by omega
 have CL:=c_less seg Lv pre post Q' hQB (by omega) hsB hLB lvC lpC;rw[hvL,eu,ls,lp] at CL;refine pcK ?_;conv=>whnf
 rw[wk4];refine⟨⟨rfl,by simp[h1],by omega,by omega,by omega⟩,?_⟩;rw[wk5];conv=>whnf
 by_cases hlt:val seg<Q'*V
 ·rw[decide_eq_true hlt] at CL;obtain⟨e1,e2⟩:=RE.1 hlt;have CB:=c_back (padD (j+3) (lessV (j+3) (val seg) (Q'*V))) Lv pre post (by rw[padD_length]; omega) (fun x hx=>padD_lt hx) hLB lvC lpC;rw[hvL,padD_length,e2,lp] at CB;have hQp:0<Q':=by
   apply Nat.pos_of_ne_zero;intro h0;rw[h0,Nat.zero_mul] at hlt;exact Nat.not_lt_zero _ hlt
  have eQ1:IntKind.wrap .u64 ((Q':Int)-1)=((Q'-1:Nat):Int):=by
   have hl:Q'-1<18446744073709551616:=by unfold B at hQB; omega
   rw[show ((Q':Int)-1)=((Q'-1:Nat):Int) by omega,wU,Nat.mod_eq_of_lt hl]
  have eQ2:IntKind.wrap .u32 ((Q'-1:Nat):Int)=((Q'-1:Nat):Int):=by
   have hl:Q'-1<4294967296:=by unfold B at hQB; omega
   rw[w32,Nat.mod_eq_of_lt hl]
  refine callM [(3,2)] [.osl (0,0) kk (j+3),lst Lv,u64 Q'] [⟨207,1,u.map dg⟩] _ ⟨.osl 0 (3,2) _ _ rfl,.sh _ _ rfl (.refl _),.sh _ _ rfl (.refl _),trivial⟩ ⟨⟨rfl,closedL_dg _⟩,trivial⟩ (by simp) CL rfl ?_;conv=>whnf
  rw[eQ1,wk4];have leu:=congrArg List.length eu;simp only[List.length_append] at leu;refine⟨⟨rfl,by simp[padD_length]; omega,by omega,by omega,by omega⟩,?_⟩;rw[wk5];conv=>whnf
  refine callM [(3,2)] [.osl (0,0) kk (j+3),lst Lv] [⟨207,1,(pre++padD (j+3) (lessV (j+3) (val seg) (Q'*V))++post).map dg⟩] _ ⟨.osl 0 (3,2) _ _ rfl,.sh _ _ rfl (.refl _),trivial⟩ ⟨⟨rfl,closedL_dg _⟩,trivial⟩ (by simp) CB rfl ?_;conv=>whnf
  refine⟨⟨rfl,rfl⟩,⟨Int.natCast_nonneg _,by omega⟩,?_⟩;conv=>whnf
  have hkq:kk<Qd.length:=by omega
  refine elA_mk (dg Qd[kk]) (get_dg hkq) ?_;conv=>whnf
  obtain⟨i1,i2,i3,i4⟩:=RI _ e1;refine⟨(pre++padD (j+3) (val seg%V)++post,Qd.set kk (Q'-1),kk),⟨rfl,i1,by simpa using h2,i2,fun x hx=>?_,by show kk<=m+1; omega,i3,i4⟩,⟨trivial,⟨x_R,x_R,x_R,x_R,x_R,x_R,trivial⟩,⟨.same ?_ (ltL_dg _),x_N,x_L⟩,⟨.same ?_ (ltL_dg _),x_N,x_L⟩,trivial⟩⟩
  ·rcases List.mem_or_eq_of_mem_set hx with hx | hx
   ·exact h4 x hx
   ·show x<B;omega
  ·rfl
  ·refine congrArg (fun z=>some (Row.mk 207 1 z)) ?_;rw[eQ2,Int.toNat_natCast];exact List.map_set.symm
 ·rw[decide_eq_false hlt] at CL;obtain⟨e1,e2⟩:=RE.2 hlt;rw[e2] at CL;have eQ2:IntKind.wrap .u32 (Q':Int)=(Q':Int):=by
   have hl:Q'<4294967296:=by unfold B at hQB; omega
   rw[w32,Nat.mod_eq_of_lt hl]
  refine callM [(3,2)] [.osl (0,0) kk (j+3),lst Lv,u64 Q'] [⟨207,1,u.map dg⟩] _ ⟨.osl 0 (3,2) _ _ rfl,.sh _ _ rfl (.refl _),.sh _ _ rfl (.refl _),trivial⟩ ⟨⟨rfl,closedL_dg _⟩,trivial⟩ (by simp) CL rfl ?_;conv=>whnf
  refine⟨⟨rfl,rfl⟩,⟨Int.natCast_nonneg _,by omega⟩,?_⟩;conv=>whnf
  have hkq:kk<Qd.length:=by omega
  refine elA_mk (dg Qd[kk]) (get_dg hkq) ?_;conv=>whnf
  obtain⟨i1,i2,i3,i4⟩:=RI _ e1;refine⟨(pre++padD (j+3) (val seg%V)++post,Qd.set kk Q',kk),⟨rfl,i1,by simpa using h2,i2,fun x hx=>?_,by show kk<=m+1; omega,i3,i4⟩,⟨trivial,⟨x_R,x_R,x_R,x_R,x_R,x_R,trivial⟩,⟨.same ?_ (ltL_dg _),x_N,x_L⟩,⟨.same ?_ (ltL_dg _),x_N,x_L⟩,trivial⟩⟩
  ·rcases List.mem_or_eq_of_mem_set hx with hx | hx
   ·exact h4 x hx
   ·show x<B;omega
  ·rfl
  ·refine congrArg (fun z=>some (Row.mk 207 1 z)) ?_;rw[eQ2,Int.toNat_natCast];exact List.map_set.symm
end
section
open Go Go.RowKit Go.Proofs.Tryz
theorem long_round {m j s A V:Nat} {Lv:List Nat} (hb:m+(j+2)<=512) (lLv:Lv.length=j+2) (hvL:val Lv=V) (hVpos:0<V) (hVj:V<B^(j+2)) (hLB:∀ x∈Lv,x<B) (V1 V2:Nat) (d1:Lv[j+1]?=some V1) (d2:Lv[j]?=some V2) (hV1:B<=2*V1)
  (q:List Nat×List Nat×Nat) (hq:longP m j A V q) (K:NPost) :
  Pc prog f240.ntmps (lCode [true,true,true,true,true,true,false,true,false,false]) (longI m j s Lv q).fr (longI m j s Lv q).st (longI m j s Lv q).g
   (loopP (longP m j A V) (longI m j s Lv) (fun q=>q.2.2) q (blockP 0 (thenP (wkP (fun q=>q.2.2=0/\longP m j A V q) (longI m j s Lv)) K))):=by
 obtain⟨u,Qd,k⟩:=q;have hP:=hq;obtain⟨h1,h2,h3,h4,h5,h6,h7⟩:=hq;dsimp only at h1 h2 h3 h4 h5 h6 h7;dsimp only[longI];refine .gk ?_;conv=>whnf
 refine Br.mk (fun h=>?_) (fun h=>?_)
 ·obtain⟨kk,rfl⟩:∃ kk,k=kk+1:=⟨k-1,by simp at h; omega⟩
  have ek:(((kk+1:Nat):Int)-1)=(kk:Int):=by omega
  have wk1:IntKind.wrap .i64 ((kk:Int)+((j+2:Nat):Int))=((kk+(j+2):Nat):Int):=by rw[wI] <;> omega
  have wk2:IntKind.wrap .i64 (((kk+(j+2):Nat):Int)-1)=((kk+(j+1):Nat):Int):=by rw[wI] <;> omega
  have wv1:IntKind.wrap .i64 (((j+2:Nat):Int)-1)=((j+1:Nat):Int):=by rw[wI] <;> omega
  obtain⟨x,hx⟩:∃ x,u[kk+(j+2)]?=some x:=⟨u[kk+(j+2)],by simp⟩
  obtain⟨y,hy⟩:∃ y,u[kk+(j+1)]?=some y:=⟨u[kk+(j+1)],by simp⟩
  obtain⟨z,hz⟩:∃ z,u[kk+j]?=some z:=⟨u[kk+j],by simp⟩
  have dx:(u.map dg)[kk+(j+2)]?=some (dg x):=by rw[List.getElem?_map,hx]; rfl
  have dy:(u.map dg)[kk+(j+1)]?=some (dg y):=by rw[List.getElem?_map,hy]; rfl
  have dz:(u.map dg)[kk+j]?=some (dg z):=by rw[List.getElem?_map,hz]; rfl
  have dv1:(Lv.map dg)[j+1]?=some (dg V1):=by rw[List.getElem?_map,d1]; rfl
  have dv2:(Lv.map dg)[j]?=some (dg V2):=by rw[List.getElem?_map,d2]; rfl
  have hTop:=seg_top' h1 h5 h3 hLB lLv hvL hVj h6 d1 d2 hV1 hx hy hz;have hxB:x<B:=h3 x (List.mem_of_getElem? hx);have hyB:y<B:=h3 y (List.mem_of_getElem? hy);have hH:=orH hxB hyB;have eV1:IntKind.wrap .u64 (V1:Int)=(V1:Int):=by rw[wU,Nat.mod_eq_of_lt (Nat.lt_trans hTop.hV1B (by decide))]
  have hV1p:0<V1:=by unfold B at hV1; omega
  have hd1:IntKind.wrap .u64 (((x*B+y:Nat):Int).tdiv (V1:Int))=(((x*B+y)/V1:Nat):Int):=by
   have hle:(x*B+y)/V1<=B+1:=guess_first hV1p hTop.high hV1;rw[show ((x*B+y:Nat):Int).tdiv (V1:Int)=(((x*B+y)/V1:Nat):Int) from rfl,wU,Nat.mod_eq_of_lt (Nat.lt_of_le_of_lt hle (by decide))]
  have hd2:((x*B+y:Nat):Int).tmod (V1:Int)=(((x*B+y)%V1:Nat):Int):=rfl;rw[ek];clear h ek h3 h4 h6 h7 hx hy hz hH;have hH:=orH hxB hyB;conv=>whnf
  refine .cut (fun q=>q.2.2=kk/\longP m j A V q) (longI2 m j s Lv) ?_ ?_
  ·refine .block ?_;refine .gk ?_;conv=>whnf
   refine xK ?_;conv=>whnf
   rw[wk1];refine⟨⟨rfl,rfl⟩,⟨Int.natCast_nonneg _,by omega⟩,?_⟩;conv=>whnf
   refine elA_mk (dg x) dx ?_;conv=>whnf
   rw[wk1,wk2];refine⟨⟨rfl,rfl⟩,⟨Int.natCast_nonneg _,by omega⟩,?_⟩;conv=>whnf
   refine elA_mk (dg y) dy ?_;conv=>whnf
   rw[hH];refine .gk ?_;conv=>whnf
   refine xK ?_;conv=>whnf
   rw[wv1];refine⟨dg V1,⟨Int.natCast_nonneg _,dv1,rfl,rfl⟩,?_⟩;conv=>whnf
   rw[eV1];refine Br.mk (fun h=>?_) (fun h=>?_)
   ·simp at h;omega
   clear h;conv=>whnf
   rw[wv1];refine⟨dg V1,⟨Int.natCast_nonneg _,dv1,rfl,rfl⟩,?_⟩;conv=>whnf
   rw[eV1];refine Br.mk (fun h=>?_) (fun h=>?_)
   ·simp at h;omega
   clear h;conv=>whnf
   rw[hd1,hd2];refine .cut (gueE (x*B+y) V1 V2 z (val ((u.drop kk).take (j+3))) V) (gueI m j s kk Lv u Qd 30 rfl) ?_ ?_
   ·refine .block (.loop (gueP (x*B+y) V1 (val ((u.drop kk).take (j+3))) V) (gueI m j s kk Lv u Qd 20 rfl) (fun q=>q.1) ((x*B+y)/V1,(x*B+y)%V1) ⟨hTop.first,guess_first hV1p hTop.high hV1,Nat.lt_trans (Nat.mod_lt _ hV1p) hTop.hV1B⟩ ?_ ?_)
    ·exact⟨trivial,⟨x_R,x_R,x_R,x_R,x_R,x_R,x_R,x_R,trivial⟩,⟨.same rfl (ltL_dg _),x_N,x_L⟩,⟨.same rfl (ltL_dg _),x_N,x_L⟩,trivial⟩
    ·rintro⟨Q,r⟩ ⟨g1,g2,g3⟩;exact long_guess h1 h5 hb hTop dv1 dv2 dz Q r g1 g2 g3 _
   ·rintro⟨Q',r'⟩ hE;exact long_cont hP hb lLv hvL hVpos hVj hLB hTop Q' r' hE _
  ·rintro⟨u',Qd',k'⟩ ⟨hk',hP'⟩;dsimp only at hk';subst hk';refine pcK ?_;conv=>whnf
   exact⟨(u',Qd',k'),hP',⟨trivial,⟨x_R,x_R,x_R,x_R,x_R,x_E (wI (n:=(k':Int)-1) (by omega) (by omega)),trivial⟩,⟨.same rfl (ltL_dg _),x_N,x_L⟩,⟨.same rfl (ltL_dg _),x_N,x_L⟩,trivial⟩,by show k'<k'+1; omega⟩
 ·have hk0:k=0:=by simp at h; omega
  subst hk0;clear h;conv=>whnf
  exact⟨(u,Qd,0),⟨rfl,hP⟩,⟨trivial,⟨x_R,x_R,x_R,x_R,x_R,x_E rfl,trivial⟩,⟨.same rfl (ltL_dg _),x_N,x_L⟩,⟨.same rfl (ltL_dg _),x_N,x_L⟩,trivial⟩⟩
theorem c_long1 (La Lb:List Nat) (a b j m s t:Nat) (hb0:0<b) (hj:Lb.length=j+2) (hm:La.length=m+(j+2)) (hM:La.length<=512) (s1:s<32)
  (hV:b*2^s<B^(j+2)) (hV2:B^(j+2)<=2*(b*2^s)) (hV3:B^(j+1)*2^s<=b*2^s) (haN:a<B^La.length) (ht:t<B) (gt:(Lb.map dg)[j+1]?=some (dg t)) (haB:a<Big)
  (C1:ACalls prog 271 [dg t] (i64 s)) (C2:ACalls prog 272 [lst Lb,i64 s] (.sl ((padD (j+3) (b*2^s)).map dg)))
  (C3:ACallsO prog 272 [lst La,i64 s] ⟨207,1,(padD (m+(j+2)+1) (a*2^s)).map dg⟩) :
  ACalls prog 240 [lst La,lst Lb] (.tup [nat (a/b),nat (a%b)]):=by
 have hlB:(((Lb.map dg).length:Nat):Int)=((j+2:Nat):Int):=by simp[hj]
 have hlA:(((La.map dg).length:Nat):Int)=((m+(j+2):Nat):Int):=by simp[hm]
 have w1:IntKind.wrap .i64 (((j+2:Nat):Int)-1)=((j+1:Nat):Int):=by rw[wI] <;> omega
 obtain⟨U0,hU0⟩:∃ U0,padD (m+(j+2)+1) (a*2^s)=U0:=⟨_,rfl⟩
 obtain⟨V0,hV0⟩:∃ V0,padD (j+3) (b*2^s)=V0:=⟨_,rfl⟩
 have lU0:U0.length=m+(j+2)+1:=by rw[<- hU0,padD_length]
 have lV0:V0.length=j+3:=by rw[<- hV0,padD_length]
 rw[hU0] at C3;rw[hV0] at C2;have w2:IntKind.wrap .i64 (IntKind.wrap .i64 (((m+(j+2):Nat):Int)-((j+2:Nat):Int))+1)=((m+1:Nat):Int):=by
  rw[wI (n:=((m+(j+2):Nat):Int)-((j+2:Nat):Int)) (by omega) (by omega),wI (by omega) (by omega)];omega
 obtain⟨Lv,hLv⟩:∃ Lv,V0.take (j+2)=Lv:=⟨_,rfl⟩
 have eLv:((V0.map dg).take (((j+2:Nat):Int).toNat)).drop (Int.toNat 0)=Lv.map dg:=by
  rw[<- hLv,<- List.map_take];rfl
 have lLv:Lv.length=j+2:=by rw[<- hLv]; simp; omega
 have w3:IntKind.wrap .i64 ((((m+1:Nat):Int))-1)=((m+1:Nat):Int)-1:=wI (by omega) (by omega);obtain⟨A,hA⟩:∃ A,a*2^s=A:=⟨_,rfl⟩
 obtain⟨V,hVe⟩:∃ V,b*2^s=V:=⟨_,rfl⟩
 obtain⟨hvU,hLB,hvL,hVpos,hV1,hU1⟩:=long_facts hb0 hm s1 hV hV2 hV3 haN hU0 hV0 hLv hA hVe lLv lU0;have hVj:V<B^(j+2):=by rw[<- hVe]; exact hV
 have hP0:longP m j A V (U0,List.replicate (m+1) 0,m+1):=by
  refine⟨lU0,by simp,?_,?_,Nat.le_refl _,hU1,init_eq hvU (drop_rep m)⟩
  ·intro x hx;rw[<- hU0] at hx;exact padD_lt hx
  ·intro x hx;rw[(List.mem_replicate.1 hx).2];exact Bpos
 have hhead:∀ v,(V0.map dg).head?=some v->v.cells.length=(ty 207).size:=fun v hv=>by
  rw[List.head?_map] at hv;cases hq:V0.head? with
  |none=>rw[hq] at hv; cases hv
  |some y=>rw[hq] at hv; cases hv; rfl
 clear hV hV2 hV3 haN hb0 hU0 hV0;refine conP func240 rfl (by kernel_rfl) ?_;refine .gk ?_;conv=>whnf
 refine .gk ?_;conv=>whnf
 rw[hlB,w1];refine⟨dg t,⟨Int.natCast_nonneg _,gt,rfl,rfl⟩,?_⟩;conv=>whnf
 refine cE C1 ?_;conv=>whnf
 refine .gk ?_;conv=>whnf
 refine cE C2 ?_;conv=>whnf
 refine⟨⟨by omega,by omega,by simp; omega,by simp,hhead⟩,?_⟩;conv=>whnf
 refine .gk ?_;conv=>whnf
 refine callO C3 rfl ?_;conv=>whnf
 refine .gk ?_;conv=>whnf
 rw[hlA,hlB,w2];refine⟨⟨Int.natCast_nonneg _,rfl,by simp only[lenLim]; omega⟩,?_⟩;conv=>whnf
 refine .gk ?_;conv=>whnf
 refine .cut (fun q=>q.2.2=0/\longP m j A V q) (longI m j s Lv) ?_ ?_
 ·refine .gk ?_;conv=>whnf
  refine .block (.loop (longP m j A V) (longI m j s Lv) (fun q=>q.2.2) (U0,List.replicate (m+1) 0,m+1) hP0 ?_ fun q hq=>long_round (by omega) lLv hvL hVpos hVj hLB Lv[j+1] Lv[j] (by simp) (by simp) hV1 q hq _);refine⟨trivial,⟨x_R,.inl ⟨.of_eq (congrArg AV.sl eLv),rfl⟩,.inl ⟨.of_eq ?_,rfl⟩,.inl ⟨.of_eq ?_,rfl⟩,.inl ⟨.of_eq ?_,rfl⟩,.inl ⟨.of_eq ?_,rfl⟩,trivial⟩,⟨.same rfl (ltL_dg _),x_N,x_L⟩,⟨.same ?_ (ltL_dg _),x_N,x_L⟩,trivial⟩
  ·exact congrArg (AV.own (3,2)) (by simp[lU0])
  ·exact congrArg (AV.own (4,6)) rfl
  ·refine congrArg i64 ?_;show ((((V0.map dg).take (((j+2:Nat):Int).toNat)).drop (Int.toNat 0)).length:Int)=_;rw[eLv,List.length_map,lLv]
  ·exact congrArg i64 w3
  ·refine congrArg (fun z=>some (Row.mk 207 1 z)) ?_;show List.replicate (m+1) (dg 0)=(List.replicate (m+1) 0).map dg;rw[List.map_replicate]
 ·rintro⟨u,Qd,k⟩ ⟨hk0,h1,h2,h3,h4,h5,h6,h7⟩;dsimp only at hk0 h1 h2 h3 h4 h5 h6 h7;subst hk0;have hE:=end_facts hA hVe h6 rfl h7;have h6':val u<V:=h6;have huB:val u<Big:=lt_Big.2 (by
   have:val u<B^(j+2):=Nat.lt_trans h6' hVj;have:=length_digs_le.2 this;omega)
  have Ct:=c_trim u h3 (by omega);have Cr:=c_Right (val u) s huB (by omega);have Cq:=c_trim Qd h4 (by omega);refine pcK ?_;conv=>whnf
  refine callL [(3,2)] [lst u] ⟨⟨_,rfl⟩,trivial⟩ ⟨.own2 (.head _) rfl (by simp[h1]) (closedL_dg _) rfl,trivial⟩ Ct rfl ?_;conv=>whnf
  refine cE Cr ?_;conv=>whnf
  refine callL [(4,6)] [lst Qd] ⟨⟨_,rfl⟩,trivial⟩ ⟨.own2 (.head _) rfl (by simp[h2]) (closedL_dg _) rfl,trivial⟩ Cq rfl ?_;conv=>whnf
  exact⟨fin rfl (congrArg nat hE.1),fin rfl (congrArg nat hE.2),trivial⟩
end
section
open Go Go.RowKit Go.Proofs.Tryz
theorem c_long (a b:Nat) (ha:a<Big) (hb:b<Big) (h2:2<=(digs b).length) (hle:(digs b).length<=(digs a).length):ACalls prog 240 [nat a,nat b] (.tup [nat (a/b),nat (a%b)]):=by
 obtain⟨j,hj⟩:∃ j,(digs b).length=j+2:=⟨(digs b).length-2,by omega⟩
 obtain⟨m,hm⟩:∃ m,(digs a).length=m+(j+2):=⟨(digs a).length-(j+2),by omega⟩
 have hM:=lt_Big.1 ha;have hjl:j+1<(digs b).length:=by omega
 obtain⟨s,hs⟩:∃ s,32-blen (digs b)[j+1]=s:=⟨_,rfl⟩
 obtain⟨s1,s2,s3,s4⟩:=norm_facts (n:=j+1) hj hs;have hb0:0<b:=by
  apply Nat.pos_of_ne_zero;intro h;rw[h,digs_zero] at hj;cases hj
 have htB:(digs b)[j+1]<B:=digs_lt (List.getElem_mem _);have C1:=c_LeadingZeros32 (digs b)[j+1] htB;rw[hs] at C1;have C2:=(c_moved (digs b) s (by omega) (fun x hx=>digs_lt hx) s1).sh;have C3:=c_moved (digs a) s (by omega) (fun x hx=>digs_lt hx) s1;rw[val_digs,hj] at C2;rw[val_digs,hm] at C3;exact c_long1 (digs a) (digs b) a b j m s _ hb0 hj hm hM s1 s2 s3 s4 (length_digs_le.1 (Nat.le_refl _)) htB (get_dg hjl) ha C1 C2 C3
theorem digs_one {b:Nat} (h:(digs b).length=1):digs b=[b]/\0<b/\b<B:=by
 have hb:b<B^1:=length_digs_le.1 (Nat.le_of_eq h);rw[Nat.pow_one] at hb;have h0:b≠0:=by
  intro e;rw[e,digs_zero] at h;cases h
 refine⟨?_,Nat.pos_of_ne_zero h0,hb⟩;rw[digs_pos h0,Nat.mod_eq_of_lt hb,Nat.div_eq_of_lt hb,digs_zero]
theorem c_Div (a b:Nat) (ha:a<Big) (hb:b<Big) (h0:b≠0):ACalls prog 182 [nat a,nat b] (.tup [nat (a/b),nat (a%b),i64 0]):=by
 have hl0:(digs b).length≠0:=fun h=>h0 (digs_eq_nil.1 (List.length_eq_zero_iff.1 h))
 have hlen:(((digs b).map dg).length:Int)=((digs b).length:Int):=by simp
 have C1:=c_Compare a b ha hb;refine conN func182 rfl (by kernel_rfl) ?_;conv=>whnf
 refine Br.mk (fun h=>?_) (fun h=>?_)
 ·rw[hlen] at h;simp at h;exact absurd (by rw[h]; rfl) hl0
 clear h;conv=>whnf
 by_cases hab:a<b
 ·rw[show cmpN a b=-1 by unfold cmpN; rw[if_pos hab]] at C1;refine cE C1 ?_;conv=>whnf
  refine cE (c_Clone a ha) ?_;conv=>whnf
  rw[Nat.div_eq_of_lt hab,Nat.mod_eq_of_lt hab];exact⟨.sh _ _ rfl le_nil,fin rfl rfl,fin rfl rfl,trivial⟩
 obtain⟨c,hc,hc0⟩:∃ c,cmpN a b=c/\¬ c<0:=⟨_,rfl,by unfold cmpN; rw[if_neg hab]; split <;> decide⟩
 rw[hc] at C1;refine cE C1 ?_;conv=>whnf
 refine Br.mk (fun h=>?_) (fun h=>?_)
 ·exact absurd (of_decide_eq_true h) hc0
 clear h;conv=>whnf
 by_cases h1:(digs b).length=1
 ·obtain⟨e1,e2,e3⟩:=digs_one h1;refine Br.mk (fun h=>?_) (fun h=>?_)
  ·clear h;conv=>whnf
   refine⟨dg b,⟨by omega,by rw[e1]; rfl,rfl,rfl⟩,?_⟩;conv=>whnf
   refine cE (c_short a b ha e2 e3) ?_;conv=>whnf
   have hr:a%b<18446744073709551616:=Nat.lt_trans (Nat.lt_trans (Nat.mod_lt _ e2) e3) (by decide);have C2:=c_Of (a%b) hr;have e4:IntKind.wrap .u64 ((a%b:Nat):Int)=((a%b:Nat):Int):=by rw[wU,Nat.mod_eq_of_lt hr]
   rw[e4];refine cE C2 ?_;conv=>whnf
   exact⟨fin rfl rfl,fin rfl rfl,fin rfl rfl,trivial⟩
  ·rw[hlen,h1] at h;exact absurd h (by decide)
 ·refine Br.mk (fun h=>?_) (fun h=>?_)
  ·rw[hlen] at h;simp at h;omega
  ·clear h;conv=>whnf
   have hle:(digs b).length<=(digs a).length:=length_digs_le.2 (Nat.lt_of_le_of_lt (Nat.le_of_not_lt hab) (length_digs_le.1 (Nat.le_refl _)));refine callS (c_long a b ha hb (by omega) hle) rfl rfl ?_;conv=>whnf
   exact⟨fin rfl rfl,fin rfl rfl,fin rfl rfl,trivial⟩
end
end Go.Proofs.YtjdkdcmpifapeaaGreatDoor.Abs
