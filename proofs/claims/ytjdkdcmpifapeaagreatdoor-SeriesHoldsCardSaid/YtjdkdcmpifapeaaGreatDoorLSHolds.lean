/- SeriesHolds: for every input the law returns true, and each argument reads afterwards as it read before. Conditions: the listed variables of the library hold what their text lays (tied by the card). -/
import Derived.Test.YtjdkdcmpifapeaaGreatDoorNh
import Derived.Test.YtjdkdcmpifapeaaGreatDoorMw
import Derived.Test.YtjdkdcmpifapeaaGreatDoorMn
set_option linter.unusedVariables false
set_option linter.unusedSectionVars false
set_option linter.unusedSimpArgs false
set_option maxHeartbeats 4000000
set_option maxRecDepth 20000
set_option exponentiation.threshold 20000
namespace Go.Proofs.YtjdkdcmpifapeaaGreatDoor.Abs
open Go Go.RowKit Go.Proofs.Tryz
attribute [local irreducible] mMake mTwice mTimes mHolds mScale mPlus mNear mOne mNorm qMul
theorem shol_bad (n:Int) (l:List RawQ) (t:RawQ) {es:List AV} (C:ACalls prog 25 [i64 n,slv l,rawv t] (.tup [.sl es,boo false])):ACalls prog 4 [i64 n,slv l,rawv t] (boo true):=by
 refine conN func4 rfl (by kernel_rfl) ?_;conv=>whnf
 refine callS c_grows rfl rfl ?_;conv=>whnf
 refine callS C rfl rfl ?_;conv=>whnf
 exact fin rfl rfl
theorem shol_go {k:Nat} {l:List RawQ} {tq:FQ} (h:In3 k (TabQ k l) tq) (C:ACalls prog 25 [i64 (k:Nat),slv l,rat tq.q] (.tup [lT (TabQ k l),boo true])):ACalls prog 4 [i64 (k:Nat),slv l,rat tq.q] (boo true):=by
 obtain⟨T,hT⟩:∃ T,TabQ k l=T:=⟨_,rfl⟩
 rw[hT] at h C;have T6:Six T:=⟨by rw[h.sq.1]; have:=h.k3; omega,h.sq.rows6 (by have:=h.k3; omega)⟩
 obtain⟨m,N,rest,less,hl,el,z1,z2,hc⟩:=left_all h;have k3:=h.k3;have CM:=c_mScale T tq T6.1 T6.2;rw[hl.sc] at CM;have CN:=c_mNorm m hl.m6.1 hl.m6.2;rw[hl.nm] at CN;have CL:=c_left13 hl.n0 hl.nz hl.n6 hl.rq;have CQ:=c_qMul rest tq;rw[hl.lq] at CQ;have mk:∀ b:Nat,b=16\/b=60->∃ p,mMake T tq b=.ok p:=fun b hb=>by
  obtain⟨p,p1,_⟩:=made (b:=b) (by omega) (by omega) h.k1 k3 h.sq (fun r hr=>(h.sz r hr).mono (by omega) (by omega)) (h.st.mono (by omega) (by omega)) h.nn (fun i hi=>Rat.le_trans (h.row i hi) (by decide +kernel));exact⟨p,p1⟩
 by_cases hb:8000<blen (uN T tq)*24
 ·have CS:=c_sums h (R:=.tup [.sl [],.sl [],boo false]) (fun _=>rfl) (fun q=>absurd hb (by omega));obtain⟨j1,M1⟩:=c_mMake T tq 16 T6;obtain⟨p,e1⟩:=mk 16 (.inl rfl);change mMake T tq 16=.ok p at e1;rw[e1] at M1;refine conP func4 rfl (by kernel_rfl) ?_;repeat ((first | refine .goF rfl (by kernel_rfl) ?_ | refine .endF rfl (by kernel_rfl) ?_ | refine callE c_grows rfl rfl ?_ | refine callE C rfl rfl ?_ | refine⟨by kernel_rfl,?_⟩ | rw[decide_eq_true (by omega)] | rw[decide_eq_false (by omega)] | fail); conv=>whnf)
  refine .cut (fun _:Unit=>False) (fun _=>{ fr:=[],st:=[],g:=9 }) ?_ ?_
  ·repeat ((first | refine .goF rfl (by kernel_rfl) ?_ | refine .endF rfl (by kernel_rfl) ?_ | refine⟨by kernel_rfl,?_⟩ | rw[decide_eq_true (by omega)] | rw[decide_eq_false (by omega)] | fail); conv=>whnf)
   refine .block (.loop (fun i:Nat=>i=0) (fun i=>{ fr:=[(5,.ptr (0,0) 0 0),(7,lT T),(35,.own (4,0) 2),(36,i64 2),(37,i64 (i:Nat))],st:=[((0,0),⟨28,3,[rat tq.q]⟩),((4,0),⟨3,1,[i64 16,i64 60]⟩)],g:=9 }) (fun i=>2-i) 0 rfl ?_ ?_)
   ·repeat' (first | exact trivial | exact .inl ⟨.refl _,rfl⟩ | exact⟨.same rfl rfl,x_N ,Nat.le_of_ble_eq_true rfl⟩ | exact⟨_,rfl⟩ | exact .inl ⟨.of_eq (congrArg i64 (Eq.trans (wI (by omega) (by omega)) (by omega))),rfl⟩ | exact rfl | exact x_N | exact Nat.le_of_ble_eq_true rfl | refine⟨?_,?_⟩ | fail)
   rintro i rfl;dsimp only;repeat ((first | refine .goF rfl (by kernel_rfl) ?_ | refine .endF rfl (by kernel_rfl) ?_ | refine callE M1 rfl rfl ?_ | refine callE CM rfl rfl ?_ | refine callE CN rfl rfl ?_ | refine callE CS rfl rfl ?_ | refine callE CL rfl rfl ?_ | refine callE CQ rfl rfl ?_ | refine⟨by kernel_rfl,?_⟩ | rw[decide_eq_true (by omega)] | rw[decide_eq_false (by omega)] | fail); conv=>whnf)
   refine .gk ?_;conv=>whnf
   repeat ((first | refine .goF rfl (by kernel_rfl) ?_ | refine .endF rfl (by kernel_rfl) ?_ | refine callE M1 rfl rfl ?_ | refine callE CM rfl rfl ?_ | refine callE CN rfl rfl ?_ | refine callE CS rfl rfl ?_ | refine callE CL rfl rfl ?_ | refine callE CQ rfl rfl ?_ | refine⟨⟨rfl,rfl⟩,⟨by decide,by decide⟩,?_⟩ | refine⟨i64 16,rfl,?_⟩ | refine⟨by kernel_rfl,?_⟩ | rw[decide_eq_true (by omega)] | rw[decide_eq_false (by omega)] | fail); conv=>whnf)
   exact fin rfl rfl
  ·rintro⟨⟩ q;exact q.elim
 ·have hU:uN T tq<2^333:=blen_le.1 (by omega);obtain⟨two,hs⟩:=sum_T h hU;have CS:=c_sums h (R:=.tup [lT (one13 T tq),lT two,boo true]) (fun q=>absurd q hb) (fun _=>⟨two,hs,rfl⟩);obtain⟨j1,M1⟩:=c_mMake T tq 16 T6;obtain⟨j2,M2⟩:=c_mMake T tq 60 T6;obtain⟨p,e1,q1,q2,q3,q4⟩:=hold13_T (b:=16) (.inl rfl) h hs hl el z1 z2 hc;obtain⟨r,e2,r1,r2,r3,r4⟩:=hold13_T (b:=60) (.inr rfl) h hs hl el z1 z2 hc;change mMake T tq 16=.ok p at e1;change mMake T tq 60=.ok r at e2;rw[e1] at M1;rw[e2] at M2;have A1:=c_meets (by omega) p.1 (one13 T tq) rest q1 hs.ol q3;have A2:=c_meets (by omega) p.2 two less q2 hs.tl q4;have A3:=c_meets (by omega) r.1 (one13 T tq) rest r1 hs.ol r3;have A4:=c_meets (by omega) r.2 two less r2 hs.tl r4;obtain⟨one,ho⟩:∃ o,one13 T tq=o:=⟨_,rfl⟩
  rw[ho] at CS A1 A3;clear q3 q4 r3 r4 q1 q2 r1 r2 hs hc z1 z2 el mk hl hT ho;refine conP func4 rfl (by kernel_rfl) ?_;repeat ((first | refine .goF rfl (by kernel_rfl) ?_ | refine .endF rfl (by kernel_rfl) ?_ | refine callE c_grows rfl rfl ?_ | refine callE C rfl rfl ?_ | refine⟨by kernel_rfl,?_⟩ | rw[decide_eq_true (by omega)] | rw[decide_eq_false (by omega)] | fail); conv=>whnf)
  refine .cut (fun _:Unit=>True) (fun _=>{ fr:=[],st:=[],g:=9 }) ?_ ?_
  ·repeat ((first | refine .goF rfl (by kernel_rfl) ?_ | refine .endF rfl (by kernel_rfl) ?_ | refine⟨by kernel_rfl,?_⟩ | rw[decide_eq_true (by omega)] | rw[decide_eq_false (by omega)] | fail); conv=>whnf)
   refine .block (.loop (fun i:Nat=>i<=2) (fun i=>{ fr:=[(5,.ptr (0,0) 0 0),(7,lT T),(35,.own (4,0) 2),(36,i64 2),(37,i64 (i:Nat))],st:=[((0,0),⟨28,3,[rat tq.q]⟩),((4,0),⟨3,1,[i64 16,i64 60]⟩)],g:=9 }) (fun i=>2-i) 0 (Nat.zero_le _) ?_ ?_)
   ·repeat' (first | exact trivial | exact .inl ⟨.refl _,rfl⟩ | exact⟨.same rfl rfl,x_N ,Nat.le_of_ble_eq_true rfl⟩ | exact⟨_,rfl⟩ | exact .inl ⟨.of_eq (congrArg i64 (Eq.trans (wI (by omega) (by omega)) (by omega))),rfl⟩ | exact rfl | exact x_N | exact Nat.le_of_ble_eq_true rfl | refine⟨?_,?_⟩ | fail)
   intro i hi;have hi3:i=0\/i=1\/i=2:=by omega
   rcases hi3 with rfl | rfl | rfl
   ·dsimp only;repeat ((first | refine .goF rfl (by kernel_rfl) ?_ | refine .endF rfl (by kernel_rfl) ?_ | refine⟨by kernel_rfl,?_⟩ | rw[decide_eq_true (by omega)] | rw[decide_eq_false (by omega)] | fail); conv=>whnf)
    refine .cut (fun _:Unit=>True) (fun _=>{ fr:=[(5,.ptr (0,0) 0 0),(7,lT T),(35,.own (4,0) 2),(36,i64 2),(37,i64 (0:Nat))],st:=[((0,0),⟨28,3,[rat tq.q]⟩),((4,0),⟨3,1,[i64 16,i64 60]⟩)],g:=60 }) ?_ ?_
    ·refine .block ?_;repeat ((first | refine .goF rfl (by kernel_rfl) ?_ | refine .endF rfl (by kernel_rfl) ?_ | refine callE M1 rfl rfl ?_ | refine callE CM rfl rfl ?_ | refine callE CN rfl rfl ?_ | refine callE CS rfl rfl ?_ | refine callE CL rfl rfl ?_ | refine callE CQ rfl rfl ?_ | refine callE A1 rfl rfl ?_ | refine callE A2 rfl rfl ?_ | refine⟨⟨rfl,rfl⟩,⟨by decide,by decide⟩,?_⟩ | refine⟨i64 16,rfl,?_⟩ | refine⟨by kernel_rfl,?_⟩ | rw[decide_eq_true (by omega)] | rw[decide_eq_false (by omega)] | fail); conv=>whnf)
     refine⟨(),trivial,?_⟩;repeat' (first | exact trivial | exact .inl ⟨.refl _,rfl⟩ | exact⟨.same rfl rfl,x_N ,Nat.le_of_ble_eq_true rfl⟩ | exact⟨_,rfl⟩ | exact .inl ⟨.of_eq (congrArg i64 (Eq.trans (wI (by omega) (by omega)) (by omega))),rfl⟩ | exact rfl | exact x_N | exact Nat.le_of_ble_eq_true rfl | refine⟨?_,?_⟩ | fail)
    ·rintro⟨⟩ _;repeat ((first | refine .goF rfl (by kernel_rfl) ?_ | refine .endF rfl (by kernel_rfl) ?_ | refine⟨by kernel_rfl,?_⟩ | rw[decide_eq_true (by omega)] | rw[decide_eq_false (by omega)] | fail); conv=>whnf)
     refine⟨1,by omega,?_,by show 2-1<2-0; omega⟩;repeat' (first | exact trivial | exact .inl ⟨.refl _,rfl⟩ | exact⟨.same rfl rfl,x_N ,Nat.le_of_ble_eq_true rfl⟩ | exact⟨_,rfl⟩ | exact .inl ⟨.of_eq (congrArg i64 (Eq.trans (wI (by omega) (by omega)) (by omega))),rfl⟩ | exact rfl | exact x_N | exact Nat.le_of_ble_eq_true rfl | refine⟨?_,?_⟩ | fail)
   ·dsimp only;repeat ((first | refine .goF rfl (by kernel_rfl) ?_ | refine .endF rfl (by kernel_rfl) ?_ | refine⟨by kernel_rfl,?_⟩ | rw[decide_eq_true (by omega)] | rw[decide_eq_false (by omega)] | fail); conv=>whnf)
    refine .cut (fun _:Unit=>True) (fun _=>{ fr:=[(5,.ptr (0,0) 0 0),(7,lT T),(35,.own (4,0) 2),(36,i64 2),(37,i64 (1:Nat))],st:=[((0,0),⟨28,3,[rat tq.q]⟩),((4,0),⟨3,1,[i64 16,i64 60]⟩)],g:=60 }) ?_ ?_
    ·refine .block ?_;repeat ((first | refine .goF rfl (by kernel_rfl) ?_ | refine .endF rfl (by kernel_rfl) ?_ | refine callE M2 rfl rfl ?_ | refine callE CM rfl rfl ?_ | refine callE CN rfl rfl ?_ | refine callE CS rfl rfl ?_ | refine callE CL rfl rfl ?_ | refine callE CQ rfl rfl ?_ | refine callE A3 rfl rfl ?_ | refine callE A4 rfl rfl ?_ | refine⟨⟨rfl,rfl⟩,⟨by decide,by decide⟩,?_⟩ | refine⟨i64 60,rfl,?_⟩ | refine⟨by kernel_rfl,?_⟩ | rw[decide_eq_true (by omega)] | rw[decide_eq_false (by omega)] | fail); conv=>whnf)
     refine⟨(),trivial,?_⟩;repeat' (first | exact trivial | exact .inl ⟨.refl _,rfl⟩ | exact⟨.same rfl rfl,x_N ,Nat.le_of_ble_eq_true rfl⟩ | exact⟨_,rfl⟩ | exact .inl ⟨.of_eq (congrArg i64 (Eq.trans (wI (by omega) (by omega)) (by omega))),rfl⟩ | exact rfl | exact x_N | exact Nat.le_of_ble_eq_true rfl | refine⟨?_,?_⟩ | fail)
    ·rintro⟨⟩ _;repeat ((first | refine .goF rfl (by kernel_rfl) ?_ | refine .endF rfl (by kernel_rfl) ?_ | refine⟨by kernel_rfl,?_⟩ | rw[decide_eq_true (by omega)] | rw[decide_eq_false (by omega)] | fail); conv=>whnf)
     refine⟨2,by omega,?_,by show 2-2<2-1; omega⟩;repeat' (first | exact trivial | exact .inl ⟨.refl _,rfl⟩ | exact⟨.same rfl rfl,x_N ,Nat.le_of_ble_eq_true rfl⟩ | exact⟨_,rfl⟩ | exact .inl ⟨.of_eq (congrArg i64 (Eq.trans (wI (by omega) (by omega)) (by omega))),rfl⟩ | exact rfl | exact x_N | exact Nat.le_of_ble_eq_true rfl | refine⟨?_,?_⟩ | fail)
   ·dsimp only;repeat ((first | refine .goF rfl (by kernel_rfl) ?_ | refine .endF rfl (by kernel_rfl) ?_ | refine⟨by kernel_rfl,?_⟩ | rw[decide_eq_true (by omega)] | rw[decide_eq_false (by omega)] | fail); conv=>whnf)
    refine⟨(),trivial,?_⟩;repeat' (first | exact trivial | exact .inl ⟨.refl _,rfl⟩ | exact⟨.same rfl rfl,x_N ,Nat.le_of_ble_eq_true rfl⟩ | exact⟨_,rfl⟩ | exact .inl ⟨.of_eq (congrArg i64 (Eq.trans (wI (by omega) (by omega)) (by omega))),rfl⟩ | exact rfl | exact x_N | exact Nat.le_of_ble_eq_true rfl | refine⟨?_,?_⟩ | fail)
  ·rintro⟨⟩ _;repeat ((first | refine .goF rfl (by kernel_rfl) ?_ | refine .endF rfl (by kernel_rfl) ?_ | refine⟨by kernel_rfl,?_⟩ | rw[decide_eq_true (by omega)] | rw[decide_eq_false (by omega)] | fail); conv=>whnf)
   exact fin rfl rfl
theorem seriesHolds_c:∀ avs,RdArgs prog 9 f4.params.toList avs->ACalls prog 4 avs (.lit (.bool true)):=by
 intro avs h;obtain⟨n,l,t,rfl,hl,ht⟩:=rd_three3 (f:=4) h;rcases c_table n l t hl ht with ⟨es,C⟩ | ⟨k,tq,hi,C⟩
 ·exact shol_bad n l t C
 ·obtain rfl:=hi.nk;have e:rawv t=rat tq.q:=by rw[<- hi.q,rawv_rawQ]; rfl
  rw[e] at C ⊢;exact shol_go hi.in3 C
end Go.Proofs.YtjdkdcmpifapeaaGreatDoor.Abs
set_option linter.unusedVariables false
namespace Go.Proofs.YtjdkdcmpifapeaaGreatDoor.Abs
open Go Go.RowKit Go.ChangeShapes Go.WideShapes Go.ChangeAt Go.Proofs.Tryz
theorem seriesHolds_laid {W:World} (h:laidMetH prog Rows.seriesHoldsRow.laid W):GOk (fun b=>b<W.heap.size) W :=
 gok_of_tab (Lib.tabIs_of_head gDb gDbT underlying358 underlying5 cU8 cDb h)
theorem seriesHolds_met (os:Os):laidMet prog Rows.seriesHoldsRow.laid ((laidWorld os).forCall (fun _ _=>0) ⟨#[],#[.int .i64 0,.slice none 0 0,.agg #[.bool false,.slice none 0 0,.slice none 0 0]],[]⟩).memory :=
 laidMet_of_run' 8 (by kernel_rfl) (by kernel_rfl)
theorem seriesHolds_reads (os:Os) {H:Type} (enc:TypeId×Value->H):∃ x places,DataW.whole enc prog ((laidWorld os).forCall (fun _ _=>0) ⟨#[],#[.int .i64 0,.slice none 0 0,.agg #[.bool false,.slice none 0 0,.slice none 0 0]],[]⟩).memory f4.params.toList Rows.seriesHoldsSpec.vars false (#[.int .i64 0,.slice none 0 0,.agg #[.bool false,.slice none 0 0,.slice none 0 0]]:Array Value).toList 8=some (x,[],places) :=
 ⟨[.lit (.int .i64 0),.nil,.agg [.agg [.lit (.bool false),.nil],.nil]],[],by kernel_rfl⟩
set_option maxRecDepth 100000 in
theorem seriesHolds_lifted (os:Os) (started:os.Started) (H:Type) (enc:TypeId×Value->H) (F:Stop.Interp) :
  ReturnsInHanded {} checked os 4 .any ((OpenSpec.ofChange Rows.seriesHoldsSpec).preRow enc prog f4 Rows.seriesHoldsRow.domain false Rows.seriesHoldsRow.laid) (((OpenSpec.ofChange Rows.seriesHoldsSpec).at F).post enc prog f4 false true false false):=by
 obtain⟨x,places,hx⟩:=seriesHolds_reads os enc;refine returnsInHanded_of_row (C:=checked) (s:=OpenSpec.ofChange Rows.seriesHoldsSpec) ownK started (by kernel_rfl) func4
  (witness_row_at (enc:=enc) (C:=checked) false (laidWorld os) #[.int .i64 0,.slice none 0 0,.agg #[.bool false,.slice none 0 0,.slice none 0 0]] rfl (by kernel_rfl) (by kernel_rfl) (by kernel_rfl)
   (OpenSpec.preRow_of_cond 8 hx (by kernel_rfl) (fun k hk=>by cases hk) (by kernel_rfl) (seriesHolds_met os))) ?_
 intro W base args ds gs before hval hW _ _ _ hL _ _;exact bridge (n:=9) laidOutP (by kernel_rfl) rfl (fun ds hd=>by
  match ds,hd with
  |[_,_,_],_=>rfl) rfl underlying4 seriesHolds_c hval hW (seriesHolds_laid hL)
theorem seriesHolds_f1:Tryz.pinned.checked.prog.inPlace 4=Rows.seriesHoldsRow.inPlace:=by kernel_rfl
theorem seriesHolds_f2:Tryz.pinned.checked.prog.unfollowed 4=Rows.seriesHoldsRow.unfollowed:=by kernel_rfl
theorem seriesHolds_f3:Tryz.pinned.checked.prog.recurses 4=Rows.seriesHoldsRow.recurses:=by kernel_rfl
theorem seriesHolds_f4:Tryz.pinned.checked.prog.varsNamed 4=Rows.seriesHoldsRow.named:=by kernel_rfl
theorem seriesHolds_named:Tryz.pinned.checked.prog.funcNamed Rows.seriesHoldsRow.func=some 4:=by kernel_rfl
theorem seriesHolds_closed:joinedFacts Tryz.pinned.checked.prog 4 f4 (OpenSpec.ofChange Rows.seriesHoldsSpec).bare Rows.seriesHoldsRow=true:=by
 unfold joinedFacts;rw[seriesHolds_f1,seriesHolds_f2,seriesHolds_f3,seriesHolds_f4];kernel_rfl
theorem seriesHolds_said:Rows.SeriesHoldsSaid :=
 OpenClaim.holds_of_cond 4 f4 rfl rfl rfl rfl rfl rfl rfl ⟨rfl,rfl,rfl,rfl,rfl⟩ rfl rfl rfl rfl rfl seriesHolds_named func4 seriesHolds_closed
  (of_decide_eq_true (by kernel_rfl)) (by unfold Func.isWrapper; first | (rw[if_pos (by decide +kernel)]; kernel_rfl) | (rw[if_neg (by decide +kernel)]; exact⟨rfl,rfl⟩))
  (fun os started H enc _ F=>by rw[OpenClaim.pre_eq_preRow]; exact seriesHolds_lifted os started H enc F)
theorem seriesHolds_plain (f:FuncId) (fn:Func) (hf:Tryz.pinned.checked.prog.funcNamed "girdle/girdlelaw13.SeriesHolds"=some f) (hfn:Tryz.pinned.checked.prog.funcs[f]?=some fn) :
  false=Tryz.pinned.checked.prog.looks []/\∀ (j:Nat) t,fn.params[j]?=some t->Tryz.pinned.checked.prog.wantsStandIn t=false:=by
 obtain rfl:f=4:=Option.some.inj ((show prog.funcNamed "girdle/girdlelaw13.SeriesHolds"=some 4 by kernel_rfl).symm.trans hf) |>.symm
 obtain rfl:fn=f4:=(Option.some.inj (func4.symm.trans hfn)).symm;refine⟨by kernel_rfl,fun j t ht=>?_⟩;have hall:(f4.params.toList.all fun u=>!prog.wantsStandIn u)=true:=by kernel_rfl
 exact (show prog.wantsStandIn t=false by simpa using List.all_eq_true.1 hall t (by simpa using Array.mem_of_getElem? ht))
end Go.Proofs.YtjdkdcmpifapeaaGreatDoor.Abs
namespace Go.Proofs.YtjdkdcmpifapeaaGreatDoor
open Go Go.Proofs.YtjdkdcmpifapeaaGreatDoor.Abs
theorem seriesHolds_card:Rows.SeriesHoldsCardSaid :=
 Claim7.holds_tied_plain_at .later [] _ _ _ _ seriesHolds_said (fun _ h=>by cases h) (by kernel_rfl) (fun _ h=>by cases h) seriesHolds_row_tie rfl ⟨rfl,rfl⟩ (by kernel_rfl) rfl seriesHolds_plain (by kernel_rfl)
#print axioms seriesHolds_card
end Go.Proofs.YtjdkdcmpifapeaaGreatDoor
