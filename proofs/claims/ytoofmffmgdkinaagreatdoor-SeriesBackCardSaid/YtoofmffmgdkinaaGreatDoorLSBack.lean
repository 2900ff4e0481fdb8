/- SeriesBack: for every input the law returns true, and each argument reads afterwards as it read before. Conditions: the listed variables of the library hold what their text lays (tied by the card). -/
import Derived.Test.YtoofmffmgdkinaaGreatDoorMw
import Derived.Test.YtoofmffmgdkinaaGreatDoorMn
/- SeriesBack: the walk. -/
set_option linter.unusedVariables false
set_option linter.unusedSectionVars false
set_option linter.unusedSimpArgs false
set_option maxHeartbeats 4000000
set_option maxRecDepth 20000
namespace Go.Proofs.YtoofmffmgdkinaaGreatDoor.Abs
open Go Go.RowKit Go.Proofs.Tryz
attribute [local irreducible] mMake mTwice mTimes mHolds mScale mPlus mNear mOne

theorem sback_bad (n : Int) (l : List RawQ) (t : RawQ) {es : List AV} (C : ACalls prog 31 [i64 n, slv l, rawv t] (.tup [.sl es, boo false])) : ACalls prog 5 [i64 n, slv l, rawv t] (boo true) := by
  refine conN func5 rfl (by kernel_rfl) ?_
  conv => whnf
  refine callS c_grows rfl rfl ?_
  conv => whnf
  refine callS C rfl rfl ?_
  conv => whnf
  exact fin rfl rfl
theorem sback_go {k : Nat} {l : List RawQ} {tq : FQ} (h : In3 k (TabQ k l) tq) (C : ACalls prog 31 [i64 (k : Nat), slv l, rat tq.q] (.tup [lT (TabQ k l), boo true])) : ACalls prog 5 [i64 (k : Nat), slv l, rat tq.q] (boo true) := by
  have B50 : BOk 50 := ⟨by decide, by decide⟩
  obtain ⟨b, p, q, m, h1, h2, h3, h4, h5, s1, s2, s3, s4⟩ := back_T h
  obtain ⟨T, hT⟩ : ∃ T, TabQ k l = T := ⟨_, rfl⟩
  rw [hT] at h h1 h2 C
  have T6 : Six T := ⟨by rw [h.sq.1]; have := h.k3; omega, h.sq.rows6 (by have := h.k3; omega)⟩
  have M1 := c_mScale T (qOf (-1) 1) T6.1 T6.2
  obtain ⟨j2, M2⟩ := c_mMake T tq 50 T6
  obtain ⟨j3, M3⟩ := c_mMake b tq 50 s1
  have M4 := c_mTimes p.1 q.1 50 B50 s2.1 s2.2 s3.1 s3.2
  have M5 := c_mHolds m (mOne (k : Nat)) s4.1 s4.2
  have O := c_mOne (k : Nat)
  change mMake T tq 50 = .ok p at h2
  change mMake b tq 50 = .ok q at h3
  change mTimes 50 p.1 q.1 = .ok m at h4
  rw [h1] at M1
  rw [h2] at M2
  rw [h3] at M3
  rw [h4] at M4
  rw [h5] at M5
  refine conP func5 rfl (by kernel_rfl) ?_
  refine .go (by kernel_rfl) ?_
  conv => whnf
  refine .go (by kernel_rfl) ?_
  conv => whnf
  refine callS c_grows rfl rfl ?_
  conv => whnf
  refine .go (by kernel_rfl) ?_
  conv => whnf
  refine callS C rfl rfl ?_
  conv => whnf
  refine .go (by kernel_rfl) ?_
  conv => whnf
  refine .go (by kernel_rfl) ?_
  conv => whnf
  refine callS (c_qOf (-1) 1 (by decide) (by decide) (by decide) (by decide)) rfl rfl ?_
  conv => whnf
  refine callS M1 rfl rfl ?_
  conv => whnf
  refine .go (by kernel_rfl) ?_
  conv => whnf
  refine callS M2 rfl rfl ?_
  conv => whnf
  refine .go (by kernel_rfl) ?_
  conv => whnf
  refine callS M3 rfl rfl ?_
  conv => whnf
  refine .go (by kernel_rfl) ?_
  conv => whnf
  refine callS M4 rfl rfl ?_
  conv => whnf
  refine .go (by kernel_rfl) ?_
  conv => whnf
  refine callS O rfl rfl ?_
  conv => whnf
  refine callS M5 rfl rfl ?_
  conv => whnf
  refine pcN (by kernel_rfl) ?_
  conv => whnf
  exact fin rfl rfl
theorem seriesBack_c : ∀ avs, RdArgs prog 9 f5.params.toList avs → ACalls prog 5 avs (.lit (.bool true)) := by
  intro avs h
  obtain ⟨n, l, t, rfl, hl, ht⟩ := rd_three3 (f := 0) h
  rcases c_table n l t hl ht with ⟨es, C⟩ | ⟨k, tq, hi, C⟩
  · exact sback_bad n l t C
  · obtain rfl := hi.nk
    have e : rawv t = rat tq.q := by rw [← hi.q, rawv_rawQ]; rfl
    rw [e] at C ⊢
    exact sback_go hi.in3 C

end Go.Proofs.YtoofmffmgdkinaaGreatDoor.Abs

/- SeriesBack: for every input the law returns true, and each argument reads afterwards as it read before. Conditions: the listed variables of the library hold what their text lays (tied by the card). -/
set_option linter.unusedVariables false
namespace Go.Proofs.YtoofmffmgdkinaaGreatDoor.Abs
open Go Go.RowKit Go.ChangeShapes Go.WideShapes Go.ChangeAt Go.Proofs.Tryz

theorem seriesBack_laid {W : World} (h : laidMetH prog Rows.seriesBackRow.laid W) : GOk (fun b => b < W.heap.size) W :=
  gok_of_tab (Lib.tabIs_of_head gDb gDbT underlying201 underlying5 cU8 cDb h)
theorem seriesBack_met (os : Os) : laidMet prog Rows.seriesBackRow.laid ((laidWorld os).forCall (fun _ _ => 0) ⟨#[], #[.int .i64 0, .slice none 0 0, .agg #[.bool false, .slice none 0 0, .slice none 0 0]], []⟩).memory :=
  laidMet_of_run' 8 (by kernel_rfl) (by kernel_rfl)
theorem seriesBack_reads (os : Os) {H : Type} (enc : TypeId × Value → H) : ∃ x places, DataW.whole enc prog ((laidWorld os).forCall (fun _ _ => 0) ⟨#[], #[.int .i64 0, .slice none 0 0, .agg #[.bool false, .slice none 0 0, .slice none 0 0]], []⟩).memory f5.params.toList Rows.seriesBackSpec.vars false (#[.int .i64 0, .slice none 0 0, .agg #[.bool false, .slice none 0 0, .slice none 0 0]] : Array Value).toList 8 = some (x, [], places) :=
  ⟨[.lit (.int .i64 0), .nil, .agg [.agg [.lit (.bool false), .nil], .nil]], [], by kernel_rfl⟩
set_option maxRecDepth 100000 in
theorem seriesBack_lifted (os : Os) (started : os.Started) (H : Type) (enc : TypeId × Value → H) (F : Stop.Interp) :
    ReturnsInHanded {} checked os 5 .any ((OpenSpec.ofChange Rows.seriesBackSpec).preRow enc prog f5 Rows.seriesBackRow.domain false Rows.seriesBackRow.laid) (((OpenSpec.ofChange Rows.seriesBackSpec).at F).post enc prog f5 false true false false) := by
  obtain ⟨x, places, hx⟩ := seriesBack_reads os enc
  refine returnsInHanded_of_row (C := checked) (s := OpenSpec.ofChange Rows.seriesBackSpec) ownK started (by kernel_rfl) func5
    (witness_row_at (enc := enc) (C := checked) false (laidWorld os) #[.int .i64 0, .slice none 0 0, .agg #[.bool false, .slice none 0 0, .slice none 0 0]] rfl (by kernel_rfl) (by kernel_rfl) (by kernel_rfl)
      (OpenSpec.preRow_of_cond 8 hx (by kernel_rfl) (fun k hk => by cases hk) (by kernel_rfl) (seriesBack_met os))) ?_
  intro W base args ds gs before hval hW _ _ _ hL _ _
  exact bridge (n := 9) laidOutP (by kernel_rfl) rfl (fun ds hd => by
    match ds, hd with
    | [_, _, _], _ => rfl) rfl underlying4 seriesBack_c hval hW (seriesBack_laid hL)
theorem seriesBack_said : Rows.SeriesBackSaid :=
  OpenClaim.holds_of_cond 5 f5 rfl rfl rfl rfl rfl rfl rfl ⟨rfl, rfl, rfl, rfl, rfl⟩ rfl rfl rfl rfl rfl (by kernel_rfl) func5 (by kernel_rfl)
    (of_decide_eq_true (by kernel_rfl)) (by unfold Func.isWrapper; first | (rw [if_pos (by decide +kernel)]; kernel_rfl) | (rw [if_neg (by decide +kernel)]; exact ⟨rfl, rfl⟩))
    (fun os started H enc _ F => by rw [OpenClaim.pre_eq_preRow]; exact seriesBack_lifted os started H enc F)
theorem seriesBack_plain (f : FuncId) (fn : Func) (hf : Tryz.pinned.checked.prog.funcNamed "girdle/girdlelaw13.SeriesBack" = some f) (hfn : Tryz.pinned.checked.prog.funcs[f]? = some fn) :
    false = Tryz.pinned.checked.prog.looks [] ∧ ∀ (j : Nat) t, fn.params[j]? = some t → Tryz.pinned.checked.prog.wantsStandIn t = false := by
  obtain rfl : f = 5 := Option.some.inj ((show prog.funcNamed "girdle/girdlelaw13.SeriesBack" = some 5 by kernel_rfl).symm.trans hf) |>.symm
  obtain rfl : fn = f5 := (Option.some.inj (func5.symm.trans hfn)).symm
  refine ⟨by kernel_rfl, fun j t ht => ?_⟩
  have hall : (f5.params.toList.all fun u => !prog.wantsStandIn u) = true := by kernel_rfl
  exact (show prog.wantsStandIn t = false by simpa using List.all_eq_true.1 hall t (by simpa using Array.mem_of_getElem? ht))
end Go.Proofs.YtoofmffmgdkinaaGreatDoor.Abs
namespace Go.Proofs.YtoofmffmgdkinaaGreatDoor
open Go Go.Proofs.YtoofmffmgdkinaaGreatDoor.Abs
/-- THE CARD. -/
theorem seriesBack_card : Rows.SeriesBackCardSaid :=
  Claim7.holds_tied_plain_at .later [] _ _ _ _ seriesBack_said (fun _ h => by cases h) (by kernel_rfl) (fun _ h => by cases h) seriesBack_row_tie rfl ⟨rfl, rfl⟩ (by kernel_rfl) rfl seriesBack_plain (by kernel_rfl)
#print axioms seriesBack_card
end Go.Proofs.YtoofmffmgdkinaaGreatDoor
