/- SeriesTerms: for every input the law returns true, and each argument reads afterwards as it read before. Conditions: the listed variables of the library hold what their text lays (tied by the card). -/
import Derived.Test.YtoofmffmgdkinaaGreatDoorMv
import Derived.Test.YtoofmffmgdkinaaGreatDoorMn
/- SeriesTerms: the walk. -/
set_option linter.unusedVariables false
set_option linter.unusedSectionVars false
set_option linter.unusedSimpArgs false
set_option maxHeartbeats 4000000
set_option maxRecDepth 20000
namespace Go.Proofs.YtoofmffmgdkinaaGreatDoor.Abs
open Go Go.RowKit Go.Proofs.Tryz
attribute [local irreducible] mTermsK mTermsD dMul dLess dSgn lowGo

theorem sterms_bad (bits : Int) (h : bits < 8 ∨ bits > 400) : ACalls prog 4 [i64 bits] (boo true) := by
  refine conN func4 rfl (by kernel_rfl) ?_
  conv => whnf
  refine callS c_grows rfl rfl ?_
  conv => whnf
  by_cases h1 : bits < 8
  · rw [decide_eq_true h1]
    conv => whnf
    exact fin rfl rfl
  rw [decide_eq_false h1]
  conv => whnf
  rw [decide_eq_true (h.resolve_left h1)]
  conv => whnf
  exact fin rfl rfl
theorem sterms_go (b : Nat) (h1 : 8 ≤ b) (h2 : b ≤ 400) : ACalls prog 4 [i64 (b : Nat)] (boo true) := by
  have C1 := c_mTerms b h1 (by omega)
  have C2 := c_mTerms (b + 20) (by omega) (by omega)
  have hk : 2 ≤ mTermsK b ∧ mTermsK b ≤ mTermsK (b + 20 : Nat) := by
    have hc := List.all_eq_true.1 terms_all (b - 8) (List.mem_range.2 (by omega))
    rw [show b - 8 + 8 = b by omega] at hc
    with_unfolding_all
    unfold termsChk at hc
    simp only [Bool.and_eq_true, Nat.ble_eq, Nat.blt_eq] at hc
    unfold mTermsK
    exact ⟨hc.1.1.1.1.1, hc.1.1.1.1.2⟩
  have hd := terms_ok h1 h2
  unfold termsChk2 at hd
  obtain ⟨k1, e1⟩ : ∃ k, mTermsK b = k := ⟨_, rfl⟩
  obtain ⟨k2, e2⟩ : ∃ k, mTermsK (b + 20 : Nat) = k := ⟨_, rfl⟩
  obtain ⟨d1, e3⟩ : ∃ k, mTermsD b = k := ⟨_, rfl⟩
  obtain ⟨d2, e4⟩ : ∃ k, mTermsD (b + 20 : Nat) = k := ⟨_, rfl⟩
  rw [e1, e3] at C1
  rw [e2, e4] at C2
  rw [e1, e2] at hk
  rw [e3, e4] at hd
  simp only [Bool.and_eq_true, decide_eq_true_eq, Bool.not_eq_true'] at hd
  obtain ⟨⟨hd1, hd2⟩, hd3⟩ := hd
  have hs : dSgn d2 = 1 := by
    with_unfolding_all
    unfold dSgn sgnZ
    rw [if_neg (by omega), if_neg (by omega)]
  have L1 := c_dLess d2 d1
  have L2 := c_dSign d2
  rw [hd1] at L1
  rw [hs] at L2
  have e20 : IntKind.i64.wrap ((b : Int) + 20) = ((b + 20 : Nat) : Int) := wI (by omega) (by omega)
  refine conP func4 rfl (by kernel_rfl) ?_
  refine .go (by kernel_rfl) ?_
  conv => whnf
  refine .go (by kernel_rfl) ?_
  conv => whnf
  refine callS c_grows rfl rfl ?_
  conv => whnf
  refine .go (by kernel_rfl) ?_
  conv => whnf
  rw [decide_eq_false (by omega : ¬ ((b : Nat) : Int) < 8)]
  conv => whnf
  rw [decide_eq_false (by omega : ¬ ((b : Nat) : Int) > 400)]
  conv => whnf
  refine .go (by kernel_rfl) ?_
  conv => whnf
  refine callS C1 rfl rfl ?_
  conv => whnf
  refine .go (by kernel_rfl) ?_
  conv => whnf
  rw [e20]
  refine callS C2 rfl rfl ?_
  conv => whnf
  refine .go (by kernel_rfl) ?_
  conv => whnf
  refine callS (c_dOf 1 0 (by decide) (by decide)) rfl rfl ?_
  conv => whnf
  refine .cut (fun _ : Unit => True) (fun _ => { fr := [(3, i64 (k1 : Nat)), (4, .ptr (3, 5) 0 0), (5, i64 (k2 : Nat)), (6, .ptr (4, 6) 0 0), (7, .ptr (5, 1) 0 0)], st := [((3, 5), ⟨53, 3, [dyad d1]⟩), ((4, 6), ⟨53, 3, [dyad d2]⟩), ((5, 1), ⟨53, 3, [dyad (lowGo b (dOf 1 0))]⟩)], g := 40 }) ?_ ?_
  · refine .go (by kernel_rfl) ?_
    conv => whnf
    refine .block (.loop (fun i : Nat => i ≤ b) (fun i => { fr := [(28, i64 (b : Nat)), (29, i64 (i : Nat)), (3, i64 (k1 : Nat)), (4, .ptr (3, 5) 0 0), (5, i64 (k2 : Nat)), (6, .ptr (4, 6) 0 0), (7, .ptr (5, 1) 0 0)], st := [((3, 5), ⟨53, 3, [dyad d1]⟩), ((4, 6), ⟨53, 3, [dyad d2]⟩), ((5, 1), ⟨53, 3, [dyad (lowGo i (dOf 1 0))]⟩)], g := 20 }) (fun i => b - i) 0 (Nat.zero_le _) ?_ ?_)
    · exact ⟨trivial, ⟨.inl ⟨.refl _, rfl⟩, .inl ⟨.refl _, rfl⟩, .inl ⟨.refl _, rfl⟩, .inl ⟨.refl _, rfl⟩, .inl ⟨.refl _, rfl⟩, .inl ⟨.refl _, rfl⟩, .inl ⟨.refl _, rfl⟩, trivial⟩, ⟨.same rfl rfl, List.not_mem_nil, Nat.le_of_ble_eq_true rfl⟩, ⟨.same rfl rfl, List.not_mem_nil, Nat.le_of_ble_eq_true rfl⟩, ⟨.same (congrArg (fun z => some (Row.mk 53 3 [dyad z])) (by with_unfolding_all rfl : dOf 1 0 = lowGo 0 (dOf 1 0))) rfl, List.not_mem_nil, Nat.le_of_ble_eq_true rfl⟩, trivial⟩
    intro i hi
    dsimp only
    refine .go (by kernel_rfl) ?_
    conv => whnf
    refine .go (by kernel_rfl) ?_
    conv => whnf
    refine Br.mk (fun q => ?_) (fun q => ?_)
    · have hlt : i < b := by
        have := of_decide_eq_true q
        omega
      clear q
      have CM := c_dMul (lowGo i (dOf 1 0)) (dOf 1 (-1))
      obtain ⟨x1, e1', CX, hx1, he1⟩ := varT CM
      have hx : x1 = lowGo (i + 1) (dOf 1 0) := by rw [lowGo_succ, hx1]
      clear CM
      obtain ⟨l, hl⟩ : ∃ l, lowGo i (dOf 1 0) = l := ⟨_, rfl⟩
      rw [hl] at CX ⊢
      conv => whnf
      refine .cut (fun _ : Unit => True) (fun _ => { fr := [(28, i64 (b : Nat)), (29, i64 (i : Nat)), (3, i64 (k1 : Nat)), (4, .ptr (3, 5) 0 0), (5, i64 (k2 : Nat)), (6, .ptr (4, 6) 0 0), (7, .ptr (5, 1) 0 0)], st := [((3, 5), ⟨53, 3, [dyad d1]⟩), ((4, 6), ⟨53, 3, [dyad d2]⟩), ((5, 1), ⟨53, 3, [dyad x1]⟩)], g := 30 }) ?_ ?_
      · refine .block ?_
        refine pcN (by kernel_rfl) ?_
        conv => whnf
        refine ⟨by kernel_rfl, ?_⟩
        conv => whnf
        refine callD (c_dOf 1 (-1) (by decide) (by decide)) rfl rfl ?_
        conv => whnf
        refine callD CX rfl rfl ?_
        conv => whnf
        exact ⟨(), trivial, ⟨trivial, ⟨.inl ⟨.refl _, rfl⟩, .inl ⟨.refl _, rfl⟩, .inl ⟨.refl _, rfl⟩, .inl ⟨.refl _, rfl⟩, .inl ⟨.refl _, rfl⟩, .inl ⟨.refl _, rfl⟩, .inl ⟨.refl _, rfl⟩, trivial⟩, ⟨.same rfl rfl, List.not_mem_nil, Nat.le_of_ble_eq_true rfl⟩, ⟨.same rfl rfl, List.not_mem_nil, Nat.le_of_ble_eq_true rfl⟩, ⟨.same rfl rfl, List.not_mem_nil, Nat.le_of_ble_eq_true rfl⟩, trivial⟩⟩
      · rintro ⟨⟩ _
        refine pcN (by kernel_rfl) ?_
        conv => whnf
        exact ⟨i + 1, hlt, ⟨trivial, ⟨.inl ⟨.refl _, rfl⟩, .inl ⟨.of_eq (congrArg i64 ((wI (n := (i : Int) + 1) (by omega) (by omega)).trans (by simp))), rfl⟩, .inl ⟨.refl _, rfl⟩, .inl ⟨.refl _, rfl⟩, .inl ⟨.refl _, rfl⟩, .inl ⟨.refl _, rfl⟩, .inl ⟨.refl _, rfl⟩, trivial⟩, ⟨.same rfl rfl, List.not_mem_nil, Nat.le_of_ble_eq_true rfl⟩, ⟨.same rfl rfl, List.not_mem_nil, Nat.le_of_ble_eq_true rfl⟩, ⟨.same (congrArg (fun z => some (Row.mk 53 3 [dyad z])) hx) rfl, List.not_mem_nil, Nat.le_of_ble_eq_true rfl⟩, trivial⟩, by show b - (i + 1) < b - i; omega⟩
    · have he : i = b := by
        have := of_decide_eq_false q
        omega
      clear q
      subst he
      conv => whnf
      exact ⟨(), trivial, ⟨trivial, ⟨.inl ⟨.refl _, rfl⟩, .inl ⟨.refl _, rfl⟩, .inl ⟨.refl _, rfl⟩, .inl ⟨.refl _, rfl⟩, .inl ⟨.refl _, rfl⟩, trivial⟩, ⟨.same rfl rfl, List.not_mem_nil, Nat.le_of_ble_eq_true rfl⟩, ⟨.same rfl rfl, List.not_mem_nil, Nat.le_of_ble_eq_true rfl⟩, ⟨.same rfl rfl, List.not_mem_nil, Nat.le_of_ble_eq_true rfl⟩, trivial⟩⟩
  · rintro ⟨⟩ _
    have L3 := c_dLess (lowGo b (dOf 1 0)) d1
    rw [hd3] at L3
    dsimp only
    obtain ⟨l, hl⟩ : ∃ l, lowGo b (dOf 1 0) = l := ⟨_, rfl⟩
    rw [hl] at L3 ⊢
    refine pcN (by kernel_rfl) ?_
    conv => whnf
    rw [decide_eq_true (by omega : (k1 : Int) ≥ 2)]
    conv => whnf
    rw [decide_eq_true (by omega : (k2 : Int) ≥ (k1 : Int))]
    conv => whnf
    refine callS L1 rfl rfl ?_
    conv => whnf
    refine callS L2 rfl rfl ?_
    conv => whnf
    refine callS L3 rfl rfl ?_
    conv => whnf
    exact fin rfl rfl

theorem seriesTerms_c : ∀ avs, RdArgs prog 9 f4.params.toList avs → ACalls prog 4 avs (.lit (.bool true)) := by
  intro avs h
  have h : RdArgs prog 9 [3] avs := h
  match avs, h with
  | [x], ⟨⟨c1, r1, e1⟩, _⟩ =>
    obtain ⟨n, rfl, _⟩ := rd_int r1
    rw [mkV_one ag_int] at e1
    subst e1
    by_cases hb : n < 8 ∨ n > 400
    · exact sterms_bad n hb
    · obtain ⟨b, rfl⟩ : ∃ b : Nat, n = (b : Int) := ⟨n.toNat, by omega⟩
      exact sterms_go b (by omega) (by omega)

end Go.Proofs.YtoofmffmgdkinaaGreatDoor.Abs

/- SeriesTerms: for every input the law returns true, and each argument reads afterwards as it read before. Conditions: the listed variables of the library hold what their text lays (tied by the card). -/
set_option linter.unusedVariables false
namespace Go.Proofs.YtoofmffmgdkinaaGreatDoor.Abs
open Go Go.RowKit Go.ChangeShapes Go.WideShapes Go.ChangeAt Go.Proofs.Tryz

theorem seriesTerms_laid {W : World} (h : laidMetH prog Rows.seriesTermsRow.laid W) : GOk (fun b => b < W.heap.size) W :=
  gok_of_tab (Lib.tabIs_of_head gDb gDbT underlying201 underlying5 cU8 cDb h)
theorem seriesTerms_met (os : Os) : laidMet prog Rows.seriesTermsRow.laid ((laidWorld os).forCall (fun _ _ => 0) ⟨#[], #[.int .i64 0], []⟩).memory :=
  laidMet_of_run' 8 (by kernel_rfl) (by kernel_rfl)
theorem seriesTerms_reads (os : Os) {H : Type} (enc : TypeId × Value → H) : ∃ x places, DataW.whole enc prog ((laidWorld os).forCall (fun _ _ => 0) ⟨#[], #[.int .i64 0], []⟩).memory f4.params.toList Rows.seriesTermsSpec.vars false (#[.int .i64 0] : Array Value).toList 8 = some (x, [], places) :=
  ⟨[.lit (.int .i64 0)], [], by kernel_rfl⟩
set_option maxRecDepth 100000 in
theorem seriesTerms_lifted (os : Os) (started : os.Started) (H : Type) (enc : TypeId × Value → H) (F : Stop.Interp) :
    ReturnsInHanded {} checked os 4 .any ((OpenSpec.ofChange Rows.seriesTermsSpec).preRow enc prog f4 Rows.seriesTermsRow.domain false Rows.seriesTermsRow.laid) (((OpenSpec.ofChange Rows.seriesTermsSpec).at F).post enc prog f4 false true false false) := by
  obtain ⟨x, places, hx⟩ := seriesTerms_reads os enc
  refine returnsInHanded_of_row (C := checked) (s := OpenSpec.ofChange Rows.seriesTermsSpec) ownK started (by kernel_rfl) func4
    (witness_row_at (enc := enc) (C := checked) false (laidWorld os) #[.int .i64 0] rfl (by kernel_rfl) (by kernel_rfl) (by kernel_rfl)
      (OpenSpec.preRow_of_cond 8 hx (by kernel_rfl) (fun k hk => by cases hk) (by kernel_rfl) (seriesTerms_met os))) ?_
  intro W base args ds gs before hval hW _ _ _ hL _ _
  exact bridge (n := 9) laidOutP (by kernel_rfl) rfl (fun ds hd => by
    match ds, hd with
    | [_], _ => rfl) rfl underlying4 seriesTerms_c hval hW (seriesTerms_laid hL)
theorem seriesTerms_said : Rows.SeriesTermsSaid :=
  OpenClaim.holds_of_cond 4 f4 rfl rfl rfl rfl rfl rfl rfl ⟨rfl, rfl, rfl, rfl, rfl⟩ rfl rfl rfl rfl rfl (by kernel_rfl) func4 (by kernel_rfl)
    (of_decide_eq_true (by kernel_rfl)) (by unfold Func.isWrapper; first | (rw [if_pos (by decide +kernel)]; kernel_rfl) | (rw [if_neg (by decide +kernel)]; exact ⟨rfl, rfl⟩))
    (fun os started H enc _ F => by rw [OpenClaim.pre_eq_preRow]; exact seriesTerms_lifted os started H enc F)
theorem seriesTerms_plain (f : FuncId) (fn : Func) (hf : Tryz.pinned.checked.prog.funcNamed "girdle/girdlelaw13.SeriesTerms" = some f) (hfn : Tryz.pinned.checked.prog.funcs[f]? = some fn) :
    false = Tryz.pinned.checked.prog.looks [] ∧ ∀ (j : Nat) t, fn.params[j]? = some t → Tryz.pinned.checked.prog.wantsStandIn t = false := by
  obtain rfl : f = 4 := Option.some.inj ((show prog.funcNamed "girdle/girdlelaw13.SeriesTerms" = some 4 by kernel_rfl).symm.trans hf) |>.symm
  obtain rfl : fn = f4 := (Option.some.inj (func4.symm.trans hfn)).symm
  refine ⟨by kernel_rfl, fun j t ht => ?_⟩
  have hall : (f4.params.toList.all fun u => !prog.wantsStandIn u) = true := by kernel_rfl
  exact (show prog.wantsStandIn t = false by simpa using List.all_eq_true.1 hall t (by simpa using Array.mem_of_getElem? ht))
end Go.Proofs.YtoofmffmgdkinaaGreatDoor.Abs
namespace Go.Proofs.YtoofmffmgdkinaaGreatDoor
open Go Go.Proofs.YtoofmffmgdkinaaGreatDoor.Abs
/-- THE CARD. -/
theorem seriesTerms_card : Rows.SeriesTermsCardSaid :=
  Claim7.holds_tied_plain_at .later [] _ _ _ _ seriesTerms_said (fun _ h => by cases h) (by kernel_rfl) (fun _ h => by cases h) seriesTerms_row_tie rfl ⟨rfl, rfl⟩ (by kernel_rfl) rfl seriesTerms_plain (by kernel_rfl)
#print axioms seriesTerms_card
end Go.Proofs.YtoofmffmgdkinaaGreatDoor
