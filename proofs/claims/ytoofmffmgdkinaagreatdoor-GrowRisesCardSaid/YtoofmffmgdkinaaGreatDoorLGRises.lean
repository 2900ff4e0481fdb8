/- GrowRises: for every input the law returns true, and each argument reads afterwards as it read before. Conditions: the listed variables of the library hold what their text lays (tied by the card). -/
import Derived.Test.YtoofmffmgdkinaaGreatDoorMz
import Derived.Test.YtoofmffmgdkinaaGreatDoorMn
set_option linter.unusedVariables false
set_option linter.unusedSectionVars false
set_option linter.unusedSimpArgs false
set_option maxHeartbeats 4000000
set_option maxRecDepth 20000
namespace Go.Proofs.YtoofmffmgdkinaaGreatDoor.Abs
open Go Go.RowKit Go.Proofs.Tryz
structure RiseS (r s : FQ) (b : Nat) (a c x y : FS) : Prop where
  h1 : gExp r b = .ok a
  h2 : gExp s b = .ok c
  h3 : gTwo r b = .ok x
  h4 : gTwo s b = .ok y
  h5 : dLess c.hi a.lo = false
  h6 : dLess y.hi x.lo = false
theorem rise_T {r s : FQ} {b : Nat} (h1 : 16 ≤ b) (h2 : b ≤ 200) (hr : Sz r.q 32 32) (hs : Sz s.q 32 32) (r0 : 0 ≤ r.q) (hle : r.q ≤ s.q) (s8 : s.q ≤ 8) : ∃ a c x y, RiseS r s b a c x y := by
  have e4 : (2 : Rat) ^ 4 * (1 / 2) = 8 := by decide +kernel
  have s0' : 0 ≤ s.q := Rat.le_trans r0 hle
  have r8' : r.q ≤ 8 := Rat.le_trans hle s8
  have hr' := hr.mono (j' := 66) (k' := 66) (by omega) (by omega)
  have hs' := hs.mono (j' := 66) (k' := 66) (by omega) (by omega)
  obtain ⟨a, _, ga⟩ := grw_1 (f := 4) h1 h2 (by omega) r0 (by rw [e4]; exact r8') hr'
  obtain ⟨c, _, gc⟩ := grw_1 (f := 4) h1 h2 (by omega) s0' (by rw [e4]; exact s8) hs'
  obtain ⟨x, x1, _, x3⟩ := grw_2 h1 h2 r0 (by grind) hr'
  obtain ⟨y, y1, _, y3⟩ := grw_2 h1 h2 s0' (by grind) hs'
  refine ⟨a, c, x, y, ga.e, gc.e, x1, y1, ?_, ?_⟩
  · rw [dLess_eq]
    have := Lim.below (m := 0) ga.le gc.le fun n _ => gS_le r0 hle n
    exact decide_eq_false (by grind)
  · rw [dLess_eq]
    have := Lim.below (m := 0) x3 y3 fun n _ => gS_le r0 hle (n - 2)
    exact decide_eq_false (by grind)
attribute [local irreducible] gExp gTwo dLess qCmp
theorem grise_bad1 (r s : RawQ) (bits : Int) (C : ACalls prog 44 [rawv r, i64 bits] (boo false)) : ACalls prog 12 [rawv r, rawv s, i64 bits] (boo true) := by
  refine conN func12 rfl (by kernel_rfl) ?_
  conv => whnf
  refine callS c_rises rfl rfl ?_
  conv => whnf
  refine callS C rfl rfl ?_
  conv => whnf
  exact fin rfl rfl
theorem grise_bad2 (r s : RawQ) (bits : Int) (C : ACalls prog 44 [rawv r, i64 bits] (boo true)) (C2 : ACalls prog 44 [rawv s, i64 bits] (boo false)) : ACalls prog 12 [rawv r, rawv s, i64 bits] (boo true) := by
  refine conN func12 rfl (by kernel_rfl) ?_
  conv => whnf
  refine callS c_rises rfl rfl ?_
  conv => whnf
  refine callS C rfl rfl ?_
  conv => whnf
  refine callS C2 rfl rfl ?_
  conv => whnf
  exact fin rfl rfl
theorem grise_go {r s : FQ} {b : Nat} (h1 : 16 ≤ b) (h2 : b ≤ 200) (hr : Sz r.q 32 32) (hs : Sz s.q 32 32) (r0 : 0 ≤ r.q) (s0' : 0 ≤ s.q) (r8' : r.q ≤ 8) (s8 : s.q ≤ 8)
    (C : ACalls prog 44 [rat r.q, i64 (b : Nat)] (boo true)) (C2 : ACalls prog 44 [rat s.q, i64 (b : Nat)] (boo true)) : ACalls prog 12 [rat r.q, rat s.q, i64 (b : Nat)] (boo true) := by
  have CX := c_qCompare r s
  have hcmp : qCmp r s = .ok (cmpQ r.q s.q) := by with_unfolding_all exact qCmp_ok hr hs (by omega) (by omega)
  obtain ⟨c, hc⟩ : ∃ c, cmpQ r.q s.q = c := ⟨_, rfl⟩
  rw [hc] at hcmp
  rw [hcmp] at CX
  change ACalls prog _ _ (.tup [i64 c, i64 ((0 : Nat) : Int)]) at CX
  by_cases h : c > 0
  · have hle : s.q ≤ r.q := cmpQ_ge.1 (by omega : cmpQ r.q s.q ≥ 0)
    obtain ⟨a, d, x, y, k1, k2, k3, k4, k5, k6⟩ := rise_T h1 h2 hs hr s0' hle r8'
    have M1 := c_gExp s b
    have M2 := c_gExp r b
    have M3 := c_gTwo s b
    have M4 := c_gTwo r b
    have M5 := c_dLess d.hi a.lo
    have M6 := c_dLess y.hi x.lo
    rw [k1] at M1
    rw [k2] at M2
    rw [k3] at M3
    rw [k4] at M4
    rw [k5] at M5
    rw [k6] at M6
    refine conP func12 rfl (by kernel_rfl) ?_
    refine .go (by kernel_rfl) ?_
    conv => whnf
    refine .go (by kernel_rfl) ?_
    conv => whnf
    refine callS c_rises rfl rfl ?_
    conv => whnf
    refine .go (by kernel_rfl) ?_
    conv => whnf
    refine callS C rfl rfl ?_
    conv => whnf
    refine callS C2 rfl rfl ?_
    conv => whnf
    refine .go (by kernel_rfl) ?_
    conv => whnf
    refine callS CX rfl rfl ?_
    conv => whnf
    refine .go (by kernel_rfl) ?_
    conv => whnf
    rw [decide_eq_true h]
    conv => whnf
    refine .go (by kernel_rfl) ?_
    conv => whnf
    refine callS M1 rfl rfl ?_
    conv => whnf
    refine .go (by kernel_rfl) ?_
    conv => whnf
    refine callS M2 rfl rfl ?_
    conv => whnf
    refine .go (by kernel_rfl) ?_
    conv => whnf
    refine callS M3 rfl rfl ?_
    conv => whnf
    refine .go (by kernel_rfl) ?_
    conv => whnf
    refine callS M4 rfl rfl ?_
    conv => whnf
    refine pcN (by kernel_rfl) ?_
    conv => whnf
    refine callS M5 rfl rfl ?_
    conv => whnf
    refine callS M6 rfl rfl ?_
    conv => whnf
    exact fin rfl rfl
  · have hle : r.q ≤ s.q := cmpQ_le.1 (by omega : cmpQ r.q s.q ≤ 0)
    obtain ⟨a, d, x, y, k1, k2, k3, k4, k5, k6⟩ := rise_T h1 h2 hr hs r0 hle s8
    have M1 := c_gExp r b
    have M2 := c_gExp s b
    have M3 := c_gTwo r b
    have M4 := c_gTwo s b
    have M5 := c_dLess d.hi a.lo
    have M6 := c_dLess y.hi x.lo
    rw [k1] at M1
    rw [k2] at M2
    rw [k3] at M3
    rw [k4] at M4
    rw [k5] at M5
    rw [k6] at M6
    refine conP func12 rfl (by kernel_rfl) ?_
    refine .go (by kernel_rfl) ?_
    conv => whnf
    refine .go (by kernel_rfl) ?_
    conv => whnf
    refine callS c_rises rfl rfl ?_
    conv => whnf
    refine .go (by kernel_rfl) ?_
    conv => whnf
    refine callS C rfl rfl ?_
    conv => whnf
    refine callS C2 rfl rfl ?_
    conv => whnf
    refine .go (by kernel_rfl) ?_
    conv => whnf
    refine callS CX rfl rfl ?_
    conv => whnf
    refine .go (by kernel_rfl) ?_
    conv => whnf
    rw [decide_eq_false h]
    conv => whnf
    refine .go (by kernel_rfl) ?_
    conv => whnf
    refine callS M1 rfl rfl ?_
    conv => whnf
    refine .go (by kernel_rfl) ?_
    conv => whnf
    refine callS M2 rfl rfl ?_
    conv => whnf
    refine .go (by kernel_rfl) ?_
    conv => whnf
    refine callS M3 rfl rfl ?_
    conv => whnf
    refine .go (by kernel_rfl) ?_
    conv => whnf
    refine callS M4 rfl rfl ?_
    conv => whnf
    refine pcN (by kernel_rfl) ?_
    conv => whnf
    refine callS M5 rfl rfl ?_
    conv => whnf
    refine callS M6 rfl rfl ?_
    conv => whnf
    exact fin rfl rfl
theorem growRises_c : ∀ avs, RdArgs prog 9 f12.params.toList avs → ACalls prog 12 avs (.lit (.bool true)) := by
  intro avs h
  obtain ⟨r, s, n, rfl, hr, hs⟩ := rd_rrb h
  rcases c_fit14 r n hr with C | ⟨a, b, fa, C⟩
  · exact grise_bad1 r s n C
  · rcases c_fit14 s n hs with C2 | ⟨a2, b2, fb, C2⟩
    · exact grise_bad2 r s n C C2
    · have e1 := fa.rawe
      have e2 := fb.rawe
      have e3 := fa.nb
      rw [e1, e3] at C
      rw [e2, e3] at C2
      rw [e1, e2, e3]
      exact grise_go fa.b1 fa.b2 fa.sz fb.sz fa.h0 fb.h0 fa.h8 fb.h8 C C2
end Go.Proofs.YtoofmffmgdkinaaGreatDoor.Abs
set_option linter.unusedVariables false
namespace Go.Proofs.YtoofmffmgdkinaaGreatDoor.Abs
open Go Go.RowKit Go.ChangeShapes Go.WideShapes Go.ChangeAt Go.Proofs.Tryz
theorem growRises_laid {W : World} (h : laidMetH prog Rows.growRisesRow.laid W) : GOk (fun b => b < W.heap.size) W :=
  gok_of_tab (Lib.tabIs_of_head gDb gDbT underlying201 underlying5 cU8 cDb h)
theorem growRises_met (os : Os) : laidMet prog Rows.growRisesRow.laid ((laidWorld os).forCall (fun _ _ => 0) ⟨#[], #[.agg #[.bool false, .slice none 0 0, .slice none 0 0], .agg #[.bool false, .slice none 0 0, .slice none 0 0], .int .i64 0], []⟩).memory :=
  laidMet_of_run' 8 (by kernel_rfl) (by kernel_rfl)
theorem growRises_reads (os : Os) {H : Type} (enc : TypeId × Value → H) : ∃ x places, DataW.whole enc prog ((laidWorld os).forCall (fun _ _ => 0) ⟨#[], #[.agg #[.bool false, .slice none 0 0, .slice none 0 0], .agg #[.bool false, .slice none 0 0, .slice none 0 0], .int .i64 0], []⟩).memory f12.params.toList Rows.growRisesSpec.vars false (#[.agg #[.bool false, .slice none 0 0, .slice none 0 0], .agg #[.bool false, .slice none 0 0, .slice none 0 0], .int .i64 0] : Array Value).toList 8 = some (x, [], places) :=
  ⟨[.agg [.agg [.lit (.bool false), .nil], .nil], .agg [.agg [.lit (.bool false), .nil], .nil], .lit (.int .i64 0)], [], by kernel_rfl⟩
set_option maxRecDepth 100000 in
theorem growRises_lifted (os : Os) (started : os.Started) (H : Type) (enc : TypeId × Value → H) (F : Stop.Interp) :
    ReturnsInHanded {} checked os 12 .any ((OpenSpec.ofChange Rows.growRisesSpec).preRow enc prog f12 Rows.growRisesRow.domain false Rows.growRisesRow.laid) (((OpenSpec.ofChange Rows.growRisesSpec).at F).post enc prog f12 false true false false) := by
  obtain ⟨x, places, hx⟩ := growRises_reads os enc
  refine returnsInHanded_of_row (C := checked) (s := OpenSpec.ofChange Rows.growRisesSpec) ownK started (by kernel_rfl) func12
    (witness_row_at (enc := enc) (C := checked) false (laidWorld os) #[.agg #[.bool false, .slice none 0 0, .slice none 0 0], .agg #[.bool false, .slice none 0 0, .slice none 0 0], .int .i64 0] rfl (by kernel_rfl) (by kernel_rfl) (by kernel_rfl)
      (OpenSpec.preRow_of_cond 8 hx (by kernel_rfl) (fun k hk => by cases hk) (by kernel_rfl) (growRises_met os))) ?_
  intro W base args ds gs before hval hW _ _ _ hL _ _
  exact bridge (n := 9) laidOutP (by kernel_rfl) rfl (fun ds hd => by
    match ds, hd with
    | [_, _, _], _ => rfl) rfl underlying4 growRises_c hval hW (growRises_laid hL)
theorem growRises_said : Rows.GrowRisesSaid :=
  OpenClaim.holds_of_cond 12 f12 rfl rfl rfl rfl rfl rfl rfl ⟨rfl, rfl, rfl, rfl, rfl⟩ rfl rfl rfl rfl rfl (by kernel_rfl) func12 (by kernel_rfl)
    (of_decide_eq_true (by kernel_rfl)) (by unfold Func.isWrapper; first | (rw [if_pos (by decide +kernel)]; kernel_rfl) | (rw [if_neg (by decide +kernel)]; exact ⟨rfl, rfl⟩))
    (fun os started H enc _ F => by rw [OpenClaim.pre_eq_preRow]; exact growRises_lifted os started H enc F)
theorem growRises_plain (f : FuncId) (fn : Func) (hf : Tryz.pinned.checked.prog.funcNamed "girdle/girdlelaw14.GrowRises" = some f) (hfn : Tryz.pinned.checked.prog.funcs[f]? = some fn) :
    false = Tryz.pinned.checked.prog.looks [] ∧ ∀ (j : Nat) t, fn.params[j]? = some t → Tryz.pinned.checked.prog.wantsStandIn t = false := by
  obtain rfl : f = 12 := Option.some.inj ((show prog.funcNamed "girdle/girdlelaw14.GrowRises" = some 12 by kernel_rfl).symm.trans hf) |>.symm
  obtain rfl : fn = f12 := (Option.some.inj (func12.symm.trans hfn)).symm
  refine ⟨by kernel_rfl, fun j t ht => ?_⟩
  have hall : (f12.params.toList.all fun u => !prog.wantsStandIn u) = true := by kernel_rfl
  exact (show prog.wantsStandIn t = false by simpa using List.all_eq_true.1 hall t (by simpa using Array.mem_of_getElem? ht))
end Go.Proofs.YtoofmffmgdkinaaGreatDoor.Abs
namespace Go.Proofs.YtoofmffmgdkinaaGreatDoor
open Go Go.Proofs.YtoofmffmgdkinaaGreatDoor.Abs
theorem growRises_card : Rows.GrowRisesCardSaid :=
  Claim7.holds_tied_plain_at .later [] _ _ _ _ growRises_said (fun _ h => by cases h) (by kernel_rfl) (fun _ h => by cases h) growRises_row_tie rfl ⟨rfl, rfl⟩ (by kernel_rfl) rfl growRises_plain (by kernel_rfl)
#print axioms growRises_card
end Go.Proofs.YtoofmffmgdkinaaGreatDoor
