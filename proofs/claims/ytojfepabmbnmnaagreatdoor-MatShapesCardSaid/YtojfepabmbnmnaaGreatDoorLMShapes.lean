/- MatShapes: for every input the law returns true, and each argument reads afterwards as it read before. Conditions: the listed variables of the library hold what their text lays (tied by the card). -/
import Derived.Test.YtojfepabmbnmnaaGreatDoorMq
import Derived.Test.YtojfepabmbnmnaaGreatDoorMn
/- MatShapes: the walk and the plain law. -/
set_option linter.unusedVariables false
set_option linter.unusedSectionVars false
set_option linter.unusedSimpArgs false
set_option maxHeartbeats 4000000
set_option maxRecDepth 20000
namespace Go.Proofs.YtojfepabmbnmnaaGreatDoor.Abs
open Go Go.RowKit Go.Proofs.Tryz
attribute [local irreducible] zMul zAdd zLeft zRight fitZ qMake zDiv dMake dLevel dRound dNear dAdd dMul dRatio dCmp dMin dMax dAbs dLess qCmp sOut qAdd qMul sAdd sMul sNear qSum sHasQ sSize vUnit vEach vDot vNear vHolds vSame qSgn

theorem runE_const {α β : Type} {f : α → Except Nat β} {a : α} {b : β} (h : f a = .ok b) : ∀ n, runE f (List.replicate n a) = .ok (List.replicate n b)
  | 0 => rfl
  | n + 1 => by
    rw [List.replicate_succ, List.replicate_succ]
    simp only [runE, h, runE_const h n]
def zz (r c : Nat) : List (List FQ) := List.replicate r (List.replicate c q0)
theorem zz_rect (r c : Nat) : rect (zz r c) = true := by
  refine List.all_eq_true.2 fun x hx => decide_eq_true ?_
  cases r with
  | zero => simp [zz] at hx
  | succ r =>
    have := (List.mem_replicate.1 hx).2
    rw [this]
    rfl
theorem zz_cols {r c : Nat} (h : 0 < r) : colsN (zz r c) = c := by
  cases r with
  | zero => omega
  | succ r => simp [zz, colsN, List.replicate_succ]
theorem zz_turn {r c : Nat} (h : 0 < r) : turnV q0 (zz r c) = zz c r := by
  unfold turnV
  rw [zz_cols h]
  unfold colV zz
  rw [List.eq_replicate_iff]
  refine ⟨by simp, fun x hx => ?_⟩
  obtain ⟨j, hj, rfl⟩ := List.mem_map.1 hx
  rw [List.map_replicate]
  congr 1
  have hj := List.mem_range.1 hj
  simp [List.getD, List.getElem?_replicate, hj]
theorem dot_zero : ∀ n : Nat, n ≤ 8 → vDot (List.replicate n q0) (List.replicate n q0) = .ok q0
  | 0, _ => by kernel_rfl
  | 1, _ => by kernel_rfl
  | 2, _ => by kernel_rfl
  | 3, _ => by kernel_rfl
  | 4, _ => by kernel_rfl
  | 5, _ => by kernel_rfl
  | 6, _ => by kernel_rfl
  | 7, _ => by kernel_rfl
  | 8, _ => by kernel_rfl
  | n + 9, h => by omega
theorem zz_mul {r c m : Nat} (hr : 0 < r) (hm : 0 < m) (h8 : c ≤ 8) : mMul (zz r c) (zz m r) = if c = m then .ok (zz r r) else .error eShape := by
  unfold mMul mMulG
  rw [if_pos (zz_rect _ _), zz_turn hm]
  by_cases h : c = m
  · rw [if_pos h, if_pos ⟨zz_rect _ _, by rw [zz_cols hr]; simp [zz, h]⟩]
    subst h
    exact runE_const (f := mRow vDot (zz r c)) (a := List.replicate c q0) (b := List.replicate r q0) (by unfold mRow zz; exact runE_const (f := fun x => vDot (List.replicate c q0) x) (dot_zero c h8) r) r
  · rw [if_neg h, if_neg]
    rintro ⟨_, k⟩
    rw [zz_cols hr] at k
    simp [zz] at k
    exact h k
theorem zz_check {r c : Nat} (hr : r ≤ 16) (hc : c ≤ 16) : mCheck (zz r c) r c = 0 := by
  unfold mCheck
  rw [if_neg]
  rintro (h | h | h | h)
  · omega
  · omega
  · simp [zz] at h
  · have : (zz r c).all (rowOk c) = true := by
      refine List.all_eq_true.2 fun x hx => ?_
      rw [(List.mem_replicate.1 hx).2]
      unfold rowOk
      refine decide_eq_true ?_
      rintro (h | h | h)
      · omega
      · omega
      · simp at h
    rw [this] at h
    cases h
theorem zz_check2 {r c : Nat} : mCheck (zz r c) (r + 1) c = 20 := by
  unfold mCheck
  rw [if_pos]
  right; right; left
  simp [zz]
  omega
theorem one_check {r : Nat} (hr : r ≤ 16) : mCheck (mOne r) r r = 0 := by
  have hc : clampN r = r := by
    have := clampN_in (n := (r : Int)) (by omega) (by omega)
    omega
  unfold mCheck
  rw [if_neg]
  rintro (h | h | h | h)
  · omega
  · omega
  · simp [mOne, hc] at h
  · have : (mOne r).all (rowOk r) = true := by
      refine List.all_eq_true.2 fun x hx => ?_
      obtain ⟨k, _, rfl⟩ := List.mem_map.1 hx
      unfold rowOk
      refine decide_eq_true ?_
      rw [vUnit_len, hc]
      rintro (h | h | h)
      · omega
      · omega
      · simp at h
    rw [this] at h
    cases h
theorem mZero_zz {r c : Nat} (hr : r ≤ 16) (hc : c ≤ 16) : mZero r c = zz r c := by
  have h1 : clampN r = r := by
    have := clampN_in (n := (r : Int)) (by omega) (by omega)
    omega
  have h2 : clampN c = c := by
    have := clampN_in (n := (c : Int)) (by omega) (by omega)
    omega
  unfold mZero zeros zz
  rw [h1, h2]
theorem vSame_self (a : List FQ) : vSame a a = true := by unfold vSame; exact decide_eq_true rfl
theorem mSame_self (a : List (List FQ)) : mSame a a = true := by
  unfold mSame
  rw [decide_eq_true rfl]
  simp only [Bool.true_and]
  refine List.all_eq_true.2 fun p hp => ?_
  obtain ⟨i, hi, rfl⟩ := List.mem_iff_getElem.1 hp
  rw [List.getElem_zip]
  exact vSame_self _
theorem zz_len (r c : Nat) : (zz r c).length = r := by simp [zz]
theorem zz_rows {r c : Nat} (h : c < 1000000) : Rows6 (zz r c) := fun x hx => by rw [(List.mem_replicate.1 hx).2, List.length_replicate]; exact h

theorem mshapes_bad (rows cols more : Int) (h : rows < 1 ∨ rows > 8 ∨ cols < 1 ∨ cols > 8 ∨ more < 1 ∨ more > 8) : ACalls prog 11 [i64 rows, i64 cols, i64 more] (boo true) := by
  refine conN func11 rfl (by kernel_rfl) ?_
  conv => whnf
  refine callS c_tables rfl rfl ?_
  conv => whnf
  by_cases h1 : rows < 1
  · rw [decide_eq_true h1]
    conv => whnf
    exact fin rfl rfl
  rw [decide_eq_false h1]
  conv => whnf
  by_cases h2 : rows > 8
  · rw [decide_eq_true h2]
    conv => whnf
    exact fin rfl rfl
  rw [decide_eq_false h2]
  conv => whnf
  by_cases h3 : cols < 1
  · rw [decide_eq_true h3]
    conv => whnf
    exact fin rfl rfl
  rw [decide_eq_false h3]
  conv => whnf
  by_cases h4 : cols > 8
  · rw [decide_eq_true h4]
    conv => whnf
    exact fin rfl rfl
  rw [decide_eq_false h4]
  conv => whnf
  by_cases h5 : more < 1
  · rw [decide_eq_true h5]
    conv => whnf
    exact fin rfl rfl
  rw [decide_eq_false h5]
  conv => whnf
  have h6 : more > 8 := by omega
  rw [decide_eq_true h6]
  conv => whnf
  exact fin rfl rfl

theorem mshapes_good (r c m : Nat) (h1 : 1 ≤ r) (h2 : r ≤ 8) (h3 : 1 ≤ c) (h4 : c ≤ 8) (h5 : 1 ≤ m) (h6 : m ≤ 8) : ACalls prog 11 [i64 r, i64 c, i64 m] (boo true) := by
  have CZ := c_mZero r c
  have CZ2 := c_mZero m r
  have CZ3 := c_mZero r r
  have CO := c_mOne r
  rw [mZero_zz (by omega) (by omega)] at CZ CZ2 CZ3
  have K1 := c_mCheck (zz r c) r c (by rw [zz_len]; omega) (zz_rows (by omega))
  have K2 := c_mCheck (zz r c) (r + 1) c (by rw [zz_len]; omega) (zz_rows (by omega))
  have K3 := c_mCheck (mOne r) r r (by simp [mOne]; have := (clamp_b (r : Int)); have := clampN_in (n := (r : Int)) (by omega) (by omega); omega) (fun x hx => by
    obtain ⟨k, _, rfl⟩ := List.mem_map.1 hx
    rw [vUnit_len]
    have := clampN_in (n := (r : Int)) (by omega) (by omega)
    omega)
  rw [zz_check (by omega) (by omega)] at K1
  rw [zz_check2] at K2
  rw [one_check (by omega)] at K3
  have CM := c_mMul (zz r c) (zz m r) (by rw [zz_len]; omega) (zz_rows (by omega)) (by rw [zz_len]; omega) (zz_rows (by omega))
  rw [zz_mul h1 h5 h4] at CM
  have K4 := c_mCheck (zz r r) r r (by rw [zz_len]; omega) (zz_rows (by omega))
  rw [zz_check (by omega) (by omega)] at K4
  have S1 := c_mSame (zz r r) (zz r r) (by rw [zz_len]; omega) (zz_rows (by omega))
  rw [mSame_self] at S1
  have ew : IntKind.i64.wrap ((r : Int) + 1) = (r : Int) + 1 := wI (by omega) (by omega)
  obtain ⟨Z1, hZ1⟩ : ∃ Z, lT (zz r c) = Z := ⟨_, rfl⟩
  have hc1 : Z1.closed = true := by rw [← hZ1]; rfl
  refine conN func11 rfl (by kernel_rfl) ?_
  conv => whnf
  refine callS c_tables rfl rfl ?_
  conv => whnf
  rw [decide_eq_false (by omega : ¬ ((r : Nat) : Int) < 1)]
  conv => whnf
  rw [decide_eq_false (by omega : ¬ ((r : Nat) : Int) > 8)]
  conv => whnf
  rw [decide_eq_false (by omega : ¬ ((c : Nat) : Int) < 1)]
  conv => whnf
  rw [decide_eq_false (by omega : ¬ ((c : Nat) : Int) > 8)]
  conv => whnf
  rw [decide_eq_false (by omega : ¬ ((m : Nat) : Int) < 1)]
  conv => whnf
  rw [decide_eq_false (by omega : ¬ ((m : Nat) : Int) > 8)]
  conv => whnf
  refine callS CZ rfl rfl ?_
  conv => whnf
  refine callS K1 rfl rfl ?_
  conv => whnf
  rw [ew]
  refine callS K2 rfl rfl ?_
  conv => whnf
  refine callS CO rfl rfl ?_
  conv => whnf
  refine callS K3 rfl rfl ?_
  conv => whnf
  refine callS CZ2 rfl rfl ?_
  conv => whnf
  by_cases hcm : c = m
  · rw [if_pos hcm] at CM
    refine callS CM rfl rfl ?_
    conv => whnf
    rw [show ((c : Int) != (m : Int)) = false by simp; omega]
    conv => whnf
    refine callS K4 rfl rfl ?_
    conv => whnf
    refine callS CZ3 rfl rfl ?_
    conv => whnf
    refine callS S1 rfl rfl ?_
    conv => whnf
    exact fin rfl rfl
  · rw [if_neg hcm] at CM
    refine callS CM rfl rfl ?_
    conv => whnf
    rw [show ((c : Int) != (m : Int)) = true by simp; omega]
    conv => whnf
    exact fin rfl rfl

theorem matShapes_c : ∀ avs, RdArgs prog 9 f11.params.toList avs → ACalls prog 11 avs (.lit (.bool true)) := by
  intro avs h
  have h : RdArgs prog 9 [3, 3, 3] avs := h
  match avs, h with
  | [x, y, z], ⟨⟨c1, r1, e1⟩, ⟨c2, r2, e2⟩, ⟨c3, r3, e3⟩, _⟩ =>
    obtain ⟨n, rfl, _⟩ := rd_int r1
    obtain ⟨m, rfl, _⟩ := rd_int r2
    obtain ⟨k, rfl, _⟩ := rd_int r3
    rw [mkV_one ag_int] at e1 e2 e3
    subst e1 e2 e3
    by_cases h : n < 1 ∨ n > 8 ∨ m < 1 ∨ m > 8 ∨ k < 1 ∨ k > 8
    · exact mshapes_bad n m k h
    · obtain ⟨a, rfl⟩ : ∃ a : Nat, n = a := ⟨n.toNat, by omega⟩
      obtain ⟨b, rfl⟩ : ∃ b : Nat, m = b := ⟨m.toNat, by omega⟩
      obtain ⟨c, rfl⟩ : ∃ c : Nat, k = c := ⟨k.toNat, by omega⟩
      exact mshapes_good a b c (by omega) (by omega) (by omega) (by omega) (by omega) (by omega)

end Go.Proofs.YtojfepabmbnmnaaGreatDoor.Abs

/- MatShapes: for every input the law returns true, and each argument reads afterwards as it read before. Conditions: the listed variables of the library hold what their text lays (tied by the card). -/
set_option linter.unusedVariables false
namespace Go.Proofs.YtojfepabmbnmnaaGreatDoor.Abs
open Go Go.RowKit Go.ChangeShapes Go.WideShapes Go.ChangeAt Go.Proofs.Tryz

theorem matShapes_laid {W : World} (h : laidMetH prog Rows.matShapesRow.laid W) : GOk (fun b => b < W.heap.size) W :=
  gok_of_tab (Lib.tabIs_of_head gDb gDbT underlying184 underlying5 cU8 cDb h)
theorem matShapes_met (os : Os) : laidMet prog Rows.matShapesRow.laid ((laidWorld os).forCall (fun _ _ => 0) ⟨#[], #[.int .i64 0, .int .i64 0, .int .i64 0], []⟩).memory :=
  laidMet_of_run' 8 (by kernel_rfl) (by kernel_rfl)
theorem matShapes_reads (os : Os) {H : Type} (enc : TypeId × Value → H) : ∃ x places, DataW.whole enc prog ((laidWorld os).forCall (fun _ _ => 0) ⟨#[], #[.int .i64 0, .int .i64 0, .int .i64 0], []⟩).memory f11.params.toList Rows.matShapesSpec.vars false (#[.int .i64 0, .int .i64 0, .int .i64 0] : Array Value).toList 8 = some (x, [], places) :=
  ⟨[.lit (.int .i64 0), .lit (.int .i64 0), .lit (.int .i64 0)], [], by kernel_rfl⟩
set_option maxRecDepth 100000 in
theorem matShapes_lifted (os : Os) (started : os.Started) (H : Type) (enc : TypeId × Value → H) (F : Stop.Interp) :
    ReturnsInHanded {} checked os 11 .any ((OpenSpec.ofChange Rows.matShapesSpec).preRow enc prog f11 Rows.matShapesRow.domain false Rows.matShapesRow.laid) (((OpenSpec.ofChange Rows.matShapesSpec).at F).post enc prog f11 false true false false) := by
  obtain ⟨x, places, hx⟩ := matShapes_reads os enc
  refine returnsInHanded_of_row (C := checked) (s := OpenSpec.ofChange Rows.matShapesSpec) ownK started (by kernel_rfl) func11
    (witness_row_at (enc := enc) (C := checked) false (laidWorld os) #[.int .i64 0, .int .i64 0, .int .i64 0] rfl (by kernel_rfl) (by kernel_rfl) (by kernel_rfl)
      (OpenSpec.preRow_of_cond 8 hx (by kernel_rfl) (fun k hk => by cases hk) (by kernel_rfl) (matShapes_met os))) ?_
  intro W base args ds gs before hval hW _ _ _ hL _ _
  exact bridge (n := 9) laidOutP (by kernel_rfl) rfl (fun ds hd => by
    match ds, hd with
    | [_, _, _], _ => rfl) rfl underlying4 matShapes_c hval hW (matShapes_laid hL)
theorem matShapes_said : Rows.MatShapesSaid :=
  OpenClaim.holds_of_cond 11 f11 rfl rfl rfl rfl rfl rfl rfl ⟨rfl, rfl, rfl, rfl, rfl⟩ rfl rfl rfl rfl rfl (by kernel_rfl) func11 (by kernel_rfl)
    (of_decide_eq_true (by kernel_rfl)) (by unfold Func.isWrapper; first | (rw [if_pos (by decide +kernel)]; kernel_rfl) | (rw [if_neg (by decide +kernel)]; exact ⟨rfl, rfl⟩))
    (fun os started H enc _ F => by rw [OpenClaim.pre_eq_preRow]; exact matShapes_lifted os started H enc F)
theorem matShapes_plain (f : FuncId) (fn : Func) (hf : Tryz.pinned.checked.prog.funcNamed "girdle/girdlelaw08.MatShapes" = some f) (hfn : Tryz.pinned.checked.prog.funcs[f]? = some fn) :
    false = Tryz.pinned.checked.prog.looks [] ∧ ∀ (j : Nat) t, fn.params[j]? = some t → Tryz.pinned.checked.prog.wantsStandIn t = false := by
  obtain rfl : f = 11 := Option.some.inj ((show prog.funcNamed "girdle/girdlelaw08.MatShapes" = some 11 by kernel_rfl).symm.trans hf) |>.symm
  obtain rfl : fn = f11 := (Option.some.inj (func11.symm.trans hfn)).symm
  refine ⟨by kernel_rfl, fun j t ht => ?_⟩
  have hall : (f11.params.toList.all fun u => !prog.wantsStandIn u) = true := by kernel_rfl
  exact (show prog.wantsStandIn t = false by simpa using List.all_eq_true.1 hall t (by simpa using Array.mem_of_getElem? ht))
end Go.Proofs.YtojfepabmbnmnaaGreatDoor.Abs
namespace Go.Proofs.YtojfepabmbnmnaaGreatDoor
open Go Go.Proofs.YtojfepabmbnmnaaGreatDoor.Abs
/-- THE CARD. -/
theorem matShapes_card : Rows.MatShapesCardSaid :=
  Claim7.holds_tied_plain_at .later [] _ _ _ _ matShapes_said (fun _ h => by cases h) (by kernel_rfl) (fun _ h => by cases h) matShapes_row_tie rfl ⟨rfl, rfl⟩ (by kernel_rfl) rfl matShapes_plain (by kernel_rfl)
#print axioms matShapes_card
end Go.Proofs.YtojfepabmbnmnaaGreatDoor
