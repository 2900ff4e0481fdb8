/- MatHolds: for every input the law returns true, and each argument reads afterwards as it read before. Conditions: the listed variables of the library hold what their text lays (tied by the card). -/
import Derived.Test.YtojfepabmbnmnaaGreatDoorMr
import Derived.Test.YtojfepabmbnmnaaGreatDoorMn
/- MatHolds: the walk. -/
set_option linter.unusedVariables false
set_option linter.unusedSectionVars false
set_option linter.unusedSimpArgs false
set_option maxHeartbeats 4000000
set_option maxRecDepth 20000
namespace Go.Proofs.YtojfepabmbnmnaaGreatDoor.Abs
open Go Go.RowKit Go.Proofs.Tryz
attribute [local irreducible] zMul zAdd zLeft zRight fitZ qMake zDiv dMake dLevel dRound dNear dAdd dMul dRatio dCmp dMin dMax dAbs dLess qCmp sOut qAdd qMul sAdd sMul sNear qSum sHasQ sSize vUnit vEach vDot vNear vHolds vSame qSgn

theorem mhold_bad (n : Int) (l0 l1 l2 : List RawQ) (bits : Int) {e0 e1 : List AV} {f0 f1 : Bool} (C0 : ACalls prog 39 [i64 n, slv l0] (.tup [.sl e0, boo f0])) (C1 : ACalls prog 39 [i64 n, slv l1] (.tup [.sl e1, boo f1]))
    (h : f0 = false ∨ f1 = false ∨ (l2.length : Int) < n ∨ bits < 2 ∨ bits > 200) : ACalls prog 9 [i64 n, .agg [slv l0, slv l1, slv l2], i64 bits] (boo true) := by
  have hlen : (((l2.map rawv).length : Nat) : Int) = (l2.length : Int) := by simp
  refine conN func9 rfl (by kernel_rfl) ?_
  conv => whnf
  refine callS c_tables rfl rfl ?_
  conv => whnf
  refine ⟨⟨by decide, by decide, rfl⟩, ?_⟩
  conv => whnf
  refine callS C0 rfl rfl ?_
  conv => whnf
  refine ⟨⟨by decide, by decide, rfl⟩, ?_⟩
  conv => whnf
  refine callS C1 rfl rfl ?_
  conv => whnf
  cases f0 with
  | false =>
    conv => whnf
    exact fin rfl rfl
  | true =>
    conv => whnf
    cases f1 with
    | false =>
      conv => whnf
      exact fin rfl rfl
    | true =>
      conv => whnf
      refine ⟨⟨by decide, by decide, rfl⟩, ?_⟩
      conv => whnf
      rw [hlen]
      by_cases hl : (l2.length : Int) < n
      · rw [decide_eq_true hl]
        conv => whnf
        exact fin rfl rfl
      rw [decide_eq_false hl]
      conv => whnf
      by_cases h2 : bits < 2
      · rw [decide_eq_true h2]
        conv => whnf
        exact fin rfl rfl
      rw [decide_eq_false h2]
      conv => whnf
      have h3 : bits > 200 := by
        rcases h with h | h | h | h | h
        · cases h
        · cases h
        · exact absurd h hl
        · exact absurd h h2
        · exact h
      rw [decide_eq_true h3]
      conv => whnf
      exact fin rfl rfl

theorem mhold_go (k : Nat) (l0 l1 l2 : List RawQ) (bits : Int) (h2 : 2 ≤ bits) (h200 : bits ≤ 200) {a b : List (List FQ)} (hk : k ≤ 4) (ha : Sqr k a) (hb : Sqr k b) (sa : SzT a 96) (sb : SzT b 96) (hl2 : l2.length ≤ 9223372036854775807 ∧ ∀ x ∈ l2, RawB x) (hl : k ≤ l2.length)
    (C0 : ACalls prog 39 [i64 k, slv l0] (.tup [lT a, boo true])) (C1 : ACalls prog 39 [i64 k, slv l1] (.tup [lT b, boo true])) :
    ACalls prog 9 [i64 k, .agg [slv l0, slv l1, slv l2], i64 bits] (boo true) := by
  have hlen : (((l2.map rawv).length : Nat) : Int) = (l2.length : Int) := by simp
  have e3 : ((l2.map rawv).take k).drop 0 = (l2.take k).map rawv := by rw [List.drop_zero, List.map_take]
  have hxl : (l2.take k).length = k := by simp; omega
  have hxb : ∀ x ∈ l2.take k, RawB x := fun x hx => hl2.2 x (List.mem_of_mem_take hx)
  obtain ⟨xr, hxr⟩ : ∃ xr, l2.take k = xr := ⟨_, rfl⟩
  rw [hxr] at e3 hxl hxb
  have hxm : (((xr.map rawv).length : Nat) : Int) = (xr.length : Int) := by simp
  refine conP func9 rfl (by kernel_rfl) ?_
  refine .go (by kernel_rfl) ?_
  conv => whnf
  refine .go (by kernel_rfl) ?_
  conv => whnf
  refine callS c_tables rfl rfl ?_
  conv => whnf
  refine .go (by kernel_rfl) ?_
  conv => whnf
  refine ⟨⟨by decide, by decide, rfl⟩, ?_⟩
  conv => whnf
  refine callS C0 rfl rfl ?_
  conv => whnf
  refine .go (by kernel_rfl) ?_
  conv => whnf
  refine ⟨⟨by decide, by decide, rfl⟩, ?_⟩
  conv => whnf
  refine callS C1 rfl rfl ?_
  conv => whnf
  refine .go (by kernel_rfl) ?_
  conv => whnf
  refine ⟨⟨by decide, by decide, rfl⟩, ?_⟩
  conv => whnf
  rw [hlen, decide_eq_false (by omega)]
  conv => whnf
  rw [decide_eq_false (by omega : ¬ bits < 2)]
  conv => whnf
  rw [decide_eq_false (by omega : ¬ bits > 200)]
  conv => whnf
  refine .go (by kernel_rfl) ?_
  conv => whnf
  refine ⟨⟨by decide, by decide, rfl⟩, ?_⟩
  conv => whnf
  refine ⟨⟨by decide, Int.natCast_nonneg _, by rw [hlen]; omega, Int.le_refl _, fun v hv => ?_⟩, ?_⟩
  · obtain ⟨x, _, rfl⟩ := List.mem_map.1 (List.mem_of_mem_head? hv)
    rfl
  rw [show ((((List.map rawv l2).take ((k : Int)).toNat).drop (Int.toNat 0))) = xr.map rawv by rw [Int.toNat_natCast]; exact e3]
  conv => whnf
  refine .cut (fun x : List FQ => x.length = k ∧ ∀ y ∈ x, sm 3 y) (fun x => { fr := [(2, i64 bits), (7, lT a), (9, lT b), (11, lQ x)], g := 30 }) ?_ ?_
  · refine .go (by kernel_rfl) ?_
    conv => whnf
    refine .block (.loop (fun i => i ≤ xr.length ∧ ∀ x ∈ xr.take i, fit3 x = true) (fun i => { fr := [(2, i64 bits), (7, lT a), (9, lT b), (11, slv xr), (79, slv xr), (80, i64 xr.length), (81, i64 (i : Nat))], g := 20 }) (fun i => xr.length - i) 0 ⟨Nat.zero_le _, by simp⟩ ?_ ?_)
    · exact ⟨trivial, ⟨.inl ⟨.refl _, rfl⟩, .inl ⟨.refl _, rfl⟩, .inl ⟨.refl _, rfl⟩, .inl ⟨.refl _, rfl⟩, .inl ⟨.refl _, rfl⟩, .inl ⟨.of_eq (congrArg i64 hxm), rfl⟩, .inl ⟨.refl _, rfl⟩, trivial⟩, trivial⟩
    rintro i ⟨i1, i2⟩
    dsimp only at i1 i2 ⊢
    refine pcN (by kernel_rfl) ?_
    conv => whnf
    refine Br.mk (fun h => ?_) (fun h => ?_)
    · have hi : i < xr.length := by
        have := of_decide_eq_true h
        omega
      clear h
      obtain ⟨x, hx⟩ : ∃ x, xr[i] = x := ⟨_, rfl⟩
      have hxm : x ∈ xr := by rw [← hx]; exact List.getElem_mem hi
      have q1 : (((x.2.1.map dg).length : Nat) : Int) = (x.2.1.length : Int) := by simp
      have q2 : (((x.2.2.map dg).length : Nat) : Int) = (x.2.2.length : Int) := by simp
      conv => whnf
      refine ⟨rawv x, ⟨by omega, by simp [hi, hx], rfl, rfl⟩, ?_⟩
      conv => whnf
      rw [q1]
      by_cases c1 : x.2.1.length ≤ 3
      · rw [decide_eq_false (by omega : ¬ (x.2.1.length : Int) > 3)]
        conv => whnf
        rw [q2]
        by_cases c2 : x.2.2.length ≤ 3
        · rw [decide_eq_false (by omega : ¬ (x.2.2.length : Int) > 3)]
          conv => whnf
          obtain ⟨c, C, hc⟩ : ∃ c, ACalls prog 47 [rawv x] (i64 c) ∧ rawCheck x = c := ⟨_, c_qCheck x.1 x.2.1 x.2.2 (by omega) (by omega) (hxb x hxm).2.2.1 (hxb x hxm).2.2.2, rfl⟩
          refine callS C rfl rfl ?_
          conv => whnf
          refine Br.mk (fun h => ?_) (fun h => ?_)
          · conv => whnf
            exact fin rfl rfl
          · have c3 : c = 0 := by simpa using h
            conv => whnf
            refine ⟨i + 1, ⟨by omega, fun y hy => ?_⟩, ⟨trivial, ⟨.inl ⟨.refl _, rfl⟩, .inl ⟨.refl _, rfl⟩, .inl ⟨.refl _, rfl⟩, .inl ⟨.refl _, rfl⟩, .inl ⟨.refl _, rfl⟩, .inl ⟨.refl _, rfl⟩, .inl ⟨.of_eq (congrArg i64 ?_), rfl⟩, trivial⟩, trivial⟩, by show xr.length - (i + 1) < xr.length - i; omega⟩
            · rw [List.take_succ_eq_append_getElem hi, List.mem_append] at hy
              rcases hy with hy | hy
              · exact i2 y hy
              · simp only [List.mem_singleton] at hy
                rw [hy, hx]
                unfold fit3
                rw [hc, decide_eq_true c1, decide_eq_true c2, decide_eq_true c3]
                rfl
            · exact (wI (n := (i : Int) + 1) (by omega) (by omega)).trans (by simp)
        · rw [decide_eq_true (by omega : (x.2.2.length : Int) > 3)]
          conv => whnf
          exact fin rfl rfl
      · rw [decide_eq_true (by omega : (x.2.1.length : Int) > 3)]
        conv => whnf
        exact fin rfl rfl
    · have he : xr.length ≤ i := by
        have := of_decide_eq_false h
        omega
      clear h
      conv => whnf
      obtain ⟨x, x1, x2, x3⟩ := fit3_all hxb (all_of_take i2 he)
      exact ⟨x, ⟨by omega, x3⟩, ⟨trivial, ⟨.inl ⟨.refl _, rfl⟩, .inl ⟨.refl _, rfl⟩, .inl ⟨.refl _, rfl⟩, .inl ⟨.of_eq (congrArg AV.sl x1), rfl⟩, trivial⟩, trivial⟩⟩
  · rintro x ⟨hx, hxs⟩
    clear C0 C1
    have hBO : BOk bits := ⟨by omega, by omega⟩
    obtain ⟨p, q, v, m, s, w, ab, sum, ax, p1, q1, v1, m1, s1, w1, g1, t1, y1, H1, H2, H3, z1, z2, z3, z4, z5⟩ := (kept_ok hk h2 h200 ha hb hx sa sb (sm_szL hxs)).h
    have L : ∀ {t : List (List FQ)}, Sqr k t → t.length < 1000000 := fun h => by rw [h.1]; omega
    have R : ∀ {t : List (List FQ)}, Sqr k t → Rows6 t := fun h => h.rows6 (by omega)
    have L' : ∀ {t : List (List FS)}, SqG k t → t.length < 1000000 := fun h => by rw [h.1]; omega
    have R' : ∀ {t : List (List FS)}, SqG k t → Rows6 t := fun h => h.rows6 (by omega)
    have M1 := c_mNear a bits hBO (L ha) (R ha)
    have M2 := c_mNear b bits hBO (L hb) (R hb)
    have M3 := c_vNear x bits hBO (by omega)
    have M4 := c_mTimes p q bits hBO (L' z1) (R' z1) (L' z2) (R' z2)
    have M5 := c_mPlus p q bits hBO (L' z1) (R' z1)
    have M6 := c_mOn p v bits hBO (L' z1) (R' z1)
    have M7 := c_mMul a b (L ha) (R ha) (L hb) (R hb)
    have M8 := c_mAdd a b (L ha) (R ha)
    have M9 := c_mApply a x (L ha) (R ha)
    have M10 := c_mHolds m ab (L' z3) (R' z3)
    have M11 := c_mHolds s sum (L' z4) (R' z4)
    have M12 := c_vHolds w ax (by omega)
    rw [p1] at M1
    rw [q1] at M2
    rw [v1] at M3
    rw [m1] at M4
    rw [s1] at M5
    rw [w1] at M6
    rw [g1] at M7
    rw [t1] at M8
    rw [y1] at M9
    rw [H1] at M10
    rw [H2] at M11
    rw [H3] at M12
    refine pcN (by kernel_rfl) ?_
    conv => whnf
    refine callS M1 rfl rfl ?_
    conv => whnf
    refine callS M2 rfl rfl ?_
    conv => whnf
    refine callS M3 rfl rfl ?_
    conv => whnf
    refine callS M4 rfl rfl ?_
    conv => whnf
    refine callS M5 rfl rfl ?_
    conv => whnf
    refine callS M6 rfl rfl ?_
    conv => whnf
    refine callS M7 rfl rfl ?_
    conv => whnf
    refine callS M8 rfl rfl ?_
    conv => whnf
    refine callS M9 rfl rfl ?_
    conv => whnf
    refine callS M10 rfl rfl ?_
    conv => whnf
    refine callS M11 rfl rfl ?_
    conv => whnf
    refine callS M12 rfl rfl ?_
    conv => whnf
    exact fin rfl rfl

theorem matHolds_c : ∀ avs, RdArgs prog 9 f9.params.toList avs → ACalls prog 9 avs (.lit (.bool true)) := by
  intro avs h
  have h : RdArgs prog 9 [3, 69, 3] avs := h
  match avs, h with
  | [x, y, z], ⟨⟨c1, r1, e1⟩, ⟨c2, r2, e2⟩, ⟨c3, r3, e3⟩, _⟩ =>
    obtain ⟨n, rfl, _⟩ := rd_int r1
    obtain ⟨a, b, c, rfl, ha, hb, hc⟩ := rd_three r2
    obtain ⟨bits, rfl, _⟩ := rd_int r3
    rw [mkV_one ag_int] at e1 e3
    rw [mkV_agg ag_three] at e2
    subst e1 e2 e3
    have C0 := c_sqr n a ha
    have C1 := c_sqr n b hb
    have bad : sqr n a = none ∨ sqr n b = none ∨ (c.length : Int) < n ∨ bits < 2 ∨ bits > 200 → ACalls prog 9 [i64 n, .agg [slv a, slv b, slv c], i64 bits] (boo true) := fun h => by
      obtain ⟨e0, f0, q0, i0⟩ := sqV_sl (sqr n a)
      obtain ⟨e1, f1, q1, i1⟩ := sqV_sl (sqr n b)
      rw [q0] at C0
      rw [q1] at C1
      exact mhold_bad n a b c bits C0 C1 (h.imp i0.2 (Or.imp i1.2 id))
    cases h0 : sqr n a with
    | none => exact bad (.inl h0)
    | some t0 =>
      cases h1 : sqr n b with
      | none => exact bad (.inr (.inl h1))
      | some t1 =>
        by_cases h2 : (c.length : Int) < n ∨ bits < 2 ∨ bits > 200
        · exact bad (.inr (.inr h2))
        · obtain ⟨k, rfl, hk, _, ta, w0, s0', z0⟩ := sqr_tab ha.2 h0
          obtain ⟨k1, e1', _, _, tb, w1, s1, z1⟩ := sqr_tab hb.2 h1
          obtain rfl : k1 = k := by omega
          rw [w0] at C0
          rw [w1] at C1
          exact mhold_go k1 a b c bits (by omega) (by omega) hk s0' s1 z0 z1 hc (by omega) C0 C1

end Go.Proofs.YtojfepabmbnmnaaGreatDoor.Abs

/- MatHolds: for every input the law returns true, and each argument reads afterwards as it read before. Conditions: the listed variables of the library hold what their text lays (tied by the card). -/
set_option linter.unusedVariables false
namespace Go.Proofs.YtojfepabmbnmnaaGreatDoor.Abs
open Go Go.RowKit Go.ChangeShapes Go.WideShapes Go.ChangeAt Go.Proofs.Tryz

theorem matHolds_laid {W : World} (h : laidMetH prog Rows.matHoldsRow.laid W) : GOk (fun b => b < W.heap.size) W :=
  gok_of_tab (Lib.tabIs_of_head gDb gDbT underlying184 underlying5 cU8 cDb h)
theorem matHolds_met (os : Os) : laidMet prog Rows.matHoldsRow.laid ((laidWorld os).forCall (fun _ _ => 0) ⟨#[], #[.int .i64 0, .agg #[.slice none 0 0, .slice none 0 0, .slice none 0 0], .int .i64 0], []⟩).memory :=
  laidMet_of_run' 8 (by kernel_rfl) (by kernel_rfl)
theorem matHolds_reads (os : Os) {H : Type} (enc : TypeId × Value → H) : ∃ x places, DataW.whole enc prog ((laidWorld os).forCall (fun _ _ => 0) ⟨#[], #[.int .i64 0, .agg #[.slice none 0 0, .slice none 0 0, .slice none 0 0], .int .i64 0], []⟩).memory f9.params.toList Rows.matHoldsSpec.vars false (#[.int .i64 0, .agg #[.slice none 0 0, .slice none 0 0, .slice none 0 0], .int .i64 0] : Array Value).toList 8 = some (x, [], places) :=
  ⟨[.lit (.int .i64 0), .agg [.nil, .nil, .nil], .lit (.int .i64 0)], [], by kernel_rfl⟩
set_option maxRecDepth 100000 in
theorem matHolds_lifted (os : Os) (started : os.Started) (H : Type) (enc : TypeId × Value → H) (F : Stop.Interp) :
    ReturnsInHanded {} checked os 9 .any ((OpenSpec.ofChange Rows.matHoldsSpec).preRow enc prog f9 Rows.matHoldsRow.domain false Rows.matHoldsRow.laid) (((OpenSpec.ofChange Rows.matHoldsSpec).at F).post enc prog f9 false true false false) := by
  obtain ⟨x, places, hx⟩ := matHolds_reads os enc
  refine returnsInHanded_of_row (C := checked) (s := OpenSpec.ofChange Rows.matHoldsSpec) ownK started (by kernel_rfl) func9
    (witness_row_at (enc := enc) (C := checked) false (laidWorld os) #[.int .i64 0, .agg #[.slice none 0 0, .slice none 0 0, .slice none 0 0], .int .i64 0] rfl (by kernel_rfl) (by kernel_rfl) (by kernel_rfl)
      (OpenSpec.preRow_of_cond 8 hx (by kernel_rfl) (fun k hk => by cases hk) (by kernel_rfl) (matHolds_met os))) ?_
  intro W base args ds gs before hval hW _ _ _ hL _ _
  exact bridge (n := 9) laidOutP (by kernel_rfl) rfl (fun ds hd => by
    match ds, hd with
    | [_, _, _], _ => rfl) rfl underlying4 matHolds_c hval hW (matHolds_laid hL)
theorem matHolds_said : Rows.MatHoldsSaid :=
  OpenClaim.holds_of_cond 9 f9 rfl rfl rfl rfl rfl rfl rfl ⟨rfl, rfl, rfl, rfl, rfl⟩ rfl rfl rfl rfl rfl (by kernel_rfl) func9 (by kernel_rfl)
    (of_decide_eq_true (by kernel_rfl)) (by unfold Func.isWrapper; first | (rw [if_pos (by decide +kernel)]; kernel_rfl) | (rw [if_neg (by decide +kernel)]; exact ⟨rfl, rfl⟩))
    (fun os started H enc _ F => by rw [OpenClaim.pre_eq_preRow]; exact matHolds_lifted os started H enc F)
theorem matHolds_plain (f : FuncId) (fn : Func) (hf : Tryz.pinned.checked.prog.funcNamed "girdle/girdlelaw08.MatHolds" = some f) (hfn : Tryz.pinned.checked.prog.funcs[f]? = some fn) :
    false = Tryz.pinned.checked.prog.looks [] ∧ ∀ (j : Nat) t, fn.params[j]? = some t → Tryz.pinned.checked.prog.wantsStandIn t = false := by
  obtain rfl : f = 9 := Option.some.inj ((show prog.funcNamed "girdle/girdlelaw08.MatHolds" = some 9 by kernel_rfl).symm.trans hf) |>.symm
  obtain rfl : fn = f9 := (Option.some.inj (func9.symm.trans hfn)).symm
  refine ⟨by kernel_rfl, fun j t ht => ?_⟩
  have hall : (f9.params.toList.all fun u => !prog.wantsStandIn u) = true := by kernel_rfl
  exact (show prog.wantsStandIn t = false by simpa using List.all_eq_true.1 hall t (by simpa using Array.mem_of_getElem? ht))
end Go.Proofs.YtojfepabmbnmnaaGreatDoor.Abs
namespace Go.Proofs.YtojfepabmbnmnaaGreatDoor
open Go Go.Proofs.YtojfepabmbnmnaaGreatDoor.Abs
/-- THE CARD. -/
theorem matHolds_card : Rows.MatHoldsCardSaid :=
  Claim7.holds_tied_plain_at .later [] _ _ _ _ matHolds_said (fun _ h => by cases h) (by kernel_rfl) (fun _ h => by cases h) matHolds_row_tie rfl ⟨rfl, rfl⟩ (by kernel_rfl) rfl matHolds_plain (by kernel_rfl)
#print axioms matHolds_card
end Go.Proofs.YtojfepabmbnmnaaGreatDoor
