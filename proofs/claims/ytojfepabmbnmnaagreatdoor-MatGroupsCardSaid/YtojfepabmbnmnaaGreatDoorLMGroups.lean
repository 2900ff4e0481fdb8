/- MatGroups: for every input the law returns true, and each argument reads afterwards as it read before. Conditions: the listed variables of the library hold what their text lays (tied by the card). -/
import Derived.Test.YtojfepabmbnmnaaGreatDoorMq
import Derived.Test.YtojfepabmbnmnaaGreatDoorMn
/- MatGroups: the walk. -/
set_option linter.unusedVariables false
set_option linter.unusedSectionVars false
set_option linter.unusedSimpArgs false
set_option maxHeartbeats 4000000
set_option maxRecDepth 20000
namespace Go.Proofs.YtojfepabmbnmnaaGreatDoor.Abs
open Go Go.RowKit Go.Proofs.Tryz
attribute [local irreducible] zMul zAdd zLeft zRight fitZ qMake zDiv dMake dLevel dRound dNear dAdd dMul dRatio dCmp dMin dMax dAbs dLess qCmp sOut qAdd qMul sAdd sMul sNear qSum sHasQ sSize vUnit vEach vDot vNear vHolds vSame qSgn

/-! ## What square tells -/
theorem fit3_q {x : RawQ} (hb : RawB x) (h : fit3 x = true) : ∃ a : FQ, rawQ a = x ∧ sm 3 a := by
  unfold fit3 at h
  simp only [Bool.and_eq_true, decide_eq_true_eq] at h
  obtain ⟨a, rfl⟩ := raw_q hb.2.2.1 hb.2.2.2 h.2.2
  exact ⟨a, rfl, h.1, h.2.1⟩
theorem fit3_all : ∀ {l : List RawQ}, (∀ x ∈ l, RawB x) → l.all fit3 = true → ∃ a : List FQ, l.map rawv = a.map ratv ∧ l.length = a.length ∧ ∀ x ∈ a, sm 3 x
  | [], _, _ => ⟨[], rfl, rfl, by simp⟩
  | x :: l, hb, h => by
    simp only [List.all_cons, Bool.and_eq_true] at h
    obtain ⟨a, ha, hs⟩ := fit3_q (hb x (by simp)) h.1
    obtain ⟨cv, h1, h2, h3⟩ := fit3_all (fun y hy => hb y (by simp [hy])) h.2
    refine ⟨a :: cv, by simp [h1, ← ha, rawv_rawQ], by simp [h2], fun y hy => ?_⟩
    rcases List.mem_cons.1 hy with rfl | hy
    · exact hs
    · exact h3 y hy
theorem rows_tab {k : Nat} : ∀ {t : List (List RawQ)}, (∀ r ∈ t, r.length = k ∧ (∀ x ∈ r, RawB x) ∧ r.all fit3 = true) → ∃ a : List (List FQ), t.map slv = a.map lQ ∧ t.length = a.length ∧ (∀ r ∈ a, r.length = k) ∧ SzT a 96
  | [], _ => ⟨[], rfl, rfl, by simp, fun r hr => by simp at hr⟩
  | r :: t, h => by
    obtain ⟨hl, hb, hf⟩ := h r (by simp)
    obtain ⟨c, h1, h2, h3⟩ := fit3_all hb hf
    obtain ⟨a, g1, g2, g3, g4⟩ := rows_tab (t := t) fun x hx => h x (by simp [hx])
    refine ⟨c :: a, ?_, by simp [g2], fun x hx => ?_, fun x hx => ?_⟩
    · simp only [List.map_cons]
      rw [g1]
      exact congrArg (fun z => AV.sl z :: a.map lQ) h1
    · rcases List.mem_cons.1 hx with rfl | hx
      · rw [← h2, hl]
      · exact g3 x hx
    · rcases List.mem_cons.1 hx with rfl | hx
      · exact sm_szL h3
      · exact g4 x hx
theorem sqr_tab {n : Int} {l : List RawQ} {t : List (List RawQ)} (hb : ∀ x ∈ l, RawB x) (h : sqr n l = some t) : ∃ k : Nat, n = k ∧ k ≤ 4 ∧ k * k ≤ l.length ∧ ∃ a : List (List FQ), sqV (sqr n l) = .tup [lT a, boo true] ∧ Sqr k a ∧ SzT a 96 := by
  have h0 := h
  unfold sqr at h
  split at h
  · cases h
  rename_i hg
  split at h
  case isFalse => cases h
  rename_i ha
  cases h
  obtain ⟨k, rfl⟩ : ∃ k : Nat, n = (k : Int) := ⟨n.toNat, by omega⟩
  rw [Int.toNat_natCast] at ha h0
  have hkk : k * k ≤ l.length := by
    have : ¬ ((l.length : Int) < (k : Int) * (k : Int)) := fun h => hg (.inr (.inr h))
    rw [← Int.natCast_mul] at this
    omega
  obtain ⟨a, h1, h2, h3, h4⟩ := rows_tab (k := k) (t := sqRows k l k) fun r hr => by
    have hf := List.all_eq_true.1 ha r hr
    obtain ⟨j, hj, rfl⟩ := List.mem_map.1 hr
    exact ⟨sqRow_len hkk (List.mem_range.1 hj), fun x hx => hb x (List.mem_of_mem_take (List.mem_of_mem_drop hx)), hf⟩
  refine ⟨k, rfl, by omega, hkk, a, ?_, ⟨by rw [← h2]; simp [sqRows], h3⟩, h4⟩
  rw [h0]
  show AV.tup [.sl ((sqRows k l k).map slv), boo true] = _
  rw [h1]
  rfl
theorem sqV_sl (o : Option (List (List RawQ))) : ∃ es f, sqV o = .tup [.sl es, boo f] ∧ (f = false ↔ o = none) := by
  cases o with
  | none => exact ⟨_, _, rfl, by simp⟩
  | some t => exact ⟨_, _, rfl, by simp⟩
theorem rd_three {n : Nat} {cv : List AV} (h : RdC prog (n + 6) 69 cv) : ∃ a b c : List RawQ, cv = [slv a, slv b, slv c] ∧ (a.length ≤ 9223372036854775807 ∧ ∀ x ∈ a, RawB x) ∧ (b.length ≤ 9223372036854775807 ∧ ∀ x ∈ b, RawB x) ∧ (c.length ≤ 9223372036854775807 ∧ ∀ x ∈ c, RawB x) := by
  obtain ⟨ess, h1, rfl, h2⟩ := rdc_array underlying69 h
  match ess, h1 with
  | [x, y, z], _ =>
    obtain ⟨a, rfl, a1⟩ := rd_rats (h2 x (by simp))
    obtain ⟨b, rfl, b1⟩ := rd_rats (h2 y (by simp))
    obtain ⟨c, rfl, c1⟩ := rd_rats (h2 z (by simp))
    exact ⟨a, b, c, rfl, a1, b1, c1⟩
theorem ag_three : isAgg prog 69 = true := isAgg_array underlying69

theorem mgroups_bad (n : Int) (l0 l1 l2 : List RawQ) {e0 e1 e2 : List AV} {f0 f1 f2 : Bool} (C0 : ACalls prog 39 [i64 n, slv l0] (.tup [.sl e0, boo f0])) (C1 : ACalls prog 39 [i64 n, slv l1] (.tup [.sl e1, boo f1]))
    (C2 : ACalls prog 39 [i64 n, slv l2] (.tup [.sl e2, boo f2])) (h : f0 = false ∨ f1 = false ∨ f2 = false) : ACalls prog 12 [i64 n, .agg [slv l0, slv l1, slv l2]] (boo true) := by
  refine conN func12 rfl (by kernel_rfl) ?_
  conv => whnf
  refine callS c_tables rfl rfl ?_
  conv => whnf
  refine ⟨⟨by decide, by decide, rfl⟩, ?_⟩
  conv => whnf
  refine callS C0 rfl rfl ?_
  conv => whnf
  refine ⟨⟨by decide, by decide, rfl⟩, ?_⟩
  conv => whnf
  refine callS C1 rfl rfl ?_
  conv => whnf
  refine ⟨⟨by decide, by decide, rfl⟩, ?_⟩
  conv => whnf
  refine callS C2 rfl rfl ?_
  conv => whnf
  cases f0 with
  | false =>
    conv => whnf
    exact fin rfl rfl
  | true =>
    conv => whnf
    cases f1 with
    | false =>
      conv => whnf
      exact fin rfl rfl
    | true =>
      conv => whnf
      cases f2 with
      | false =>
        conv => whnf
        exact fin rfl rfl
      | true => simp at h

theorem mgroups_good (n : Int) (l0 l1 l2 : List RawQ) {k : Nat} {a b c : List (List FQ)} (hk : k ≤ 4) (ha : Sqr k a) (hb : Sqr k b) (hc : Sqr k c) (sa : SzT a 96) (sb : SzT b 96) (sc : SzT c 96)
    (C0 : ACalls prog 39 [i64 n, slv l0] (.tup [lT a, boo true])) (C1 : ACalls prog 39 [i64 n, slv l1] (.tup [lT b, boo true]))
    (C2 : ACalls prog 39 [i64 n, slv l2] (.tup [lT c, boo true])) : ACalls prog 12 [i64 n, .agg [slv l0, slv l1, slv l2]] (boo true) := by
  obtain ⟨ab, bc, x, y, p1, p2, p3, p4, q1, q2, q3, q4, hs⟩ := groups_ok hk ha hb hc sa sb sc
  have L : ∀ {t : List (List FQ)}, Sqr k t → t.length < 1000000 := fun h => by rw [h.1]; omega
  have R : ∀ {t : List (List FQ)}, Sqr k t → Rows6 t := fun h => h.rows6 (by omega)
  have M1 := c_mMul a b (L ha) (R ha) (L hb) (R hb)
  have M2 := c_mMul b c (L hb) (R hb) (L hc) (R hc)
  have M3 := c_mMul ab c (L q1) (R q1) (L hc) (R hc)
  have M4 := c_mMul a bc (L ha) (R ha) (L q2) (R q2)
  rw [p1] at M1
  rw [p2] at M2
  rw [p3] at M3
  rw [p4] at M4
  have S1 := c_mSame x y (L q3) (R q3)
  rw [hs] at S1
  refine conN func12 rfl (by kernel_rfl) ?_
  conv => whnf
  refine callS c_tables rfl rfl ?_
  conv => whnf
  refine ⟨⟨by decide, by decide, rfl⟩, ?_⟩
  conv => whnf
  refine callS C0 rfl rfl ?_
  conv => whnf
  refine ⟨⟨by decide, by decide, rfl⟩, ?_⟩
  conv => whnf
  refine callS C1 rfl rfl ?_
  conv => whnf
  refine ⟨⟨by decide, by decide, rfl⟩, ?_⟩
  conv => whnf
  refine callS C2 rfl rfl ?_
  conv => whnf
  refine callS M1 rfl rfl ?_
  conv => whnf
  refine callS M2 rfl rfl ?_
  conv => whnf
  refine callS M3 rfl rfl ?_
  conv => whnf
  refine callS M4 rfl rfl ?_
  conv => whnf
  refine callS S1 rfl rfl ?_
  conv => whnf
  exact fin rfl rfl

theorem matGroups_c : ∀ avs, RdArgs prog 9 f12.params.toList avs → ACalls prog 12 avs (.lit (.bool true)) := by
  intro avs h
  have h : RdArgs prog 9 [3, 69] avs := h
  match avs, h with
  | [x, y], ⟨⟨c1, r1, e1⟩, ⟨c2, r2, e2⟩, _⟩ =>
    obtain ⟨n, rfl, _⟩ := rd_int r1
    obtain ⟨a, b, c, rfl, ha, hb, hc⟩ := rd_three r2
    rw [mkV_one ag_int] at e1
    rw [mkV_agg ag_three] at e2
    subst e1 e2
    have C0 := c_sqr n a ha
    have C1 := c_sqr n b hb
    have C2 := c_sqr n c hc
    cases h0 : sqr n a with
    | none =>
      obtain ⟨e0, f0, q0, i0⟩ := sqV_sl (sqr n a)
      obtain ⟨e1, f1, q1, i1⟩ := sqV_sl (sqr n b)
      obtain ⟨e2, f2, q2, i2⟩ := sqV_sl (sqr n c)
      rw [q0] at C0
      rw [q1] at C1
      rw [q2] at C2
      exact mgroups_bad n a b c C0 C1 C2 (.inl (i0.2 h0))
    | some t0 =>
      cases h1 : sqr n b with
      | none =>
        obtain ⟨e0, f0, q0, i0⟩ := sqV_sl (sqr n a)
        obtain ⟨e1, f1, q1, i1⟩ := sqV_sl (sqr n b)
        obtain ⟨e2, f2, q2, i2⟩ := sqV_sl (sqr n c)
        rw [q0] at C0
        rw [q1] at C1
        rw [q2] at C2
        exact mgroups_bad n a b c C0 C1 C2 (.inr (.inl (i1.2 h1)))
      | some t1 =>
        cases h2 : sqr n c with
        | none =>
          obtain ⟨e0, f0, q0, i0⟩ := sqV_sl (sqr n a)
          obtain ⟨e1, f1, q1, i1⟩ := sqV_sl (sqr n b)
          obtain ⟨e2, f2, q2, i2⟩ := sqV_sl (sqr n c)
          rw [q0] at C0
          rw [q1] at C1
          rw [q2] at C2
          exact mgroups_bad n a b c C0 C1 C2 (.inr (.inr (i2.2 h2)))
        | some t2 =>
          obtain ⟨k, rfl, hk, _, ta, w0, s0', z0⟩ := sqr_tab ha.2 h0
          obtain ⟨k1, e1', _, _, tb, w1, s1, z1⟩ := sqr_tab hb.2 h1
          obtain ⟨k2, e2', _, _, tc, w2, s2, z2⟩ := sqr_tab hc.2 h2
          obtain rfl : k1 = k := by omega
          obtain rfl : k2 = k1 := by omega
          rw [w0] at C0
          rw [w1] at C1
          rw [w2] at C2
          exact mgroups_good _ a b c hk s0' s1 s2 z0 z1 z2 C0 C1 C2

end Go.Proofs.YtojfepabmbnmnaaGreatDoor.Abs

/- MatGroups: for every input the law returns true, and each argument reads afterwards as it read before. Conditions: the listed variables of the library hold what their text lays (tied by the card). -/
set_option linter.unusedVariables false
namespace Go.Proofs.YtojfepabmbnmnaaGreatDoor.Abs
open Go Go.RowKit Go.ChangeShapes Go.WideShapes Go.ChangeAt Go.Proofs.Tryz

theorem matGroups_laid {W : World} (h : laidMetH prog Rows.matGroupsRow.laid W) : GOk (fun b => b < W.heap.size) W :=
  gok_of_tab (Lib.tabIs_of_head gDb gDbT underlying184 underlying5 cU8 cDb h)
theorem matGroups_met (os : Os) : laidMet prog Rows.matGroupsRow.laid ((laidWorld os).forCall (fun _ _ => 0) ⟨#[], #[.int .i64 0, .agg #[.slice none 0 0, .slice none 0 0, .slice none 0 0]], []⟩).memory :=
  laidMet_of_run' 8 (by kernel_rfl) (by kernel_rfl)
theorem matGroups_reads (os : Os) {H : Type} (enc : TypeId × Value → H) : ∃ x places, DataW.whole enc prog ((laidWorld os).forCall (fun _ _ => 0) ⟨#[], #[.int .i64 0, .agg #[.slice none 0 0, .slice none 0 0, .slice none 0 0]], []⟩).memory f12.params.toList Rows.matGroupsSpec.vars false (#[.int .i64 0, .agg #[.slice none 0 0, .slice none 0 0, .slice none 0 0]] : Array Value).toList 8 = some (x, [], places) :=
  ⟨[.lit (.int .i64 0), .agg [.nil, .nil, .nil]], [], by kernel_rfl⟩
set_option maxRecDepth 100000 in
theorem matGroups_lifted (os : Os) (started : os.Started) (H : Type) (enc : TypeId × Value → H) (F : Stop.Interp) :
    ReturnsInHanded {} checked os 12 .any ((OpenSpec.ofChange Rows.matGroupsSpec).preRow enc prog f12 Rows.matGroupsRow.domain false Rows.matGroupsRow.laid) (((OpenSpec.ofChange Rows.matGroupsSpec).at F).post enc prog f12 false true false false) := by
  obtain ⟨x, places, hx⟩ := matGroups_reads os enc
  refine returnsInHanded_of_row (C := checked) (s := OpenSpec.ofChange Rows.matGroupsSpec) ownK started (by kernel_rfl) func12
    (witness_row_at (enc := enc) (C := checked) false (laidWorld os) #[.int .i64 0, .agg #[.slice none 0 0, .slice none 0 0, .slice none 0 0]] rfl (by kernel_rfl) (by kernel_rfl) (by kernel_rfl)
      (OpenSpec.preRow_of_cond 8 hx (by kernel_rfl) (fun k hk => by cases hk) (by kernel_rfl) (matGroups_met os))) ?_
  intro W base args ds gs before hval hW _ _ _ hL _ _
  exact bridge (n := 9) laidOutP (by kernel_rfl) rfl (fun ds hd => by
    match ds, hd with
    | [_, _], _ => rfl) rfl underlying4 matGroups_c hval hW (matGroups_laid hL)
theorem matGroups_said : Rows.MatGroupsSaid :=
  OpenClaim.holds_of_cond 12 f12 rfl rfl rfl rfl rfl rfl rfl ⟨rfl, rfl, rfl, rfl, rfl⟩ rfl rfl rfl rfl rfl (by kernel_rfl) func12 (by kernel_rfl)
    (of_decide_eq_true (by kernel_rfl)) (by unfold Func.isWrapper; first | (rw [if_pos (by decide +kernel)]; kernel_rfl) | (rw [if_neg (by decide +kernel)]; exact ⟨rfl, rfl⟩))
    (fun os started H enc _ F => by rw [OpenClaim.pre_eq_preRow]; exact matGroups_lifted os started H enc F)
theorem matGroups_plain (f : FuncId) (fn : Func) (hf : Tryz.pinned.checked.prog.funcNamed "girdle/girdlelaw08.MatGroups" = some f) (hfn : Tryz.pinned.checked.prog.funcs[f]? = some fn) :
    false = Tryz.pinned.checked.prog.looks [] ∧ ∀ (j : Nat) t, fn.params[j]? = some t → Tryz.pinned.checked.prog.wantsStandIn t = false := by
  obtain rfl : f = 12 := Option.some.inj ((show prog.funcNamed "girdle/girdlelaw08.MatGroups" = some 12 by kernel_rfl).symm.trans hf) |>.symm
  obtain rfl : fn = f12 := (Option.some.inj (func12.symm.trans hfn)).symm
  refine ⟨by kernel_rfl, fun j t ht => ?_⟩
  have hall : (f12.params.toList.all fun u => !prog.wantsStandIn u) = true := by kernel_rfl
  exact (show prog.wantsStandIn t = false by simpa using List.all_eq_true.1 hall t (by simpa using Array.mem_of_getElem? ht))
end Go.Proofs.YtojfepabmbnmnaaGreatDoor.Abs
namespace Go.Proofs.YtojfepabmbnmnaaGreatDoor
open Go Go.Proofs.YtojfepabmbnmnaaGreatDoor.Abs
/-- THE CARD. -/
theorem matGroups_card : Rows.MatGroupsCardSaid :=
  Claim7.holds_tied_plain_at .later [] _ _ _ _ matGroups_said (fun _ h => by cases h) (by kernel_rfl) (fun _ h => by cases h) matGroups_row_tie rfl ⟨rfl, rfl⟩ (by kernel_rfl) rfl matGroups_plain (by kernel_rfl)
#print axioms matGroups_card
end Go.Proofs.YtojfepabmbnmnaaGreatDoor
