/- MatNorms: for every input the law returns true, and each argument reads afterwards as it read before. Conditions: the listed variables of the library hold what their text lays (tied by the card). -/
import Derived.Test.YtojfepabmbnmnaaGreatDoorMr
import Derived.Test.YtojfepabmbnmnaaGreatDoorMn
/- MatNorms: the walk. -/
set_option linter.unusedVariables false
set_option linter.unusedSectionVars false
set_option linter.unusedSimpArgs false
set_option maxHeartbeats 4000000
set_option maxRecDepth 20000
namespace Go.Proofs.YtojfepabmbnmnaaGreatDoor.Abs
open Go Go.RowKit Go.Proofs.Tryz
attribute [local irreducible] zMul zAdd zLeft zRight fitZ qMake zDiv dMake dLevel dRound dNear dAdd dMul dRatio dCmp dMin dMax dAbs dLess qCmp sOut qAdd qMul sAdd sMul sNear qSum sHasQ sSize vUnit vEach vDot vNear vHolds vSame qSgn

theorem mnorm_bad (n : Int) (l0 l1 l2 : List RawQ) (bits : Int) {e0 e1 : List AV} {f0 f1 : Bool} (C0 : ACalls prog 39 [i64 n, slv l0] (.tup [.sl e0, boo f0])) (C1 : ACalls prog 39 [i64 n, slv l1] (.tup [.sl e1, boo f1]))
    (h : f0 = false ∨ f1 = false ∨ bits < 2 ∨ bits > 200) : ACalls prog 10 [i64 n, .agg [slv l0, slv l1, slv l2], i64 bits] (boo true) := by
  refine conN func10 rfl (by kernel_rfl) ?_
  conv => whnf
  refine callS c_tables rfl rfl ?_
  conv => whnf
  refine ⟨⟨by decide, by decide, rfl⟩, ?_⟩
  conv => whnf
  refine callS C0 rfl rfl ?_
  conv => whnf
  refine ⟨⟨by decide, by decide, rfl⟩, ?_⟩
  conv => whnf
  refine callS C1 rfl rfl ?_
  conv => whnf
  cases f0 with
  | false =>
    conv => whnf
    exact fin rfl rfl
  | true =>
    conv => whnf
    cases f1 with
    | false =>
      conv => whnf
      exact fin rfl rfl
    | true =>
      conv => whnf
      by_cases h2 : bits < 2
      · rw [decide_eq_true h2]
        conv => whnf
        exact fin rfl rfl
      rw [decide_eq_false h2]
      conv => whnf
      have h3 : bits > 200 := by
        rcases h with h | h | h | h
        · cases h
        · cases h
        · exact absurd h h2
        · exact h
      rw [decide_eq_true h3]
      conv => whnf
      exact fin rfl rfl

theorem mnorm_go (k : Nat) (l0 l1 l2 : List RawQ) (bits : Int) (h2 : 2 ≤ bits) (h200 : bits ≤ 200) {a b : List (List FQ)} (hk : k ≤ 4) (ha : Sqr k a) (hb : Sqr k b) (sa : SzT a 96) (sb : SzT b 96)
    (C0 : ACalls prog 39 [i64 k, slv l0] (.tup [lT a, boo true])) (C1 : ACalls prog 39 [i64 k, slv l1] (.tup [lT b, boo true])) :
    ACalls prog 10 [i64 k, .agg [slv l0, slv l1, slv l2], i64 bits] (boo true) := by
  have hBO : BOk bits := ⟨by omega, by omega⟩
  obtain ⟨x, y, ab, z, p, c, m, s, d, x1, y1, g1, z1, p1, c1, m1, s1, d1, hc, hd, g2, m2, x4, x3, x5⟩ := (nrm_ok hk h2 h200 ha hb sa sb).h
  have L : ∀ {t : List (List FQ)}, Sqr k t → t.length < 1000000 := fun h => by rw [h.1]; omega
  have R : ∀ {t : List (List FQ)}, Sqr k t → Rows6 t := fun h => h.rows6 (by omega)
  have M1 := c_mNorm a (L ha) (R ha)
  have M2 := c_mNorm b (L hb) (R hb)
  have M3 := c_mMul a b (L ha) (R ha) (L hb) (R hb)
  have M4 := c_mNorm ab (L g2) (R g2)
  have M5 := c_qMul x y
  have M6 := c_qCompare z p
  have M7 := c_mNear a bits hBO (L ha) (R ha)
  have M8 := c_mSize m bits hBO (by rw [m2.1]; omega) (m2.rows6 (by omega))
  have M9 := c_dCmpQ s x
  rw [x1] at M1
  rw [y1] at M2
  rw [g1] at M3
  rw [z1] at M4
  rw [p1] at M5
  rw [c1] at M6
  rw [m1] at M7
  rw [s1] at M8
  rw [d1] at M9
  change ACalls prog _ _ (.tup [i64 c, i64 ((0 : Nat) : Int)]) at M6
  change ACalls prog _ _ (.tup [i64 d, i64 ((0 : Nat) : Int)]) at M9
  have hlen : (((a.map lQ).length : Nat) : Int) = (a.length : Int) := by simp
  clear x1 y1 g1 z1 p1 c1 m1 s1 d1
  refine conP func10 rfl (by kernel_rfl) ?_
  refine .go (by kernel_rfl) ?_
  conv => whnf
  refine .go (by kernel_rfl) ?_
  conv => whnf
  refine callS c_tables rfl rfl ?_
  conv => whnf
  refine .go (by kernel_rfl) ?_
  conv => whnf
  refine ⟨⟨by decide, by decide, rfl⟩, ?_⟩
  conv => whnf
  refine callS C0 rfl rfl ?_
  conv => whnf
  refine .go (by kernel_rfl) ?_
  conv => whnf
  refine ⟨⟨by decide, by decide, rfl⟩, ?_⟩
  conv => whnf
  refine callS C1 rfl rfl ?_
  conv => whnf
  refine .go (by kernel_rfl) ?_
  conv => whnf
  rw [decide_eq_false (by omega : ¬ bits < 2)]
  conv => whnf
  rw [decide_eq_false (by omega : ¬ bits > 200)]
  conv => whnf
  refine .go (by kernel_rfl) ?_
  conv => whnf
  refine callS M1 rfl rfl ?_
  conv => whnf
  refine .go (by kernel_rfl) ?_
  conv => whnf
  refine callS M2 rfl rfl ?_
  conv => whnf
  refine .go (by kernel_rfl) ?_
  conv => whnf
  refine callS M3 rfl rfl ?_
  conv => whnf
  refine .go (by kernel_rfl) ?_
  conv => whnf
  refine callS M4 rfl rfl ?_
  conv => whnf
  refine .go (by kernel_rfl) ?_
  conv => whnf
  refine callS M5 rfl rfl ?_
  conv => whnf
  refine .go (by kernel_rfl) ?_
  conv => whnf
  refine callS M6 rfl rfl ?_
  conv => whnf
  refine .go (by kernel_rfl) ?_
  conv => whnf
  refine callS M7 rfl rfl ?_
  conv => whnf
  refine .go (by kernel_rfl) ?_
  conv => whnf
  refine callS M8 rfl rfl ?_
  conv => whnf
  refine .go (by kernel_rfl) ?_
  conv => whnf
  refine callS M9 rfl rfl ?_
  conv => whnf
  refine .go (by kernel_rfl) ?_
  conv => whnf
  rw [decide_eq_false hc]
  conv => whnf
  rw [decide_eq_false hd]
  conv => whnf
  refine .go (by kernel_rfl) ?_
  conv => whnf
  refine .weaken (i := { fr := [(7, lT a), (11, .ptr (5, 5) 0 0), (29, boo ((k : Int) == 0))], st := [((5, 5), ⟨34, 3, [rat x.q]⟩)], g := 17 }) ⟨trivial, ⟨.inl ⟨.refl _, rfl⟩, .inl ⟨.refl _, rfl⟩, .inl ⟨.refl _, rfl⟩, trivial⟩, ⟨.same rfl rfl, List.not_mem_nil, Nat.le_of_ble_eq_true rfl⟩, trivial⟩ ?_
  clear M1 M2 M3 M4 M5 M6 M7 M8 M9 C0 C1
  refine .cut (fun _ : Unit => True) (fun _ => { fr := [(29, boo true)], g := 20 }) ?_ ?_
  · refine .go (by kernel_rfl) ?_
    conv => whnf
    refine .block (.loop (fun q : Nat × Bool => q.1 ≤ a.length ∧ (q.2 = true ↔ (k = 0 ∨ ∃ j, j < q.1 ∧ aSum (a.getD j []) = x.q))) (fun q => { fr := [(11, .ptr (5, 5) 0 0), (29, boo q.2), (150, lT a), (151, i64 a.length), (152, i64 (q.1 : Nat))], st := [((5, 5), ⟨34, 3, [rat x.q]⟩)], g := 20 }) (fun q => a.length - q.1) (0, ((k : Int) == 0)) ⟨Nat.zero_le _, by simp⟩ ?_ ?_)
    · exact ⟨trivial, ⟨.inl ⟨.refl _, rfl⟩, .inl ⟨.refl _, rfl⟩, .inl ⟨.refl _, rfl⟩, .inl ⟨.of_eq (congrArg i64 hlen), rfl⟩, .inl ⟨.refl _, rfl⟩, trivial⟩, ⟨.same rfl rfl, List.not_mem_nil, Nat.le_of_ble_eq_true rfl⟩, trivial⟩
    rintro ⟨i, f⟩ ⟨i1, i2⟩
    dsimp only at i1 i2 ⊢
    refine .go (by kernel_rfl) ?_
    conv => whnf
    refine .go (by kernel_rfl) ?_
    conv => whnf
    refine Br.mk (fun h => ?_) (fun h => ?_)
    · have hi : i < a.length := by
        have := of_decide_eq_true h
        omega
      clear h
      have hin : i < k := by rw [← ha.1]; exact hi
      obtain ⟨r, hr⟩ : ∃ r, a.getD i [] = r := ⟨_, rfl⟩
      have hrm : r ∈ a := by rw [← hr]; exact (ha.row hin).1
      have hrl : r.length = k := ha.2 r hrm
      have hget : (a.map lQ)[((i : Nat) : Int).toNat]? = some (lQ r) := by rw [Int.toNat_natCast, List.getElem?_map, get_ne (d := []) hi, hr]; rfl
      obtain ⟨S, S1, S2, S3⟩ := rowAbs_ok (sa r hrm) (by rw [hrl]; omega)
      rw [hrl] at S3
      have hcm := qCmp_ok (a := S) (b := x) (S3.mono (j' := 389) (k' := 389) (by omega) (by omega)) x5 (by decide) (by decide)
      have hle : S.q ≤ x.q := by rw [S2]; exact x3 r hrm
      have CQ := c_qCompare S x
      rw [hcm] at CQ
      change ACalls prog _ _ (.tup [i64 (cmpQ S.q x.q), i64 ((0 : Nat) : Int)]) at CQ
      obtain ⟨cc, hcc⟩ : ∃ cc, cmpQ S.q x.q = cc := ⟨_, rfl⟩
      have hc0 : ¬ cc > 0 := by have := cmpQ_le.2 hle; omega
      have hce : cc = 0 ↔ aSum r = x.q := by rw [← hcc, cmpQ_zero, S2]
      rw [hcc] at CQ
      have hlr : (((r.map ratv).length : Nat) : Int) = (r.length : Int) := by simp
      have hstep : ∀ f' : Bool, (f' = true ↔ f = true ∨ cc = 0) → (f' = true ↔ (k = 0 ∨ ∃ j, j < i + 1 ∧ aSum (a.getD j []) = x.q)) := fun f' hf => by
        rw [hf, i2, hce]
        constructor
        · rintro ((h | ⟨j, hj, e⟩) | h)
          · exact .inl h
          · exact .inr ⟨j, by omega, e⟩
          · exact .inr ⟨i, by omega, by rw [hr]; exact h⟩
        · rintro (h | ⟨j, hj, e⟩)
          · exact .inl (.inl h)
          · by_cases q : j = i
            · subst q
              rw [hr] at e
              exact .inr e
            · exact .inl (.inr ⟨j, by omega, e⟩)
      conv => whnf
      refine .cut (fun f' : Bool => (f' = true ↔ f = true ∨ cc = 0)) (fun f' => { fr := [(11, .ptr (5, 5) 0 0), (29, boo f'), (150, lT a), (151, i64 a.length), (152, i64 (i : Nat))], st := [((5, 5), ⟨34, 3, [rat x.q]⟩)], g := 60 }) ?_ ?_
      · refine .block ?_
        refine .go (by kernel_rfl) ?_
        conv => whnf
        refine ⟨lQ r, ⟨Int.natCast_nonneg _, hget, rfl, rfl⟩, ?_⟩
        conv => whnf
        refine .go (by kernel_rfl) ?_
        conv => whnf
        refine callS c_qZero rfl rfl ?_
        conv => whnf
        refine .cut (fun s : FQ => s = S) (fun s => { fr := [(11, .ptr (5, 5) 0 0), (29, boo f), (150, lT a), (151, i64 a.length), (152, i64 (i : Nat)), (32, .ptr (22, 1) 0 0)], st := [((22, 1), ⟨34, 3, [rat s.q]⟩), ((5, 5), ⟨34, 3, [rat x.q]⟩)], g := 40 }) ?_ ?_
        · refine .go (by kernel_rfl) ?_
          conv => whnf
          refine .block (.loop (fun q : Nat × FQ => q.1 ≤ r.length ∧ foldE absStep q0 (r.take q.1) = .ok q.2) (fun q => { fr := [(11, .ptr (5, 5) 0 0), (29, boo f), (150, lT a), (151, i64 a.length), (152, i64 (i : Nat)), (32, .ptr (22, 1) 0 0), (157, lQ r), (158, i64 r.length), (159, i64 (q.1 : Nat))], st := [((22, 1), ⟨34, 3, [rat q.2.q]⟩), ((5, 5), ⟨34, 3, [rat x.q]⟩)], g := 30 }) (fun q => r.length - q.1) (0, q0) ⟨Nat.zero_le _, rfl⟩ ?_ ?_)
          · exact ⟨trivial, ⟨.inl ⟨.refl _, rfl⟩, .inl ⟨.refl _, rfl⟩, .inl ⟨.refl _, rfl⟩, .inl ⟨.refl _, rfl⟩, .inl ⟨.refl _, rfl⟩, .inl ⟨.refl _, rfl⟩, .inl ⟨.refl _, rfl⟩, .inl ⟨.of_eq (congrArg i64 hlr), rfl⟩, .inl ⟨.refl _, rfl⟩, trivial⟩, ⟨.same rfl rfl, List.not_mem_nil, Nat.le_of_ble_eq_true rfl⟩, ⟨.same rfl rfl, List.not_mem_nil, Nat.le_of_ble_eq_true rfl⟩, trivial⟩
          rintro ⟨j, s⟩ ⟨k1, k2⟩
          dsimp only at k1 k2 ⊢
          refine pcN (by kernel_rfl) ?_
          conv => whnf
          refine Br.mk (fun h => ?_) (fun h => ?_)
          · have hj : j < r.length := by
              have := of_decide_eq_true h
              omega
            clear h
            have ht := foldE_take hj k2
            obtain ⟨x1, e1, CA, hx1, he1⟩ := varT (c_qAdd s (qAbs r[j]))
            have hq : absStep s r[j] = .ok x1 := by
              cases hq : qAdd s (qAbs r[j]) with
              | ok y =>
                rw [hq] at hx1
                unfold absStep
                rw [hq]
                exact congrArg Except.ok hx1
              | error e =>
                have := foldE_stepE (f := absStep) hj k2 (e := e) (by unfold absStep; exact hq)
                have S1 : foldE absStep q0 r = .ok S := S1
                rw [S1] at this
                cases this
            conv => whnf
            refine ⟨ratv r[j], ⟨Int.natCast_nonneg _, by rw [Int.toNat_natCast, List.getElem?_map, List.getElem?_eq_getElem hj]; rfl, rfl, rfl⟩, ?_⟩
            conv => whnf
            refine ⟨by kernel_rfl, ?_⟩
            conv => whnf
            refine callD (c_qAbs r[j]) rfl rfl ?_
            conv => whnf
            refine callD CA rfl rfl ?_
            conv => whnf
            exact ⟨(j + 1, x1), ⟨by show j + 1 ≤ _; omega, ht.trans hq⟩, ⟨trivial, ⟨.inl ⟨.refl _, rfl⟩, .inl ⟨.refl _, rfl⟩, .inl ⟨.refl _, rfl⟩, .inl ⟨.refl _, rfl⟩, .inl ⟨.refl _, rfl⟩, .inl ⟨.refl _, rfl⟩, .inl ⟨.refl _, rfl⟩, .inl ⟨.refl _, rfl⟩, .inl ⟨.of_eq (congrArg i64 ((wI (n := (j : Int) + 1) (by omega) (by omega)).trans (by simp))), rfl⟩, trivial⟩, ⟨.same rfl rfl, List.not_mem_nil, Nat.le_of_ble_eq_true rfl⟩, ⟨.same rfl rfl, List.not_mem_nil, Nat.le_of_ble_eq_true rfl⟩, trivial⟩, by show r.length - (j + 1) < r.length - j; omega⟩
          · have he : j = r.length := by
              have := of_decide_eq_false h
              omega
            clear h
            rw [he, List.take_length] at k2
            have hsS : s = S := by
              have S1 : foldE absStep q0 r = .ok S := S1
              rw [S1] at k2
              exact (Except.ok.inj k2).symm
            conv => whnf
            exact ⟨s, hsS, ⟨trivial, ⟨.inl ⟨.refl _, rfl⟩, .inl ⟨.refl _, rfl⟩, .inl ⟨.refl _, rfl⟩, .inl ⟨.refl _, rfl⟩, .inl ⟨.refl _, rfl⟩, .inl ⟨.refl _, rfl⟩, trivial⟩, ⟨.same rfl rfl, List.not_mem_nil, Nat.le_of_ble_eq_true rfl⟩, ⟨.same rfl rfl, List.not_mem_nil, Nat.le_of_ble_eq_true rfl⟩, trivial⟩⟩
        · rintro s rfl
          refine pcN (by kernel_rfl) ?_
          conv => whnf
          refine callS CQ rfl rfl ?_
          conv => whnf
          rw [decide_eq_false hc0]
          conv => whnf
          cases f with
          | true =>
            conv => whnf
            exact ⟨true, by simp, ⟨trivial, ⟨.inl ⟨.refl _, rfl⟩, .inl ⟨.refl _, rfl⟩, .inl ⟨.refl _, rfl⟩, .inl ⟨.refl _, rfl⟩, .inl ⟨.refl _, rfl⟩, trivial⟩, ⟨.same rfl rfl, List.not_mem_nil, Nat.le_of_ble_eq_true rfl⟩, trivial⟩⟩
          | false =>
            conv => whnf
            exact ⟨(cc == 0), by simp, ⟨trivial, ⟨.inl ⟨.refl _, rfl⟩, .inl ⟨.refl _, rfl⟩, .inl ⟨.refl _, rfl⟩, .inl ⟨.refl _, rfl⟩, .inl ⟨.refl _, rfl⟩, trivial⟩, ⟨.same rfl rfl, List.not_mem_nil, Nat.le_of_ble_eq_true rfl⟩, trivial⟩⟩
      · intro f' hf'
        refine pcN (by kernel_rfl) ?_
        conv => whnf
        exact ⟨(i + 1, f'), ⟨by show i + 1 ≤ _; omega, hstep f' hf'⟩, ⟨trivial, ⟨.inl ⟨.refl _, rfl⟩, .inl ⟨.refl _, rfl⟩, .inl ⟨.refl _, rfl⟩, .inl ⟨.refl _, rfl⟩, .inl ⟨.of_eq (congrArg i64 ((wI (n := (i : Int) + 1) (by omega) (by omega)).trans (by simp))), rfl⟩, trivial⟩, ⟨.same rfl rfl, List.not_mem_nil, Nat.le_of_ble_eq_true rfl⟩, trivial⟩, by show a.length - (i + 1) < a.length - i; omega⟩
    · have he : i = a.length := by
        have := of_decide_eq_false h
        omega
      clear h
      have hf : f = true := i2.2 (x4.imp id fun ⟨r, hr, e⟩ => by
        obtain ⟨j, hj, rfl⟩ := mem_getD (d := []) hr
        exact ⟨j, by omega, e⟩)
      subst hf
      conv => whnf
      exact ⟨(), trivial, ⟨trivial, ⟨.inl ⟨.refl _, rfl⟩, trivial⟩, trivial⟩⟩
  · rintro ⟨⟩ _
    refine pcN (by kernel_rfl) ?_
    conv => whnf
    exact fin rfl rfl

theorem matNorms_c : ∀ avs, RdArgs prog 9 f10.params.toList avs → ACalls prog 10 avs (.lit (.bool true)) := by
  intro avs h
  have h : RdArgs prog 9 [3, 69, 3] avs := h
  match avs, h with
  | [x, y, z], ⟨⟨c1, r1, e1⟩, ⟨c2, r2, e2⟩, ⟨c3, r3, e3⟩, _⟩ =>
    obtain ⟨n, rfl, _⟩ := rd_int r1
    obtain ⟨a, b, c, rfl, ha, hb, hc⟩ := rd_three r2
    obtain ⟨bits, rfl, _⟩ := rd_int r3
    rw [mkV_one ag_int] at e1 e3
    rw [mkV_agg ag_three] at e2
    subst e1 e2 e3
    have C0 := c_sqr n a ha
    have C1 := c_sqr n b hb
    have bad : sqr n a = none ∨ sqr n b = none ∨ bits < 2 ∨ bits > 200 → ACalls prog 10 [i64 n, .agg [slv a, slv b, slv c], i64 bits] (boo true) := fun h => by
      obtain ⟨e0, f0, q0, i0⟩ := sqV_sl (sqr n a)
      obtain ⟨e1, f1, q1, i1⟩ := sqV_sl (sqr n b)
      rw [q0] at C0
      rw [q1] at C1
      exact mnorm_bad n a b c bits C0 C1 (h.imp i0.2 (Or.imp i1.2 id))
    cases h0 : sqr n a with
    | none => exact bad (.inl h0)
    | some t0 =>
      cases h1 : sqr n b with
      | none => exact bad (.inr (.inl h1))
      | some t1 =>
        by_cases h2 : bits < 2 ∨ bits > 200
        · exact bad (.inr (.inr h2))
        · obtain ⟨k, rfl, hk, _, ta, w0, s0', z0⟩ := sqr_tab ha.2 h0
          obtain ⟨k1, e1', _, _, tb, w1, s1, z1⟩ := sqr_tab hb.2 h1
          obtain rfl : k1 = k := by omega
          rw [w0] at C0
          rw [w1] at C1
          exact mnorm_go k1 a b c bits (by omega) (by omega) hk s0' s1 z0 z1 C0 C1

end Go.Proofs.YtojfepabmbnmnaaGreatDoor.Abs

/- MatNorms: for every input the law returns true, and each argument reads afterwards as it read before. Conditions: the listed variables of the library hold what their text lays (tied by the card). -/
set_option linter.unusedVariables false
namespace Go.Proofs.YtojfepabmbnmnaaGreatDoor.Abs
open Go Go.RowKit Go.ChangeShapes Go.WideShapes Go.ChangeAt Go.Proofs.Tryz

theorem matNorms_laid {W : World} (h : laidMetH prog Rows.matNormsRow.laid W) : GOk (fun b => b < W.heap.size) W :=
  gok_of_tab (Lib.tabIs_of_head gDb gDbT underlying184 underlying5 cU8 cDb h)
theorem matNorms_met (os : Os) : laidMet prog Rows.matNormsRow.laid ((laidWorld os).forCall (fun _ _ => 0) ⟨#[], #[.int .i64 0, .agg #[.slice none 0 0, .slice none 0 0, .slice none 0 0], .int .i64 0], []⟩).memory :=
  laidMet_of_run' 8 (by kernel_rfl) (by kernel_rfl)
theorem matNorms_reads (os : Os) {H : Type} (enc : TypeId × Value → H) : ∃ x places, DataW.whole enc prog ((laidWorld os).forCall (fun _ _ => 0) ⟨#[], #[.int .i64 0, .agg #[.slice none 0 0, .slice none 0 0, .slice none 0 0], .int .i64 0], []⟩).memory f10.params.toList Rows.matNormsSpec.vars false (#[.int .i64 0, .agg #[.slice none 0 0, .slice none 0 0, .slice none 0 0], .int .i64 0] : Array Value).toList 8 = some (x, [], places) :=
  ⟨[.lit (.int .i64 0), .agg [.nil, .nil, .nil], .lit (.int .i64 0)], [], by kernel_rfl⟩
set_option maxRecDepth 100000 in
theorem matNorms_lifted (os : Os) (started : os.Started) (H : Type) (enc : TypeId × Value → H) (F : Stop.Interp) :
    ReturnsInHanded {} checked os 10 .any ((OpenSpec.ofChange Rows.matNormsSpec).preRow enc prog f10 Rows.matNormsRow.domain false Rows.matNormsRow.laid) (((OpenSpec.ofChange Rows.matNormsSpec).at F).post enc prog f10 false true false false) := by
  obtain ⟨x, places, hx⟩ := matNorms_reads os enc
  refine returnsInHanded_of_row (C := checked) (s := OpenSpec.ofChange Rows.matNormsSpec) ownK started (by kernel_rfl) func10
    (witness_row_at (enc := enc) (C := checked) false (laidWorld os) #[.int .i64 0, .agg #[.slice none 0 0, .slice none 0 0, .slice none 0 0], .int .i64 0] rfl (by kernel_rfl) (by kernel_rfl) (by kernel_rfl)
      (OpenSpec.preRow_of_cond 8 hx (by kernel_rfl) (fun k hk => by cases hk) (by kernel_rfl) (matNorms_met os))) ?_
  intro W base args ds gs before hval hW _ _ _ hL _ _
  exact bridge (n := 9) laidOutP (by kernel_rfl) rfl (fun ds hd => by
    match ds, hd with
    | [_, _, _], _ => rfl) rfl underlying4 matNorms_c hval hW (matNorms_laid hL)
theorem matNorms_said : Rows.MatNormsSaid :=
  OpenClaim.holds_of_cond 10 f10 rfl rfl rfl rfl rfl rfl rfl ⟨rfl, rfl, rfl, rfl, rfl⟩ rfl rfl rfl rfl rfl (by kernel_rfl) func10 (by kernel_rfl)
    (of_decide_eq_true (by kernel_rfl)) (by unfold Func.isWrapper; first | (rw [if_pos (by decide +kernel)]; kernel_rfl) | (rw [if_neg (by decide +kernel)]; exact ⟨rfl, rfl⟩))
    (fun os started H enc _ F => by rw [OpenClaim.pre_eq_preRow]; exact matNorms_lifted os started H enc F)
theorem matNorms_plain (f : FuncId) (fn : Func) (hf : Tryz.pinned.checked.prog.funcNamed "girdle/girdlelaw08.MatNorms" = some f) (hfn : Tryz.pinned.checked.prog.funcs[f]? = some fn) :
    false = Tryz.pinned.checked.prog.looks [] ∧ ∀ (j : Nat) t, fn.params[j]? = some t → Tryz.pinned.checked.prog.wantsStandIn t = false := by
  obtain rfl : f = 10 := Option.some.inj ((show prog.funcNamed "girdle/girdlelaw08.MatNorms" = some 10 by kernel_rfl).symm.trans hf) |>.symm
  obtain rfl : fn = f10 := (Option.some.inj (func10.symm.trans hfn)).symm
  refine ⟨by kernel_rfl, fun j t ht => ?_⟩
  have hall : (f10.params.toList.all fun u => !prog.wantsStandIn u) = true := by kernel_rfl
  exact (show prog.wantsStandIn t = false by simpa using List.all_eq_true.1 hall t (by simpa using Array.mem_of_getElem? ht))
end Go.Proofs.YtojfepabmbnmnaaGreatDoor.Abs
namespace Go.Proofs.YtojfepabmbnmnaaGreatDoor
open Go Go.Proofs.YtojfepabmbnmnaaGreatDoor.Abs
/-- THE CARD. -/
theorem matNorms_card : Rows.MatNormsCardSaid :=
  Claim7.holds_tied_plain_at .later [] _ _ _ _ matNorms_said (fun _ h => by cases h) (by kernel_rfl) (fun _ h => by cases h) matNorms_row_tie rfl ⟨rfl, rfl⟩ (by kernel_rfl) rfl matNorms_plain (by kernel_rfl)
#print axioms matNorms_card
end Go.Proofs.YtojfepabmbnmnaaGreatDoor
