/- What numbers grow to: the terms, reckoned. -/
import Derived.Test.YtoofmffmgdkinaaGreatDoorMz
set_option linter.unusedVariables false
set_option linter.unusedSectionVars false
set_option linter.unusedSimpArgs false
set_option maxHeartbeats 4000000
set_option maxRecDepth 20000
namespace Go.Proofs.YtoofmffmgdkinaaGreatDoor.Abs
section
open Go Go.RowKit Go.Proofs.Tryz
def gD (s d : Nat) : Nat → Nat
  | 0 => if s = 2 then 2 else 1
  | m + 1 => gD s d m * (d * (m + 1 + s))
theorem gD_pos {s d : Nat} (hd : 0 < d) : ∀ m, 0 < gD s d m
  | 0 => by unfold gD; split <;> decide
  | m + 1 => Nat.mul_pos (gD_pos hd m) (Nat.mul_pos hd (by omega))
theorem gD_lt {s d : Nat} (hs : s ≤ 2) (hd : d < 2 ^ 32) : ∀ m, m ≤ 40 → gD s d m ≤ 2 ^ (38 * m + 1)
  | 0, _ => by unfold gD; split <;> decide
  | m + 1, h => by
    have h1 := gD_lt hs hd m (by omega)
    have h2 : d * (m + 1 + s) ≤ 2 ^ 32 * 2 ^ 6 := Nat.mul_le_mul (Nat.le_of_lt hd) (Nat.le_trans (by omega : m + 1 + s ≤ 64) (by decide))
    have h3 := Nat.mul_le_mul h1 h2
    rw [← Nat.pow_add, ← Nat.pow_add] at h3
    exact Nat.le_trans h3 (Nat.pow_le_pow_right (by decide) (by omega))
def gN (s p d : Nat) : Nat → Nat
  | 0 => 0
  | m + 1 => (gN s p d m + p ^ m) * (d * (m + 1 + s))
theorem p32 {p : Nat} (hp : p < 2 ^ 32) (m : Nat) : p ^ m ≤ 2 ^ (32 * m) := by
  rw [Nat.pow_mul]
  exact Nat.pow_le_pow_left (Nat.le_of_lt hp) m
theorem gN_lt {s p d : Nat} (hs : s ≤ 2) (hp : p < 2 ^ 32) (hd : d < 2 ^ 32) : ∀ m, m ≤ 40 → gN s p d m ≤ 2 ^ (39 * m)
  | 0, _ => Nat.zero_le _
  | m + 1, h => by
    have h1 := gN_lt hs hp hd m (by omega)
    have h2 : d * (m + 1 + s) ≤ 2 ^ 32 * 2 ^ 6 := Nat.mul_le_mul (Nat.le_of_lt hd) (Nat.le_trans (by omega : m + 1 + s ≤ 64) (by decide))
    have h4 : p ^ m ≤ 2 ^ (39 * m) := Nat.le_trans (p32 hp m) (Nat.pow_le_pow_right (by decide) (by omega))
    have h5 : gN s p d m + p ^ m ≤ 2 ^ (39 * m + 1) := by
      rw [Nat.pow_succ]
      omega
    have h3 := Nat.mul_le_mul h5 h2
    rw [← Nat.pow_add, ← Nat.pow_add] at h3
    exact Nat.le_trans h3 (Nat.pow_le_pow_right (by decide) (by omega))
theorem num_den {r : Rat} (h0 : 0 ≤ r) : r * (r.den : Rat) = (r.num.natAbs : Rat) := by
  have e : (r.num.natAbs : Int) = r.num := Int.natAbs_of_nonneg (Rat.num_nonneg.2 h0)
  have h : ((r.num.natAbs : Nat) : Rat) = ((r.num : Int) : Rat) := by rw [← e]; rfl
  rw [h]
  have hd : (r.den : Rat) ≠ 0 := by
    have : (0 : Rat) < r.den := Rat.natCast_pos.2 r.den_pos
    grind
  conv => lhs; lhs; rw [← Rat.num_divInt_den r, Rat.divInt_eq_div]
  show (r.num : Rat) / (r.den : Rat) * _ = _
  rw [Rat.div_def, Rat.mul_assoc, Rat.inv_mul_cancel _ hd, Rat.mul_one]
theorem gT_den {s : Nat} {r : Rat} (hs : s ≤ 2) (h0 : 0 ≤ r) : ∀ m, gT s r m * (gD s r.den m : Rat) = ((r.num.natAbs ^ m : Nat) : Rat)
  | 0 => by
    have hs' : s = 0 ∨ s = 1 ∨ s = 2 := by omega
    rcases hs' with rfl | rfl | rfl <;> (unfold gT gD; simp only [Nat.zero_add, Rat.pow_zero, Nat.pow_zero]; decide +kernel)
  | m + 1 => by
    have h1 := gT_succ s r m
    have h2 := gT_den hs h0 m
    have h3 := num_den h0
    have e : ((m + 1 + s : Nat) : Rat) = ((m + s : Nat) : Rat) + 1 := by
      rw [show m + 1 + s = m + s + 1 by omega, Rat.natCast_add]
      rfl
    show gT s r (m + 1) * ((gD s r.den m * (r.den * (m + 1 + s)) : Nat) : Rat) = _
    rw [Rat.natCast_mul, Rat.natCast_mul, e, Nat.pow_succ, Rat.natCast_mul, ← h2, ← h3]
    generalize ((m + s : Nat) : Rat) + 1 = c at *
    grind
theorem gS_den {s : Nat} {r : Rat} (hs : s ≤ 2) (h0 : 0 ≤ r) : ∀ m, gS s r m * (gD s r.den m : Rat) = (gN s r.num.natAbs r.den m : Rat)
  | 0 => by
    show (0 : Rat) * _ = ((0 : Nat) : Rat)
    rw [Rat.zero_mul]
    rfl
  | m + 1 => by
    have h1 := gS_den hs h0 m
    have h2 := gT_den hs h0 m
    have e : gS s r (m + 1) = gS s r m + gT s r m := SS_last m _
    show _ * ((gD s r.den m * (r.den * (m + 1 + s)) : Nat) : Rat) = (((gN s r.num.natAbs r.den m + r.num.natAbs ^ m) * (r.den * (m + 1 + s)) : Nat) : Rat)
    rw [Rat.natCast_mul (gD s r.den m), Rat.natCast_mul (gN s r.num.natAbs r.den m + r.num.natAbs ^ m), Rat.natCast_add, ← h1, ← h2, e]
    grind
theorem den_sz {x : Rat} {n d : Nat} {j k : Nat} (hd : 0 < d) (h : x * (d : Rat) = (n : Rat)) (h1 : n < 2 ^ j) (h2 : d < 2 ^ k) : Sz x j k := by
  have hd' : (d : Rat) ≠ 0 := by
    have : (0 : Rat) < d := Rat.natCast_pos.2 hd
    grind
  have e : x = Rat.divInt (n : Int) (d : Int) := by
    rw [Rat.divInt_eq_div]
    show x = (n : Rat) / (d : Rat)
    rw [← h, Rat.div_def, Rat.mul_assoc, Rat.mul_inv_cancel _ hd', Rat.mul_one]
  rw [e]
  exact divInt_sz (by omega) (by simpa using h1) (by simpa using h2)
theorem gT_sz {s m : Nat} {r : Rat} (hs : s ≤ 2) (h0 : 0 ≤ r) (hr : Sz r 32 32) (hm : m ≤ 40) : Sz (gT s r m) (32 * m + 1) (38 * m + 2) :=
  den_sz (gD_pos r.den_pos m) (gT_den hs h0 m) (Nat.lt_of_le_of_lt (p32 hr.1 m) (Nat.pow_lt_pow_right (by decide) (by omega))) (Nat.lt_of_le_of_lt (gD_lt hs hr.2 m hm) (Nat.pow_lt_pow_right (by decide) (by omega)))
theorem gS_sz {s m : Nat} {r : Rat} (hs : s ≤ 2) (h0 : 0 ≤ r) (hr : Sz r 32 32) (hm : m ≤ 40) : Sz (gS s r m) (39 * m + 1) (38 * m + 2) :=
  den_sz (gD_pos r.den_pos m) (gS_den hs h0 m) (Nat.lt_of_le_of_lt (gN_lt hs hr.1 hr.2 m hm) (Nat.pow_lt_pow_right (by decide) (by omega))) (Nat.lt_of_le_of_lt (gD_lt hs hr.2 m hm) (Nat.pow_lt_pow_right (by decide) (by omega)))
theorem unit_q {d : Nat} (h0 : 0 < d) (h : d < 1000) : (qOf 1 d).q = 1 / (d : Rat) ∧ Sz (qOf 1 d).q 1 10 := by
  have z1 : (zI 1).z = 1 := zI_z (by decide)
  have zd : (zI (d : Int)).z = (d : Int) := zI_z (by omega)
  have e : (qOf 1 d).q = Rat.divInt 1 (d : Int) := by
    unfold qOf
    rw [qMake_ok (by rw [zd]; omega)]
    show Rat.divInt (zI 1).z (zI (d : Int)).z = _
    rw [z1, zd]
  refine ⟨by rw [e, Rat.divInt_eq_div]; rfl, ?_⟩
  rw [e]
  exact divInt_sz (by omega) (by decide) (by simp only [Int.natAbs_natCast]; omega)
theorem round_T {s m : Nat} {r a t : FQ} (hs : s ≤ 2) (h0 : 0 ≤ r.q) (hr : Sz r.q 32 32) (hm : m < 40) (ha : a.q = gS s r.q m) (ht : t.q = gT s r.q m) :
    ∃ a' t1 t', qAdd a t = .ok a' ∧ a'.q = gS s r.q (m + 1) ∧ qMul t r = .ok t1 ∧ qMul t1 (qOf 1 (s + (m + 1) : Nat)) = .ok t' ∧ t'.q = gT s r.q (m + 1) := by
  have za : Sz a.q (39 * m + 1) (38 * m + 2) := by rw [ha]; exact gS_sz hs h0 hr (by omega)
  have zt : Sz t.q (32 * m + 1) (38 * m + 2) := by rw [ht]; exact gT_sz hs h0 hr (by omega)
  obtain ⟨a', a1, a2, _⟩ := qAdd_ok za zt (t := 77 * m + 3) (by omega) (by omega) (by omega) (by omega)
  obtain ⟨t1, t2, t3, t4⟩ := qMul_ok zt hr (by omega) (by omega)
  obtain ⟨u1, u2⟩ := unit_q (d := s + (m + 1)) (by omega) (by omega)
  obtain ⟨t', t5, t6, _⟩ := qMul_ok t4 u2 (by omega) (by omega)
  refine ⟨a', t1, t', a1, ?_, t2, t5, ?_⟩
  · rw [a2, ha, ht]
    exact (SS_last m _).symm
  · have h1 := gT_succ s r.q m
    have e : ((s + (m + 1) : Nat) : Rat) = ((m + s : Nat) : Rat) + 1 := by
      rw [show s + (m + 1) = m + s + 1 by omega, Rat.natCast_add]
      rfl
    have hp : (0 : Rat) < ((m + s : Nat) : Rat) + 1 := nat1_pos _
    rw [t6, t3, u1, ht, e]
    generalize ((m + s : Nat) : Rat) + 1 = c at *
    rw [Rat.mul_comm (gT s r.q m), ← h1, Rat.mul_comm c, Rat.div_def, Rat.one_mul, Rat.mul_assoc, Rat.mul_inv_cancel _ (by grind), Rat.mul_one]
theorem first_T (s : Nat) (hs : s ≤ 2) (r : Rat) : gT s r 0 = ex s 1 := by
  unfold gT
  rw [Nat.zero_add, Rat.pow_zero, Rat.mul_one]
theorem skip_T {j : Nat} {t : FQ} (hj : j < 2) (ht : t.q = ex j 1) : ∃ t', qMul t (qOf 1 (j + 1 : Nat)) = .ok t' ∧ t'.q = ex (j + 1) 1 := by
  have zt : Sz t.q 1 2 := by
    rw [ht]
    have : j = 0 ∨ j = 1 := by omega
    rcases this with rfl | rfl <;> exact ⟨by decide +kernel, by decide +kernel⟩
  obtain ⟨u1, u2⟩ := unit_q (d := j + 1) (by omega) (by omega)
  obtain ⟨t', t5, t6, _⟩ := qMul_ok zt u2 (by omega) (by omega)
  refine ⟨t', t5, ?_⟩
  rw [t6, u1, ht]
  exact ex_one j
end
section
open Go Go.RowKit Go.Proofs.Tryz
def tmF (s : Nat) : List (Nat × AV) := [(1, i64 s), (2, .ptr (0, 0) 0 0), (4, .ptr (0, 1) 0 0), (5, .ptr (0, 2) 0 0), (6, .ptr (1, 2) 0 0), (7, .ptr (1, 3) 0 0)]
def tmS (r a t : Rat) : List (Rid × Row) := [((0, 0), ⟨28, 3, [rat r]⟩), ((0, 1), ⟨28, 3, [AV.ofVal (ty 28).zero]⟩), ((0, 2), ⟨28, 3, [AV.ofVal (ty 28).zero]⟩), ((1, 2), ⟨28, 3, [rat a]⟩), ((1, 3), ⟨28, 3, [rat t]⟩)]
attribute [local irreducible] qAdd qMul qOf gS gT ex
theorem c_terms {r : FQ} {s : Nat} (hs : s ≤ 2) (h0 : 0 ≤ r.q) (hr : Sz r.q 32 32) : ACalls prog 48 [rat r.q, i64 (s : Nat)] (.tup [rat (gS s r.q 40), rat (2 * gT s r.q 40)]) := by
  have C0 := c_qZero
  have C1 : ACalls prog 21 [i64 1, i64 1] (rat (qOf 1 1).q) := c_qOf 1 1 (by decide) (by decide) (by decide) (by decide)
  have C2 : ACalls prog 21 [i64 2, i64 1] (rat (qOf 2 1).q) := c_qOf 2 1 (by decide) (by decide) (by decide) (by decide)
  refine conP func48 rfl (by kernel_rfl) ?_
  refine .go (by kernel_rfl) ?_
  conv => whnf
  refine .go (by kernel_rfl) ?_
  conv => whnf
  refine callS C0 rfl rfl ?_
  conv => whnf
  refine callS C1 rfl rfl ?_
  conv => whnf
  refine .cut (fun t : FQ => t.q = ex s 1) (fun t => { fr := tmF s, st := tmS r.q 0 t.q, g := 9 }) ?_ ?_
  · refine .go (by kernel_rfl) ?_
    conv => whnf
    refine .block (.loop (fun x : Nat × FQ => x.1 ≤ s ∧ x.2.q = ex x.1 1) (fun x => { fr := (8, i64 (x.1 + 1 : Nat)) :: tmF s, st := tmS r.q 0 x.2.q, g := 9 }) (fun x => s - x.1) (0, qOf 1 1) ⟨Nat.zero_le _, by with_unfolding_all exact q_one⟩ ?_ ?_)
    · dsimp only
      exact ⟨trivial, ⟨.inl ⟨.refl _, rfl⟩, .inl ⟨.refl _, rfl⟩, .inl ⟨.refl _, rfl⟩, .inl ⟨.refl _, rfl⟩, .inl ⟨.refl _, rfl⟩, .inl ⟨.refl _, rfl⟩, .inl ⟨.refl _, rfl⟩, trivial⟩, ⟨.same rfl rfl, List.not_mem_nil, Nat.le_of_ble_eq_true rfl⟩, ⟨.same rfl rfl, List.not_mem_nil, Nat.le_of_ble_eq_true rfl⟩, ⟨.same rfl rfl, List.not_mem_nil, Nat.le_of_ble_eq_true rfl⟩, ⟨.same rfl rfl, List.not_mem_nil, Nat.le_of_ble_eq_true rfl⟩, ⟨.same rfl rfl, List.not_mem_nil, Nat.le_of_ble_eq_true rfl⟩, trivial⟩
    rintro ⟨j, t⟩ ⟨hj, ht⟩
    dsimp only at hj ht ⊢
    refine .go (by kernel_rfl) ?_
    conv => whnf
    refine Br.mk (fun b => ?_) (fun b => ?_)
    · have hlt : j < s := by
        have := of_decide_eq_true b
        omega
      clear b
      obtain ⟨t', k1, k2⟩ := skip_T (by omega) ht
      have CO := c_qOf 1 (j + 1 : Nat) (by decide) (by decide) (by omega) (by omega)
      have CM := c_qMul t (qOf 1 (j + 1 : Nat))
      rw [k1] at CM
      change ACalls prog _ _ (.tup [rat t'.q, i64 0]) at CM
      conv => whnf
      refine .cut (fun _ : Unit => True) (fun _ => { fr := (8, i64 (j + 1 : Nat)) :: tmF s, st := tmS r.q 0 t'.q, g := 60 }) ?_ ?_
      · refine .block ?_
        refine pcN (by kernel_rfl) ?_
        conv => whnf
        refine ⟨by kernel_rfl, ?_⟩
        conv => whnf
        refine callD CO rfl rfl ?_
        conv => whnf
        refine callD CM rfl rfl ?_
        conv => whnf
        refine ⟨(), trivial, ?_⟩
        exact ⟨trivial, ⟨.inl ⟨.refl _, rfl⟩, .inl ⟨.refl _, rfl⟩, .inl ⟨.refl _, rfl⟩, .inl ⟨.refl _, rfl⟩, .inl ⟨.refl _, rfl⟩, .inl ⟨.refl _, rfl⟩, .inl ⟨.refl _, rfl⟩, trivial⟩, ⟨.same rfl rfl, List.not_mem_nil, Nat.le_of_ble_eq_true rfl⟩, ⟨.same rfl rfl, List.not_mem_nil, Nat.le_of_ble_eq_true rfl⟩, ⟨.same rfl rfl, List.not_mem_nil, Nat.le_of_ble_eq_true rfl⟩, ⟨.same rfl rfl, List.not_mem_nil, Nat.le_of_ble_eq_true rfl⟩, ⟨.same rfl rfl, List.not_mem_nil, Nat.le_of_ble_eq_true rfl⟩, trivial⟩
      · rintro ⟨⟩ _
        refine pcN (by kernel_rfl) ?_
        conv => whnf
        refine ⟨(j + 1, t'), ⟨hlt, k2⟩, ?_, by show s - (j + 1) < s - j; omega⟩
        rw [show IntKind.i64.wrap (((j + 1 : Nat) : Int) + 1) = ((j + 1 + 1 : Nat) : Int) from wI (by omega) (by omega)]
        exact ⟨trivial, ⟨.inl ⟨.refl _, rfl⟩, .inl ⟨.refl _, rfl⟩, .inl ⟨.refl _, rfl⟩, .inl ⟨.refl _, rfl⟩, .inl ⟨.refl _, rfl⟩, .inl ⟨.refl _, rfl⟩, .inl ⟨.refl _, rfl⟩, trivial⟩, ⟨.same rfl rfl, List.not_mem_nil, Nat.le_of_ble_eq_true rfl⟩, ⟨.same rfl rfl, List.not_mem_nil, Nat.le_of_ble_eq_true rfl⟩, ⟨.same rfl rfl, List.not_mem_nil, Nat.le_of_ble_eq_true rfl⟩, ⟨.same rfl rfl, List.not_mem_nil, Nat.le_of_ble_eq_true rfl⟩, ⟨.same rfl rfl, List.not_mem_nil, Nat.le_of_ble_eq_true rfl⟩, trivial⟩
    · have hge : ¬ j < s := by
        have := of_decide_eq_false b
        omega
      clear b
      obtain rfl : j = s := by omega
      conv => whnf
      refine ⟨t, ht, ?_⟩
      exact ⟨trivial, ⟨.inl ⟨.refl _, rfl⟩, .inl ⟨.refl _, rfl⟩, .inl ⟨.refl _, rfl⟩, .inl ⟨.refl _, rfl⟩, .inl ⟨.refl _, rfl⟩, .inl ⟨.refl _, rfl⟩, trivial⟩, ⟨.same rfl rfl, List.not_mem_nil, Nat.le_of_ble_eq_true rfl⟩, ⟨.same rfl rfl, List.not_mem_nil, Nat.le_of_ble_eq_true rfl⟩, ⟨.same rfl rfl, List.not_mem_nil, Nat.le_of_ble_eq_true rfl⟩, ⟨.same rfl rfl, List.not_mem_nil, Nat.le_of_ble_eq_true rfl⟩, ⟨.same rfl rfl, List.not_mem_nil, Nat.le_of_ble_eq_true rfl⟩, trivial⟩
  rintro t ht
  refine .cut (fun x : FQ × FQ => x.1.q = gS s r.q 40 ∧ x.2.q = gT s r.q 40) (fun x => { fr := tmF s, st := tmS r.q x.1.q x.2.q, g := 90 }) ?_ ?_
  · refine .go (by kernel_rfl) ?_
    conv => whnf
    refine .block (.loop (fun x : Nat × FQ × FQ => x.1 ≤ 40 ∧ x.2.1.q = gS s r.q x.1 ∧ x.2.2.q = gT s r.q x.1) (fun x => { fr := (9, i64 (x.1 + 1 : Nat)) :: tmF s, st := tmS r.q x.2.1.q x.2.2.q, g := 9 }) (fun x => 40 - x.1) (0, q0, t) ⟨Nat.zero_le _, by with_unfolding_all rfl, by dsimp only; rw [ht]; exact (first_T s hs r.q).symm⟩ ?_ ?_)
    · dsimp only
      exact ⟨trivial, ⟨.inl ⟨.refl _, rfl⟩, .inl ⟨.refl _, rfl⟩, .inl ⟨.refl _, rfl⟩, .inl ⟨.refl _, rfl⟩, .inl ⟨.refl _, rfl⟩, .inl ⟨.refl _, rfl⟩, .inl ⟨.refl _, rfl⟩, trivial⟩, ⟨.same rfl rfl, List.not_mem_nil, Nat.le_of_ble_eq_true rfl⟩, ⟨.same rfl rfl, List.not_mem_nil, Nat.le_of_ble_eq_true rfl⟩, ⟨.same rfl rfl, List.not_mem_nil, Nat.le_of_ble_eq_true rfl⟩, ⟨.same rfl rfl, List.not_mem_nil, Nat.le_of_ble_eq_true rfl⟩, ⟨.same rfl rfl, List.not_mem_nil, Nat.le_of_ble_eq_true rfl⟩, trivial⟩
    rintro ⟨j, a, t⟩ ⟨hj, ha, ht⟩
    dsimp only at hj ha ht ⊢
    refine .go (by kernel_rfl) ?_
    conv => whnf
    refine Br.mk (fun b => ?_) (fun b => ?_)
    · have hlt : j < 40 := by
        have := of_decide_eq_true b
        omega
      clear b
      obtain ⟨a', t1, t', k1, k2, k3, k4, k5⟩ := round_T hs h0 hr hlt ha ht
      have CO := c_qOf 1 (s + (j + 1) : Nat) (by decide) (by decide) (by omega) (by omega)
      have CA := c_qAdd a t
      have CM := c_qMul t r
      have CN := c_qMul t1 (qOf 1 (s + (j + 1) : Nat))
      rw [k1] at CA
      rw [k3] at CM
      rw [k4] at CN
      change ACalls prog _ _ (.tup [rat a'.q, i64 0]) at CA
      change ACalls prog _ _ (.tup [rat t1.q, i64 0]) at CM
      change ACalls prog _ _ (.tup [rat t'.q, i64 0]) at CN
      have ew : IntKind.i64.wrap ((s : Int) + ((j + 1 : Nat) : Int)) = ((s + (j + 1) : Nat) : Int) := wI (by omega) (by omega)
      conv => whnf
      refine .cut (fun _ : Unit => True) (fun _ => { fr := (9, i64 (j + 1 : Nat)) :: tmF s, st := tmS r.q a'.q t'.q, g := 60 }) ?_ ?_
      · refine .block ?_
        refine .go (by kernel_rfl) ?_
        conv => whnf
        refine callS CA rfl rfl ?_
        conv => whnf
        refine .go (by kernel_rfl) ?_
        conv => whnf
        refine callS CM rfl rfl ?_
        conv => whnf
        refine pcN (by kernel_rfl) ?_
        conv => whnf
        refine ⟨by kernel_rfl, ?_⟩
        conv => whnf
        rw [ew]
        refine callD CO rfl rfl ?_
        conv => whnf
        refine callD CN rfl rfl ?_
        conv => whnf
        refine ⟨(), trivial, ?_⟩
        exact ⟨trivial, ⟨.inl ⟨.refl _, rfl⟩, .inl ⟨.refl _, rfl⟩, .inl ⟨.refl _, rfl⟩, .inl ⟨.refl _, rfl⟩, .inl ⟨.refl _, rfl⟩, .inl ⟨.refl _, rfl⟩, .inl ⟨.refl _, rfl⟩, trivial⟩, ⟨.same rfl rfl, List.not_mem_nil, Nat.le_of_ble_eq_true rfl⟩, ⟨.same rfl rfl, List.not_mem_nil, Nat.le_of_ble_eq_true rfl⟩, ⟨.same rfl rfl, List.not_mem_nil, Nat.le_of_ble_eq_true rfl⟩, ⟨.same rfl rfl, List.not_mem_nil, Nat.le_of_ble_eq_true rfl⟩, ⟨.same rfl rfl, List.not_mem_nil, Nat.le_of_ble_eq_true rfl⟩, trivial⟩
      · rintro ⟨⟩ _
        refine pcN (by kernel_rfl) ?_
        conv => whnf
        refine ⟨(j + 1, a', t'), ⟨hlt, k2, k5⟩, ?_, by show 40 - (j + 1) < 40 - j; omega⟩
        rw [show IntKind.i64.wrap (((j + 1 : Nat) : Int) + 1) = ((j + 1 + 1 : Nat) : Int) from wI (by omega) (by omega)]
        exact ⟨trivial, ⟨.inl ⟨.refl _, rfl⟩, .inl ⟨.refl _, rfl⟩, .inl ⟨.refl _, rfl⟩, .inl ⟨.refl _, rfl⟩, .inl ⟨.refl _, rfl⟩, .inl ⟨.refl _, rfl⟩, .inl ⟨.refl _, rfl⟩, trivial⟩, ⟨.same rfl rfl, List.not_mem_nil, Nat.le_of_ble_eq_true rfl⟩, ⟨.same rfl rfl, List.not_mem_nil, Nat.le_of_ble_eq_true rfl⟩, ⟨.same rfl rfl, List.not_mem_nil, Nat.le_of_ble_eq_true rfl⟩, ⟨.same rfl rfl, List.not_mem_nil, Nat.le_of_ble_eq_true rfl⟩, ⟨.same rfl rfl, List.not_mem_nil, Nat.le_of_ble_eq_true rfl⟩, trivial⟩
    · have hge : ¬ j < 40 := by
        have := of_decide_eq_false b
        omega
      clear b
      obtain rfl : j = 40 := by omega
      conv => whnf
      refine ⟨(a, t), ⟨ha, ht⟩, ?_⟩
      exact ⟨trivial, ⟨.inl ⟨.refl _, rfl⟩, .inl ⟨.refl _, rfl⟩, .inl ⟨.refl _, rfl⟩, .inl ⟨.refl _, rfl⟩, .inl ⟨.refl _, rfl⟩, .inl ⟨.refl _, rfl⟩, trivial⟩, ⟨.same rfl rfl, List.not_mem_nil, Nat.le_of_ble_eq_true rfl⟩, ⟨.same rfl rfl, List.not_mem_nil, Nat.le_of_ble_eq_true rfl⟩, ⟨.same rfl rfl, List.not_mem_nil, Nat.le_of_ble_eq_true rfl⟩, ⟨.same rfl rfl, List.not_mem_nil, Nat.le_of_ble_eq_true rfl⟩, ⟨.same rfl rfl, List.not_mem_nil, Nat.le_of_ble_eq_true rfl⟩, trivial⟩
  · rintro ⟨a, t⟩ ⟨ha, ht⟩
    dsimp only at ha ht ⊢
    have zt : Sz t.q 1281 1522 := by rw [ht]; exact gT_sz hs h0 hr (by omega)
    obtain ⟨l, l1, l2, _⟩ := qMul_ok zt sz_two (by omega) (by omega)
    have CM := c_qMul t (qOf 2 1)
    rw [l1] at CM
    change ACalls prog _ _ (.tup [rat l.q, i64 0]) at CM
    have el : l.q = 2 * gT s r.q 40 := by rw [l2, ht, q_two, Rat.mul_comm]
    rw [← ha, ← el]
    refine .go (by kernel_rfl) ?_
    conv => whnf
    refine ⟨by kernel_rfl, ?_⟩
    conv => whnf
    refine callD C2 rfl rfl ?_
    conv => whnf
    refine callD CM rfl rfl ?_
    conv => whnf
    refine .go (by kernel_rfl) ?_
    conv => whnf
    refine ⟨by kernel_rfl, ?_⟩
    conv => whnf
    refine pcN (by kernel_rfl) ?_
    conv => whnf
    exact ⟨.sh _ _ rfl (.refl _), .sh _ _ rfl (.refl _), trivial⟩
end
end Go.Proofs.YtoofmffmgdkinaaGreatDoor.Abs
