/- GrowRefuses: the walk. -/
import Derived.Test.YtoofmffmgdkinaaGreatDoorMx
import Derived.Test.YtoofmffmgdkinaaGreatDoorMn
import Derived.Test.YtoofmffmgdkinaaGreatDoorMy
set_option linter.unusedVariables false
set_option linter.unusedSectionVars false
set_option linter.unusedSimpArgs false
set_option maxHeartbeats 4000000
set_option maxRecDepth 20000
namespace Go.Proofs.YtoofmffmgdkinaaGreatDoor.Abs
section
open Go Go.RowKit Go.Proofs.Tryz
def r32 : FQ := qOf 32 1
theorem r32_q : r32.q = 32 := by kernel_rfl
theorem r32_sz : Sz r32.q 6 1 := ⟨by rw [r32_q]; decide +kernel, by rw [r32_q]; decide +kernel⟩
attribute [local irreducible] gExp gOne gTwo gCurve gRise qSgn qCmp
end
section
open Go Go.RowKit Go.Proofs.Tryz
theorem norm_leP {n m P : Nat} {M : List (List FQ)} {N : FQ} {c : Rat} (hP : (m + 1) * n + 1 = P) (h2 : P + P ≤ 16384) (hn : 0 < n) (hM : Sqr n M) (sM : SzT M m) (h : mNorm M = .ok N) (hr : RowB n (en M) c) : N.q ≤ c := by
  obtain ⟨N', n1, _, _, n4, _⟩ := norm_ok hP h2 hM sM
  rw [h] at n1
  cases n1
  rcases n4 with rfl | ⟨r, hr', e⟩
  · omega
  · obtain ⟨i, hi, rfl⟩ := mem_getD (d := []) hr'
    have hi' : i < n := by rw [← hM.1]; exact hi
    rw [← e, aSum_SS, (hM.row hi').2]
    exact hr i hi'
theorem Tw.monoP {n : Nat} {bits : Int} {A : Nat → Nat → Rat} {t : Rat} {KE LE KS LS KE' LE' KS' LS' : Nat} {p : Gw} (h : Tw n bits A t KE LE KS LS p) (h1 : KE ≤ KE') (h2 : LE ≤ LE') (h3 : KS ≤ KS') (h4 : LS ≤ LS') : Tw n bits A t KE' LE' KS' LS' p := by
  obtain ⟨e, s, ⟨M, m1, m2, m3⟩, ⟨M', k1, k2, k3⟩⟩ := h
  exact ⟨e.mono h1 h2, s.mono h3 h4, ⟨M, m1, m2, Std.lt_of_lt_of_le m3 (zpow_le2 (by omega))⟩, ⟨M', k1, k2, Std.lt_of_lt_of_le k3 (zpow_le2 (by omega))⟩⟩
theorem terms_all200 : (List.range 193).all (fun i => Nat.ble (termsGo ((i + 8 : Nat) : Int) 200 0 1).1 42) = true := by kernel_rfl
theorem termsK_200 {b : Nat} (h1 : 8 ≤ b) (h2 : b ≤ 200) : mTermsK b ≤ 42 := by
  have hc := List.all_eq_true.1 terms_all200 (b - 8) (List.mem_range.2 (by omega))
  rw [show b - 8 + 8 = b by omega] at hc
  exact Nat.le_of_ble_eq_true hc
theorem q1_q : q1.q = 1 := q_one
theorem q1_sz : Sz q1.q 1 1 := ⟨by rw [q1_q]; decide, by rw [q1_q]; decide⟩
theorem made_P {n b f : Nat} {a : List (List FQ)} (hb1 : 16 ≤ b) (hb2 : b ≤ 200) (hn0 : 0 < n) (hn : n ≤ 3) (hf : f ≤ 5) (ha : Sqr n a) (sa : ∀ r ∈ a, SzL r 66 66) (h0 : ∀ i l, i < n → l < n → 0 ≤ en a i l) (hN : RowB n (en a) (2 ^ f * (1 / 2))) :
    ∃ p, mMake a q1 b = .ok p ∧ Tw n b (en a) 1 (2 ^ f * 3) (2 ^ f * 410) (100 + 3 * f) (2 ^ f * 410 + 220) p := by
  obtain ⟨lam, hT⟩ := terms_T (b := b) (by omega) (by omega)
  have hk := hT.hk
  have hk200 := termsK_200 (b := b) (by omega) hb2
  have hl := hT.hl
  obtain ⟨M, M1, M2, M3, M4⟩ := scale_full ha sa q1_sz (by omega) (by omega)
  rw [q1_q] at M3
  have M5 : SzT M 67 := fun r hr => (M4 r hr).mono (by omega) (by omega)
  have hP2 : (67 + 1) * n + 1 + ((67 + 1) * n + 1) ≤ 16384 := by omega
  have hw1 : mTermsK b * (67 + (f + 1) + 1 + n + 22) ≤ 42 * 99 := Nat.mul_le_mul hk200 (by omega)
  have h2f : 2 ^ f ≤ 2 ^ 5 := Nat.pow_le_pow_right (by decide) hf
  have hw2 := Nat.mul_le_mul h2f (show 3 + (lam + b + 2) ≤ 413 by omega)
  obtain ⟨p, p1, ⟨h, h1, h2⟩⟩ := make_TP (f := f) (m := 67) (lam := lam) (jt := 1) (kt := 1) (W := 4160) (by omega) (by omega) hn0 (by omega) (by omega) ha sa q1_sz (by rw [q1_q]; decide +kernel) (by omega) (by omega) rfl hP2 (by omega) (fun M' N' e1 e2 => by
    rw [M1] at e1
    cases e1
    exact norm_leP rfl hP2 hn0 M2 M5 e2 (hN.congr fun i j hi hj => by rw [M3 i j hi hj]; grind)) hT h0 (by omega) (by omega) (by omega) (by omega) (by omega)
  rw [q1_q] at h2
  have hh : 2 ^ h ≤ 2 ^ f := Nat.pow_le_pow_right (by decide) h1
  have e1 := Nat.mul_le_mul_right 3 hh
  have e2 := Nat.mul_le_mul hh (show lam + b + 2 ≤ 410 by omega)
  have e3 : (2 ^ h - 1) * (lam + b + 2) + (lam + b + 2) = 2 ^ h * (lam + b + 2) := by
    obtain ⟨w, hw⟩ : ∃ w, 2 ^ h = w + 1 := ⟨2 ^ h - 1, by have := Nat.two_pow_pos h; omega⟩
    rw [hw, Nat.add_sub_cancel, Nat.succ_mul]
  exact ⟨p, p1, h2.monoP (by omega) (by omega) (by omega) (by omega)⟩
def gT (s : Nat) (r : Rat) (m : Nat) : Rat := ex (m + s) 1 * r ^ m
theorem gT_nonneg {s : Nat} {r : Rat} (h : 0 ≤ r) (m : Nat) : 0 ≤ gT s r m := Rat.mul_nonneg (ex_nonneg (by decide +kernel) _) (Rat.pow_nonneg h)
theorem gT_succ (s : Nat) (r : Rat) (m : Nat) : (((m + s : Nat) : Rat) + 1) * gT s r (m + 1) = r * gT s r m := by
  unfold gT
  have h := ex_succ (m + s) 1
  rw [show m + 1 + s = m + s + 1 by omega, Rat.pow_succ]
  rw [Rat.one_mul] at h
  have : (((m + s : Nat) : Rat) + 1) * (ex (m + s + 1) 1 * (r ^ m * r)) = ((((m + s : Nat) : Rat) + 1) * ex (m + s + 1) 1) * (r ^ m * r) := by grind
  rw [this, h]
  grind
theorem gT_half {s : Nat} {r : Rat} (h0 : 0 ≤ r) {m : Nat} (h : 2 * r ≤ ((m + s : Nat) : Rat) + 1) : gT s r (m + 1) ≤ gT s r m / 2 := by
  have h1 := gT_succ s r m
  have h2 := gT_nonneg (s := s) h0 m
  have h3 : r * gT s r m ≤ ((((m + s : Nat) : Rat) + 1) / 2) * gT s r m := Rat.mul_le_mul_of_nonneg_right (by grind) h2
  have h4 : (((m + s : Nat) : Rat) + 1) * gT s r (m + 1) ≤ (((m + s : Nat) : Rat) + 1) * (gT s r m / 2) := by grind
  exact Rat.le_of_mul_le_mul_left h4 (nat1_pos _)
theorem gT_tail {s : Nat} {r : Rat} (h0 : 0 ≤ r) : ∀ (k m : Nat), 2 * r ≤ ((m + s : Nat) : Rat) + 1 → (SS k fun i => gT s r (m + i)) ≤ 2 * gT s r m
  | 0, m, _ => by
    have := gT_nonneg (s := s) h0 m
    show (0 : Rat) ≤ _
    grind
  | k + 1, m, h => by
    have h1 := gT_half h0 h
    have e : ((m + 1 + s : Nat) : Rat) = ((m + s : Nat) : Rat) + 1 := by
      rw [show m + 1 + s = m + s + 1 by omega, Rat.natCast_add]
      rfl
    have h2 := gT_tail h0 k (m + 1) (by rw [e]; grind)
    have e2 : (SS k fun i => gT s r (m + (i + 1))) = SS k fun i => gT s r (m + 1 + i) := SS_congr fun i _ => by rw [show m + (i + 1) = m + 1 + i by omega]
    show gT s r (m + 0) + (SS k fun i => gT s r (m + (i + 1))) ≤ _
    rw [e2, Nat.add_zero]
    grind
def gS (s : Nat) (r : Rat) (N : Nat) : Rat := SS N (gT s r)
theorem gS_mono {s : Nat} {r : Rat} (h0 : 0 ≤ r) {N M : Nat} (h : N ≤ M) : gS s r N ≤ gS s r M := SS_mono h fun k => gT_nonneg h0 k
theorem gS_top {s : Nat} {r : Rat} (h0 : 0 ≤ r) {M : Nat} (h : 2 * r ≤ ((M + s : Nat) : Rat) + 1) (N : Nat) : gS s r N ≤ gS s r M + 2 * gT s r M := by
  have hp := gT_nonneg (s := s) h0 M
  rcases Nat.le_total N M with hl | hl
  · have := gS_mono (s := s) h0 hl
    grind
  · obtain ⟨b, rfl⟩ : ∃ b, N = M + b := ⟨N - M, by omega⟩
    unfold gS
    rw [SS_split]
    have := gT_tail h0 b M h
    grind
theorem gT_le {s : Nat} {r r' : Rat} (h0 : 0 ≤ r) (h : r ≤ r') (m : Nat) : gT s r m ≤ gT s r' m := Rat.mul_le_mul_of_nonneg_left (pow_mono h0 h m) (ex_nonneg (by decide +kernel) _)
theorem gS_le {s : Nat} {r r' : Rat} (h0 : 0 ≤ r) (h : r ≤ r') (N : Nat) : gS s r N ≤ gS s r' N := SS_le' fun k _ => gT_le h0 h k
theorem Lim.low {f : Nat → Rat} {s : FS} {x : Rat} {m : Nat} (h : Lim f s) (hx : ∀ n, m ≤ n → x ≤ f n) : x ≤ s.hi.v := by
  obtain ⟨k, k1, k2⟩ := h
  apply Classical.byContradiction
  intro c
  obtain ⟨n0, hn⟩ := k2 ((x - s.hi.v) / 2) (by grind)
  have h1 := hn (n0 + m) (by omega)
  have h2 := (k1 (n0 + m)).2
  have h3 := hx (n0 + m) (by omega)
  rw [absQ_le] at h1
  grind
theorem Lim.top {f : Nat → Rat} {s : FS} {x : Rat} {m : Nat} (h : Lim f s) (hx : ∀ n, m ≤ n → f n ≤ x) : s.lo.v ≤ x := by
  obtain ⟨k, k1, k2⟩ := h
  apply Classical.byContradiction
  intro c
  obtain ⟨n0, hn⟩ := k2 ((s.lo.v - x) / 2) (by grind)
  have h1 := hn (n0 + m) (by omega)
  have h2 := (k1 (n0 + m)).1
  have h3 := hx (n0 + m) (by omega)
  rw [absQ_le] at h1
  grind
theorem Lim.below {f g : Nat → Rat} {s t : FS} {m : Nat} (hf : Lim f s) (hg : Lim g t) (h : ∀ n, m ≤ n → f n ≤ g n) : s.lo.v ≤ t.hi.v := by
  obtain ⟨k, k1, k2⟩ := hf
  obtain ⟨l, l1, l2⟩ := hg
  apply Classical.byContradiction
  intro c
  obtain ⟨n0, hn⟩ := k2 ((s.lo.v - t.hi.v) / 4) (by grind)
  obtain ⟨n1, hn1⟩ := l2 ((s.lo.v - t.hi.v) / 4) (by grind)
  have h1 := hn (n0 + n1 + m) (by omega)
  have h2 := hn1 (n0 + n1 + m) (by omega)
  have h3 := (k1 (n0 + n1 + m)).1
  have h4 := (l1 (n0 + n1 + m)).2
  have h5 := h (n0 + n1 + m) (by omega)
  rw [absQ_le] at h1 h2
  grind
theorem pw_one (A : Nat → Nat → Rat) : ∀ m : Nat, pw 1 A m 0 0 = A 0 0 ^ m
  | 0 => by
    rw [Rat.pow_zero]
    rfl
  | m + 1 => by
    show pw 1 A m 0 0 * A 0 0 + 0 = _
    rw [pw_one A m, Rat.pow_succ, Rat.add_zero]
theorem EN_one (A : Nat → Nat → Rat) (N : Nat) : EN 1 A 1 N 0 0 = gS 0 (A 0 0) N := SS_congr fun m _ => by
  show ex m 1 * pw 1 A m 0 0 = ex (m + 0) 1 * A 0 0 ^ m
  rw [pw_one]
  rfl
theorem UN_one (A : Nat → Nat → Rat) (N : Nat) : UN 1 A 1 N 0 0 = gS 1 (A 0 0) N := SS_congr fun m _ => by
  show ex (m + 1) 1 * pw 1 A m 0 0 = ex (m + 1) 1 * A 0 0 ^ m
  rw [pw_one]
theorem pw_two {A : Nat → Nat → Rat} {r : Rat} (a00 : A 0 0 = r) (a01 : A 0 1 = 1) (a02 : A 0 2 = 0) (a10 : A 1 0 = 0) (a11 : A 1 1 = 0) (a12 : A 1 2 = 1) (a20 : A 2 0 = 0) (a21 : A 2 1 = 0) (a22 : A 2 2 = 0) :
    ∀ m : Nat, pw 3 A (m + 2) 0 0 = r ^ (m + 2) ∧ pw 3 A (m + 2) 0 1 = r ^ (m + 1) ∧ pw 3 A (m + 2) 0 2 = r ^ m := by
  have step : ∀ m j, pw 3 A (m + 1) 0 j = pw 3 A m 0 0 * A 0 j + (pw 3 A m 0 1 * A 1 j + (pw 3 A m 0 2 * A 2 j + 0)) := fun m j => rfl
  have z0 : pw 3 A 0 0 0 = 1 ∧ pw 3 A 0 0 1 = 0 ∧ pw 3 A 0 0 2 = 0 := ⟨rfl, rfl, rfl⟩
  have z1 : pw 3 A 1 0 0 = r ∧ pw 3 A 1 0 1 = 1 ∧ pw 3 A 1 0 2 = 0 := by
    refine ⟨?_, ?_, ?_⟩ <;> rw [step 0, z0.1, z0.2.1, z0.2.2] <;> grind
  intro m
  induction m with
  | zero =>
    refine ⟨?_, ?_, ?_⟩ <;> rw [show 0 + 2 = 1 + 1 from rfl, step 1, z1.1, z1.2.1, z1.2.2] <;> simp only [Rat.pow_succ, Rat.pow_zero] <;> grind
  | succ m ih =>
    refine ⟨?_, ?_, ?_⟩ <;> rw [show m + 1 + 2 = m + 2 + 1 from rfl, step (m + 2), ih.1, ih.2.1, ih.2.2] <;> simp only [Rat.pow_succ] <;> grind
theorem EN_two {A : Nat → Nat → Rat} {r : Rat} (a00 : A 0 0 = r) (a01 : A 0 1 = 1) (a02 : A 0 2 = 0) (a10 : A 1 0 = 0) (a11 : A 1 1 = 0) (a12 : A 1 2 = 1) (a20 : A 2 0 = 0) (a21 : A 2 1 = 0) (a22 : A 2 2 = 0) (N : Nat) : EN 3 A 1 (N + 2) 0 2 = gS 2 r N := by
  have h := pw_two a00 a01 a02 a10 a11 a12 a20 a21 a22
  show ex 0 1 * pw 3 A 0 0 2 + (ex 1 1 * pw 3 A 1 0 2 + SS N fun m => ex (m + 2) 1 * pw 3 A (m + 2) 0 2) = _
  have z0 : pw 3 A 0 0 2 = 0 := rfl
  have z1 : pw 3 A 1 0 2 = 0 := by
    show pw 3 A 0 0 0 * A 0 2 + (pw 3 A 0 0 1 * A 1 2 + (pw 3 A 0 0 2 * A 2 2 + 0)) = 0
    have e0 : pw 3 A 0 0 0 = 1 := rfl
    have e1 : pw 3 A 0 0 1 = 0 := rfl
    rw [e0, e1, z0, a02, a12, a22]
    grind
  rw [z0, z1, Rat.mul_zero, Rat.mul_zero, Rat.zero_add, Rat.zero_add]
  exact SS_congr fun m _ => by
    rw [(h m).2.2]
    rfl
end
section
open Go Go.RowKit Go.Proofs.Tryz
theorem gChk_ok {r : FQ} {b : Nat} (h1 : 8 ≤ b) (h2 : b ≤ 512) (h0 : 0 ≤ r.q) (hr : r.q ≤ 32) (hs : Sz r.q 66 66) : gArg r b = .ok r := by
  have hc : gChk r b = 0 := by
    unfold gChk
    rw [if_neg (by have := qSgn_nonneg h0; omega)]
    show (match qCmp r r32 with | .error e => e + 1 | .ok c => if c > 0 then 1 else 0) = 0
    rw [qCmp_ok hs r32_sz (by omega) (by omega)]
    have : cmpQ r.q r32.q ≤ 0 := cmpQ_le.2 (by rw [r32_q]; exact hr)
    simp only
    rw [if_neg (by omega)]
  unfold gArg
  rw [hc]
theorem oneT_sq (r : FQ) : Sqr 1 [[r]] := ⟨rfl, fun x hx => by
  rcases List.mem_cons.1 hx with rfl | hx
  · rfl
  · cases hx⟩
structure G1 (r : FQ) (b f : Nat) (s t : FS) : Prop where
  e : gExp r b = .ok s
  o : gOne r b = .ok t
  ge : SGr (2 ^ f * 3) (2 ^ f * 410) s
  go : SGr (100 + 3 * f) (2 ^ f * 410 + 220) t
  le : Lim (gS 0 r.q) s
  lo : Lim (gS 1 r.q) t
theorem grw_1 {r : FQ} {b f : Nat} (h1 : 16 ≤ b) (h2 : b ≤ 200) (hf : f ≤ 5) (h0 : 0 ≤ r.q) (hr : r.q ≤ 2 ^ f * (1 / 2)) (hs : Sz r.q 66 66) : ∃ s t, G1 r b f s t := by
  have hr2 : r.q ≤ 32 := by
    have e := pow_up (a := 2) (by decide) hf
    have e5 : (2 : Rat) ^ 5 = 32 := by decide +kernel
    rw [e5] at e
    grind
  have ha := gChk_ok (r := r) (b := b) (by omega) (by omega) h0 hr2 hs
  have e00 : en [[r]] 0 0 = r.q := rfl
  obtain ⟨p, p1, p2⟩ := made_P (a := [[r]]) h1 h2 (by omega) (by omega) hf (oneT_sq r) (fun x hx => by
      rcases List.mem_cons.1 hx with rfl | hx
      · intro y hy
        rcases List.mem_cons.1 hy with rfl | hy
        · exact hs
        · cases hy
      · cases hx) (fun i l hi hl => by
      obtain rfl : i = 0 := by omega
      obtain rfl : l = 0 := by omega
      exact h0) (fun i hi => by
      obtain rfl : i = 0 := by omega
      show absQ (en [[r]] 0 0) + 0 ≤ _
      rw [e00, absQ_pos h0, Rat.add_zero]
      exact hr)
  have hp : gPair r b = .ok p := by
    unfold gPair
    rw [ha]
    exact p1
  have g1 := p2.e.2 0 0 (by omega) (by omega)
  have g2 := p2.s.2 0 0 (by omega) (by omega)
  refine ⟨sp p.1 0 0, sp p.2 0 0, ?_, ?_, g1.1, g2.1, ?_, ?_⟩
  · unfold gExp
    rw [hp]
    rfl
  · unfold gOne
    rw [hp]
    rfl
  · have h := g1.2
    have e : (fun N => EN 1 (en [[r]]) 1 N 0 0) = gS 0 r.q := funext fun N => EN_one (en [[r]]) N
    rw [e] at h
    exact h
  · have h := g2.2
    have e : (fun N => UN 1 (en [[r]]) 1 N 0 0) = gS 1 r.q := funext fun N => UN_one (en [[r]]) N
    rw [e] at h
    exact h
theorem grw_2 {r : FQ} {b : Nat} (h1 : 16 ≤ b) (h2 : b ≤ 200) (h0 : 0 ≤ r.q) (hr : r.q ≤ 15) (hs : Sz r.q 66 66) : ∃ s, gTwo r b = .ok s ∧ SGr 96 13120 s ∧ Lim (fun N => gS 2 r.q (N - 2)) s := by
  have ha := gChk_ok (r := r) (b := b) (by omega) (by omega) h0 (by grind) hs
  have s0' : Sz q0.q 66 66 := sz_zero.mono (by omega) (by omega)
  have s1' : Sz q1.q 66 66 := q1_sz.mono (by omega) (by omega)
  have z0 : q0.q = 0 := rfl
  have hen : ∀ i l, i < 3 → l < 3 → 0 ≤ en (twoT r) i l := fun i l hi hl => by
    have hi' : i = 0 ∨ i = 1 ∨ i = 2 := by omega
    have hl' : l = 0 ∨ l = 1 ∨ l = 2 := by omega
    rcases hi' with rfl | rfl | rfl <;> rcases hl' with rfl | rfl | rfl <;>
      first
      | exact h0
      | (show 0 ≤ q1.q; rw [q1_q]; decide +kernel)
      | exact Rat.le_refl
  have hsz : ∀ x ∈ twoT r, SzL x 66 66 := fun x hx => by
    unfold twoT at hx
    intro y hy
    simp only [List.mem_cons, List.not_mem_nil, or_false] at hx
    rcases hx with rfl | rfl | rfl <;> simp only [List.mem_cons, List.not_mem_nil, or_false] at hy <;> rcases hy with rfl | rfl | rfl <;> assumption
  have e5 : (2 : Rat) ^ 5 * (1 / 2) = 16 := by decide +kernel
  have a0 : absQ q0.q = 0 := by rw [z0]; decide +kernel
  have a1 : absQ q1.q = 1 := by rw [q1_q]; decide +kernel
  obtain ⟨p, p1, p2⟩ := made_P (a := twoT r) (f := 5) h1 h2 (by omega) (by omega) (by omega) (twoT_sq r) hsz hen (fun i hi => by
    rw [e5]
    have hi' : i = 0 ∨ i = 1 ∨ i = 2 := by omega
    rcases hi' with rfl | rfl | rfl
    · show absQ r.q + (absQ q1.q + (absQ q0.q + 0)) ≤ 16
      rw [a0, a1, absQ_pos h0]
      grind
    · show absQ q0.q + (absQ q0.q + (absQ q1.q + 0)) ≤ 16
      rw [a0, a1]
      decide +kernel
    · show absQ q0.q + (absQ q0.q + (absQ q0.q + 0)) ≤ 16
      rw [a0]
      decide +kernel)
  have g1 := p2.e.2 0 2 (by omega) (by omega)
  refine ⟨sp p.1 0 2, ?_, g1.1, ?_⟩
  · unfold gTwo
    rw [ha]
    show (bnd (mMake (twoT r) q1 b) fun p => .ok (sp p.1 0 2)) = _
    rw [p1]
    rfl
  · have h := g1.2
    refine h.nul ?_
    refine fun ε hε => ⟨2, fun N hN => ?_⟩
    obtain ⟨M, rfl⟩ : ∃ M, N = M + 2 := ⟨N - 2, by omega⟩
    have e := EN_two (A := en (twoT r)) (r := r.q) rfl q1_q rfl rfl rfl q1_q rfl rfl rfl M
    show absQ (gS 2 r.q (M + 2 - 2) - EN 3 (en (twoT r)) 1 (M + 2) 0 2) ≤ ε
    rw [e, Nat.add_sub_cancel, Rat.sub_self]
    have : absQ 0 = 0 := by decide +kernel
    rw [this]
    exact Rat.le_of_lt hε
end
section
open Go Go.RowKit Go.Proofs.Tryz
def r8 : FQ := qOf 8 1
theorem r8_q : r8.q = 8 := by kernel_rfl
theorem r8_sz : Sz r8.q 4 1 := ⟨by rw [r8_q]; decide +kernel, by rw [r8_q]; decide +kernel⟩
structure Fit14 (t : RawQ) (bits : Int) (a : FQ) (b : Nat) : Prop where
  q : rawQ a = t
  nb : bits = (b : Nat)
  b1 : 16 ≤ b
  b2 : b ≤ 200
  s : sm 1 a
  h0 : 0 ≤ a.q
  h8 : a.q ≤ 8
attribute [local irreducible] qSgn qCmp
theorem c_fit14 (t : RawQ) (bits : Int) (ht : RawB t) : ACalls prog 44 [rawv t, i64 bits] (boo false) ∨ ∃ a b, Fit14 t bits a b ∧ ACalls prog 44 [rawv t, i64 bits] (boo true) := by
  obtain ⟨m, a, d⟩ := t
  obtain ⟨w1, w2, w3, w4⟩ := ht
  have q1 : (((a.map dg).length : Nat) : Int) = (a.length : Int) := by simp
  have q2 : (((d.map dg).length : Nat) : Int) = (d.length : Int) := by simp
  by_cases h1 : bits < 16
  · left
    refine conN func44 rfl (by kernel_rfl) ?_
    conv => whnf
    rw [decide_eq_true h1]
    conv => whnf
    exact fin rfl rfl
  by_cases h2 : bits > 200
  · left
    refine conN func44 rfl (by kernel_rfl) ?_
    conv => whnf
    rw [decide_eq_false h1]
    conv => whnf
    rw [decide_eq_true h2]
    conv => whnf
    exact fin rfl rfl
  by_cases h3 : a.length > 1
  · left
    refine conN func44 rfl (by kernel_rfl) ?_
    conv => whnf
    rw [decide_eq_false h1]
    conv => whnf
    rw [decide_eq_false h2]
    conv => whnf
    rw [q1, decide_eq_true (by omega)]
    conv => whnf
    exact fin rfl rfl
  by_cases h4 : d.length > 1
  · left
    refine conN func44 rfl (by kernel_rfl) ?_
    conv => whnf
    rw [decide_eq_false h1]
    conv => whnf
    rw [decide_eq_false h2]
    conv => whnf
    rw [q1, decide_eq_false (by omega)]
    conv => whnf
    rw [q2, decide_eq_true (by omega)]
    conv => whnf
    exact fin rfl rfl
  obtain ⟨c, C, hc⟩ : ∃ c, ACalls prog 17 [rawv (m, a, d)] (i64 c) ∧ rawCheck (m, a, d) = c := ⟨_, c_qCheck m a d w1 w2 w3 w4, rfl⟩
  by_cases h5 : c = 0
  case neg =>
    left
    refine conN func44 rfl (by kernel_rfl) ?_
    conv => whnf
    rw [decide_eq_false h1]
    conv => whnf
    rw [decide_eq_false h2]
    conv => whnf
    rw [q1, decide_eq_false (by omega)]
    conv => whnf
    rw [q2, decide_eq_false (by omega)]
    conv => whnf
    refine callS C rfl rfl ?_
    conv => whnf
    rw [show (c != 0) = true by simpa using h5]
    conv => whnf
    exact fin rfl rfl
  subst h5
  obtain ⟨x, hx⟩ := raw_q w3 w4 hc
  have CS := c_qSign x
  have CX := c_qCompare x r8
  have C8 : ACalls prog 21 [i64 8, i64 1] (rat r8.q) := c_qOf 8 1 (by decide) (by decide) (by decide) (by decide)
  have hv : rat x.q = rawv (m, a, d) := by rw [← hx, rawv_rawQ]; rfl
  have hsm : sm 1 x := by
    have e : rawQ x = (m, a, d) := hx
    have e1 : digs x.q.num.natAbs = a := congrArg (fun z : RawQ => z.2.1) e
    have e2 : digs x.q.den = d := congrArg (fun z : RawQ => z.2.2) e
    exact ⟨by rw [e1]; omega, by rw [e2]; omega⟩
  have hcmp : qCmp x r8 = .ok (cmpQ x.q r8.q) := by
    with_unfolding_all exact qCmp_ok (sm_sz hsm) r8_sz (by omega) (by omega)
  rw [hv] at CS CX
  obtain ⟨k, hk⟩ : ∃ k, cmpQ x.q r8.q = k := ⟨_, rfl⟩
  rw [hk] at hcmp
  rw [hcmp] at CX
  change ACalls prog _ _ (.tup [i64 k, i64 ((0 : Nat) : Int)]) at CX
  obtain ⟨s, hs⟩ : ∃ s, qSgn x = s := ⟨_, rfl⟩
  rw [hs] at CS
  by_cases h6 : s < 0
  · left
    refine conN func44 rfl (by kernel_rfl) ?_
    conv => whnf
    rw [decide_eq_false h1]
    conv => whnf
    rw [decide_eq_false h2]
    conv => whnf
    rw [q1, decide_eq_false (by omega)]
    conv => whnf
    rw [q2, decide_eq_false (by omega)]
    conv => whnf
    refine callS C rfl rfl ?_
    conv => whnf
    refine callS CS rfl rfl ?_
    conv => whnf
    rw [decide_eq_true h6]
    conv => whnf
    exact fin rfl rfl
  by_cases h7 : k ≤ 0
  · right
    obtain ⟨b, rfl⟩ : ∃ b : Nat, bits = (b : Int) := ⟨bits.toNat, by omega⟩
    refine ⟨x, b, ⟨hx, rfl, by omega, by omega, hsm, ?_, ?_⟩, ?_⟩
    · apply Classical.byContradiction
      intro q
      have h8 : x.q.num < 0 := by
        have : ¬ 0 ≤ x.q.num := fun z => q (Rat.num_nonneg.1 z)
        omega
      apply h6
      rw [← hs]
      with_unfolding_all
      unfold qSgn sgnZ
      rw [if_neg (by omega), if_pos h8]
      decide
    · have := cmpQ_le.1 (by omega : cmpQ x.q r8.q ≤ 0)
      rw [r8_q] at this
      exact this
    · refine conN func44 rfl (by kernel_rfl) ?_
      conv => whnf
      rw [decide_eq_false h1]
      conv => whnf
      rw [decide_eq_false h2]
      conv => whnf
      rw [q1, decide_eq_false (by omega)]
      conv => whnf
      rw [q2, decide_eq_false (by omega)]
      conv => whnf
      refine callS C rfl rfl ?_
      conv => whnf
      refine callS CS rfl rfl ?_
      conv => whnf
      rw [decide_eq_false h6]
      conv => whnf
      refine ⟨by kernel_rfl, ?_⟩
      conv => whnf
      refine callD C8 rfl rfl ?_
      conv => whnf
      refine callD CX rfl rfl ?_
      conv => whnf
      rw [decide_eq_true h7]
      conv => whnf
      exact fin rfl rfl
  · left
    refine conN func44 rfl (by kernel_rfl) ?_
    conv => whnf
    rw [decide_eq_false h1]
    conv => whnf
    rw [decide_eq_false h2]
    conv => whnf
    rw [q1, decide_eq_false (by omega)]
    conv => whnf
    rw [q2, decide_eq_false (by omega)]
    conv => whnf
    refine callS C rfl rfl ?_
    conv => whnf
    refine callS CS rfl rfl ?_
    conv => whnf
    rw [decide_eq_false h6]
    conv => whnf
    refine ⟨by kernel_rfl, ?_⟩
    conv => whnf
    refine callD C8 rfl rfl ?_
    conv => whnf
    refine callD CX rfl rfl ?_
    conv => whnf
    rw [decide_eq_false h7]
    conv => whnf
    exact fin rfl rfl
theorem rd_rrb {avs : List AV} (h : RdArgs prog 9 [28, 28, 3] avs) : ∃ (r s : RawQ) (n : Int), avs = [rawv r, rawv s, i64 n] ∧ RawB r ∧ RawB s := by
  match avs, h with
  | [x, y, z], ⟨⟨c1, r1, e1⟩, ⟨c2, r2, e2⟩, ⟨c3, r3, e3⟩, _⟩ =>
    obtain ⟨r, hr, rfl, hb⟩ := rd_rat r1
    obtain ⟨s, hs, rfl, hb2⟩ := rd_rat r2
    obtain ⟨n, rfl, _⟩ := rd_int r3
    rw [hr] at e1
    rw [hs] at e2
    rw [mkV_one ag_int] at e3
    subst e1 e2 e3
    exact ⟨r, s, n, rfl, hb, hb2⟩
theorem rd_rb {avs : List AV} (h : RdArgs prog 9 [28, 3] avs) : ∃ (r : RawQ) (n : Int), avs = [rawv r, i64 n] ∧ RawB r := by
  match avs, h with
  | [x, z], ⟨⟨c1, r1, e1⟩, ⟨c3, r3, e3⟩, _⟩ =>
    obtain ⟨r, hr, rfl, hb⟩ := rd_rat r1
    obtain ⟨n, rfl, _⟩ := rd_int r3
    rw [hr] at e1
    rw [mkV_one ag_int] at e3
    subst e1 e3
    exact ⟨r, n, rfl, hb⟩
theorem Fit14.rawe {t : RawQ} {bits : Int} {a : FQ} {b : Nat} (h : Fit14 t bits a b) : rawv t = rat a.q := by rw [← h.q, rawv_rawQ]; rfl
theorem Fit14.sz {t : RawQ} {bits : Int} {a : FQ} {b : Nat} (h : Fit14 t bits a b) : Sz a.q 32 32 := sm_sz h.s
end
end Go.Proofs.YtoofmffmgdkinaaGreatDoor.Abs
