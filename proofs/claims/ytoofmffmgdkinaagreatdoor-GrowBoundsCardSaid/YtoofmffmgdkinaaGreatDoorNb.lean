/- How wide spans are: what comes of what the program reckons, whatever its sizes. -/
import Derived.Test.YtoofmffmgdkinaaGreatDoorMu
import Derived.Test.YtoofmffmgdkinaaGreatDoorMx
import Derived.Test.YtoofmffmgdkinaaGreatDoorMz
set_option linter.unusedVariables false
set_option linter.unusedSectionVars false
set_option linter.unusedSimpArgs false
set_option maxHeartbeats 4000000
set_option maxRecDepth 10000
namespace Go.Proofs.YtoofmffmgdkinaaGreatDoor.Abs
section
open Go Go.RowKit Go.Proofs.Tryz
theorem fitZ_eq {z : Int} {w : FZ} (h : fitZ z = .ok w) : w.z = z := by
  unfold fitZ at h
  split at h
  · cases h; rfl
  · cases h
theorem zLeft_eq {u w : FZ} {n : Nat} (h : zLeft u n = .ok w) : w.z = u.z * 2 ^ n := by
  unfold zLeft at h
  split at h
  · rename_i h0
    cases h
    rw [h0, Int.zero_mul]
    rfl
  · split at h
    · cases h
    · exact fitZ_eq h
theorem dMul_eq {a b r : FD} (h : dMul a b = .ok r) : r.v = a.v * b.v := by
  unfold dMul bnd at h
  split at h
  · cases h
  · rename_i p hp
    rw [dMake_v h, fitZ_eq hp, dMan_z, dMan_z, Rat.intCast_mul, zpow_add2]
    unfold FD.v
    grind
theorem errN_zero {α : Type} {x : Except Nat α} (h : errN x = 0) : ∃ v, x = .ok v := by
  cases x with
  | ok v => exact ⟨v, rfl⟩
  | error e => cases h
theorem v_low (d : FD) {low : Int} (h : low ≤ d.exp) : ((d.man * 2 ^ (d.exp - low).toNat : Int) : Rat) * 2 ^ low = d.v := by
  unfold FD.v
  rw [Rat.intCast_mul, cast_pow2, Rat.mul_assoc, ← zpow_add2]
  congr 2
  omega
theorem dAdd_eq {a b r : FD} (h : dAdd a b = .ok r) : r.v = a.v + b.v := by
  unfold dAdd at h
  split at h
  case isFalse => cases h
  rename_i h0
  unfold bnd at h
  split at h
  · cases h
  rename_i s hs
  have hv := dMake_v h
  rw [fitZ_eq hs] at hv
  rw [hv]
  clear hv hs h
  unfold dLevel at h0 ⊢
  by_cases a0 : a.man = 0
  · rw [if_pos a0]
    have e0 : a.v = 0 := v_zero a0
    show (((0 + b.man : Int)) : Rat) * 2 ^ b.exp = _
    rw [e0, Rat.zero_add, Int.zero_add]
    rfl
  · rw [if_neg a0] at h0 ⊢
    by_cases b0 : b.man = 0
    · rw [if_pos b0]
      have e0 : b.v = 0 := v_zero b0
      show (((a.man + 0 : Int)) : Rat) * 2 ^ a.exp = _
      rw [e0, Rat.add_zero, Int.add_zero]
      rfl
    · rw [if_neg b0] at h0 ⊢
      obtain ⟨low, hlow⟩ : ∃ low, (if b.exp < a.exp then b.exp else a.exp) = low := ⟨_, rfl⟩
      have hl : low ≤ a.exp ∧ low ≤ b.exp := by
        rw [← hlow]; split <;> omega
      simp only [hlow] at h0 ⊢
      have hx : errN (zLeft (dMan a) (a.exp - low).toNat) = 0 := by
        split at h0
        · assumption
        · exact absurd h0 ‹_›
      rw [if_pos hx] at h0
      obtain ⟨x, hx⟩ := errN_zero hx
      obtain ⟨y, hy⟩ := errN_zero h0
      rw [hx, hy]
      show ((x.z + y.z : Int) : Rat) * 2 ^ low = _
      rw [zLeft_eq hx, zLeft_eq hy, Rat.intCast_add, Rat.add_mul]
      rw [dMan_z, dMan_z, v_low a hl.1, v_low b hl.2]
theorem dRound_eq {a r : FD} {bits : Int} {up : Bool} (h : dRound a bits up = .ok r) : absQ (r.v - a.v) ≤ absQ a.v * 2 ^ (1 - bits) := by
  unfold dRound at h
  split at h
  case isFalse => cases h
  rename_i hb
  have hbits := bitsOk_iff.1 hb
  by_cases h0 : (blen a.man.natAbs : Int) - bits ≤ 0
  · rw [if_pos h0] at h
    cases h
    have : a.v - a.v = 0 := Rat.sub_self
    rw [this]
    have h1 : absQ 0 = 0 := absQ_pos Rat.le_refl
    rw [h1]
    exact Rat.mul_nonneg (absQ_nonneg _) (Rat.le_of_lt (zpow_pos2 _))
  · rw [if_neg h0] at h
    have hm0 : a.man ≠ 0 := by
      intro g
      rw [g] at h0
      have : blen (0 : Int).natAbs = 0 := rfl
      omega
    obtain ⟨hb1, hb2, hb3⟩ := blen_top (x := a.man.natAbs) (by omega)
    obtain ⟨n, hn⟩ : ∃ n, ((blen a.man.natAbs : Int) - bits).toNat = n := ⟨_, rfl⟩
    simp only [hn] at h
    have r2 := dMake_v h
    have hneg : (dNeg a).v = -a.v := dNeg_v a
    have err : (2 : Rat) ^ (a.exp + n) ≤ absQ a.v * 2 ^ (1 - bits) := by
      rw [absQ_v]
      have h3 : (2 : Rat) ^ ((blen a.man.natAbs - 1 : Nat) : Int) ≤ ((a.man.natAbs : Nat) : Rat) := by
        have h5 : (2 : Rat) ^ ((blen a.man.natAbs - 1 : Nat) : Int) = (((2 ^ (blen a.man.natAbs - 1) : Nat)) : Rat) := by
          rw [Rat.zpow_natCast, Rat.natCast_pow]; rfl
        rw [h5]
        exact Rat.natCast_le_natCast.2 hb1
      have h4 : (2 : Rat) ^ (a.exp + n) = 2 ^ ((blen a.man.natAbs - 1 : Nat) : Int) * 2 ^ a.exp * 2 ^ (1 - bits) := by
        rw [← zpow_add2, ← zpow_add2]
        congr 1
        omega
      rw [h4]
      exact Rat.mul_le_mul_of_nonneg_right (Rat.mul_le_mul_of_nonneg_right h3 (Rat.le_of_lt (zpow_pos2 _))) (Rat.le_of_lt (zpow_pos2 _))
    refine Rat.le_trans ?_ err
    have one : ((1 : Int) : Rat) * 2 ^ (a.exp + n) = 2 ^ (a.exp + n) := by rw [Rat.intCast_one, Rat.one_mul]
    have hp := zpow_pos2 (a.exp + n)
    rw [absQ_le, r2]
    cases up
    · obtain ⟨u1, u2⟩ := v_floor a n
      show _ ≤ ((a.man / 2 ^ n : Int) : Rat) * 2 ^ (a.exp + n) - a.v ∧ ((a.man / 2 ^ n : Int) : Rat) * 2 ^ (a.exp + n) - a.v ≤ _
      rw [Rat.intCast_add, Rat.add_mul, one] at u2
      exact ⟨by grind, by grind⟩
    · obtain ⟨u1, u2⟩ := v_floor (dNeg a) n
      rw [hneg] at u1 u2
      have e1 : ∀ z : Int, ((z : Int) : Rat) * 2 ^ ((dNeg a).exp + n) = (z : Rat) * 2 ^ (a.exp + n) := fun _ => rfl
      rw [e1] at u1 u2
      have e3 : (dNeg a).man = -a.man := rfl
      rw [e3] at u1 u2
      show _ ≤ ((-(-a.man / 2 ^ n) : Int) : Rat) * 2 ^ (a.exp + n) - a.v ∧ ((-(-a.man / 2 ^ n) : Int) : Rat) * 2 ^ (a.exp + n) - a.v ≤ _
      rw [Rat.intCast_neg, Rat.neg_mul]
      rw [Rat.intCast_add, Rat.add_mul, one] at u2
      exact ⟨by grind, by grind⟩
def wid (s : FS) : Rat := absQ (s.hi.v - s.lo.v)
def wT : Rat := 67108864
def va (s : FS) : Rat := mag s + wT * wid s
def rh : Rat := 2049 / 2048
def sg : Rat := 1025 / 1024
theorem wid_nonneg (s : FS) : 0 ≤ wid s := absQ_nonneg _
theorem va_nonneg (s : FS) : 0 ≤ va s := by
  have h1 := mag_nonneg s
  have h2 := wid_nonneg s
  unfold va wT
  grind
theorem va_s0 : va s0 = 0 := by
  have h0 : d0.v = 0 := v_zero rfl
  unfold va
  rw [mag_s0]
  show 0 + wT * absQ (d0.v - d0.v) = 0
  rw [h0]
  decide +kernel
theorem eps40 {bits : Int} (h : 40 ≤ bits) : 0 ≤ (2 : Rat) ^ (1 - bits) ∧ (1 + 2 * wT) * (2 : Rat) ^ (1 - bits) ≤ 1 / 2048 := by
  have h1 := zpow_le2 (show 1 - bits ≤ -39 by omega)
  have h2 := zpow_pos2 (1 - bits)
  refine ⟨Rat.le_of_lt h2, ?_⟩
  have e : (1 + 2 * wT) * (2 : Rat) ^ (-39 : Int) ≤ 1 / 2048 := by decide +kernel
  exact Rat.le_trans (Rat.mul_le_mul_of_nonneg_left h1 (by decide +kernel)) e
theorem sOut_va {lo hi : FD} {r : FS} {bits : Int} {c w : Rat} (hb : 40 ≤ bits) (hr : sOut lo hi bits = .ok r) (h1 : absQ lo.v ≤ c) (h2 : absQ hi.v ≤ c) (h3 : absQ (hi.v - lo.v) ≤ w) : va r ≤ (c + wT * w) * rh := by
  unfold sOut bnd at hr
  split at hr
  · cases hr
  rename_i l hl
  split at hr
  · cases hr
  rename_i u hu
  cases hr
  have e1 := dRound_eq hl
  have e2 := dRound_eq hu
  obtain ⟨p0, p1⟩ := eps40 hb
  generalize (2 : Rat) ^ (1 - bits) = e at *
  have c0 : 0 ≤ c := Rat.le_trans (absQ_nonneg _) h1
  have w0 : 0 ≤ w := Rat.le_trans (absQ_nonneg _) h3
  have f1 := Rat.mul_le_mul_of_nonneg_right h1 p0
  have f2 := Rat.mul_le_mul_of_nonneg_right h2 p0
  have g1 := absQ_add lo.v (l.v - lo.v)
  have g2 := absQ_add hi.v (u.v - hi.v)
  rw [show lo.v + (l.v - lo.v) = l.v by grind] at g1
  rw [show hi.v + (u.v - hi.v) = u.v by grind] at g2
  have m : mag ⟨l, u⟩ ≤ c + c * e := mag_le.2 ⟨by show absQ l.v ≤ _; grind, by show absQ u.v ≤ _; grind⟩
  have k : wid ⟨l, u⟩ ≤ w + 2 * (c * e) := by
    show absQ (u.v - l.v) ≤ _
    have a1 := absQ_add (hi.v - lo.v) ((u.v - hi.v) + -(l.v - lo.v))
    have a2 := absQ_add (u.v - hi.v) (-(l.v - lo.v))
    rw [absQ_neg] at a2
    rw [show hi.v - lo.v + (u.v - hi.v + -(l.v - lo.v)) = u.v - l.v by grind] at a1
    grind
  have q := Rat.mul_le_mul_of_nonneg_left p1 c0
  have q2 := Rat.mul_le_mul_of_nonneg_left k (show 0 ≤ wT by decide +kernel)
  have q3 : 0 ≤ wT * w := Rat.mul_nonneg (by decide +kernel) w0
  unfold va rh
  generalize wT = T at *
  grind
theorem sAdd_va {a b r : FS} {bits : Int} (hb : 40 ≤ bits) (hr : sAdd a b bits = .ok r) : va r ≤ (va a + va b) * rh := by
  unfold sAdd bnd at hr
  split at hr
  · cases hr
  rename_i l hl
  split at hr
  · cases hr
  rename_i u hu
  have h1 := absQ_add a.lo.v b.lo.v
  have h2 := absQ_add a.hi.v b.hi.v
  have h3 := absQ_add (a.hi.v - a.lo.v) (b.hi.v - b.lo.v)
  have ma := le_mag a
  have mb := le_mag b
  refine Rat.le_trans (sOut_va (c := mag a + mag b) (w := wid a + wid b) hb hr ?_ ?_ ?_) ?_
  · rw [dAdd_eq hl]; grind
  · rw [dAdd_eq hu]; grind
  · rw [dAdd_eq hl, dAdd_eq hu]
    rw [show a.hi.v - a.lo.v + (b.hi.v - b.lo.v) = a.hi.v + b.hi.v - (a.lo.v + b.lo.v) by grind] at h3
    exact h3
  · unfold va
    grind
theorem sMul_va {a b r : FS} {bits : Int} (hb : 40 ≤ bits) (hr : sMul a b bits = .ok r) : va r ≤ va a * va b * rh := by
  unfold sMul bnd at hr
  split at hr
  · cases hr
  rename_i x1 e1
  split at hr
  · cases hr
  rename_i x2 e2
  split at hr
  · cases hr
  rename_i x3 e3
  split at hr
  · cases hr
  rename_i x4 e4
  have ma := mag_nonneg a
  have mb := mag_nonneg b
  have wa := wid_nonneg a
  have wb := wid_nonneg b
  have hp : ∀ {x y : Rat}, absQ x ≤ mag a → absQ y ≤ mag b → absQ (x * y) ≤ mag a * mag b := fun h1 h2 => by
    rw [absQ_mul]
    exact mul_le2 h1 h2 (absQ_nonneg _) (mag_nonneg _)
  have v1 := dMul_eq e1
  have v2 := dMul_eq e2
  have v3 := dMul_eq e3
  have v4 := dMul_eq e4
  have p1 : absQ x1.v ≤ mag a * mag b := by rw [v1]; exact hp (le_mag a).1 (le_mag b).1
  have p2 : absQ x2.v ≤ mag a * mag b := by rw [v2]; exact hp (le_mag a).1 (le_mag b).2
  have p3 : absQ x3.v ≤ mag a * mag b := by rw [v3]; exact hp (le_mag a).2 (le_mag b).1
  have p4 : absQ x4.v ≤ mag a * mag b := by rw [v4]; exact hp (le_mag a).2 (le_mag b).2
  have near : ∀ {x x' y y' : Rat}, absQ x ≤ mag a → absQ y' ≤ mag b → absQ (x - x') ≤ wid a → absQ (y - y') ≤ wid b → absQ (x * y - x' * y') ≤ mag a * wid b + wid a * mag b := fun {x x' y y'} h1 h2 h3 h4 => by
    have h5 := absQ_add (x * (y - y')) ((x - x') * y')
    rw [show x * (y - y') + (x - x') * y' = x * y - x' * y' by grind, absQ_mul, absQ_mul] at h5
    have h6 := mul_le2 h1 h4 (absQ_nonneg _) ma
    have h7 := mul_le2 h3 h2 (absQ_nonneg _) wa
    grind
  have sy : ∀ x y : Rat, absQ (x - y) = absQ (y - x) := fun x y => by rw [← absQ_neg, show -(x - y) = y - x by grind]
  have z0 : ∀ (x w : Rat), 0 ≤ w → absQ (x - x) ≤ w := fun x w h => by
    rw [Rat.sub_self, absQ_pos Rat.le_refl]
    exact h
  have la : absQ (a.lo.v - a.hi.v) ≤ wid a := by rw [sy]; exact Rat.le_refl
  have lb : absQ (b.lo.v - b.hi.v) ≤ wid b := by rw [sy]; exact Rat.le_refl
  have ka : absQ (a.hi.v - a.lo.v) ≤ wid a := Rat.le_refl
  have kb : absQ (b.hi.v - b.lo.v) ≤ wid b := Rat.le_refl
  have dA : ∀ x ∈ [a.lo.v, a.hi.v], ∀ x' ∈ [a.lo.v, a.hi.v], absQ (x - x') ≤ wid a := by
    intro x hx x' hx'
    simp only [List.mem_cons, List.not_mem_nil, or_false] at hx hx'
    rcases hx with rfl | rfl <;> rcases hx' with rfl | rfl <;> first | assumption | exact z0 _ _ wa
  have dB : ∀ x ∈ [b.lo.v, b.hi.v], ∀ x' ∈ [b.lo.v, b.hi.v], absQ (x - x') ≤ wid b := by
    intro x hx x' hx'
    simp only [List.mem_cons, List.not_mem_nil, or_false] at hx hx'
    rcases hx with rfl | rfl <;> rcases hx' with rfl | rfl <;> first | assumption | exact z0 _ _ wb
  have mA : ∀ x ∈ [a.lo.v, a.hi.v], absQ x ≤ mag a := by
    intro x hx
    simp only [List.mem_cons, List.not_mem_nil, or_false] at hx
    rcases hx with rfl | rfl
    · exact (le_mag a).1
    · exact (le_mag a).2
  have mB : ∀ x ∈ [b.lo.v, b.hi.v], absQ x ≤ mag b := by
    intro x hx
    simp only [List.mem_cons, List.not_mem_nil, or_false] at hx
    rcases hx with rfl | rfl
    · exact (le_mag b).1
    · exact (le_mag b).2
  -- every one of the four is a product of ends
  have four : ∀ z : FD, z = x1 ∨ z = x2 ∨ z = x3 ∨ z = x4 → ∃ x ∈ [a.lo.v, a.hi.v], ∃ y ∈ [b.lo.v, b.hi.v], z.v = x * y := by
    rintro z (rfl | rfl | rfl | rfl)
    · exact ⟨_, by simp, _, by simp, v1⟩
    · exact ⟨a.lo.v, by simp, b.hi.v, by simp, v2⟩
    · exact ⟨a.hi.v, by simp, b.lo.v, by simp, v3⟩
    · exact ⟨a.hi.v, by simp, b.hi.v, by simp, v4⟩
  have pmin : ∀ x y : FD, dMin x y = x ∨ dMin x y = y := fun x y => by unfold dMin; split <;> simp
  have pmax : ∀ x y : FD, dMax x y = x ∨ dMax x y = y := fun x y => by unfold dMax; split <;> simp
  have fmin : ∃ z : FD, dMin (dMin (dMin x1 x2) x3) x4 = z ∧ (z = x1 ∨ z = x2 ∨ z = x3 ∨ z = x4) := ⟨_, rfl, by
    rcases pmin (dMin (dMin x1 x2) x3) x4 with h | h <;> rw [h]
    · rcases pmin (dMin x1 x2) x3 with h | h <;> rw [h]
      · rcases pmin x1 x2 with h | h <;> rw [h] <;> simp
      · simp
    · simp⟩
  have fmax : ∃ z : FD, dMax (dMax (dMax x1 x2) x3) x4 = z ∧ (z = x1 ∨ z = x2 ∨ z = x3 ∨ z = x4) := ⟨_, rfl, by
    rcases pmax (dMax (dMax x1 x2) x3) x4 with h | h <;> rw [h]
    · rcases pmax (dMax x1 x2) x3 with h | h <;> rw [h]
      · rcases pmax x1 x2 with h | h <;> rw [h] <;> simp
      · simp
    · simp⟩
  obtain ⟨lo, hlo, flo⟩ := fmin
  obtain ⟨hi, hhi, fhi⟩ := fmax
  dsimp only at hr
  rw [hlo, hhi] at hr
  obtain ⟨x, hx, y, hy, ev⟩ := four lo flo
  obtain ⟨x', hx', y', hy', ev'⟩ := four hi fhi
  refine Rat.le_trans (sOut_va (c := mag a * mag b) (w := mag a * wid b + wid a * mag b) hb hr ?_ ?_ ?_) ?_
  · rw [ev]; exact hp (mA x hx) (mB y hy)
  · rw [ev']; exact hp (mA x' hx') (mB y' hy')
  · rw [ev, ev']
    exact near (mA x' hx') (mB y hy) (dA x' hx' x hx) (dB y' hy' y hy)
  · have h1 : 0 ≤ wT * wT * (wid a * wid b) := Rat.mul_nonneg (by decide +kernel) (Rat.mul_nonneg wa wb)
    have h2 : mag a * mag b + wT * (mag a * wid b + wid a * mag b) ≤ va a * va b := by
      unfold va
      generalize wT = T at *
      grind
    exact Rat.mul_le_mul_of_nonneg_right h2 (by decide +kernel)
end
section
open Go Go.RowKit Go.Proofs.Tryz
attribute [local irreducible] zMul zAdd zLeft zRight fitZ qMake zDiv dMake dLevel dRound dNear dAdd dMul dRatio dCmp dMin dMax dLess qCmp sOut qAdd qMul sAdd sMul sNear vPlus vTimes
theorem rh_one : (1 : Rat) ≤ rh := by decide +kernel
theorem rh_pow_nonneg (k : Nat) : 0 ≤ rh ^ k := Rat.pow_nonneg (by decide +kernel)
theorem vaL_nonneg (l : List FS) (i : Nat) : 0 ≤ (l.map va).getD i 0 := by
  rw [List.getD_eq_getElem?_getD, List.getElem?_map]
  cases l[i]? with
  | none => exact Rat.le_refl
  | some z => exact va_nonneg z
theorem map_va_getD (l : List FS) (i : Nat) : (l.map va).getD i 0 = va (l.getD i s0) := by
  simp only [List.getD_eq_getElem?_getD, List.getElem?_map]
  cases l[i]? with
  | none => exact va_s0.symm
  | some s => rfl
theorem inner_va {bits : Int} (hb : 40 ≤ bits) : ∀ {a b : List FS} (_ : a.length = b.length) (acc r : FS)
    (_ : foldE (innerStep bits) acc (a.zip b) = .ok r), va r ≤ (va acc + dotR (a.map va) (b.map va) * rh) * rh ^ a.length
  | [], [], _, acc, r, hr => by
    cases hr
    show va acc ≤ (va acc + 0 * rh) * rh ^ 0
    rw [Rat.pow_zero]
    grind
  | x :: a, [], hab, _, _, _ => by cases hab
  | [], y :: b, hab, _, _, _ => by cases hab
  | x :: a, y :: b, hab, acc, r, hr => by
    simp only [List.zip_cons_cons, foldE, innerStep] at hr
    unfold bnd at hr
    split at hr
    · cases hr
    rename_i s hs
    split at hs
    · cases hs
    rename_i p hp
    have m1 := sMul_va hb hp
    have m2 := sAdd_va hb hs
    have ih := inner_va hb (by simpa using hab) s r hr
    have e : dotR ((x :: a).map va) ((y :: b).map va) = va x * va y + dotR (a.map va) (b.map va) := rfl
    rw [e]
    obtain ⟨D, hD⟩ : ∃ D, dotR (a.map va) (b.map va) = D := ⟨_, rfl⟩
    have hD0 : 0 ≤ D := by
      rw [← hD, dotR_SS (by simpa using hab)]
      exact SS_nonneg fun i hi => Rat.mul_nonneg (vaL_nonneg a i) (vaL_nonneg b i)
    rw [hD] at ih ⊢
    have h1 := rh_one
    have h2 : va s + D * rh ≤ (va acc + (va x * va y + D) * rh) * rh := by
      have g1 : (va acc + va p) * rh ≤ (va acc + va x * va y * rh) * rh := Rat.mul_le_mul_of_nonneg_right (by grind) (by grind)
      have g2 : D * rh * 1 ≤ D * rh * rh := Rat.mul_le_mul_of_nonneg_left h1 (Rat.mul_nonneg hD0 (by grind))
      grind
    have h3 : (va s + D * rh) * rh ^ a.length ≤ (va acc + (va x * va y + D) * rh) * rh * rh ^ a.length := Rat.mul_le_mul_of_nonneg_right h2 (rh_pow_nonneg _)
    have h4 : (va acc + (va x * va y + D) * rh) * rh * rh ^ a.length = (va acc + (va x * va y + D) * rh) * rh ^ (a.length + 1) := by
      rw [Rat.pow_succ]
      grind
    rw [h4] at h3
    exact Rat.le_trans ih h3
def Va (n : Nat) (M : Rat) (p : List (List FS)) : Prop := SqG n p ∧ ∀ i, i < n → (SS n fun j => va (sp p i j)) ≤ M
theorem Va.mono {n : Nat} {M M' : Rat} {p : List (List FS)} (h : Va n M p) (hM : M ≤ M') : Va n M' p := ⟨h.1, fun i hi => Rat.le_trans (h.2 i hi) hM⟩
theorem Va.at {n : Nat} {M : Rat} {p : List (List FS)} (h : Va n M p) {i j : Nat} (hi : i < n) (hj : j < n) : va (sp p i j) ≤ M := by
  have h1 := h.2 i hi
  have h2 : SS (j + 1) (fun k => va (sp p i k)) ≤ SS n fun k => va (sp p i k) := SS_mono hj fun k => va_nonneg _
  rw [SS_last] at h2
  have h3 := SS_nonneg (n := j) (f := fun k => va (sp p i k)) fun k _ => va_nonneg _
  grind
theorem Va.nonneg {n : Nat} {M : Rat} {p : List (List FS)} (h : Va n M p) (hn : 0 < n) : 0 ≤ M := Rat.le_trans (SS_nonneg fun k _ => va_nonneg _) (h.2 0 hn)
theorem times_va {n : Nat} {bits : Int} {p q m : List (List FS)} {M M' : Rat} (hb : 40 ≤ bits) (hn : 0 < n) (hM : Va n M p) (hM' : Va n M' q) (hm : mTimes bits p q = .ok m) : Va n (M * M' * rh ^ (n + 1)) m := by
  refine ⟨times_sq hM.1 hM'.1 hm, fun i hi => ?_⟩
  have one : ∀ j, j < n → va (sp m i j) ≤ (SS n fun k => va (sp p i k) * va (sp q k j)) * rh ^ (n + 1) := fun j hj => by
    have h1 := times_get hM.1 hM'.1 hm hi hj
    have hpl := hM.1.row hi
    have hcl : (colV s0 q j).length = n := by simp [colV, hM'.1.1]
    unfold vInner at h1
    rw [if_neg (by rw [hpl, hcl]; simp)] at h1
    have h2 := inner_va hb (by rw [hpl, hcl]) s0 _ h1
    rw [va_s0, dotR_SS (by rw [List.length_map, List.length_map, hpl, hcl]), List.length_map, hpl, Rat.zero_add] at h2
    have e : (SS n fun k => ((p.getD i []).map va).getD k 0 * ((colV s0 q j).map va).getD k 0) = SS n fun k => va (sp p i k) * va (sp q k j) := SS_congr fun k hk => by
      rw [map_va_getD, map_va_getD, colV_getD hM'.1 hk]
      rfl
    rw [e, Rat.mul_assoc] at h2
    have e2 : rh * rh ^ n = rh ^ (n + 1) := by rw [Rat.pow_succ, Rat.mul_comm]
    rw [e2] at h2
    exact h2
  refine Rat.le_trans (SS_le' one) ?_
  rw [← SS_mul_r, SS_swap]
  refine Rat.mul_le_mul_of_nonneg_right ?_ (rh_pow_nonneg _)
  have h3 : (SS n fun k => SS n fun j => va (sp p i k) * va (sp q k j)) ≤ SS n fun k => va (sp p i k) * M' := SS_le' fun k hk => by
    rw [← SS_mul_l]
    exact Rat.mul_le_mul_of_nonneg_left (hM'.2 k hk) (va_nonneg _)
  rw [← SS_mul_r] at h3
  exact Rat.le_trans h3 (Rat.mul_le_mul_of_nonneg_right (hM.2 i hi) (hM'.nonneg hn))
theorem plus_va {n : Nat} {bits : Int} {p q m : List (List FS)} {M M' : Rat} (hb : 40 ≤ bits) (hM : Va n M p) (hM' : Va n M' q) (hm : mPlus bits p q = .ok m) : Va n ((M + M') * rh) m := by
  refine ⟨plus_sq hM.1 hM'.1 hm, fun i hi => ?_⟩
  have one : ∀ j, j < n → va (sp m i j) ≤ (va (sp p i j) + va (sp q i j)) * rh := fun j hj => sAdd_va hb (plus_get hM.1 hM'.1 hm hi hj)
  refine Rat.le_trans (SS_le' one) ?_
  rw [← SS_mul_r, SS_add]
  refine Rat.mul_le_mul_of_nonneg_right ?_ (by decide +kernel)
  have h1 := hM.2 i hi
  have h2 := hM'.2 i hi
  grind
theorem scaled_va {n : Nat} {bits : Int} {p m : List (List FS)} {c : FS} {M C : Rat} (hb : 40 ≤ bits) (hn : 0 < n) (hM : Va n M p) (hC : va c ≤ C) (hm : mScaled bits p c = .ok m) : Va n (M * C * rh) m := by
  refine ⟨scaled_sq hM.1 hm, fun i hi => ?_⟩
  have one : ∀ j, j < n → va (sp m i j) ≤ va (sp p i j) * (C * rh) := fun j hj => by
    have h1 := sMul_va hb (scaled_get hM.1 hm hi hj)
    have h2 := Rat.mul_le_mul_of_nonneg_left hC (va_nonneg (sp p i j))
    have h3 := Rat.mul_le_mul_of_nonneg_right h2 (show 0 ≤ rh by decide +kernel)
    grind
  refine Rat.le_trans (SS_le' one) ?_
  rw [← SS_mul_r, Rat.mul_assoc]
  exact Rat.mul_le_mul_of_nonneg_right (hM.2 i hi) (Rat.mul_nonneg (Rat.le_trans (va_nonneg _) hC) (by decide +kernel))
theorem sNear_va {a : FQ} {j k : Nat} {bits : Int} {s : FS} (hb : 40 ≤ bits) (hb2 : bitsOk bits = true) (ha : Sz a.q j k) (h : bits.toNat + k + 2 ≤ 16384) (hj : j ≤ 16384) (hs : sNear a bits = .ok s) : va s ≤ absQ a.q * sg := by
  obtain ⟨l, l1, _, _, _, l5, _⟩ := dNear_ok false hb2 ha h hj
  obtain ⟨u, u1, _, _, _, u5, _⟩ := dNear_ok true hb2 ha h hj
  have e : s = ⟨l, u⟩ := by
    unfold sNear at hs
    rw [bnd_ok l1, bnd_ok u1] at hs
    exact (Except.ok.inj hs).symm
  subst e
  have he : (2 : Rat) ^ (2 - bits) = 2 * 2 ^ (1 - bits) := by
    rw [show 2 - bits = 1 + (1 - bits) by omega, zpow_add2]
    rfl
  obtain ⟨p0, p1⟩ := eps40 hb
  rw [he] at l5 u5
  generalize (2 : Rat) ^ (1 - bits) = e at *
  have q0 := absQ_nonneg a.q
  have g1 := absQ_add a.q (l.v - a.q)
  have g2 := absQ_add a.q (u.v - a.q)
  rw [show a.q + (l.v - a.q) = l.v by grind] at g1
  rw [show a.q + (u.v - a.q) = u.v by grind] at g2
  have m : mag ⟨l, u⟩ ≤ absQ a.q + absQ a.q * (2 * e) := mag_le.2 ⟨by show absQ l.v ≤ _; grind, by show absQ u.v ≤ _; grind⟩
  have k : wid ⟨l, u⟩ ≤ 2 * (absQ a.q * (2 * e)) := by
    show absQ (u.v - l.v) ≤ _
    have a1 := absQ_add (u.v - a.q) (-(l.v - a.q))
    rw [absQ_neg] at a1
    rw [show u.v - a.q + -(l.v - a.q) = u.v - l.v by grind] at a1
    grind
  have q := Rat.mul_le_mul_of_nonneg_left p1 q0
  have q2 := Rat.mul_le_mul_of_nonneg_left k (show 0 ≤ wT by decide +kernel)
  unfold va sg
  generalize wT = T at *
  grind
theorem near_va {n j k : Nat} {bits : Int} {a : List (List FQ)} {p : List (List FS)} {c : Rat} (hb : 40 ≤ bits) (hb2 : bitsOk bits = true) (ha : Sqr n a) (sa : ∀ r ∈ a, SzL r j k) (h : bits.toNat + k + 2 ≤ 16384) (hj : j ≤ 16384) (hp : mNear a bits = .ok p) (hsq : SqG n p) (hc : RowB n (en a) c) : Va n (c * sg) p := by
  refine ⟨hsq, fun i hi => ?_⟩
  have one : ∀ l, l < n → va (sp p i l) ≤ absQ (en a i l) * sg := fun l hl =>
    sNear_va hb hb2 (sa _ (ha.row hi).1 _ (getD_mem (by rw [(ha.row hi).2]; exact hl))) h hj (near_get ha hp hi hl)
  refine Rat.le_trans (SS_le' one) ?_
  rw [← SS_mul_r]
  exact Rat.mul_le_mul_of_nonneg_right (hc i hi) (by decide +kernel)
theorem even_va {n : Nat} {d : FD} (hd : 0 ≤ d.v) (hsq : SqG n (evenT n d)) : Va n ((n : Rat) * (d.v * (1 + 2 * wT))) (evenT n d) := by
  refine ⟨hsq, fun i hi => ?_⟩
  have e : (SS n fun j => va (sp (evenT n d) i j)) = SS n fun _ => d.v * (1 + 2 * wT) := SS_congr fun j hj => by
    show va (((evenT n d).getD i []).getD j s0) = _
    rw [evenT_at hi hj]
    have h1 : absQ (dNeg d).v = d.v := by rw [dNeg_v, absQ_neg, absQ_pos hd]
    have h2 : mag ⟨dNeg d, d⟩ = d.v := by
      unfold mag
      show (if absQ (dNeg d).v < absQ d.v then absQ d.v else absQ (dNeg d).v) = _
      rw [h1, absQ_pos hd]
      split <;> rfl
    have h3 : wid ⟨dNeg d, d⟩ = 2 * d.v := by
      show absQ (d.v - (dNeg d).v) = _
      rw [dNeg_v, absQ_pos (by grind)]
      grind
    unfold va
    rw [h2, h3]
    grind
  rw [e, SS_const]
  exact Rat.le_refl
theorem div_va {n j : Nat} {bits : Int} {p m : List (List FS)} {M : Rat} (hj : Inv1 j) (h1 : 1 ≤ j) (hb : 40 ≤ bits) (hb2 : bitsOk bits = true) (hb3 : bits.toNat ≤ 1000) (hn : 0 < n) (hM : Va n M p) (hm : mDiv bits p j = .ok m) : Va n (M * (1 / (j : Rat) * sg) * rh) m := by
  obtain ⟨s, s1, s2, s3⟩ := sNear_ok hb2 hj.s (by omega) (by decide)
  have hs := sNear_va hb hb2 hj.s (by omega) (by decide) s1
  have hm' : mScaled bits p s = .ok m := (bnd_ok s1).symm.trans hm
  refine scaled_va hb hn hM (Rat.le_trans hs ?_) hm'
  have hj1 : (1 : Rat) ≤ (j : Rat) := by
    have : ((1 : Nat) : Rat) ≤ (j : Rat) := Rat.natCast_le_natCast.2 h1
    exact this
  have h3 : (0 : Rat) ≤ 1 / (j : Rat) := by rw [Rat.div_def, Rat.one_mul]; exact Rat.le_of_lt (Rat.inv_pos.2 (by grind))
  rw [hj.q, absQ_pos h3]
  exact Rat.le_refl
end
section
open Go Go.RowKit Go.Proofs.Tryz
attribute [local irreducible] zMul zAdd zLeft zRight fitZ qMake zDiv dMake dLevel dRound dNear dAdd dMul dRatio dCmp dMin dMax dLess qCmp sOut qAdd qMul sAdd sMul sNear vPlus vTimes vInner
theorem sums_va {n : Nat} {bits : Int} {x : List (List FS)} {Mx c0 C : Rat} (hb : 40 ≤ bits) (hb2 : bitsOk bits = true) (hb3 : bits.toNat ≤ 1000) (hn : 0 < n) (mx : Va n Mx x) (h0 : 0 ≤ c0) (hC0 : 0 ≤ C) (hC : Mx * rh ^ (n + 1) * sg * rh ≤ C) :
    ∀ (cnt j : Nat) (term E S E' S' : List (List FS)), j + 1 + cnt ≤ 150 → Va n (c0 * ex j C) term → Va n (rh ^ j * (c0 * SS (j + 1) fun i => ex i C)) E → sumsGo bits x cnt (j + 1) term E S = .ok (E', S') → Va n (rh ^ (j + cnt) * (c0 * SS (j + cnt + 1) fun i => ex i C)) E'
  | 0, j, term, E, S, E', S', _, _, hE, hr => by
    cases hr
    exact hE
  | cnt + 1, j, term, E, S, E', S', hj, hT, hE, hr => by
    unfold sumsGo at hr
    obtain ⟨t1, a1, hr⟩ := bnd_inv hr
    obtain ⟨t2, b1, hr⟩ := bnd_inv hr
    obtain ⟨E1, d1, hr⟩ := bnd_inv hr
    obtain ⟨nx, _, hr⟩ := bnd_inv hr
    obtain ⟨S1, _, hr⟩ := bnd_inv hr
    have v1 := times_va hb hn hT mx a1
    have v2 := div_va (inv1 (by omega) (by omega)) (by omega) hb hb2 hb3 hn v1 b1
    have hx0 := ex_nonneg hC0
    have w2 : Va n (c0 * ex (j + 1) C) t2 := v2.mono (by
      have h1 := ex_succ j C
      have hp := nat1_pos j
      have e : ((j + 1 : Nat) : Rat) = (j : Rat) + 1 := by rw [Rat.natCast_add]; rfl
      rw [e]
      have h2 := Rat.mul_le_mul_of_nonneg_left hC (Rat.mul_nonneg h0 (hx0 j))
      have hi : 0 ≤ 1 / ((j : Rat) + 1) := by rw [Rat.div_def, Rat.one_mul]; exact Rat.le_of_lt (Rat.inv_pos.2 hp)
      have h3 := Rat.mul_le_mul_of_nonneg_right h2 hi
      have h4 : 1 / ((j : Rat) + 1) * ((j : Rat) + 1) = 1 := Rat.div_mul_cancel (by grind)
      have h5 : c0 * ex j C * C * (1 / ((j : Rat) + 1)) = c0 * ex (j + 1) C := by
        have : c0 * ex j C * C = c0 * (((j : Rat) + 1) * ex (j + 1) C) := by rw [h1]; grind
        rw [this]
        generalize ex (j + 1) C = X
        generalize 1 / ((j : Rat) + 1) = I at *
        grind
      rw [h5] at h3
      refine Rat.le_trans ?_ h3
      refine Rat.le_trans (b := c0 * ex j C * (Mx * rh ^ (n + 1) * sg * rh) * (1 / ((j : Rat) + 1))) ?_ Rat.le_refl
      generalize 1 / ((j : Rat) + 1) = I
      grind)
    have v3 := plus_va hb hE w2 d1
    refine (sums_va hb hb2 hb3 hn mx h0 hC0 hC cnt (j + 1) t2 E1 S1 E' S' (by omega) w2 (v3.mono ?_) hr).mono ?_
    · rw [SS_last (j + 1), Rat.pow_succ]
      have h1 : 1 ≤ rh ^ j := by
        have := pow_up rh_one (Nat.zero_le j)
        rw [Rat.pow_zero] at this
        exact this
      have h2 := Rat.mul_le_mul_of_nonneg_right h1 (Rat.mul_nonneg h0 (hx0 (j + 1)))
      have h3 := Rat.mul_le_mul_of_nonneg_right h2 (show 0 ≤ rh by decide +kernel)
      grind
    · rw [show j + 1 + cnt = j + (cnt + 1) by omega]
      exact Rat.le_refl
theorem twice_va {b : Nat} (hb : 40 ≤ b) : ∀ (h : Nat) {M W : Rat} {p q : Gw}, Va 3 M p.1 → M * rh ^ 4 ≤ W → twiceGo b h p = .ok q → Va 3 (W ^ (2 ^ h)) q.1
  | 0, M, W, p, q, hM, hW, hr => by
    cases hr
    rw [Nat.pow_zero, Rat.pow_one]
    refine hM.mono (Rat.le_trans ?_ hW)
    have h1 : (1 : Rat) ≤ rh ^ 4 := by decide +kernel
    have := Rat.mul_le_mul_of_nonneg_left h1 (hM.nonneg (by decide))
    grind
  | h + 1, M, W, p, q, hM, hW, hr => by
    unfold twiceGo at hr
    obtain ⟨r, hr1, hr⟩ := bnd_inv hr
    unfold mTwice at hr1
    obtain ⟨nx, _, hr1⟩ := bnd_inv hr1
    obtain ⟨S, _, hr1⟩ := bnd_inv hr1
    obtain ⟨E, e1, hr1⟩ := bnd_inv hr1
    cases hr1
    have v := times_va (by omega) (by decide) hM hM e1
    have m0 := hM.nonneg (by decide)
    have r0 : (0 : Rat) ≤ rh ^ 4 := by decide +kernel
    have k := mul_le2 hW hW (Rat.mul_nonneg m0 r0) (Rat.le_trans (Rat.mul_nonneg m0 r0) hW)
    have := twice_va hb h (M := M * M * rh ^ 4) (W := W * W) (p := (E, S)) v (by
      refine Rat.le_trans ?_ k
      generalize rh ^ 4 = R
      grind) hr
    have e : (W * W) ^ (2 ^ h) = W ^ (2 ^ (h + 1)) := by
      have sq : ∀ m : Nat, (W * W) ^ m = W ^ (m + m) := fun m => by
        induction m with
        | zero => rw [Nat.add_zero, Rat.pow_zero, Rat.pow_zero]
        | succ m ih =>
          rw [Rat.pow_succ, ih, show m + 1 + (m + 1) = m + m + 1 + 1 by omega, Rat.pow_succ, Rat.pow_succ, Rat.mul_assoc]
      rw [sq, Nat.pow_succ, Nat.mul_two]
    rw [e] at this
    exact this
theorem ex3_le {C : Rat} {m : Nat} (hC : 0 ≤ C) (h2 : 2 * C ≤ ((3 : Nat) : Rat) + 1) : (SS m fun i => ex i C) ≤ (SS 3 fun i => ex i C) + 2 * ex 3 C := by
  have h1 : (SS m fun i => ex i C) ≤ SS (3 + m) fun i => ex i C := SS_mono (by omega) fun k => ex_nonneg hC k
  rw [SS_split] at h1
  have := ex_tail hC m 3 h2
  grind
theorem start_va {b h : Nat} {m : List (List FQ)} {p : Gw} {c C N W : Rat} (hb : 40 ≤ b) (hb2 : b ≤ 200) (hm : Sqr 3 m) (sm : ∀ r ∈ m, SzL r 67 67) (hh : h ≤ 5) (hp : mSmall m q1 h b = .ok p)
    (hX : ∀ part : Rat, (2 : Rat) ^ h * part = 1 → 0 ≤ part → RowB 3 (en m) (c * 2 ^ h)) (hC0 : 0 ≤ C) (h2 : 2 * C ≤ ((3 : Nat) : Rat) + 1) (hC : c * sg * rh ^ 4 * sg * rh ≤ C) (hN : rh ^ 41 * (sg * ((SS 3 fun i => ex i C) + 2 * ex 3 C)) ≤ N) (hW : (N + 1 / 2048) * rh * rh ^ 4 ≤ W) : ∃ M, Va 3 M p.1 ∧ M * rh ^ 4 ≤ W := by
  have hbo : bitsOk (b : Int) = true := bitsOk_iff.2 ⟨by omega, by omega⟩
  have hbn : ((b : Nat) : Int).toNat = b := Int.toNat_natCast b
  obtain ⟨part, p1, p2, p3⟩ := part_ok (n := h) (by omega)
  obtain ⟨x, x1, x2, x3, x4⟩ := scale_full hm sm p3 (by omega) (by omega)
  have hpow : (0 : Rat) < 2 ^ h := Rat.pow_pos (by decide)
  have hpart : 0 ≤ part.q := by
    apply Classical.byContradiction
    intro c
    have := Rat.mul_lt_mul_of_pos_left (show part.q < 0 by grind) hpow
    grind
  unfold mSmall at hp
  rw [bnd_ok p1, bnd_ok x1] at hp
  obtain ⟨tm, _, hp⟩ := bnd_inv hp
  obtain ⟨s, s1, hp⟩ := bnd_inv hp
  have hXx : RowB 3 (en x) c := by
    have h1 := ((hX part.q p2 hpart).scale (s := part.q)).congr (B := en x) fun i l hi hl => x3 i l hi hl
    rw [absQ_pos hpart] at h1
    have e : c * (2 : Rat) ^ h * part.q = c := by rw [Rat.mul_assoc, p2, Rat.mul_one]
    rw [e] at h1
    exact h1
  have ssq := near_sq x2 s1
  have vs := near_va (by omega) hbo x2 x4 (by rw [hbn]; omega) (by omega) s1 ssq hXx
  obtain ⟨lam, hT⟩ := terms_T (b := b) (by omega) (by omega)
  have hk := termsK_200 (b := b) (by omega) (by omega)
  have hk2 := hT.hk.1
  unfold mSums2 at hp
  obtain ⟨pp, q1', hp⟩ := bnd_inv hp
  obtain ⟨tm', _, hp⟩ := bnd_inv hp
  obtain ⟨S', _, hp⟩ := bnd_inv hp
  cases hp
  unfold mPre at q1'
  rw [ssq.1, hT.ev 3 (by omega)] at q1'
  obtain ⟨one, o1, q1'⟩ := bnd_inv q1'
  obtain ⟨ES, e1, q1'⟩ := bnd_inv q1'
  obtain ⟨E1, f1, q1'⟩ := bnd_inv q1'
  obtain ⟨S1, _, q1'⟩ := bnd_inv q1'
  cases q1'
  obtain ⟨g1, g2, g3⟩ := one_ok (n := 3) (by omega)
  have vo := near_va (by omega) hbo g1 g2 (by rw [hbn]; omega) (by omega) o1 (near_sq g1 o1) ((idm_row 3).congr fun i j hi hj => by rw [g3 i j hi hj]; rfl)
  have w0 : (0 : Rat) ≤ sg := by decide +kernel
  obtain ⟨E, S⟩ := ES
  have vE := sums_va (c0 := sg) (by omega) hbo (by rw [hbn]; omega) (by decide) vs w0 hC0 hC (mTermsK b - 1) 0 one one one E S (by omega) (vo.mono (by
      show 1 * sg ≤ sg * 1
      grind)) (vo.mono (by
      show 1 * sg ≤ rh ^ 0 * (sg * (1 + 0))
      rw [Rat.pow_zero]
      grind)) e1
  have vE2 : Va 3 N E := vE.mono (by
    have h1 := pow_up rh_one (show 0 + (mTermsK b - 1) ≤ 41 by omega)
    have h3 := ex3_le (m := 0 + (mTermsK b - 1) + 1) hC0 h2
    have h4 := Rat.mul_le_mul_of_nonneg_left h3 w0
    have h5 : 0 ≤ SS (0 + (mTermsK b - 1) + 1) fun i => ex i C := SS_nonneg fun k _ => ex_nonneg hC0 k
    exact Rat.le_trans (mul_le2 h1 h4 (Rat.mul_nonneg w0 h5) (rh_pow_nonneg _)) hN)
  have hd0 : 0 ≤ (mTermsD b).v := by rw [hT.v]; exact Rat.le_of_lt (zpow_pos2 _)
  have vR := even_va hd0 (evenT_sq 3 _)
  have vE3 := plus_va (by omega) vE2 vR f1
  refine ⟨_, vE3, ?_⟩
  have hd : ((3 : Nat) : Rat) * ((mTermsD b).v * (1 + 2 * wT)) ≤ 1 / 2048 := by
    rw [hT.v]
    have h1 := zpow_le2 (show -(lam : Int) ≤ -40 by have := hT.hl.1; omega)
    have e : ((3 : Nat) : Rat) * ((2 : Rat) ^ (-40 : Int) * (1 + 2 * wT)) ≤ 1 / 2048 := by decide +kernel
    exact Rat.le_trans (Rat.mul_le_mul_of_nonneg_left (Rat.mul_le_mul_of_nonneg_right h1 (by decide +kernel)) (by decide +kernel)) e
  refine Rat.le_trans ?_ hW
  have r4 : (0 : Rat) ≤ rh ^ 4 := by decide +kernel
  have r1 : (0 : Rat) ≤ rh := by decide +kernel
  exact Rat.mul_le_mul_of_nonneg_right (Rat.mul_le_mul_of_nonneg_right (Rat.add_le_add_left.2 hd) r1) r4
theorem two_va {r : FQ} {b : Nat} {s : FS} (h1 : 40 ≤ b) (h2 : b ≤ 200) (h0 : 0 ≤ r.q) (hr : r.q ≤ 8) (hs : Sz r.q 66 66) (h : gTwo r b = .ok s) : va s ≤ (7 / 5) ^ 32 := by
  have ha := gChk_ok (r := r) (b := b) (by omega) (by omega) h0 (by grind) hs
  have z0 : q0.q = 0 := rfl
  have s0' : Sz q0.q 66 66 := sz_zero.mono (by omega) (by omega)
  have s1' : Sz q1.q 66 66 := q1_sz.mono (by omega) (by omega)
  have hsz : ∀ x ∈ twoT r, SzL x 66 66 := fun x hx => by
    unfold twoT at hx
    intro y hy
    simp only [List.mem_cons, List.not_mem_nil, or_false] at hx
    rcases hx with rfl | rfl | rfl <;> simp only [List.mem_cons, List.not_mem_nil, or_false] at hy <;> rcases hy with rfl | rfl | rfl <;> assumption
  have a0 : absQ q0.q = 0 := by rw [z0]; decide +kernel
  have a1 : absQ q1.q = 1 := by rw [q1_q]; decide +kernel
  have hrow : RowB 3 (en (twoT r)) 9 := fun i hi => by
    have hi' : i = 0 ∨ i = 1 ∨ i = 2 := by omega
    rcases hi' with rfl | rfl | rfl
    · show absQ r.q + (absQ q1.q + (absQ q0.q + 0)) ≤ 9
      rw [a0, a1, absQ_pos h0]
      grind
    · show absQ q0.q + (absQ q0.q + (absQ q1.q + 0)) ≤ 9
      rw [a0, a1]
      decide +kernel
    · show absQ q0.q + (absQ q0.q + (absQ q0.q + 0)) ≤ 9
      rw [a0]
      decide +kernel
  unfold gTwo at h
  rw [ha] at h
  obtain ⟨p, hp, h⟩ := bnd_inv (show (bnd (mMake (twoT r) q1 b) fun p => .ok (sp p.1 0 2)) = .ok s from h)
  cases h
  have key : ∃ h : Nat, ∃ M W : Rat, ∃ p0 : Gw, Va 3 M p0.1 ∧ M * rh ^ 4 ≤ W ∧ twiceGo b h p0 = .ok p ∧ W ^ (2 ^ h) ≤ (7 / 5) ^ 32 := by
    unfold mMake at hp
    split at hp
    · cases hp
    split at hp
    · cases hp
    obtain ⟨M, M1, M2, M3, M4⟩ := scale_full (twoT_sq r) hsz (c := q1) (q1_sz) (by omega) (by omega)
    rw [bnd_ok M1] at hp
    have M5 : SzT M 67 := M4
    have hM : RowB 3 (en M) 9 := hrow.congr fun i j hi hj => by rw [M3 i j hi hj, q1_q, Rat.mul_one]
    obtain ⟨norm, n1, n2, n3, _, n5⟩ := norm_ok (m := 67) (P := 205) rfl (by omega) M2 M5
    have hle := norm_leP (m := 67) (P := 205) rfl (by omega) (by decide) M2 M5 n1 hM
    obtain ⟨h, y, g1, g2, g3⟩ := halves_go (f := 65) (n := 0) (f' := 5) n5 (Rat.le_trans hle (by decide +kernel)) (by omega) (by omega) (by omega)
    rw [Nat.zero_add] at g1
    rw [bnd_ok n1] at hp
    have hp : (bnd (halvesGo 65 0 norm) fun h => bnd (mSmall M q1 h.1 b) fun p => twiceGo b h.1 p) = .ok p := hp
    rw [bnd_ok g1] at hp
    obtain ⟨p0, k1, hp⟩ := bnd_inv hp
    have k1 : mSmall M q1 h b = .ok p0 := k1
    have hp : twiceGo b h p0 = .ok p := hp
    by_cases h5 : h = 5
    · subst h5
      obtain ⟨N, v1, v2⟩ := start_va (c := 9 / 32) (C := 283 / 1000) (N := 136 / 100) (W := 7 / 5) h1 h2 M2 M4 (by omega) k1 (fun _ _ _ => by
        have e : (9 / 32 : Rat) * 2 ^ 5 = 9 := by decide +kernel
        rw [e]
        exact hM) (by decide +kernel) (by decide +kernel) (by decide +kernel) (by decide +kernel) (by decide +kernel)
      exact ⟨5, N, _, p0, v1, v2, hp, Rat.le_refl⟩
    · obtain ⟨N, v1, v2⟩ := start_va (c := 1 / 2) (C := 503 / 1000) (N := 171 / 100) (W := 9 / 5) h1 h2 M2 M4 g2 k1 (fun _ _ _ => by
        rw [Rat.mul_comm]
        exact rowB_of M2 fun r hr => Rat.le_trans (n3 r hr) g3) (by decide +kernel) (by decide +kernel) (by decide +kernel) (by decide +kernel) (by decide +kernel)
      refine ⟨h, N, _, p0, v1, v2, hp, ?_⟩
      have e : (2 : Nat) ^ h ≤ 16 := Nat.le_trans (Nat.pow_le_pow_right (by decide) (show h ≤ 4 by omega)) (by decide)
      exact Rat.le_trans (pow_up (by decide +kernel) e) (by decide +kernel)
  obtain ⟨h, M, W, p0, v1, v2, hp, hW⟩ := key
  exact Rat.le_trans ((twice_va h1 h v1 v2 hp).at (by decide) (by decide)) hW
end
end Go.Proofs.YtoofmffmgdkinaaGreatDoor.Abs
