/- Plain laws of tables: on a list; one; turned round; together; so many times. -/
import Derived.Test.YtoofmffmgdkinaaGreatDoorMq
import Derived.Test.YtoofmffmgdkinaaGreatDoorMn
/- Plain laws of tables: on a list; one; turned round; together; so many times. -/
set_option linter.unusedVariables false
set_option linter.unusedSectionVars false
set_option linter.unusedSimpArgs false
set_option maxHeartbeats 4000000
namespace Go.Proofs.YtoofmffmgdkinaaGreatDoor.Abs
open Go Go.RowKit Go.Proofs.Tryz
attribute [local irreducible] zMul zAdd zLeft zRight fitZ qMake zDiv dMake dLevel dRound dNear dAdd dMul dRatio dCmp dMin dMax dAbs dLess qCmp sOut qAdd qMul sAdd sMul sNear qSum sHasQ sSize vEach vDot vNear vHolds vSame qSgn qAbs vScale

def ne (x : List FQ) (i : Nat) : Rat := (x.getD i q0).q
theorem ne_qs {x : List FQ} {i : Nat} : (qs x).getD i 0 = ne x i := qs_getD
theorem get_ne {α : Type} {l : List α} {i : Nat} {d : α} (h : i < l.length) : l[i]? = some (l.getD i d) := by simp [List.getD, h]
theorem mem_getD {α : Type} {l : List α} {x d : α} (h : x ∈ l) : ∃ i, i < l.length ∧ l.getD i d = x := by
  obtain ⟨i, hi, rfl⟩ := List.mem_iff_getElem.1 h
  exact ⟨i, hi, by simp [List.getD, hi]⟩
theorem getD_mem {α : Type} {l : List α} {i : Nat} {d : α} (h : i < l.length) : l.getD i d ∈ l := List.mem_of_getElem? (get_ne h)

theorem apply_ok {n s m u : Nat} {a : List (List FQ)} {x : List FQ} (ha : Sqr n a) (hx : x.length = n) (sa : SzT a s) (sx : SzL x u u) (h1 : s + u ≤ m) (hm : m ≤ 16384) (hl : (m + 1) * n + 1 ≤ 16384) :
    ∃ y, mApply a x = .ok y ∧ y.length = n ∧ SzL y ((m + 1) * n + 1) ((m + 1) * n + 1) ∧ ∀ i, i < n → ne y i = SS n fun k => en a i k * ne x k := by
  obtain ⟨y, y1, y2, y3⟩ := runE_rel (f := fun r => vDot r x) (l := a) (R := fun r z => z.q = dotR (qs r) (qs x) ∧ Sz z.q ((m + 1) * n + 1) ((m + 1) * n + 1)) (by
    intro r hr
    have hrl := ha.2 r hr
    obtain ⟨z, z1, z2, z3⟩ := vDot_ok (a := r) (b := x) (m := m) (by rw [hrl, hx]) (sa r hr) sx h1 h1 hm (by rw [hrl]; exact hl)
    rw [hrl] at z3
    exact ⟨z, z1, z2, z3.mono (Nat.le_refl _) (Nat.add_le_add_right (Nat.mul_le_mul_right n (Nat.le_succ m)) 1)⟩)
  have hyl : y.length = n := by rw [y2]; exact ha.1
  have hy : ∀ i, i < n → (y.getD i q0).q = dotR (qs (a.getD i [])) (qs x) ∧ Sz (y.getD i q0).q ((m + 1) * n + 1) ((m + 1) * n + 1) := fun i hi => y3 i _ _ (get_ne (by rw [ha.1]; exact hi)) (get_ne (by rw [hyl]; exact hi))
  refine ⟨y, y1, hyl, fun z hz => ?_, fun i hi => ?_⟩
  · obtain ⟨i, hi, rfl⟩ := mem_getD (d := q0) hz
    exact (hy i (by omega)).2
  · have hr := (ha.row hi).2
    show (y.getD i q0).q = _
    rw [(hy i hi).1, dotR_SS (by rw [qs_len, qs_len, hr, hx]), qs_len, hr]
    exact SS_congr fun k hk => by rw [qs_getD, ne_qs]; rfl
theorem vSame_of {n : Nat} {x y : List FQ} (hx : x.length = n) (hy : y.length = n) (h : ∀ i, i < n → ne x i = ne y i) : vSame x y = true := by
  unfold vSame
  refine decide_eq_true ?_
  apply List.ext_getElem?
  intro j
  simp only [List.getElem?_map]
  by_cases hj : j < n
  · rw [get_ne (d := q0) (by omega : j < x.length), get_ne (d := q0) (by omega : j < y.length)]
    exact congrArg some (h j hj)
  · rw [List.getElem?_eq_none (by omega), List.getElem?_eq_none (by omega)]

theorem q_one : (qOf 1 1).q = 1 := by kernel_rfl
theorem q_two : (qOf 2 1).q = 2 := by kernel_rfl
theorem sz_two : Sz (qOf 2 1).q 2 1 := ⟨by rw [q_two]; decide, by rw [q_two]; decide⟩
theorem one_ok {n : Nat} (hn : n ≤ 16) : Sqr n (mOne n) ∧ SzT (mOne n) 1 ∧ ∀ i j, i < n → j < n → en (mOne n) i j = if i = j then 1 else 0 := by
  have hc : clampN n = n := by
    have := clampN_in (n := (n : Int)) (by omega) (by omega)
    omega
  refine ⟨⟨by simp [mOne, hc], fun r hr => ?_⟩, fun r hr => ?_, fun i j hi hj => ?_⟩
  · obtain ⟨k, _, rfl⟩ := List.mem_map.1 hr
    rw [vUnit_len, hc]
  · obtain ⟨k, _, rfl⟩ := List.mem_map.1 hr
    exact vUnit_sz _ _
  · have e : (mOne n).getD i [] = vUnit n i := by
      have : (mOne n)[i]? = some (vUnit n (i : Nat)) := by
        unfold mOne
        rw [hc, List.getElem?_map, List.getElem?_range hi]
        rfl
      simp [List.getD, this]
    unfold en
    rw [e]
    unfold vUnit
    rw [hc, if_pos ⟨by omega, by omega⟩, Int.toNat_natCast]
    simp only [List.getD, List.getElem?_set, List.length_replicate]
    by_cases h : i = j
    · rw [if_pos h, if_pos hi, if_pos h]
      exact q_one
    · rw [if_neg h, if_neg h]
      simp only [List.getElem?_replicate, hj, if_true, Option.getD_some]
      rfl
theorem SS_delta : ∀ {n i : Nat} {f : Nat → Rat}, i < n → (SS n fun k => (if i = k then 1 else 0) * f k) = f i
  | 0, i, f, h => by omega
  | n + 1, 0, f, h => by
    simp only [SS]
    have : (SS n fun k => (if 0 = k + 1 then (1 : Rat) else 0) * f (k + 1)) = SS n fun _ => 0 := SS_congr fun k _ => by rw [if_neg (by omega), Rat.zero_mul]
    rw [this, SS_zero, Rat.add_zero]
    show (if (0 : Nat) = 0 then (1 : Rat) else 0) * f 0 = f 0
    rw [if_pos rfl, Rat.one_mul]
  | n + 1, i + 1, f, h => by
    simp only [SS]
    have : (SS n fun k => (if i + 1 = k + 1 then (1 : Rat) else 0) * f (k + 1)) = SS n fun k => (if i = k then 1 else 0) * f (k + 1) := SS_congr fun k _ => by
      by_cases e : i = k
      · rw [if_pos (by omega), if_pos e]
      · rw [if_neg (by omega), if_neg e]
    rw [this, SS_delta (by omega), if_neg (by omega), Rat.zero_mul, Rat.zero_add]
theorem turn_ok {n s : Nat} {a : List (List FQ)} (ha : Sqr n a) (sa : SzT a s) : ∃ t, mTurn q0 a = .ok t ∧ Sqr n t ∧ SzT t s ∧ ∀ i j, i < n → j < n → en t i j = en a j i := by
  obtain ⟨ra, ca⟩ := ha.rect
  refine ⟨turnV q0 a, by unfold mTurn; rw [if_pos ra], ⟨by simp [turnV, ca], fun r hr => ?_⟩, fun r hr x hx => ?_, fun i j hi hj => ?_⟩
  · obtain ⟨k, _, rfl⟩ := List.mem_map.1 hr
    simp [colV, ha.1]
  · obtain ⟨k, hk, rfl⟩ := List.mem_map.1 hr
    obtain ⟨y, hy, rfl⟩ := List.mem_map.1 hx
    have hk := List.mem_range.1 hk
    exact sa y hy _ (getD_mem (by rw [ha.2 y hy]; omega))
  · have e : (turnV q0 a).getD i [] = colV q0 a i := by
      have : (turnV q0 a)[i]? = some (colV q0 a i) := by
        unfold turnV
        rw [ca, List.getElem?_map, List.getElem?_range hi]
        rfl
      simp [List.getD, this]
    unfold en
    rw [e]
    exact col_en ha hj
theorem zip_getD {u v : List Rat} {j : Nat} (h1 : j < u.length) (h2 : j < v.length) : (List.zipWith (· + ·) u v).getD j 0 = u.getD j 0 + v.getD j 0 := by
  simp only [List.getD_eq_getElem?_getD, List.getElem?_zipWith]
  rw [List.getElem?_eq_getElem h1, List.getElem?_eq_getElem h2]
  rfl
theorem map_getD {u : List Rat} {j : Nat} {c : Rat} (h1 : j < u.length) : (u.map (· * c)).getD j 0 = u.getD j 0 * c := by
  simp only [List.getD_eq_getElem?_getD, List.getElem?_map]
  rw [List.getElem?_eq_getElem h1]
  rfl
theorem add_ok {n s : Nat} {a b : List (List FQ)} (ha : Sqr n a) (hb : Sqr n b) (sa : SzT a s) (sb : SzT b s) (h : s + s + 1 ≤ 16384) :
    ∃ t, mAdd a b = .ok t ∧ Sqr n t ∧ SzT t (s + s + 1) ∧ ∀ i j, i < n → j < n → en t i j = en a i j + en b i j := by
  unfold mAdd
  rw [if_neg (by rw [ha.1, hb.1]; simp)]
  obtain ⟨t, t1, t2, t3⟩ := runE_rel (f := fun p : List FQ × List FQ => vEach qAdd p.1 p.2) (l := a.zip b) (R := fun p z => z.length = p.1.length ∧ qs z = List.zipWith (· + ·) (qs p.1) (qs p.2) ∧ SzL z (s + s + 1) (s + s)) (by
    rintro ⟨x, y⟩ hp
    have hx := List.of_mem_zip hp
    exact vAdd_ok (t := s + s) (by rw [ha.2 x hx.1, hb.2 y hx.2]) (sa x hx.1) (sb y hx.2) (by omega) (by omega) h (by omega))
  have hl : t.length = n := by rw [t2, List.length_zip, ha.1, hb.1]; exact Nat.min_self n
  have hz : ∀ i, i < n → (a.zip b)[i]? = some (a.getD i [], b.getD i []) := fun i hi => by
    have h1 : i < a.length := by rw [ha.1]; exact hi
    have h2 : i < b.length := by rw [hb.1]; exact hi
    simp [List.getD, List.getElem?_zip_eq_some, h1, h2]
  have ht : ∀ i, i < n → _ := fun i hi => t3 i _ _ (hz i hi) (get_ne (d := []) (by rw [hl]; exact hi))
  refine ⟨t, t1, ⟨hl, fun r hr => ?_⟩, fun r hr => ?_, fun i j hi hj => ?_⟩
  · obtain ⟨i, hi, rfl⟩ := mem_getD (d := []) hr
    rw [(ht i (by omega)).1]
    exact (ha.row (by omega)).2
  · obtain ⟨i, hi, rfl⟩ := mem_getD (d := []) hr
    exact (ht i (by omega)).2.2.mono (Nat.le_refl _) (by omega)
  · have hrl := (ht i hi).1
    have hq := (ht i hi).2.1
    have ra := (ha.row hi).2
    have rb := (hb.row hi).2
    simp only at hrl hq
    have : (qs (t.getD i [])).getD j 0 = (qs (a.getD i [])).getD j 0 + (qs (b.getD i [])).getD j 0 := by
      rw [hq]
      have j1 : j < (qs (a.getD i [])).length := by rw [qs_len, ra]; exact hj
      have j2 : j < (qs (b.getD i [])).length := by rw [qs_len, rb]; exact hj
      exact zip_getD j1 j2
    rw [qs_getD, qs_getD, qs_getD] at this
    exact this
theorem scale_ok {n s u v : Nat} {a : List (List FQ)} {c : FQ} (ha : Sqr n a) (sa : SzT a s) (hc : Sz c.q u v) (h1 : s + u ≤ 16384) (h2 : s + v ≤ 16384) :
    ∃ t, mScale a c = .ok t ∧ Sqr n t ∧ ∀ i j, i < n → j < n → en t i j = en a i j * c.q := by
  obtain ⟨t, t1, t2, t3⟩ := runE_rel (f := fun r => vScale r c) (l := a) (R := fun r z => z.length = r.length ∧ qs z = (qs r).map (· * c.q)) (by
    intro r hr
    obtain ⟨z, z1, z2, z3, _⟩ := vScale_ok (sa r hr) hc h1 h2
    exact ⟨z, z1, z2, z3⟩)
  have hl : t.length = n := by rw [t2]; exact ha.1
  have ht : ∀ i, i < n → _ := fun i hi => t3 i _ _ (get_ne (d := []) (by rw [ha.1]; exact hi)) (get_ne (d := []) (by rw [hl]; exact hi))
  refine ⟨t, t1, ⟨hl, fun r hr => ?_⟩, fun i j hi hj => ?_⟩
  · obtain ⟨i, hi, rfl⟩ := mem_getD (d := []) hr
    rw [(ht i (by omega)).1]
    exact (ha.row (by omega)).2
  · have hq := (ht i hi).2
    have ra := (ha.row hi).2
    have : (qs (t.getD i [])).getD j 0 = (qs (a.getD i [])).getD j 0 * c.q := by
      rw [hq]
      have j1 : j < (qs (a.getD i [])).length := by rw [qs_len, ra]; exact hj
      exact map_getD j1
    rw [qs_getD, qs_getD] at this
    exact this

/-- THE LAW: one behind the other; times one; turned round; twice. -/
structure Reck (n : Nat) (a b : List (List FQ)) (x : List FQ) : Prop where
  h : ∃ ab bx y z l r at' bt abt bk s d, mMul a b = .ok ab ∧ mApply b x = .ok bx ∧ mApply a bx = .ok y ∧ mApply ab x = .ok z ∧ vSame y z = true ∧ mMul (mOne n) a = .ok l ∧ mMul a (mOne n) = .ok r ∧
    mTurn q0 a = .ok at' ∧ mTurn q0 b = .ok bt ∧ mTurn q0 ab = .ok abt ∧ mMul bt at' = .ok bk ∧ mAdd a a = .ok s ∧ mScale a (qOf 2 1) = .ok d ∧ mSame l a = true ∧ mSame r a = true ∧ mSame abt bk = true ∧ mSame s d = true ∧
    Sqr n ab ∧ y.length = n ∧ bx.length = n ∧ Sqr n l ∧ Sqr n r ∧ Sqr n at' ∧ Sqr n bt ∧ Sqr n abt ∧ Sqr n bk ∧ Sqr n s ∧ Sqr n d
theorem reck_ok {n : Nat} {a b : List (List FQ)} {x : List FQ} (hn : n ≤ 4) (ha : Sqr n a) (hb : Sqr n b) (hx : x.length = n) (sa : SzT a 96) (sb : SzT b 96) (sx : SzL x 96 96) : Reck n a b x := by
  have w1 : (192 + 1) * n + 1 ≤ 773 := by omega
  obtain ⟨ab, p1, p2, p3, p4⟩ := mul_ok (m := 192) ha hb sa sb (by decide) (by decide) (by omega)
  have sab : SzT ab 773 := fun r hr => (p3 r hr).mono w1 w1
  obtain ⟨bx, r1, r2, r3, r4⟩ := apply_ok (m := 192) hb hx sb sx (by decide) (by decide) (by omega)
  obtain ⟨y, y1, y2, y3, y4⟩ := apply_ok (m := 869) ha r2 sa (r3.mono w1 w1) (by decide) (by decide) (by omega)
  obtain ⟨z, z1, z2, z3, z4⟩ := apply_ok (m := 869) p2 hx sab sx (by decide) (by decide) (by omega)
  obtain ⟨o1, o2, o3⟩ := one_ok (n := n) (by omega)
  obtain ⟨l, l1, l2, l3, l4⟩ := mul_ok (m := 97) o1 ha o2 sa (by decide) (by decide) (by omega)
  obtain ⟨r, i1, i2, i3, i4⟩ := mul_ok (m := 97) ha o1 sa o2 (by decide) (by decide) (by omega)
  obtain ⟨at', t1, t2, t3, t4⟩ := turn_ok ha sa
  obtain ⟨bt, u1, u2, u3, u4⟩ := turn_ok hb sb
  obtain ⟨abt, v1, v2, v3, v4⟩ := turn_ok p2 sab
  obtain ⟨bk, k1, k2, k3, k4⟩ := mul_ok (m := 192) u2 t2 u3 t3 (by decide) (by decide) (by omega)
  obtain ⟨s, s1, s2, s3, s4⟩ := add_ok ha ha sa sa (by decide)
  obtain ⟨d, d1, d2, d3⟩ := scale_ok ha sa sz_two (by decide) (by decide)
  refine ⟨ab, bx, y, z, l, r, at', bt, abt, bk, s, d, p1, r1, y1, z1, vSame_of y2 z2 fun i hi => ?_, l1, i1, t1, u1, v1, k1, s1, d1, same_of l2 ha fun i j hi hj => ?_, same_of i2 ha fun i j hi hj => ?_, same_of v2 k2 fun i j hi hj => ?_, same_of s2 d2 fun i j hi hj => ?_, p2, y2, r2, l2, i2, t2, u2, v2, k2, s2, d2⟩
  · rw [y4 i hi, z4 i hi]
    have e1 : (SS n fun k => en a i k * ne bx k) = SS n fun k => en a i k * SS n fun j => en b k j * ne x j := SS_congr fun k hk => by rw [r4 k hk]
    have e2 : (SS n fun k => en ab i k * ne x k) = SS n fun k => (SS n fun j => en a i j * en b j k) * ne x k := SS_congr fun k hk => by rw [p4 i k hi hk]
    rw [e1, e2]
    exact (assoc_SS n (en a) (en b) (fun k _ => ne x k) i 0).symm
  · rw [l4 i j hi hj]
    have : (SS n fun k => en (mOne n) i k * en a k j) = SS n fun k => (if i = k then 1 else 0) * en a k j := SS_congr fun k hk => by rw [o3 i k hi hk]
    rw [this, SS_delta hi]
  · rw [i4 i j hi hj]
    have : (SS n fun k => en a i k * en (mOne n) k j) = SS n fun k => (if j = k then 1 else 0) * en a i k := SS_congr fun k hk => by
      rw [o3 k j hk hj, Rat.mul_comm]
      by_cases e : j = k
      · rw [if_pos e, if_pos e.symm]
      · rw [if_neg e, if_neg (fun q => e q.symm)]
    rw [this, SS_delta hj]
  · rw [v4 i j hi hj, p4 j i hj hi, k4 i j hi hj]
    exact SS_congr fun k hk => by rw [u4 i k hi hk, t4 k j hk hj, Rat.mul_comm]
  · rw [s4 i j hi hj, d3 i j hi hj, q_two]
    have : ∀ z : Rat, z + z = z * 2 := fun z => by
      rw [show (2 : Rat) = 1 + 1 by decide +kernel, Rat.mul_add, Rat.mul_one]
    exact this _

end Go.Proofs.YtoofmffmgdkinaaGreatDoor.Abs

/- VecHolds: the walk. -/
set_option linter.unusedVariables false
set_option linter.unusedSectionVars false
set_option linter.unusedSimpArgs false
set_option maxHeartbeats 4000000
set_option maxRecDepth 20000
namespace Go.Proofs.YtoofmffmgdkinaaGreatDoor.Abs
open Go Go.RowKit Go.Proofs.Tryz
attribute [local irreducible] zMul zAdd zLeft zRight fitZ qMake zDiv dMake dLevel dRound dNear dAdd dMul dRatio dCmp dMin dMax dAbs dLess qCmp sOut qAdd qMul sAdd sMul sNear qSum sHasQ

/-- Spans that hold these numbers, and are of a size. -/
inductive Hld (K L : Nat) : List FS → List Rat → Prop
  | nil : Hld K L [] []
  | cons {s : FS} {x : Rat} {l : List FS} {m : List Rat} (h1 : SGr K L s) (h2 : In x s) (h : Hld K L l m) : Hld K L (s :: l) (x :: m)
theorem Hld.len {K L : Nat} {l : List FS} {m : List Rat} (h : Hld K L l m) : l.length = m.length := by
  induction h with
  | nil => rfl
  | cons _ _ _ ih => simp [ih]
theorem Hld.gr {K L : Nat} {l : List FS} {m : List Rat} (h : Hld K L l m) : ∀ s ∈ l, SGr K L s := by
  induction h with
  | nil => simp
  | cons h1 _ _ ih =>
    intro s hs
    rcases List.mem_cons.1 hs with rfl | hs
    · exact h1
    · exact ih s hs
theorem Hld.get {K L : Nat} {l : List FS} {m : List Rat} (h : Hld K L l m) : ∀ (i : Nat) (s : FS) (x : Rat), l[i]? = some s → m[i]? = some x → In x s := by
  induction h with
  | nil => intro i s x h; simp at h
  | cons _ h2 _ ih =>
    intro i s x hs hx
    cases i with
    | zero => simp at hs hx; subst hs hx; exact h2
    | succ i => exact ih i s x (by simpa using hs) (by simpa using hx)
theorem Hld.of {K L : Nat} : ∀ {l : List FS} {m : List Rat}, l.length = m.length → (∀ (i : Nat) (s : FS) (x : Rat), l[i]? = some s → m[i]? = some x → SGr K L s ∧ In x s) → Hld K L l m
  | [], [], _, _ => .nil
  | s :: l, x :: m, h, g => .cons (g 0 s x rfl rfl).1 (g 0 s x rfl rfl).2 (Hld.of (by simpa using h) fun i s' x' h1 h2 => g (i + 1) s' x' (by simpa using h1) (by simpa using h2))
  | [], _ :: _, h, _ => by cases h
  | _ :: _, [], h, _ => by cases h
theorem vNear_hld {l : List FQ} {j k : Nat} {bits : Int} (hb : bitsOk bits = true) (hl : SzL l j k) (h : bits.toNat + k + 2 ≤ 16384) (hj : j ≤ 16384) : ∃ r, vNear l bits = .ok r ∧ Hld (j + 2) (bits.toNat + k) r (qs l) := by
  obtain ⟨r, h1, h2, h3⟩ := vNear_ok hb hl h hj
  refine ⟨r, h1, .of (by rw [h2, qs_len]) fun i s x hs hx => ?_⟩
  unfold qs at hx
  rw [List.getElem?_map] at hx
  cases hq : l[i]? with
  | none => rw [hq] at hx; cases hx
  | some q =>
    rw [hq] at hx
    cases hx
    exact h3 i q s hq hs
theorem vPlus_hld {bits : Int} (hb : bitsOk bits = true) {K L : Nat} (h : K + L + 1 ≤ 16384) : ∀ {a b : List FS} {x y : List Rat}, Hld K L a x → Hld K L b y → a.length = b.length → ∃ r, vPlus bits a b = .ok r ∧ Hld (K + 2) L r (List.zipWith (· + ·) x y) := by
  intro a b x y ha hb' hab
  unfold vPlus
  rw [if_neg (by simpa using hab)]
  induction ha generalizing b y with
  | nil =>
    cases hb' with
    | nil => exact ⟨[], rfl, .nil⟩
    | cons _ _ _ => cases hab
  | cons g1 g2 _ ih =>
    cases hb' with
    | nil => cases hab
    | cons k1 k2 hb' =>
      obtain ⟨r, r1, r2⟩ := ih hb' (by simpa using hab)
      obtain ⟨s, s1, s2, s3, s4⟩ := sAdd_ok hb g1 k1 h
      exact ⟨s :: r, by simp only [List.zip_cons_cons, runE, s1, r1], .cons s2 (In.add g2 k2 s3 s4) r2⟩
theorem vInner_acc {bits : Int} (hb : bitsOk bits = true) {K L : Nat} (h : K + L + (K + L) + 1 ≤ 16384) : ∀ {a b : List FS} {x y : List Rat}, Hld K L a x → Hld K L b y → a.length = b.length → ∀ (acc : FS) (v : Rat) (k : Nat), SGr k (L + L) acc → In v acc → K + K + 1 ≤ k → k + 2 * a.length + (L + L) + 1 ≤ 16384 →
    ∃ r, foldE (innerStep bits) acc (a.zip b) = .ok r ∧ SGr (k + 2 * a.length) (L + L) r ∧ In (v + dotR x y) r := by
  intro a b x y ha
  induction ha generalizing b y with
  | nil =>
    intro hb' hab acc v k g1 g2 g3 g4
    cases hb' with
    | nil => exact ⟨acc, rfl, g1, by show In (v + 0) acc; rw [Rat.add_zero]; exact g2⟩
    | cons _ _ _ => cases hab
  | cons g1 g2 _ ih =>
    intro hb' hab acc v k k1 k2 k3 k4
    cases hb' with
    | nil => cases hab
    | cons m1 m2 hb' =>
      simp only [List.length_cons] at k4 ⊢
      obtain ⟨p, p1, p2, p3⟩ := sMul_ok hb g1 m1 h
      obtain ⟨s, s1, s2, s3, s4⟩ := sAdd_ok hb k1 (p2.mono k3 (Nat.le_refl _)) (by omega)
      obtain ⟨r, r1, r2, r3⟩ := ih hb' (by simpa using hab) s _ (k + 2) s2 (In.add k2 (p3 _ _ g2 m2) s3 s4) (by omega) (by omega)
      refine ⟨r, by simp only [List.zip_cons_cons, foldE, innerStep, bnd, p1, s1]; exact r1, r2.mono (by omega) (Nat.le_refl _), ?_⟩
      simp only [dotR, List.zipWith_cons_cons, sumQ] at r3 ⊢
      rw [← Rat.add_assoc]
      exact r3
theorem vInner_hld {bits : Int} (hb : bitsOk bits = true) {K L : Nat} {a b : List FS} {x y : List Rat} (ha : Hld K L a x) (hb' : Hld K L b y) (hab : a.length = b.length) (h : K + K + 1 + 2 * a.length + (L + L) + 1 ≤ 16384) :
    ∃ r, vInner bits a b = .ok r ∧ SGr (K + K + 1 + 2 * a.length) (L + L) r ∧ In (dotR x y) r := by
  unfold vInner
  rw [if_neg (by simpa using hab)]
  obtain ⟨r, r1, r2, r3⟩ := vInner_acc hb (by omega) ha hb' hab s0 0 (K + K + 1) (.s0 _ _) .s0 (Nat.le_refl _) h
  exact ⟨r, r1, r2, by rw [Rat.zero_add] at r3; exact r3⟩
theorem vTimes_hld {bits : Int} (hb : bitsOk bits = true) {K L K' L' : Nat} {c : FS} (hc : SGr K' L' c) (h : K + L + (K' + L') + 1 ≤ 16384) : ∀ {a : List FS} {x : List Rat}, Hld K L a x → ∃ r, vTimes a c bits = .ok r ∧ r.length = a.length := by
  intro a x ha
  unfold vTimes
  induction ha with
  | nil => exact ⟨[], rfl, rfl⟩
  | cons g1 _ _ ih =>
    obtain ⟨r, r1, r2⟩ := ih
    obtain ⟨p, p1, _⟩ := sMul_ok hb g1 hc h
    exact ⟨p :: r, by simp only [runE, p1, r1], by simp [r2]⟩
theorem norm_acc {K L : Nat} : ∀ {a : List FS} {x : List Rat}, Hld K L a x → ∀ acc : FD, Gr K L acc → acc.v ≤ (a.foldl (fun m s => dMax m (sSize s)) acc).v ∧ Gr K L (a.foldl (fun m s => dMax m (sSize s)) acc) ∧ ∀ y ∈ x, absQ y ≤ (a.foldl (fun m s => dMax m (sSize s)) acc).v := by
  intro a x ha
  induction ha with
  | nil => exact fun acc h => ⟨Rat.le_refl, h, by simp⟩
  | cons g1 g2 _ ih =>
    rename_i s x0 l m hl
    intro acc h
    have hg : Gr K L (sSize s) := dMax_gr (dAbs_gr g1.1) (dAbs_gr g1.2)
    obtain ⟨h1, h2, h3⟩ := ih (dMax acc (sSize s)) (dMax_gr h hg)
    have hm := le_max acc (sSize s)
    refine ⟨Rat.le_trans hm.1 h1, h2, fun y hy => ?_⟩
    rcases List.mem_cons.1 hy with rfl | hy
    · exact Rat.le_trans (sSize_v s g2) (Rat.le_trans hm.2 h1)
    · exact h3 y hy
theorem qAbs_a (a : FQ) : (qAbs a).q = absQ a.q := by
  unfold qAbs absQ
  by_cases h : a.q.num < 0
  · rw [if_pos h, if_pos (by
      have : ¬ 0 ≤ a.q := fun g => by have := Rat.num_nonneg.2 g; omega
      exact Rat.not_le.1 this)]
    rfl
  · rw [if_neg h, if_neg (by
      have : 0 ≤ a.q := Rat.num_nonneg.1 (by omega)
      exact Rat.not_lt.2 this)]
theorem qAbs_sz {a : FQ} {j k : Nat} (h : Sz a.q j k) : Sz (qAbs a).q j k := by
  unfold qAbs
  split
  · exact h.neg
  · exact h

end Go.Proofs.YtoofmffmgdkinaaGreatDoor.Abs

/- Plain laws of tables: of spans; nothing is lost. -/
set_option linter.unusedVariables false
set_option linter.unusedSectionVars false
set_option linter.unusedSimpArgs false
set_option maxHeartbeats 4000000
namespace Go.Proofs.YtoofmffmgdkinaaGreatDoor.Abs
open Go Go.RowKit Go.Proofs.Tryz
attribute [local irreducible] zMul zAdd zLeft zRight fitZ qMake zDiv dMake dLevel dRound dNear dAdd dMul dRatio dCmp dMin dMax dAbs dLess qCmp sOut qAdd qMul sAdd sMul sNear qSum sHasQ sSize vEach vDot vNear vHolds vSame qSgn qAbs vScale vPlus vInner

def SqG {α : Type} (n : Nat) (a : List (List α)) : Prop := a.length = n ∧ ∀ r ∈ a, r.length = n
theorem SqG.rect {α : Type} {n : Nat} {a : List (List α)} (h : SqG n a) : rect a = true ∧ colsN a = n := by
  have hc : colsN a = n := by
    cases a with
    | nil => exact h.1
    | cons r l => exact h.2 r (by simp)
  refine ⟨List.all_eq_true.2 fun r hr => decide_eq_true ?_, hc⟩
  rw [hc]
  exact h.2 r hr
theorem SqG.rows6 {α : Type} {n : Nat} {a : List (List α)} (h : SqG n a) (hn : n < 1000000) : Rows6 a := fun r hr => by rw [h.2 r hr]; exact hn
theorem SqG.row {α : Type} {n : Nat} {a : List (List α)} (h : SqG n a) {i : Nat} (hi : i < n) : (a.getD i []).length = n := h.2 _ (getD_mem (by rw [h.1]; exact hi))
/-- Spans that hold a table. -/
def HT (n K L : Nat) (p : List (List FS)) (a : List (List FQ)) : Prop := SqG n p ∧ ∀ i, i < n → Hld K L (p.getD i []) (qs (a.getD i []))
/-- One by one. -/
def HE (n K L : Nat) (m : List (List FS)) (t : List (List FQ)) : Prop := SqG n m ∧ ∀ i j, i < n → j < n → SGr K L ((m.getD i []).getD j s0) ∧ In (en t i j) ((m.getD i []).getD j s0)

theorem near_T {n j k : Nat} {bits : Int} {a : List (List FQ)} (hb : bitsOk bits = true) (ha : Sqr n a) (sa : ∀ r ∈ a, SzL r j k) (h : bits.toNat + k + 2 ≤ 16384) (hj : j ≤ 16384) : ∃ p, mNear a bits = .ok p ∧ HT n (j + 2) (bits.toNat + k) p a := by
  obtain ⟨p, p1, p2, p3⟩ := runE_rel (f := fun r => vNear r bits) (l := a) (R := fun r z => Hld (j + 2) (bits.toNat + k) z (qs r)) (fun r hr => vNear_hld hb (sa r hr) h hj)
  have hl : p.length = n := by rw [p2]; exact ha.1
  have hi : ∀ i, i < n → Hld (j + 2) (bits.toNat + k) (p.getD i []) (qs (a.getD i [])) := fun i hi => p3 i _ _ (get_ne (by rw [ha.1]; exact hi)) (get_ne (by rw [hl]; exact hi))
  refine ⟨p, p1, ⟨hl, fun r hr => ?_⟩, hi⟩
  obtain ⟨i, h', rfl⟩ := mem_getD (d := []) hr
  rw [(hi i (by omega)).len, qs_len]
  exact (ha.row (by omega)).2
theorem Hld.getD {K L : Nat} {l : List FS} {m : List Rat} (h : Hld K L l m) {i : Nat} (hi : i < l.length) : SGr K L (l.getD i s0) ∧ In (m.getD i 0) (l.getD i s0) := by
  have hl := h.len
  exact ⟨h.gr _ (getD_mem hi), h.get i _ _ (get_ne hi) (get_ne (by omega))⟩
theorem col_T {n K L : Nat} {q : List (List FS)} {b : List (List FQ)} (hb : Sqr n b) (h : HT n K L q b) {j : Nat} (hj : j < n) : Hld K L (colV s0 q j) (qs (colV q0 b j)) := by
  refine .of (by rw [qs_len]; simp [colV, h.1.1, hb.1]) fun i s x hs hx => ?_
  have hi : i < n := by
    have : i < (colV s0 q j).length := (List.getElem?_eq_some_iff.1 hs).1
    simpa [colV, h.1.1] using this
  have h1 : i < q.length := by rw [h.1.1]; exact hi
  have h2 : i < b.length := by rw [hb.1]; exact hi
  have g := (h.2 i hi).getD (i := j) (by rw [h.1.row hi]; exact hj)
  have es : s = (q.getD i []).getD j s0 := by
    unfold colV at hs
    rw [List.getElem?_map, get_ne (d := []) h1] at hs
    exact (Option.some.inj hs).symm
  have ex : x = (qs (b.getD i [])).getD j 0 := by
    unfold qs colV at hx
    rw [List.getElem?_map, List.getElem?_map, get_ne (d := []) h2] at hx
    rw [qs_getD]
    exact (Option.some.inj hx).symm
  rw [es, ex]
  exact g
theorem dot_en {n : Nat} {a b : List (List FQ)} (ha : Sqr n a) (hb : Sqr n b) {i j : Nat} (hi : i < n) : dotR (qs (a.getD i [])) (qs (colV q0 b j)) = SS n fun k => en a i k * en b k j := by
  have hr := (ha.row hi).2
  rw [dotR_SS (by rw [qs_len, qs_len, hr]; simp [colV, hb.1]), qs_len, hr]
  exact SS_congr fun k hk => by rw [qs_getD, qs_getD, col_en hb hk]; rfl
theorem times_T {n K L : Nat} {bits : Int} {p q : List (List FS)} {a b : List (List FQ)} (hbo : bitsOk bits = true) (ha : Sqr n a) (hb : Sqr n b) (hp : HT n K L p a) (hq : HT n K L q b) (h : K + K + 1 + 2 * n + (L + L) + 1 ≤ 16384) :
    ∃ m, mTimes bits p q = .ok m ∧ SqG n m ∧ ∀ i j, i < n → j < n → SGr (K + K + 1 + 2 * n) (L + L) ((m.getD i []).getD j s0) ∧ In (SS n fun k => en a i k * en b k j) ((m.getD i []).getD j s0) := by
  obtain ⟨rp, cp⟩ := hp.1.rect
  obtain ⟨rq, cq⟩ := hq.1.rect
  unfold mTimes mMulG
  rw [if_pos rq, if_pos ⟨rp, cp.trans hq.1.1.symm⟩]
  unfold turnV
  rw [cq]
  have key : ∀ i, i < n → ∃ r, mRow (fun r c => vInner bits r c) ((List.range n).map (colV s0 q)) (p.getD i []) = .ok r ∧ (r.length = n ∧ ∀ j, j < n → SGr (K + K + 1 + 2 * n) (L + L) (r.getD j s0) ∧ In (SS n fun k => en a i k * en b k j) (r.getD j s0)) := by
    intro i hi
    have hpl := hp.1.row hi
    unfold mRow
    obtain ⟨r, r1, r2, r3⟩ := runE_rel (f := fun c => vInner bits (p.getD i []) c) (l := (List.range n).map (colV s0 q)) (R := fun c y => ∀ j, j < n → c = colV s0 q j → SGr (K + K + 1 + 2 * n) (L + L) y ∧ In (SS n fun k => en a i k * en b k j) y) (by
      intro c hc
      obtain ⟨j, hj, rfl⟩ := List.mem_map.1 hc
      have hj := List.mem_range.1 hj
      have hcl : (colV s0 q j).length = n := by simp [colV, hq.1.1]
      obtain ⟨y, y1, y2, _⟩ := vInner_hld hbo (hp.2 i hi) (col_T hb hq hj) (by rw [hpl, hcl]) (by rw [hpl]; exact h)
      refine ⟨y, y1, fun j' hj' e => ?_⟩
      obtain ⟨y', y1', y2', y3'⟩ := vInner_hld hbo (hp.2 i hi) (col_T hb hq hj') (by rw [hpl]; simp [colV, hq.1.1]) (by rw [hpl]; exact h)
      rw [← e, y1] at y1'
      cases y1'
      rw [hpl] at y2'
      rw [dot_en ha hb hi] at y3'
      exact ⟨y2', y3'⟩)
    have hrl : r.length = n := by rw [r2]; simp
    exact ⟨r, r1, hrl, fun j hj => r3 j (colV s0 q j) _ (by simp [hj]) (get_ne (by rw [hrl]; exact hj)) j hj rfl⟩
  obtain ⟨m, m1, m2, m3⟩ := runE_rel (f := mRow (fun r c => vInner bits r c) ((List.range n).map (colV s0 q))) (l := p) (R := fun x r => ∀ i, i < n → x = p.getD i [] → r.length = n ∧ ∀ j, j < n → SGr (K + K + 1 + 2 * n) (L + L) (r.getD j s0) ∧ In (SS n fun k => en a i k * en b k j) (r.getD j s0)) (by
    intro x hx
    obtain ⟨i, hi, rfl⟩ := mem_getD (d := []) hx
    obtain ⟨r, r1, _⟩ := key i (by rw [← hp.1.1]; exact hi)
    refine ⟨r, r1, fun i' hi' e => ?_⟩
    obtain ⟨r', r1', r2'⟩ := key i' hi'
    rw [← e, r1] at r1'
    cases r1'
    exact r2')
  have hml : m.length = n := by rw [m2]; exact hp.1.1
  have hm : ∀ i, i < n → _ := fun i hi => m3 i _ _ (get_ne (d := []) (by rw [hp.1.1]; exact hi)) (get_ne (d := []) (by rw [hml]; exact hi)) i hi rfl
  refine ⟨m, m1, ⟨hml, fun r hr => ?_⟩, fun i j hi hj => (hm i hi).2 j hj⟩
  obtain ⟨i, hi, rfl⟩ := mem_getD (d := []) hr
  exact (hm i (by omega)).1
theorem plus_T {n K L : Nat} {bits : Int} {p q : List (List FS)} {a b : List (List FQ)} (hbo : bitsOk bits = true) (ha : Sqr n a) (hb : Sqr n b) (hp : HT n K L p a) (hq : HT n K L q b) (h : K + L + 1 ≤ 16384) :
    ∃ m, mPlus bits p q = .ok m ∧ SqG n m ∧ ∀ i j, i < n → j < n → SGr (K + 2) L ((m.getD i []).getD j s0) ∧ In (en a i j + en b i j) ((m.getD i []).getD j s0) := by
  unfold mPlus
  rw [if_neg (by rw [hp.1.1, hq.1.1]; simp)]
  have hz : ∀ i, i < n → (p.zip q)[i]? = some (p.getD i [], q.getD i []) := fun i hi => by
    have h1 : i < p.length := by rw [hp.1.1]; exact hi
    have h2 : i < q.length := by rw [hq.1.1]; exact hi
    simp [List.getD, List.getElem?_zip_eq_some, h1, h2]
  have hzl : (p.zip q).length = n := by rw [List.length_zip, hp.1.1, hq.1.1]; exact Nat.min_self n
  obtain ⟨m, m1, m2, m3⟩ := runE_rel (f := fun z : List FS × List FS => vPlus bits z.1 z.2) (l := p.zip q) (R := fun z r => ∀ i, i < n → z = (p.getD i [], q.getD i []) → Hld (K + 2) L r (List.zipWith (· + ·) (qs (a.getD i [])) (qs (b.getD i [])))) (by
    intro z hzm
    obtain ⟨i, hi, e⟩ := List.mem_iff_getElem.1 hzm
    have e1 : z = (p.getD i [], q.getD i []) := by
      have := hz i (by omega)
      rw [List.getElem?_eq_getElem hi, e] at this
      exact Option.some.inj this
    subst e1
    have hi' : i < n := by omega
    obtain ⟨r, r1, _⟩ := vPlus_hld hbo h (hp.2 i hi') (hq.2 i hi') (by rw [hp.1.row hi', hq.1.row hi'])
    refine ⟨r, r1, fun i' hi' e2 => ?_⟩
    obtain ⟨r', r1', r2'⟩ := vPlus_hld hbo h (hp.2 i' hi') (hq.2 i' hi') (by rw [hp.1.row hi', hq.1.row hi'])
    have e3 := congrArg Prod.fst e2
    have e4 := congrArg Prod.snd e2
    simp only at e3 e4
    rw [← e3, ← e4] at r1'
    rw [r1] at r1'
    cases r1'
    exact r2')
  have hml : m.length = n := by rw [m2]; exact hzl
  have hm : ∀ i, i < n → Hld (K + 2) L (m.getD i []) (List.zipWith (· + ·) (qs (a.getD i [])) (qs (b.getD i []))) := fun i hi => m3 i _ _ (hz i hi) (get_ne (d := []) (by rw [hml]; exact hi)) i hi rfl
  have hrl : ∀ i, i < n → (m.getD i []).length = n := fun i hi => by
    rw [(hm i hi).len, List.length_zipWith, qs_len, qs_len, (ha.row hi).2, (hb.row hi).2]
    exact Nat.min_self n
  refine ⟨m, m1, ⟨hml, fun r hr => ?_⟩, fun i j hi hj => ?_⟩
  · obtain ⟨i, hi, rfl⟩ := mem_getD (d := []) hr
    exact hrl i (by omega)
  · have g := (hm i hi).getD (i := j) (by rw [hrl i hi]; exact hj)
    rw [zip_getD (by rw [qs_len, (ha.row hi).2]; exact hj) (by rw [qs_len, (hb.row hi).2]; exact hj), qs_getD, qs_getD] at g
    exact g
theorem on_T {n K L : Nat} {bits : Int} {p : List (List FS)} {v : List FS} {a : List (List FQ)} {x : List FQ} (hbo : bitsOk bits = true) (ha : Sqr n a) (hx : x.length = n) (hp : HT n K L p a) (hv : Hld K L v (qs x)) (h : K + K + 1 + 2 * n + (L + L) + 1 ≤ 16384) :
    ∃ w, mOn bits p v = .ok w ∧ w.length = n ∧ ∀ i, i < n → SGr (K + K + 1 + 2 * n) (L + L) (w.getD i s0) ∧ In (SS n fun k => en a i k * ne x k) (w.getD i s0) := by
  have hvl : v.length = n := by rw [hv.len, qs_len, hx]
  obtain ⟨w, w1, w2, w3⟩ := runE_rel (f := fun r => vInner bits r v) (l := p) (R := fun r y => ∀ i, i < n → r = p.getD i [] → SGr (K + K + 1 + 2 * n) (L + L) y ∧ In (SS n fun k => en a i k * ne x k) y) (by
    intro r hr
    obtain ⟨i, hi, rfl⟩ := mem_getD (d := []) hr
    have hi' : i < n := by rw [← hp.1.1]; exact hi
    obtain ⟨y, y1, _⟩ := vInner_hld hbo (hp.2 i hi') hv (by rw [hp.1.row hi', hvl]) (by rw [hp.1.row hi']; exact h)
    refine ⟨y, y1, fun i' hi' e => ?_⟩
    obtain ⟨y', y1', y2', y3'⟩ := vInner_hld hbo (hp.2 i' hi') hv (by rw [hp.1.row hi', hvl]) (by rw [hp.1.row hi']; exact h)
    rw [← e, y1] at y1'
    cases y1'
    rw [hp.1.row hi'] at y2'
    have hr := (ha.row hi').2
    rw [dotR_SS (by rw [qs_len, qs_len, hr, hx]), qs_len, hr] at y3'
    refine ⟨y2', ?_⟩
    have e2 : (SS n fun k => (qs (a.getD i' [])).getD k 0 * (qs x).getD k 0) = SS n fun k => en a i' k * ne x k := SS_congr fun k hk => by rw [qs_getD, ne_qs]; rfl
    rw [← e2]
    exact y3')
  have hwl : w.length = n := by rw [w2]; exact hp.1.1
  exact ⟨w, w1, hwl, fun i hi => w3 i _ _ (get_ne (d := []) (by rw [hp.1.1]; exact hi)) (get_ne (by rw [hwl]; exact hi)) i hi rfl⟩
theorem vhold_T {n K L j : Nat} {w : List FS} {y : List FQ} (hw : w.length = n) (hy : y.length = n) (sy : SzL y j j) (h1 : K + L + j ≤ 16384) (h2 : j + (L + 1) ≤ 16384) (h : ∀ i, i < n → SGr K L (w.getD i s0) ∧ In (ne y i) (w.getD i s0)) : vHolds w y = .ok true := by
  refine vHolds_ok (by rw [hw, hy]) (fun s hs => ?_) sy h1 h2 fun i s z hs hz => ?_
  · obtain ⟨i, hi, rfl⟩ := mem_getD (d := s0) hs
    exact (h i (by omega)).1
  · have hi : i < w.length := (List.getElem?_eq_some_iff.1 hs).1
    have hi2 : i < y.length := by omega
    have g := (h i (by omega)).2
    rw [get_ne (d := s0) hi] at hs
    rw [get_ne (d := q0) hi2] at hz
    cases hs
    cases hz
    exact g
theorem hold_T {n K L j : Nat} {m : List (List FS)} {t : List (List FQ)} (hm : SqG n m) (ht : Sqr n t) (st : SzT t j) (h1 : K + L + j ≤ 16384) (h2 : j + (L + 1) ≤ 16384)
    (h : ∀ i j, i < n → j < n → SGr K L ((m.getD i []).getD j s0) ∧ In (en t i j) ((m.getD i []).getD j s0)) : mHolds m t = .ok true := by
  unfold mHolds
  rw [if_neg (by rw [hm.1, ht.1]; simp)]
  refine allB_ok fun z hz => ?_
  obtain ⟨i, hi, rfl⟩ := List.mem_iff_getElem.1 hz
  have hi1 : i < m.length := by simp at hi; omega
  have hi2 : i < t.length := by simp at hi; omega
  rw [List.getElem_zip]
  have e1 : m.getD i [] = m[i] := by simp [List.getD, hi1]
  have e2 : t.getD i [] = t[i] := by simp [List.getD, hi2]
  refine vhold_T (n := n) (K := K) (L := L) (hm.2 _ (List.getElem_mem _)) (ht.2 _ (List.getElem_mem _)) (st _ (List.getElem_mem _)) h1 h2 fun j hj => ?_
  have g := h i j (by rw [← hm.1]; exact hi1) hj
  unfold en at g
  rw [e1, e2] at g
  exact g

/-- THE LAW: nothing is lost. -/
structure Kept (n : Nat) (bits : Int) (a b : List (List FQ)) (x : List FQ) : Prop where
  h : ∃ p q v m s w ab sum ax, mNear a bits = .ok p ∧ mNear b bits = .ok q ∧ vNear x bits = .ok v ∧ mTimes bits p q = .ok m ∧ mPlus bits p q = .ok s ∧ mOn bits p v = .ok w ∧ mMul a b = .ok ab ∧ mAdd a b = .ok sum ∧ mApply a x = .ok ax ∧
    mHolds m ab = .ok true ∧ mHolds s sum = .ok true ∧ vHolds w ax = .ok true ∧ SqG n p ∧ SqG n q ∧ SqG n m ∧ SqG n s ∧ w.length = n
theorem kept_ok {n : Nat} {bits : Int} {a b : List (List FQ)} {x : List FQ} (hn : n ≤ 4) (h2 : 2 ≤ bits) (h200 : bits ≤ 200) (ha : Sqr n a) (hb : Sqr n b) (hx : x.length = n) (sa : SzT a 96) (sb : SzT b 96) (sx : SzL x 96 96) : Kept n bits a b x := by
  have hbo : bitsOk bits = true := bitsOk_iff.2 ⟨h2, by omega⟩
  obtain ⟨L, hL⟩ : ∃ L, bits.toNat + 96 = L := ⟨_, rfl⟩
  obtain ⟨p, p1, p2⟩ := near_T hbo ha sa (by omega) (by decide)
  obtain ⟨q, q1, q2⟩ := near_T hbo hb sb (by omega) (by decide)
  obtain ⟨v, v1, v2⟩ := vNear_hld hbo sx (by omega) (by decide)
  rw [hL] at p2 q2 v2
  obtain ⟨m, m1, m2, m3⟩ := times_T hbo ha hb p2 q2 (by omega)
  obtain ⟨s, s1, s2, s3⟩ := plus_T hbo ha hb p2 q2 (by omega)
  obtain ⟨w, w1, w2, w3⟩ := on_T hbo ha hx p2 v2 (by omega)
  obtain ⟨ab, g1, g2, g3, g4⟩ := mul_ok (m := 192) ha hb sa sb (by decide) (by decide) (by omega)
  obtain ⟨t, t1, t2, t3, t4⟩ := add_ok ha hb sa sb (by decide)
  obtain ⟨y, y1, y2, y3, y4⟩ := apply_ok (m := 192) ha hx sa sx (by decide) (by decide) (by omega)
  have hw : (192 + 1) * n + 1 ≤ 773 := by omega
  refine ⟨p, q, v, m, s, w, ab, t, y, p1, q1, v1, m1, s1, w1, g1, t1, y1, hold_T (K := 96 + 2 + (96 + 2) + 1 + 2 * n) (L := L + L) m2 g2 g3 (by omega) (by omega) fun i j hi hj => by rw [g4 i j hi hj]; exact m3 i j hi hj, hold_T (K := 96 + 2 + 2) (L := L) s2 t2 t3 (by omega) (by omega) fun i j hi hj => by rw [t4 i j hi hj]; exact s3 i j hi hj, vhold_T (K := 96 + 2 + (96 + 2) + 1 + 2 * n) (L := L + L) w2 y2 y3 (by omega) (by omega) fun i hi => by rw [y4 i hi]; exact w3 i hi, p2.1, q2.1, m2, s2, w2⟩

end Go.Proofs.YtoofmffmgdkinaaGreatDoor.Abs

/- Plain laws of tables: norms. -/
set_option linter.unusedVariables false
set_option linter.unusedSectionVars false
set_option linter.unusedSimpArgs false
set_option maxHeartbeats 4000000
namespace Go.Proofs.YtoofmffmgdkinaaGreatDoor.Abs
open Go Go.RowKit Go.Proofs.Tryz
attribute [local irreducible] zMul zAdd zLeft zRight fitZ qMake zDiv dMake dLevel dRound dNear dAdd dMul dRatio dCmp dMin dMax dAbs dLess qCmp sOut qAdd qMul sAdd sMul sNear sHasQ vEach vDot vNear vHolds vSame qSgn qAbs vScale vPlus vInner

theorem SS_le : ∀ {n : Nat} {f g : Nat → Rat}, (∀ k, k < n → f k ≤ g k) → SS n f ≤ SS n g
  | 0, _, _, _ => Rat.le_refl
  | n + 1, f, g, h => by
    simp only [SS]
    have h1 := h 0 (by omega)
    have h2 := SS_le (n := n) (f := fun k => f (k + 1)) (g := fun k => g (k + 1)) fun k hk => h (k + 1) (by omega)
    grind
theorem SS_abs : ∀ (n : Nat) (f : Nat → Rat), absQ (SS n f) ≤ SS n fun k => absQ (f k)
  | 0, _ => by simp only [SS]; exact (absQ_pos Rat.le_refl) ▸ Rat.le_refl
  | n + 1, f => by
    simp only [SS]
    have h1 := absQ_add (f 0) (SS n fun k => f (k + 1))
    have h2 := SS_abs n fun k => f (k + 1)
    grind
def aSum (r : List FQ) : Rat := sumQ ((qs r).map absQ)
theorem sumQ_abs_nonneg : ∀ l : List Rat, 0 ≤ sumQ (l.map absQ)
  | [] => Rat.le_refl
  | x :: l => by
    show 0 ≤ absQ x + sumQ (l.map absQ)
    have := absQ_nonneg x
    have := sumQ_abs_nonneg l
    grind
theorem aSum_nonneg (r : List FQ) : 0 ≤ aSum r := sumQ_abs_nonneg _
theorem aSum_SS : ∀ r : List FQ, aSum r = SS r.length fun k => absQ (ne r k)
  | [] => rfl
  | x :: r => by
    show absQ x.q + aSum r = _
    rw [aSum_SS r]
    rfl
theorem foldE_abs : ∀ (r : List FQ) (s : FQ), foldE absStep s r = foldE qAdd s (r.map qAbs)
  | [], _ => rfl
  | x :: r, s => by
    simp only [List.map_cons, foldE, absStep]
    cases qAdd s (qAbs x) with
    | error e => rfl
    | ok t => exact foldE_abs r t
theorem qs_abs (r : List FQ) : qs (r.map qAbs) = (qs r).map absQ := by
  unfold qs
  rw [List.map_map, List.map_map]
  exact List.map_congr_left fun x _ => qAbs_a x
theorem abs_szL {r : List FQ} {j k : Nat} (h : SzL r j k) : SzL (r.map qAbs) j k := fun x hx => by
  obtain ⟨y, hy, rfl⟩ := List.mem_map.1 hx
  exact qAbs_sz (h y hy)
theorem rowAbs_ok {r : List FQ} {m : Nat} (h : SzL r m m) (hl : (m + 1) * r.length + 1 ≤ 16384) : ∃ s, rowAbs r = .ok s ∧ s.q = aSum r ∧ Sz s.q ((m + 1) * r.length + 1) ((m + 1) * r.length + 1) := by
  obtain ⟨s, h1, h2, h3⟩ := qSum_ok (abs_szL h) (by rw [List.length_map]; exact hl)
  rw [List.length_map] at h3
  refine ⟨s, (foldE_abs r q0).trans h1, by rw [h2, qs_abs]; rfl, h3.mono (Nat.le_refl _) (Nat.add_le_add_right (Nat.mul_le_mul_right _ (Nat.le_succ m)) 1)⟩
theorem norm_go {m P n : Nat} (hP : (m + 1) * n + 1 = P) (h2 : P + P ≤ 16384) : ∀ (l : List (List FQ)) (acc : FQ), (∀ r ∈ l, r.length = n ∧ SzL r m m) → Sz acc.q P P →
    ∃ N, foldE normStep acc l = .ok N ∧ acc.q ≤ N.q ∧ (∀ r ∈ l, aSum r ≤ N.q) ∧ (N = acc ∨ ∃ r ∈ l, aSum r = N.q) ∧ Sz N.q P P
  | [], acc, _, h => ⟨acc, rfl, Rat.le_refl, by simp, .inl rfl, h⟩
  | r :: l, acc, hl, h => by
    obtain ⟨s, s1, s2, s3⟩ := rowAbs_ok (hl r (by simp)).2 (by rw [(hl r (by simp)).1]; omega)
    rw [(hl r (by simp)).1, hP] at s3
    have hc := qCmp_ok (a := s) (b := acc) s3 h h2 h2
    have hs : normStep acc r = .ok (if cmpQ s.q acc.q > 0 then s else acc) := by
      unfold normStep
      rw [s1]
      simp only
      rw [hc]
    by_cases hg : cmpQ s.q acc.q > 0
    · rw [if_pos hg] at hs
      have hlt : acc.q ≤ s.q := by
        have : ¬ s.q ≤ acc.q := fun q => by have := cmpQ_le.2 q; omega
        grind
      obtain ⟨N, n1, n2, n3, n4, n5⟩ := norm_go hP h2 l s (fun x hx => hl x (by simp [hx])) s3
      refine ⟨N, by simp only [foldE, hs]; exact n1, by grind, fun x hx => ?_, ?_, n5⟩
      · rcases List.mem_cons.1 hx with rfl | hx
        · rw [← s2]; exact n2
        · exact n3 x hx
      · rcases n4 with rfl | ⟨x, hx, e⟩
        · exact .inr ⟨r, by simp, s2.symm⟩
        · exact .inr ⟨x, by simp [hx], e⟩
    · rw [if_neg hg] at hs
      have hle : s.q ≤ acc.q := cmpQ_le.1 (by omega)
      obtain ⟨N, n1, n2, n3, n4, n5⟩ := norm_go hP h2 l acc (fun x hx => hl x (by simp [hx])) h
      refine ⟨N, by simp only [foldE, hs]; exact n1, n2, fun x hx => ?_, ?_, n5⟩
      · rcases List.mem_cons.1 hx with rfl | hx
        · rw [← s2]; grind
        · exact n3 x hx
      · rcases n4 with rfl | ⟨x, hx, e⟩
        · exact .inl rfl
        · exact .inr ⟨x, by simp [hx], e⟩
theorem norm_ok {m P n : Nat} {a : List (List FQ)} (hP : (m + 1) * n + 1 = P) (h2 : P + P ≤ 16384) (ha : Sqr n a) (sa : SzT a m) :
    ∃ N, mNorm a = .ok N ∧ 0 ≤ N.q ∧ (∀ r ∈ a, aSum r ≤ N.q) ∧ (n = 0 ∨ ∃ r ∈ a, aSum r = N.q) ∧ Sz N.q P P := by
  obtain ⟨N, n1, n2, n3, n4, n5⟩ := norm_go hP h2 a q0 (fun r hr => ⟨ha.2 r hr, sa r hr⟩) (sz_zero.mono (by omega) (by omega))
  refine ⟨N, n1, n2, n3, ?_, n5⟩
  rcases n4 with rfl | h
  · cases a with
    | nil => exact .inl ha.1.symm
    | cons r l =>
      have h1 := n3 r (by simp)
      have h2 := aSum_nonneg r
      have h3 : q0.q = 0 := rfl
      exact .inr ⟨r, by simp, by grind⟩
  · exact .inr h
theorem en_row {a : List (List FQ)} {i k : Nat} : en a i k = ne (a.getD i []) k := rfl
theorem norm_mul {n : Nat} {a b p : List (List FQ)} {x y : Rat} (ha : Sqr n a) (hb : Sqr n b) (hp : Sqr n p) (he : ∀ i j, i < n → j < n → en p i j = SS n fun k => en a i k * en b k j) (hx : ∀ r ∈ a, aSum r ≤ x) (hy : ∀ r ∈ b, aSum r ≤ y) (hy0 : 0 ≤ y) :
    ∀ r ∈ p, aSum r ≤ x * y := by
  intro r hr
  obtain ⟨i, hi, rfl⟩ := mem_getD (d := []) hr
  have hi : i < n := by rw [← hp.1]; exact hi
  rw [aSum_SS, (hp.row hi).2]
  have e1 : (SS n fun j => absQ (ne (p.getD i []) j)) ≤ SS n fun j => SS n fun k => absQ (en a i k) * absQ (en b k j) := SS_le fun j hj => by
    rw [← en_row, he i j hi hj]
    refine Rat.le_trans (SS_abs _ _) (SS_le fun k _ => ?_)
    rw [absQ_mul]
    exact Rat.le_refl
  rw [SS_swap] at e1
  have e2 : (SS n fun k => SS n fun j => absQ (en a i k) * absQ (en b k j)) ≤ SS n fun k => absQ (en a i k) * y := SS_le fun k hk => by
    rw [← SS_mul_l]
    have h1 := hy _ (hb.row hk).1
    rw [aSum_SS, (hb.row hk).2] at h1
    exact Rat.mul_le_mul_of_nonneg_left h1 (absQ_nonneg _)
  rw [← SS_mul_r] at e2
  have h3 := hx _ (ha.row hi).1
  rw [aSum_SS, (ha.row hi).2] at h3
  have e3 : (SS n fun k => absQ (en a i k)) * y ≤ x * y := Rat.mul_le_mul_of_nonneg_right h3 hy0
  exact Rat.le_trans e1 (Rat.le_trans e2 e3)

theorem siz_acc {bits : Int} (hb : bitsOk bits = true) {K L : Nat} : ∀ {z : List FS} {x : List Rat}, Hld K L z x → ∀ (acc : FS) (v : Rat) (k : Nat), SGr k L acc → v ≤ acc.hi.v → K ≤ k → k + 2 * z.length + L + 1 ≤ 16384 →
    ∃ s, foldE (sizStep bits) acc z = .ok s ∧ SGr (k + 2 * z.length) L s ∧ v + sumQ (x.map absQ) ≤ s.hi.v := by
  intro z x h
  induction h with
  | nil =>
    intro acc v k g1 g2 g3 g4
    exact ⟨acc, rfl, g1, by show v + 0 ≤ _; rw [Rat.add_zero]; exact g2⟩
  | cons g1 g2 _ ih =>
    rename_i s0' x0 l0 m0 _
    intro acc v k k1 k2 k3 k4
    simp only [List.length_cons] at k4 ⊢
    have hs : Gr K L (sSize s0') := dMax_gr (dAbs_gr g1.1) (dAbs_gr g1.2)
    have hp : SGr k L (sPoint (sSize s0')) := ⟨hs.mono k3 (Nat.le_refl _), hs.mono k3 (Nat.le_refl _)⟩
    obtain ⟨s, s1, s2, s3, s4⟩ := sAdd_ok hb k1 hp (by omega)
    have hv := sSize_v s0' g2
    obtain ⟨r, r1, r2, r3⟩ := ih s (v + absQ x0) (k + 2) s2 (by
      have : (sPoint (sSize s0')).hi.v = (sSize s0').v := rfl
      grind) (by omega) (by omega)
    refine ⟨r, by simp only [foldE, sizStep, s1]; exact r1, ⟨r2.1.mono (by omega) (Nat.le_refl _), r2.2.mono (by omega) (Nat.le_refl _)⟩, ?_⟩
    show v + (absQ x0 + sumQ (m0.map absQ)) ≤ _
    rw [← Rat.add_assoc]
    exact r3
theorem size_go {bits : Int} (hb : bitsOk bits = true) {n K L : Nat} (h : K + 2 * n + L + 1 ≤ 16384) : ∀ (p : List (List FS)) (a : List (List FQ)) (acc : FD), p.length = a.length → (∀ (i : Nat) z r, p[i]? = some z → a[i]? = some r → z.length = n ∧ Hld K L z (qs r)) → Gr (K + 2 * n) L acc →
    ∃ N, foldE (sizeStep bits) acc p = .ok N ∧ acc.v ≤ N.v ∧ (∀ r ∈ a, aSum r ≤ N.v) ∧ Gr (K + 2 * n) L N
  | [], [], acc, _, _, hg => ⟨acc, rfl, Rat.le_refl, by simp, hg⟩
  | z :: p, r :: a, acc, hl, hh, hg => by
    obtain ⟨zl, zh⟩ := hh 0 z r rfl rfl
    obtain ⟨s, s1, s2, s3⟩ := siz_acc hb zh s0 0 K (.s0 _ _) (by show (0 : Rat) ≤ d0.v; have e : d0.v = (0 : Rat) := (by with_unfolding_all rfl); rw [e]; exact Rat.le_refl) (Nat.le_refl _) (by rw [zl]; exact h)
    rw [zl] at s2
    rw [Rat.zero_add] at s3
    have hm := le_max acc s.hi
    obtain ⟨N, n1, n2, n3, n4⟩ := size_go hb h p a (dMax acc s.hi) (by simpa using hl) (fun i z' r' h1 h2 => hh (i + 1) z' r' (by simpa using h1) (by simpa using h2)) (dMax_gr hg s2.2)
    have hs : sizeStep bits acc z = .ok (dMax acc s.hi) := by
      unfold sizeStep rowSiz
      rw [s1]
    refine ⟨N, by simp only [foldE, hs]; exact n1, Rat.le_trans hm.1 n2, fun x hx => ?_, n4⟩
    rcases List.mem_cons.1 hx with rfl | hx
    · exact Rat.le_trans s3 (Rat.le_trans hm.2 n2)
    · exact n3 x hx
  | [], _ :: _, _, hl, _, _ => by cases hl
  | _ :: _, [], _, hl, _, _ => by cases hl
theorem size_ok {bits : Int} (hb : bitsOk bits = true) {n K L : Nat} {p : List (List FS)} {a : List (List FQ)} (h : K + 2 * n + L + 1 ≤ 16384) (ha : Sqr n a) (hp : HT n K L p a) :
    ∃ N, mSize bits p = .ok N ∧ d0.v ≤ N.v ∧ (∀ r ∈ a, aSum r ≤ N.v) ∧ Gr (K + 2 * n) L N := by
  refine size_go hb h p a d0 (by rw [hp.1.1, ha.1]) (fun i z r h1 h2 => ?_) (.d0 _ _)
  have hi : i < p.length := (List.getElem?_eq_some_iff.1 h1).1
  have hin : i < n := by rw [← hp.1.1]; exact hi
  rw [get_ne (d := []) hi] at h1
  rw [get_ne (d := []) (by rw [ha.1]; exact hin)] at h2
  cases h1
  cases h2
  exact ⟨hp.1.row hin, hp.2 i hin⟩

/-- THE LAW: norms. -/
structure Nrm (n : Nat) (bits : Int) (a b : List (List FQ)) : Prop where
  h : ∃ x y ab z p c m s d, mNorm a = .ok x ∧ mNorm b = .ok y ∧ mMul a b = .ok ab ∧ mNorm ab = .ok z ∧ qMul x y = .ok p ∧ qCmp z p = .ok c ∧ mNear a bits = .ok m ∧ mSize bits m = .ok s ∧ dCmpQ s x = .ok d ∧ ¬ c > 0 ∧ ¬ d < 0 ∧ Sqr n ab ∧ SqG n m ∧
    (n = 0 ∨ ∃ r ∈ a, aSum r = x.q) ∧ (∀ r ∈ a, aSum r ≤ x.q) ∧ Sz x.q 389 389
theorem nrm_ok {n : Nat} {bits : Int} {a b : List (List FQ)} (hn : n ≤ 4) (h2 : 2 ≤ bits) (h200 : bits ≤ 200) (ha : Sqr n a) (hb : Sqr n b) (sa : SzT a 96) (sb : SzT b 96) : Nrm n bits a b := by
  have hbo : bitsOk bits = true := bitsOk_iff.2 ⟨h2, by omega⟩
  obtain ⟨L, hL⟩ : ∃ L, bits.toNat + 96 = L := ⟨_, rfl⟩
  obtain ⟨x, x1, x2, x3, x4, x5⟩ := norm_ok rfl (by omega) ha sa
  obtain ⟨y, y1, y2, y3, y4, y5⟩ := norm_ok rfl (by omega) hb sb
  obtain ⟨ab, g1, g2, g3, g4⟩ := mul_ok (m := 192) ha hb sa sb (by decide) (by decide) (by omega)
  have sab : SzT ab 773 := fun r hr => (g3 r hr).mono (by omega) (by omega)
  obtain ⟨z, z1, z2, z3, z4, z5⟩ := norm_ok rfl (by omega) g2 sab
  have x5' : Sz x.q 389 389 := x5.mono (by omega) (by omega)
  have y5' : Sz y.q 389 389 := y5.mono (by omega) (by omega)
  obtain ⟨p, p1, p2, p3⟩ := qMul_ok x5' y5' (by decide) (by decide)
  have c1 := qCmp_ok (a := z) (b := p) (z5.mono (j' := 3097) (k' := 3097) (by omega) (by omega)) p3 (by decide) (by decide)
  obtain ⟨m, m1, m2⟩ := near_T hbo ha sa (by omega) (by decide)
  rw [hL] at m2
  obtain ⟨s, s1, s2, s3, s4⟩ := size_ok hbo (by omega) ha m2
  have d1 := dCmpQ_ok (a := s) (b := x) s4 x5' (by omega) (by omega)
  have hzp : z.q ≤ p.q := by
    rw [p2]
    rcases z4 with h | ⟨r, hr, e⟩
    · have hz : z.q = 0 := by
        have : ab = [] := List.eq_nil_of_length_eq_zero (by rw [g2.1]; exact h)
        subst this
        have : mNorm [] = .ok q0 := rfl
        rw [this] at z1
        cases z1
        rfl
      rw [hz]
      exact Rat.mul_nonneg x2 y2
    · rw [← e]
      exact norm_mul ha hb g2 g4 x3 y3 y2 r hr
  have hsx : x.q ≤ s.v := by
    rcases x4 with h | ⟨r, hr, e⟩
    · have : a = [] := List.eq_nil_of_length_eq_zero (by rw [ha.1]; exact h)
      subst this
      have : mNorm [] = .ok q0 := rfl
      rw [this] at x1
      cases x1
      have e0 : d0.v = q0.q := by with_unfolding_all rfl
      rw [← e0]
      exact s2
    · rw [← e]
      exact s3 r hr
  refine ⟨x, y, ab, z, p, _, m, s, _, x1, y1, g1, z1, p1, c1, m1, s1, d1, ?_, ?_, g2, m2.1, x4, x3, x5'⟩
  · have := cmpQ_le.2 hzp
    omega
  · have := cmpQ_ge.2 hsx
    omega

end Go.Proofs.YtoofmffmgdkinaaGreatDoor.Abs
