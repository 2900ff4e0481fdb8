/- Numbers as texts: whole ones, ratios, spans. -/
import Derived.Test.YtoofmffmgdkinaaGreatDoorMj
import Derived.Test.YtoofmffmgdkinaaGreatDoorMl
import Derived.Test.YtoofmffmgdkinaaGreatDoorMv
import Derived.KernelRfl
set_option linter.unusedVariables false
set_option linter.unusedSectionVars false
set_option linter.unusedSimpArgs false
set_option maxHeartbeats 4000000
set_option maxRecDepth 20000
namespace Go.Proofs.YtoofmffmgdkinaaGreatDoor.Abs
section
open Go Go.RowKit Go.Proofs.Tryz
attribute [local irreducible] zMul zAdd zLeft zRight fitZ qMake zDiv dMake dLevel dRound dNear dAdd dMul dRatio dCmp dMin dMax dAbs dLess qCmp sOut qAdd qMul sAdd sMul sNear
theorem trimL_len (c : Nat) : ∀ l : List Nat, (trimL c l).length ≤ l.length
  | [] => Nat.le_refl _
  | x :: l => by
    unfold trimL
    rw [List.dropWhile_cons]
    split
    · exact Nat.le_trans (trimL_len c l) (by simp)
    · exact Nat.le_refl _
theorem decD_len {n : Nat} (hn : n < Big) : (decD n).length ≤ maxBits := by
  by_cases h0 : n = 0
  · subst h0
    exact (by decide : 1 ≤ maxBits)
  · rw [← decD_eq (m := maxBits) h0 (by
      rw [Big_eq] at hn
      exact Nat.lt_of_lt_of_le hn (Nat.pow_le_pow_left (by decide) _))]
    exact Nat.le_trans (trimL_len _ _) (by rw [decL_len]; exact Nat.le_refl _)
def decZ (z : Int) : List Nat := if z < 0 then 45 :: decD z.natAbs else decD z.natAbs
def decQ (q : Rat) : List Nat := if q.den = 1 then decZ q.num else decZ q.num ++ [47] ++ decD q.den
theorem decZ_len {z : Int} (hz : z.natAbs < Big) : (decZ z).length ≤ maxBits + 1 := by
  have := decD_len hz
  unfold decZ
  split
  · simpa using this
  · omega
theorem bytes_append (a b : List Nat) : bytes a ++ bytes b = bytes (a ++ b) := by
  apply ByteArray.ext
  simp [bytes, ByteArray.data_append]
theorem bytes_cons (x : Nat) (b : List Nat) : bytes [x] ++ bytes b = bytes (x :: b) := bytes_append [x] b
theorem c_wText (z : Int) (hz : z.natAbs < Big) : ACalls prog 134 [int z] (str (decZ z)) := by
  have C := c_Text z.natAbs hz
  have hl := decD_len hz
  have hs : (bytes (decD z.natAbs)).size = (decD z.natAbs).length := bytes_size _
  refine conN func134 rfl (by kernel_rfl) ?_
  conv => whnf
  by_cases h : z < 0
  · rw [decide_eq_true h]
    conv => whnf
    refine callS C rfl rfl ?_
    conv => whnf
    refine ⟨by rw [hs]; show 1 + _ ≤ _; unfold maxBits at hl; omega, ?_⟩
    conv => whnf
    refine fin rfl ?_
    show AV.lit (.string (bytes [45] ++ bytes (decD z.natAbs))) = _
    unfold decZ
    rw [bytes_cons, if_pos h]
    rfl
  · rw [decide_eq_false h]
    conv => whnf
    refine callS C rfl rfl ?_
    conv => whnf
    refine fin rfl ?_
    unfold decZ
    rw [if_neg h]
    rfl
theorem c_qText (a : FQ) : ACalls prog 97 [rat a.q] (str (decQ a.q)) := by
  have CT := c_wText a.q.num a.hn
  have CD := c_Text a.q.den a.hd
  have CC := c_Compare a.q.den 1 a.hd one_lt_Big
  have h1 := decZ_len a.hn
  have h2 := decD_len a.hd
  have s1 : (bytes (decZ a.q.num)).size = (decZ a.q.num).length := bytes_size _
  have s2 : (bytes (decD a.q.den)).size = (decD a.q.den).length := bytes_size _
  have s3 : (bytes (decZ a.q.num ++ [47])).size = (decZ a.q.num).length + 1 := by rw [bytes_size]; simp
  unfold maxBits at h1 h2
  refine conN func97 rfl (by kernel_rfl) ?_
  conv => whnf
  refine ⟨by kernel_rfl, ?_⟩
  conv => whnf
  refine callD (c_Of 1 (by decide)) rfl rfl ?_
  conv => whnf
  by_cases h : a.q.den = 1
  · rw [show cmpN a.q.den 1 = 0 by rw [h]; rfl] at CC
    refine callD CC rfl rfl ?_
    conv => whnf
    refine callS CT rfl rfl ?_
    conv => whnf
    refine fin rfl ?_
    unfold decQ
    rw [if_pos h]
    rfl
  · obtain ⟨c, hc, hc0⟩ : ∃ c, cmpN a.q.den 1 = c ∧ (c == 0) = false := ⟨_, rfl, by
      unfold cmpN
      split
      · rfl
      · first
          | rfl
          | (rw [if_neg h]; rfl)⟩
    rw [hc] at CC
    refine callD CC rfl rfl ?_
    conv => whnf
    rw [hc0]
    conv => whnf
    refine ⟨by kernel_rfl, ?_⟩
    conv => whnf
    refine callD CT rfl rfl ?_
    conv => whnf
    refine ⟨by rw [s1]; show _ + 1 ≤ _; omega, ?_⟩
    conv => whnf
    refine callD CD rfl rfl ?_
    have ea : bytes (decZ a.q.num) ++ { data := #[47] } = bytes (decZ a.q.num ++ [47]) := bytes_append _ [47]
    rw [ea]
    conv => whnf
    refine ⟨by rw [s2, s3]; omega, ?_⟩
    conv => whnf
    refine fin rfl ?_
    show AV.lit (.string (bytes (decZ a.q.num ++ [47]) ++ bytes (decD a.q.den))) = _
    unfold decQ
    rw [bytes_append, if_neg h]
    rfl
def sText (s : FS) : List Nat := match dRatio s.lo, dRatio s.hi with
  | .ok l, .ok h => decQ l.q ++ [46, 46] ++ decQ h.q
  | _, _ => []
end
section
open Go Go.RowKit Go.Proofs.Tryz
theorem times_sq {n : Nat} {bits : Int} {a b m : List (List FS)} (ha : SqG n a) (hb : SqG n b) (h : mTimes bits a b = .ok m) : SqG n m := by
  obtain ⟨rp, cp⟩ := ha.rect
  obtain ⟨rq, cq⟩ := hb.rect
  unfold mTimes mMulG at h
  rw [if_pos rq, if_pos ⟨rp, cp.trans hb.1.symm⟩] at h
  refine ⟨by rw [runE_len h]; exact ha.1, fun r hr => ?_⟩
  obtain ⟨i, hi, rfl⟩ := mem_getD (d := []) hr
  have hi' : i < a.length := by rw [← runE_len h]; exact hi
  have h1 := runE_get [] h (get_ne (d := []) hi')
  unfold mRow at h1
  rw [runE_len h1]
  simp [turnV, cq]
theorem scaled_sq {n : Nat} {bits : Int} {a m : List (List FS)} {c : FS} (ha : SqG n a) (h : mScaled bits a c = .ok m) : SqG n m := by
  unfold mScaled at h
  refine ⟨by rw [runE_len h]; exact ha.1, fun r hr => ?_⟩
  obtain ⟨i, hi, rfl⟩ := mem_getD (d := []) hr
  have hi' : i < a.length := by rw [← runE_len h]; exact hi
  have h1 := runE_get [] h (get_ne (d := []) hi')
  unfold vTimes at h1
  rw [runE_len h1]
  exact ha.row (by rw [← ha.1]; exact hi')
theorem div_sq {n : Nat} {bits d : Int} {a m : List (List FS)} (ha : SqG n a) (h : mDiv bits a d = .ok m) : SqG n m := by
  unfold mDiv at h
  obtain ⟨s, h1, h2⟩ := bnd_inv h
  exact scaled_sq ha h2
theorem plus_sq {n : Nat} {bits : Int} {a b m : List (List FS)} (ha : SqG n a) (hb : SqG n b) (h : mPlus bits a b = .ok m) : SqG n m := by
  have e : (a.zip b).length = n := by rw [List.length_zip, ha.1, hb.1]; exact Nat.min_self n
  unfold mPlus at h
  rw [if_neg (by rw [ha.1, hb.1]; simp)] at h
  refine ⟨by rw [runE_len h]; exact e, fun r hr => ?_⟩
  obtain ⟨i, hi, rfl⟩ := mem_getD (d := []) hr
  have hi' : i < n := by rw [← e, ← runE_len h]; exact hi
  have hz : (a.zip b)[i]? = some (a.getD i [], b.getD i []) := by
    have h1 : i < a.length := by rw [ha.1]; exact hi'
    have h2 : i < b.length := by rw [hb.1]; exact hi'
    simp [List.getD, List.getElem?_zip_eq_some, h1, h2]
  have h1 := runE_get [] h hz
  dsimp only at h1
  unfold vPlus at h1
  rw [if_neg (by rw [ha.row hi', hb.row hi']; simp)] at h1
  rw [runE_len h1, List.length_zip, ha.row hi', hb.row hi']
  exact Nat.min_self n
theorem near_sq {n : Nat} {bits : Int} {a : List (List FQ)} {m : List (List FS)} (ha : Sqr n a) (h : mNear a bits = .ok m) : SqG n m := by
  unfold mNear at h
  refine ⟨by rw [runE_len h]; exact ha.1, fun r hr => ?_⟩
  obtain ⟨i, hi, rfl⟩ := mem_getD (d := []) hr
  have hi' : i < a.length := by rw [← runE_len h]; exact hi
  have h1 := runE_get [] h (get_ne (d := []) hi')
  unfold vNear at h1
  rw [runE_len h1]
  exact (ha.row (by rw [← ha.1]; exact hi')).2
theorem scale_sq {n : Nat} {a m : List (List FQ)} {c : FQ} (ha : Sqr n a) (h : mScale a c = .ok m) : Sqr n m := by
  unfold mScale at h
  refine ⟨by rw [runE_len h]; exact ha.1, fun r hr => ?_⟩
  obtain ⟨i, hi, rfl⟩ := mem_getD (d := []) hr
  have hi' : i < a.length := by rw [← runE_len h]; exact hi
  have h1 := runE_get [] h (get_ne (d := []) hi')
  unfold vScale vEach at h1
  rw [if_neg (by simp)] at h1
  rw [runE_len h1, List.length_zip, Nat.min_self]
  exact (ha.row (by rw [← ha.1]; exact hi')).2
theorem even_sq {n : Nat} (hn : n ≤ 16) (d : FD) : SqG n (mEven n d) := by
  have hcl : clampN (n : Int) = n := by
    have := clampN_in (n := (n : Int)) (by omega) (by omega)
    omega
  unfold mEven
  rw [hcl]
  exact ⟨by simp, fun r hr => by rw [(List.mem_replicate.1 hr).2]; simp⟩
theorem sumsGo_sq {m : Nat} {bits : Int} {x : List (List FS)} (hx : SqG m x) : ∀ (n j : Nat) {t E S : List (List FS)} {q : Gw}, SqG m t → SqG m E → SqG m S → sumsGo bits x n j t E S = .ok q → SqG m q.1 ∧ SqG m q.2
  | 0, j, t, E, S, q, ht, hE, hS, h => by
    cases h
    exact ⟨hE, hS⟩
  | n + 1, j, t, E, S, q, ht, hE, hS, h => by
    obtain ⟨t1, a1, h⟩ := bnd_inv h
    obtain ⟨t2, a2, h⟩ := bnd_inv h
    obtain ⟨E', a3, h⟩ := bnd_inv h
    obtain ⟨nx, a4, h⟩ := bnd_inv h
    obtain ⟨S', a5, h⟩ := bnd_inv h
    have s1 := times_sq ht hx a1
    have s2 := div_sq s1 a2
    exact sumsGo_sq hx n (j + 1) s2 (plus_sq hE s2 a3) (plus_sq hS (div_sq s2 a4) a5) h
theorem twice_sq {m : Nat} {bits : Int} {p q : Gw} (hp : SqG m p.1 ∧ SqG m p.2) (h : mTwice bits p = .ok q) : SqG m q.1 ∧ SqG m q.2 := by
  unfold mTwice at h
  obtain ⟨nx, h1, h⟩ := bnd_inv h
  obtain ⟨S, h2, h⟩ := bnd_inv h
  obtain ⟨E, h3, h⟩ := bnd_inv h
  cases h
  exact ⟨times_sq hp.1 hp.1 h3, plus_sq hp.2 (times_sq hp.1 hp.2 h1) h2⟩
theorem twiceGo_sq {m : Nat} {bits : Int} : ∀ (n : Nat) {p q : Gw}, SqG m p.1 ∧ SqG m p.2 → twiceGo bits n p = .ok q → SqG m q.1 ∧ SqG m q.2
  | 0, p, q, hp, h => by cases h; exact hp
  | n + 1, p, q, hp, h => by
    obtain ⟨r, h1, h2⟩ := bnd_inv h
    exact twiceGo_sq n (twice_sq hp h1) h2
theorem make_sq {n : Nat} {bits : Int} {a : List (List FQ)} {t : FQ} {p : Gw} (hn : n ≤ 16) (ha : Sqr n a) (h : mMake a t bits = .ok p) : SqG n p.1 ∧ SqG n p.2 := by
  unfold mMake at h
  split at h
  · cases h
  · split at h
    · cases h
    · obtain ⟨m, h1, h⟩ := bnd_inv h
      obtain ⟨norm, h2, h⟩ := bnd_inv h
      obtain ⟨nh, h3, h⟩ := bnd_inv h
      obtain ⟨q, h4, h⟩ := bnd_inv h
      refine twiceGo_sq _ ?_ h
      unfold mSmall at h4
      obtain ⟨part, g1, h4⟩ := bnd_inv h4
      obtain ⟨x, g2, h4⟩ := bnd_inv h4
      obtain ⟨tm, g3, h4⟩ := bnd_inv h4
      obtain ⟨s, g4, h4⟩ := bnd_inv h4
      have hs := near_sq (scale_sq (scale_sq ha h1) g2) g4
      unfold mSums2 mPre at h4
      obtain ⟨w, k1, h4⟩ := bnd_inv h4
      obtain ⟨one, b1, k1⟩ := bnd_inv k1
      obtain ⟨u, b2, k1⟩ := bnd_inv k1
      obtain ⟨E, b3, k1⟩ := bnd_inv k1
      obtain ⟨S, b4, k1⟩ := bnd_inv k1
      cases k1
      obtain ⟨tn, c1, h4⟩ := bnd_inv h4
      obtain ⟨S', c2, h4⟩ := bnd_inv h4
      cases h4
      rw [hs.1] at b1 b3 b4
      have ho := near_sq (one_ok hn).1 b1
      have hu := sumsGo_sq hs _ _ ho ho ho b2
      exact ⟨plus_sq hu.1 (even_sq hn _) b3, scaled_sq (plus_sq hu.2 (even_sq hn _) b4) c2⟩
def gChk (r : FQ) (bits : Int) : Nat := if bits < 8 ∨ bits > 512 ∨ qSgn r < 0 then 1 else match qCmp r (qOf 32 1) with
  | .error e => e + 1
  | .ok c => if c > 0 then 1 else 0
def gArg (r : FQ) (bits : Int) : Except Nat FQ := match gChk r bits with
  | 0 => .ok r
  | e + 1 => .error e
def q1 : FQ := qOf 1 1
def gPair (r : FQ) (bits : Int) : Except Nat Gw := bnd (gArg r bits) fun r => mMake [[r]] q1 bits
def twoT (r : FQ) : List (List FQ) := [[r, q1, q0], [q0, q0, q1], [q0, q0, q0]]
def gExp (r : FQ) (bits : Int) : Except Nat FS := bnd (gPair r bits) fun p => .ok (sp p.1 0 0)
def gOne (r : FQ) (bits : Int) : Except Nat FS := bnd (gPair r bits) fun p => .ok (sp p.2 0 0)
def gTwo (r : FQ) (bits : Int) : Except Nat FS := bnd (gArg r bits) fun r => bnd (mMake (twoT r) q1 bits) fun p => .ok (sp p.1 0 2)
def gCurve (r : FQ) (bits : Int) : Except Nat FD := bnd (gTwo r bits) fun t => bnd (sNear r bits) fun n => bnd (sMul t n bits) fun x => bnd (sMul x n bits) fun y => .ok (dMax y.hi d0)
def gRise (r : FQ) (bits : Int) : Except Nat FD := bnd (gTwo r bits) fun t => bnd (sNear r bits) fun n => bnd (sMul t n bits) fun x => .ok (dMax x.hi d0)
def gRate (a : List (List FQ)) (t : FQ) : Except Nat FQ := bnd (mNorm a) fun n => qMul n t
attribute [local irreducible] zMul zAdd zLeft zRight fitZ qMake zDiv dMake dLevel dRound dNear dAdd dMul dRatio dCmp dMin dMax dAbs dLess qCmp sOut qAdd qMul sAdd sMul sNear mMake mNorm qSgn
theorem c_gChk (r : FQ) (bits : Int) : ACalls prog 99 [rat r.q, i64 bits] (i64 (gChk r bits : Nat)) := by
  have CS := c_qSign r
  have C3 := c_qOf 32 1 (by decide) (by decide) (by decide) (by decide)
  have CC := c_qCompare r (qOf 32 1)
  unfold gChk
  obtain ⟨s, hs⟩ : ∃ s, qSgn r = s := ⟨_, rfl⟩
  rw [hs] at CS ⊢
  by_cases h1 : bits < 8
  · rw [if_pos (.inl h1)]
    refine conN func99 rfl (by kernel_rfl) ?_
    conv => whnf
    rw [decide_eq_true h1]
    conv => whnf
    exact fin rfl rfl
  by_cases h2 : bits > 512
  · rw [if_pos (.inr (.inl h2))]
    refine conN func99 rfl (by kernel_rfl) ?_
    conv => whnf
    rw [decide_eq_false h1]
    conv => whnf
    rw [decide_eq_true h2]
    conv => whnf
    exact fin rfl rfl
  by_cases h3 : s < 0
  · rw [if_pos (.inr (.inr h3))]
    refine conN func99 rfl (by kernel_rfl) ?_
    conv => whnf
    rw [decide_eq_false h1]
    conv => whnf
    rw [decide_eq_false h2]
    conv => whnf
    refine callS CS rfl rfl ?_
    conv => whnf
    rw [decide_eq_true h3]
    conv => whnf
    exact fin rfl rfl
  rw [if_neg (by rintro (h | h | h); exact h1 h; exact h2 h; exact h3 h)]
  obtain ⟨z, hz⟩ : ∃ z, qOf 32 1 = z := ⟨_, rfl⟩
  rw [hz] at C3 CC ⊢
  cases hc : qCmp r z with
  | error e =>
    rw [hc] at CC
    simp only
    refine conN func99 rfl (by kernel_rfl) ?_
    conv => whnf
    rw [decide_eq_false h1]
    conv => whnf
    rw [decide_eq_false h2]
    conv => whnf
    refine callS CS rfl rfl ?_
    conv => whnf
    rw [decide_eq_false h3]
    conv => whnf
    refine ⟨by kernel_rfl, ?_⟩
    conv => whnf
    refine callD C3 rfl rfl ?_
    conv => whnf
    refine callD CC rfl rfl ?_
    conv => whnf
    exact fin rfl rfl
  | ok c =>
    rw [hc] at CC
    change ACalls prog _ _ (.tup [i64 c, i64 ((0 : Nat) : Int)]) at CC
    simp only
    refine conN func99 rfl (by kernel_rfl) ?_
    conv => whnf
    rw [decide_eq_false h1]
    conv => whnf
    rw [decide_eq_false h2]
    conv => whnf
    refine callS CS rfl rfl ?_
    conv => whnf
    rw [decide_eq_false h3]
    conv => whnf
    refine ⟨by kernel_rfl, ?_⟩
    conv => whnf
    refine callD C3 rfl rfl ?_
    conv => whnf
    refine callD CC rfl rfl ?_
    conv => whnf
    by_cases h4 : c > 0
    · rw [decide_eq_true h4, if_pos h4]
      conv => whnf
      exact fin rfl rfl
    · rw [decide_eq_false h4, if_neg h4]
      conv => whnf
      exact fin rfl rfl
theorem c_gPair (r : FQ) (bits : Int) : ∃ j, ACalls prog 98 [rat r.q, i64 bits] (resG (gPair r bits) j) := by
  have CC := c_gChk r bits
  unfold gPair gArg
  cases he : gChk r bits with
  | succ e =>
    rw [he] at CC
    refine ⟨g0, ?_⟩
    show ACalls prog _ _ (.tup [gro g0, i64 ((e + 1 : Nat) : Int)])
    refine conN func98 rfl (by kernel_rfl) ?_
    conv => whnf
    refine callS CC rfl rfl ?_
    conv => whnf
    exact ⟨.sh _ _ rfl le_g0, fin rfl rfl, trivial⟩
  | zero =>
    rw [he] at CC
    obtain ⟨j, CM⟩ := c_mMake [[r]] q1 bits ⟨by show 1 < 1000000; decide, fun x hx => by
      rcases List.mem_cons.1 hx with rfl | hx
      · show 1 < 1000000
        decide
      · cases hx⟩
    have C1 : ACalls prog 21 [i64 1, i64 1] (rat q1.q) := c_qOf 1 1 (by decide) (by decide) (by decide) (by decide)
    refine ⟨j, ?_⟩
    show ACalls prog _ _ (resG (mMake [[r]] q1 bits) j)
    unfold resG at CM ⊢
    obtain ⟨y, hy⟩ : ∃ y, okOr j (mMake [[r]] q1 bits) = y := ⟨_, rfl⟩
    obtain ⟨e, he⟩ : ∃ e, errN (mMake [[r]] q1 bits) = e := ⟨_, rfl⟩
    rw [hy, he] at CM ⊢
    refine conN func98 rfl (by kernel_rfl) ?_
    conv => whnf
    refine callS CC rfl rfl ?_
    conv => whnf
    refine ⟨by kernel_rfl, ?_⟩
    conv => whnf
    refine callD C1 rfl rfl ?_
    conv => whnf
    refine callD CM rfl rfl ?_
    conv => whnf
    exact ⟨fin rfl rfl, fin rfl rfl, trivial⟩
theorem gPair_sq {r : FQ} {bits : Int} {p : Gw} (h : gPair r bits = .ok p) : SqG 1 p.1 ∧ SqG 1 p.2 := by
  unfold gPair at h
  obtain ⟨r', h1, h2⟩ := bnd_inv h
  exact make_sq (by omega) ⟨rfl, fun x hx => by
    rcases List.mem_cons.1 hx with rfl | hx
    · rfl
    · cases hx⟩ h2
theorem sq1 {m : List (List FS)} (h : SqG 1 m) : m = [[sp m 0 0]] := by
  obtain ⟨h1, h2⟩ := h
  cases m with
  | nil => cases h1
  | cons r l =>
    cases l with
    | cons _ _ => cases h1
    | nil =>
      have h3 := h2 r (by simp)
      cases r with
      | nil => cases h3
      | cons s l =>
        cases l with
        | cons _ _ => cases h3
        | nil => rfl
theorem c_gExp (r : FQ) (bits : Int) : ACalls prog 45 [rat r.q, i64 bits] (tS (gExp r bits)) := by
  obtain ⟨j, CP⟩ := c_gPair r bits
  unfold gExp
  cases hp : gPair r bits with
  | error e =>
    rw [hp] at CP
    show ACalls prog _ _ (.tup [spa s0, i64 ((e + 1 : Nat) : Int)])
    refine conN func45 rfl (by kernel_rfl) ?_
    conv => whnf
    refine callS CP rfl rfl ?_
    conv => whnf
    exact ⟨.sh _ _ rfl le_s0, fin rfl rfl, trivial⟩
  | ok p =>
    rw [hp] at CP
    have h1 := sq1 (gPair_sq hp).1
    have h2 := sq1 (gPair_sq hp).2
    obtain ⟨x, hx⟩ : ∃ x, sp p.1 0 0 = x := ⟨_, rfl⟩
    obtain ⟨y, hy⟩ : ∃ y, sp p.2 0 0 = y := ⟨_, rfl⟩
    rw [hx] at h1
    rw [hy] at h2
    have hpe : p = ([[x]], [[y]]) := by rw [← h1, ← h2]
    subst hpe
    change ACalls prog _ _ (.tup [gro ([[x]], [[y]]), i64 0]) at CP
    show ACalls prog _ _ (.tup [spa x, i64 0])
    refine conN func45 rfl (by kernel_rfl) ?_
    conv => whnf
    refine callS CP rfl rfl ?_
    conv => whnf
    refine ⟨lS [x], ⟨by decide, rfl, rfl, rfl⟩, ?_⟩
    conv => whnf
    refine ⟨spa x, ⟨by decide, rfl, rfl, rfl⟩, ?_⟩
    conv => whnf
    exact ⟨fin rfl rfl, fin rfl rfl, trivial⟩
theorem c_gOne (r : FQ) (bits : Int) : ACalls prog 46 [rat r.q, i64 bits] (tS (gOne r bits)) := by
  obtain ⟨j, CP⟩ := c_gPair r bits
  unfold gOne
  cases hp : gPair r bits with
  | error e =>
    rw [hp] at CP
    show ACalls prog _ _ (.tup [spa s0, i64 ((e + 1 : Nat) : Int)])
    refine conN func46 rfl (by kernel_rfl) ?_
    conv => whnf
    refine callS CP rfl rfl ?_
    conv => whnf
    exact ⟨.sh _ _ rfl le_s0, fin rfl rfl, trivial⟩
  | ok p =>
    rw [hp] at CP
    have h1 := sq1 (gPair_sq hp).1
    have h2 := sq1 (gPair_sq hp).2
    obtain ⟨x, hx⟩ : ∃ x, sp p.1 0 0 = x := ⟨_, rfl⟩
    obtain ⟨y, hy⟩ : ∃ y, sp p.2 0 0 = y := ⟨_, rfl⟩
    rw [hx] at h1
    rw [hy] at h2
    have hpe : p = ([[x]], [[y]]) := by rw [← h1, ← h2]
    subst hpe
    change ACalls prog _ _ (.tup [gro ([[x]], [[y]]), i64 0]) at CP
    show ACalls prog _ _ (.tup [spa y, i64 0])
    refine conN func46 rfl (by kernel_rfl) ?_
    conv => whnf
    refine callS CP rfl rfl ?_
    conv => whnf
    refine ⟨lS [y], ⟨by decide, rfl, rfl, rfl⟩, ?_⟩
    conv => whnf
    refine ⟨spa y, ⟨by decide, rfl, rfl, rfl⟩, ?_⟩
    conv => whnf
    exact ⟨fin rfl rfl, fin rfl rfl, trivial⟩
end
section
open Go Go.RowKit Go.Proofs.Tryz
theorem sp_02 {m : List (List FS)} (h : SqG 3 m) : ∃ a b c r2 r3, m = [[a, b, c], r2, r3] ∧ sp m 0 2 = c := by
  obtain ⟨h1, h2⟩ := h
  rcases m with _ | ⟨r1, _ | ⟨r2, _ | ⟨r3, _ | ⟨r4, l⟩⟩⟩⟩
  · cases h1
  · cases h1
  · cases h1
  · have h3 := h2 r1 (by simp)
    rcases r1 with _ | ⟨a, _ | ⟨b, _ | ⟨c, _ | ⟨d, l⟩⟩⟩⟩
    · cases h3
    · cases h3
    · cases h3
    · exact ⟨a, b, c, r2, r3, rfl, rfl⟩
    · simp at h3
  · simp at h1
theorem own_three {s : AS} {F : Rid → Prop} {i : Rid} {r : Row} {a b c x y z : AV} (hF : F i) (h : s.st i = some r) (he : r.els = [a, b, c]) (h0 : FrzV s F a x) (h1 : FrzV s F b y) (h2 : FrzV s F c z) : FrzV s F (.own i 3) (.sl [x, y, z]) :=
  .own i 3 r [x, y, z] hF h (by rw [he]; rfl) rfl fun j u v hu hv => by
    rw [he] at hu
    match j with
    | 0 => cases hu; cases hv; exact h0
    | 1 => cases hu; cases hv; exact h1
    | 2 => cases hu; cases hv; exact h2
    | j + 3 => cases hu
theorem twoT_sq (r : FQ) : Sqr 3 (twoT r) := ⟨rfl, fun x hx => by
  unfold twoT at hx
  simp only [List.mem_cons, List.not_mem_nil, or_false] at hx
  rcases hx with rfl | rfl | rfl <;> rfl⟩
theorem gChk_bok {r : FQ} {bits : Int} (h : gChk r bits = 0) : 8 ≤ bits ∧ bits ≤ 512 ∧ ¬ qSgn r < 0 := by
  unfold gChk at h
  by_cases q : bits < 8 ∨ bits > 512 ∨ qSgn r < 0
  · rw [if_pos q] at h
    cases h
  · exact ⟨by omega, by omega, fun k => q (.inr (.inr k))⟩
theorem gTwo_bok {r : FQ} {bits : Int} {t : FS} (h : gTwo r bits = .ok t) : BOk bits := by
  unfold gTwo gArg at h
  cases hc : gChk r bits with
  | succ e => rw [hc] at h; cases h
  | zero =>
    have := gChk_bok hc
    exact ⟨by omega, by omega⟩
theorem dMax_d00 : dMax d0 d0 = d0 := by kernel_rfl
attribute [local irreducible] zMul zAdd zLeft zRight fitZ qMake zDiv dMake dLevel dRound dNear dAdd dMul dRatio dCmp dMin dMax dAbs dLess qCmp sOut qAdd qMul sAdd sMul sNear mMake mNorm qSgn
theorem c_gTwo (r : FQ) (bits : Int) : ACalls prog 47 [rat r.q, i64 bits] (tS (gTwo r bits)) := by
  have CC := c_gChk r bits
  unfold gTwo gArg
  cases he : gChk r bits with
  | succ e =>
    rw [he] at CC
    show ACalls prog _ _ (.tup [spa s0, i64 ((e + 1 : Nat) : Int)])
    refine conN func47 rfl (by kernel_rfl) ?_
    conv => whnf
    refine callS CC rfl rfl ?_
    conv => whnf
    exact ⟨.sh _ _ rfl le_s0, fin rfl rfl, trivial⟩
  | zero =>
    rw [he] at CC
    obtain ⟨j, CM⟩ := c_mMake (twoT r) q1 bits ⟨by show 3 < 1000000; decide, (twoT_sq r).rows6 (by omega)⟩
    have C1 : ACalls prog 21 [i64 1, i64 1] (rat q1.q) := c_qOf 1 1 (by decide) (by decide) (by decide) (by decide)
    show ACalls prog _ _ (tS (bnd (mMake (twoT r) q1 bits) fun p => .ok (sp p.1 0 2)))
    have hsq := fun p => make_sq (n := 3) (bits := bits) (a := twoT r) (t := q1) (p := p) (by omega) (twoT_sq r)
    obtain ⟨R, hR⟩ : ∃ R, mMake (twoT r) q1 bits = R := ⟨_, rfl⟩
    rw [hR] at CM hsq ⊢
    clear hR
    cases R with
    | error e =>
      show ACalls prog _ _ (.tup [spa s0, i64 ((e + 1 : Nat) : Int)])
      refine conN func47 rfl (by kernel_rfl) ?_
      conv => whnf
      refine callS CC rfl rfl ?_
      conv => whnf
      refine callS c_qZero rfl rfl ?_
      conv => whnf
      refine callS C1 rfl rfl ?_
      conv => whnf
      refine callL [(5, 3), (5, 7), (5, 11), (5, 12)] [lT (twoT r), rat q1.q, i64 bits] ⟨⟨_, rfl⟩, ⟨_, rfl⟩, ⟨_, rfl⟩, ⟨_, rfl⟩, trivial⟩ ⟨own_three (.tail _ (.tail _ (.tail _ (.head _)))) rfl rfl (.own2 (.head _) rfl rfl rfl rfl) (.own2 (.tail _ (.head _)) rfl rfl rfl rfl) (.own2 (.tail _ (.tail _ (.head _))) rfl rfl rfl rfl), .sh _ _ rfl (.refl _), .sh _ _ rfl (.refl _), trivial⟩ CM rfl ?_
      conv => whnf
      exact ⟨.sh _ _ rfl le_s0, fin rfl rfl, trivial⟩
    | ok p =>
      obtain ⟨x, y, z, r2, r3, hp, hz⟩ := sp_02 (hsq p rfl).1
      obtain ⟨E, S⟩ := p
      have hp : E = [[x, y, z], r2, r3] := hp
      subst hp
      have hz : sp ([[x, y, z], r2, r3], S).1 0 2 = z := hz
      rw [bnd_okk, hz]
      change ACalls prog _ _ (.tup [gro ([[x, y, z], r2, r3], S), i64 0]) at CM
      show ACalls prog _ _ (.tup [spa z, i64 0])
      refine conN func47 rfl (by kernel_rfl) ?_
      conv => whnf
      refine callS CC rfl rfl ?_
      conv => whnf
      refine callS c_qZero rfl rfl ?_
      conv => whnf
      refine callS C1 rfl rfl ?_
      conv => whnf
      refine callL [(5, 3), (5, 7), (5, 11), (5, 12)] [lT (twoT r), rat q1.q, i64 bits] ⟨⟨_, rfl⟩, ⟨_, rfl⟩, ⟨_, rfl⟩, ⟨_, rfl⟩, trivial⟩ ⟨own_three (.tail _ (.tail _ (.tail _ (.head _)))) rfl rfl (.own2 (.head _) rfl rfl rfl rfl) (.own2 (.tail _ (.head _)) rfl rfl rfl rfl) (.own2 (.tail _ (.tail _ (.head _))) rfl rfl rfl rfl), .sh _ _ rfl (.refl _), .sh _ _ rfl (.refl _), trivial⟩ CM rfl ?_
      conv => whnf
      refine ⟨lS [x, y, z], ⟨by decide, rfl, rfl, rfl⟩, ?_⟩
      conv => whnf
      refine ⟨spa z, ⟨by decide, rfl, rfl, rfl⟩, ?_⟩
      conv => whnf
      exact ⟨fin rfl rfl, fin rfl rfl, trivial⟩
theorem c_gRate (a : List (List FQ)) (t : FQ) (ha : Six a) : ACalls prog 95 [lT a, rat t.q] (tQ (gRate a t)) := by
  have CN := c_mNorm a ha.1 ha.2
  unfold gRate
  cases hn : mNorm a with
  | error e =>
    rw [hn] at CN
    show ACalls prog _ _ (.tup [rat q0.q, i64 ((e + 1 : Nat) : Int)])
    refine conN func95 rfl (by kernel_rfl) ?_
    conv => whnf
    refine callS CN rfl rfl ?_
    conv => whnf
    refine callS c_qZero rfl rfl ?_
    conv => whnf
    exact ⟨fin rfl rfl, fin rfl rfl, trivial⟩
  | ok n =>
    rw [hn] at CN
    rw [bnd_okk]
    obtain ⟨x1, e1, C1, hx1, he1⟩ := varT (c_qMul n t)
    show ACalls prog _ _ (.tup [rat (okOr q0 (qMul n t)).q, i64 (errN (qMul n t))])
    rw [hx1, he1]
    refine conN func95 rfl (by kernel_rfl) ?_
    conv => whnf
    refine callS CN rfl rfl ?_
    conv => whnf
    refine callS C1 rfl rfl ?_
    conv => whnf
    exact ⟨fin rfl rfl, fin rfl rfl, trivial⟩
theorem c_gRise (r : FQ) (bits : Int) : ACalls prog 51 [rat r.q, i64 bits] (tD (gRise r bits)) := by
  have CT := c_gTwo r bits
  unfold gRise
  cases hT : gTwo r bits with
  | error e =>
    rw [hT] at CT
    show ACalls prog _ _ (.tup [dyad d0, i64 ((e + 1 : Nat) : Int)])
    refine conN func51 rfl (by kernel_rfl) ?_
    conv => whnf
    refine callS CT rfl rfl ?_
    conv => whnf
    exact ⟨.sh _ _ rfl le_dy0, fin rfl rfl, trivial⟩
  | ok t =>
    have hb := gTwo_bok hT
    have CN := c_sNear r bits hb
    rw [hT] at CT
    rw [bnd_okk]
    cases hN : sNear r bits with
    | error e =>
      rw [hN] at CN
      show ACalls prog _ _ (.tup [dyad d0, i64 ((e + 1 : Nat) : Int)])
      refine conN func51 rfl (by kernel_rfl) ?_
      conv => whnf
      refine callS CT rfl rfl ?_
      conv => whnf
      refine callS CN rfl rfl ?_
      conv => whnf
      exact ⟨.sh _ _ rfl le_dy0, fin rfl rfl, trivial⟩
    | ok n =>
      rw [hN] at CN
      rw [bnd_okk]
      obtain ⟨x1, e1, C1, hx1, he1⟩ := varT (c_sMul t n bits hb)
      have CX := c_dMax x1.hi d0
      obtain ⟨m, hm⟩ : ∃ m, dMax x1.hi d0 = m := ⟨_, rfl⟩
      have e2 : tD (bnd (sMul t n bits) fun x => .ok (dMax x.hi d0)) = .tup [dyad m, i64 (e1 : Nat)] := by
        rw [← hm, ← hx1, ← he1]
        cases sMul t n bits with
        | error e =>
          show (.tup [dyad d0, i64 ((e + 1 : Nat) : Int)] : AV) = .tup [dyad (dMax d0 d0), i64 ((e + 1 : Nat) : Int)]
          rw [dMax_d00]
        | ok x => rfl
      rw [e2]
      rw [hm] at CX
      refine conN func51 rfl (by kernel_rfl) ?_
      conv => whnf
      refine callS CT rfl rfl ?_
      conv => whnf
      refine callS CN rfl rfl ?_
      conv => whnf
      refine callS C1 rfl rfl ?_
      conv => whnf
      refine callL [] [dyad x1.hi, dyad d0] trivial ⟨.sh _ _ rfl (.refl _), .sh _ _ rfl le_dy0, trivial⟩ CX rfl ?_
      conv => whnf
      exact ⟨fin rfl rfl, fin rfl rfl, trivial⟩
theorem c_gCurve (r : FQ) (bits : Int) : ACalls prog 50 [rat r.q, i64 bits] (tD (gCurve r bits)) := by
  have CT := c_gTwo r bits
  unfold gCurve
  cases hT : gTwo r bits with
  | error e =>
    rw [hT] at CT
    show ACalls prog _ _ (.tup [dyad d0, i64 ((e + 1 : Nat) : Int)])
    refine conN func50 rfl (by kernel_rfl) ?_
    conv => whnf
    refine callS CT rfl rfl ?_
    conv => whnf
    exact ⟨.sh _ _ rfl le_dy0, fin rfl rfl, trivial⟩
  | ok t =>
    have hb := gTwo_bok hT
    have CN := c_sNear r bits hb
    rw [hT] at CT
    rw [bnd_okk]
    cases hN : sNear r bits with
    | error e =>
      rw [hN] at CN
      show ACalls prog _ _ (.tup [dyad d0, i64 ((e + 1 : Nat) : Int)])
      refine conN func50 rfl (by kernel_rfl) ?_
      conv => whnf
      refine callS CT rfl rfl ?_
      conv => whnf
      refine callS CN rfl rfl ?_
      conv => whnf
      exact ⟨.sh _ _ rfl le_dy0, fin rfl rfl, trivial⟩
    | ok n =>
      rw [hN] at CN
      rw [bnd_okk]
      have CA := c_sMul t n bits hb
      cases hA : sMul t n bits with
      | error e =>
        rw [hA] at CA
        show ACalls prog _ _ (.tup [dyad d0, i64 ((e + 1 : Nat) : Int)])
        refine conN func50 rfl (by kernel_rfl) ?_
        conv => whnf
        refine callS CT rfl rfl ?_
        conv => whnf
        refine callS CN rfl rfl ?_
        conv => whnf
        refine callS CA rfl rfl ?_
        conv => whnf
        exact ⟨.sh _ _ rfl le_dy0, fin rfl rfl, trivial⟩
      | ok u =>
        rw [hA] at CA
        rw [bnd_okk]
        obtain ⟨x1, e1, C1, hx1, he1⟩ := varT (c_sMul u n bits hb)
        have CX := c_dMax x1.hi d0
        obtain ⟨m, hm⟩ : ∃ m, dMax x1.hi d0 = m := ⟨_, rfl⟩
        have e2 : tD (bnd (sMul u n bits) fun x => .ok (dMax x.hi d0)) = .tup [dyad m, i64 (e1 : Nat)] := by
          rw [← hm, ← hx1, ← he1]
          cases sMul u n bits with
          | error e =>
            show (.tup [dyad d0, i64 ((e + 1 : Nat) : Int)] : AV) = .tup [dyad (dMax d0 d0), i64 ((e + 1 : Nat) : Int)]
            rw [dMax_d00]
          | ok x => rfl
        rw [e2]
        rw [hm] at CX
        refine conN func50 rfl (by kernel_rfl) ?_
        conv => whnf
        refine callS CT rfl rfl ?_
        conv => whnf
        refine callS CN rfl rfl ?_
        conv => whnf
        refine callS CA rfl rfl ?_
        conv => whnf
        refine callS C1 rfl rfl ?_
        conv => whnf
        refine callL [] [dyad x1.hi, dyad d0] trivial ⟨.sh _ _ rfl (.refl _), .sh _ _ rfl le_dy0, trivial⟩ CX rfl ?_
        conv => whnf
        exact ⟨fin rfl rfl, fin rfl rfl, trivial⟩
end
section
open Go Go.RowKit Go.Proofs.Tryz
def WA : FS := okOr s0 (gExp q0 40)
def WB : FS := okOr s0 (gOne q0 40)
def WC : FS := okOr s0 (gTwo q0 40)
def WD : FD := okOr d0 (gCurve q1 40)
def WR : FD := okOr d0 (gRise q1 40)
def WN : FQ := okOr q0 (gRate (mOne 2) (qOf 3 1))
theorem w_1 : gExp q0 40 = .ok WA := by kernel_rfl
theorem w_2 : gOne q0 40 = .ok WB := by kernel_rfl
theorem w_3 : gTwo q0 40 = .ok WC := by kernel_rfl
theorem w_4 : gCurve q1 40 = .ok WD := by kernel_rfl
theorem w_5 : gRise q1 40 = .ok WR := by kernel_rfl
theorem w_6 : gRate (mOne 2) (qOf 3 1) = .ok WN := by kernel_rfl
theorem w_7 : gExp (qOf (-1) 1) 40 = .error 0 := by kernel_rfl
theorem w_8 : sHasQ WA q1 = .ok true := by kernel_rfl
theorem w_9 : sHasQ WB q1 = .ok true := by kernel_rfl
theorem w_10 : sHasQ WC (qOf 1 2) = .ok true := by kernel_rfl
theorem w_11 : dCmpQ WD (qOf 718281828 1000000000) = .ok 1 := by kernel_rfl
theorem w_12 : dCmpQ WD (qOf 718281900 1000000000) = .ok (-1) := by kernel_rfl
theorem w_13 : dLess WR (dOf 1 (-1)) = false := by kernel_rfl
theorem w_14 : decQ WN.q = [51] := by kernel_rfl
end
section
open Go Go.RowKit Go.Proofs.Tryz
theorem str_eq' {a : List Nat} {b : ByteArray} (h : bytes a = b) : ((bytes a).toList == b.toList) = true := by rw [h]; simp
theorem c_rises : ACalls prog 43 [] (boo true) := by
  have B40 : BOk 40 := ⟨by decide, by decide⟩
  have C1 := c_gExp q0 40
  have C2 := c_gOne q0 40
  have C3 := c_gTwo q0 40
  have C4 := c_gCurve q1 40
  have C5 := c_gRise q1 40
  have C6 := c_gRate (mOne 2) (qOf 3 1) (one_six _)
  have C7 := c_gExp (qOf (-1) 1) 40
  have C8 := c_sHasQ WA q1
  have C9 := c_sHasQ WB q1
  have C10 := c_sHasQ WC (qOf 1 2)
  have C11 := c_dCmpQ WD (qOf 718281828 1000000000)
  have C12 := c_dCmpQ WD (qOf 718281900 1000000000)
  have C13 := c_dLess WR (dOf 1 (-1))
  have C14 := c_qText WN
  have O2 := c_mOne 2
  have Z : ACalls prog 63 [] (rat q0.q) := c_qZero
  have Q1 : ACalls prog 21 [i64 1, i64 1] (rat q1.q) := c_qOf 1 1 (by decide) (by decide) (by decide) (by decide)
  rw [w_1] at C1
  rw [w_2] at C2
  rw [w_3] at C3
  rw [w_4] at C4
  rw [w_5] at C5
  rw [w_6] at C6
  rw [w_7] at C7
  rw [w_8] at C8
  rw [w_9] at C9
  rw [w_10] at C10
  rw [w_11] at C11
  rw [w_12] at C12
  rw [w_13] at C13
  rw [w_14] at C14
  obtain ⟨x0, h0⟩ : ∃ z, q0 = z := ⟨_, rfl⟩
  obtain ⟨x1, h1⟩ : ∃ z, q1 = z := ⟨_, rfl⟩
  obtain ⟨a, ha⟩ : ∃ z, WA = z := ⟨_, rfl⟩
  obtain ⟨b, hb⟩ : ∃ z, WB = z := ⟨_, rfl⟩
  obtain ⟨c, hc⟩ : ∃ z, WC = z := ⟨_, rfl⟩
  obtain ⟨d, hd⟩ : ∃ z, WD = z := ⟨_, rfl⟩
  obtain ⟨r, hr⟩ : ∃ z, WR = z := ⟨_, rfl⟩
  obtain ⟨n, hn⟩ : ∃ z, WN = z := ⟨_, rfl⟩
  obtain ⟨o, ho⟩ : ∃ z, mOne 2 = z := ⟨_, rfl⟩
  rw [h0] at C1 C2 C3 Z
  rw [h1] at C4 C5 C8 C9 Q1
  rw [ha] at C1 C8
  rw [hb] at C2 C9
  rw [hc] at C3 C10
  rw [hd] at C4 C11 C12
  rw [hr] at C5 C13
  rw [hn] at C6 C14
  rw [ho] at C6 O2
  refine conP func43 rfl (by kernel_rfl) ?_
  refine .go (by kernel_rfl) ?_
  conv => whnf
  refine .go (by kernel_rfl) ?_
  conv => whnf
  refine callS Z rfl rfl ?_
  conv => whnf
  refine callS C1 rfl rfl ?_
  conv => whnf
  refine .go (by kernel_rfl) ?_
  conv => whnf
  refine callS Z rfl rfl ?_
  conv => whnf
  refine callS C2 rfl rfl ?_
  conv => whnf
  refine .go (by kernel_rfl) ?_
  conv => whnf
  refine callS Z rfl rfl ?_
  conv => whnf
  refine callS C3 rfl rfl ?_
  conv => whnf
  refine .go (by kernel_rfl) ?_
  conv => whnf
  refine callS Q1 rfl rfl ?_
  conv => whnf
  refine callS C4 rfl rfl ?_
  conv => whnf
  refine .go (by kernel_rfl) ?_
  conv => whnf
  refine callS Q1 rfl rfl ?_
  conv => whnf
  refine callS C5 rfl rfl ?_
  conv => whnf
  refine .go (by kernel_rfl) ?_
  conv => whnf
  refine callS O2 rfl rfl ?_
  conv => whnf
  refine callS (c_qOf (3) 1 (by decide) (by decide) (by decide) (by decide)) rfl rfl ?_
  conv => whnf
  refine callS C6 rfl rfl ?_
  conv => whnf
  refine .go (by kernel_rfl) ?_
  conv => whnf
  refine callS (c_qOf (-1) 1 (by decide) (by decide) (by decide) (by decide)) rfl rfl ?_
  conv => whnf
  refine callS C7 rfl rfl ?_
  conv => whnf
  refine .go (by kernel_rfl) ?_
  conv => whnf
  refine ⟨by kernel_rfl, ?_⟩
  conv => whnf
  refine callD Q1 rfl rfl ?_
  conv => whnf
  refine callD C8 rfl rfl ?_
  conv => whnf
  refine .go (by kernel_rfl) ?_
  conv => whnf
  refine ⟨by kernel_rfl, ?_⟩
  conv => whnf
  refine callD Q1 rfl rfl ?_
  conv => whnf
  refine callD C9 rfl rfl ?_
  conv => whnf
  refine .go (by kernel_rfl) ?_
  conv => whnf
  refine ⟨by kernel_rfl, ?_⟩
  conv => whnf
  refine callD (c_qOf (1) 2 (by decide) (by decide) (by decide) (by decide)) rfl rfl ?_
  conv => whnf
  refine callD C10 rfl rfl ?_
  conv => whnf
  refine .go (by kernel_rfl) ?_
  conv => whnf
  refine ⟨by kernel_rfl, ?_⟩
  conv => whnf
  refine callD (c_qOf (718281828) 1000000000 (by decide) (by decide) (by decide) (by decide)) rfl rfl ?_
  conv => whnf
  refine callD C11 rfl rfl ?_
  conv => whnf
  refine .go (by kernel_rfl) ?_
  conv => whnf
  refine ⟨by kernel_rfl, ?_⟩
  conv => whnf
  refine callD (c_qOf (718281900) 1000000000 (by decide) (by decide) (by decide) (by decide)) rfl rfl ?_
  conv => whnf
  refine callD C12 rfl rfl ?_
  conv => whnf
  refine pcN (by kernel_rfl) ?_
  conv => whnf
  refine ⟨by kernel_rfl, ?_⟩
  conv => whnf
  refine callD (c_dOf 1 (-1) (by decide) (by decide)) rfl rfl ?_
  conv => whnf
  refine callD C13 rfl rfl ?_
  conv => whnf
  refine callD C14 rfl rfl ?_
  conv => whnf
  rw [show ((bytes [51]).toList == ({ data := #[51] } : ByteArray).toList) = true from str_eq' rfl]
  conv => whnf
  exact fin rfl rfl
end
end Go.Proofs.YtoofmffmgdkinaaGreatDoor.Abs
