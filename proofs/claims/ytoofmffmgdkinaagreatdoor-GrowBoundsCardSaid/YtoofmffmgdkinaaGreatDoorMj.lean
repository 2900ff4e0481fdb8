/- Bytes as lists; what is trimmed on the left; a row of bytes turned round. -/
import Derived.Test.YtoofmffmgdkinaaGreatDoorMh
import Derived.Test.YtoofmffmgdkinaaGreatDoorMi
set_option linter.unusedVariables false
set_option linter.unusedSectionVars false
set_option linter.unusedSimpArgs false
set_option maxHeartbeats 4000000
namespace Go.Proofs.YtoofmffmgdkinaaGreatDoor.Abs
section
open Go Go.RowKit Go.Proofs.Tryz
theorem toList_loop (bs : ByteArray) : ∀ (k i : Nat) (r : List UInt8), bs.size - i = k → ByteArray.toList.loop bs i r = r.reverse ++ bs.data.toList.drop i
  | 0, i, r, h => by
    rw [ByteArray.toList.loop, if_neg (by omega), List.drop_eq_nil_of_le (by simpa using (by omega : bs.size ≤ i)), List.append_nil]
  | k + 1, i, r, h => by
    have hi : i < bs.size := by omega
    rw [ByteArray.toList.loop, if_pos hi, toList_loop bs k (i + 1) _ (by omega)]
    have hi' : i < bs.data.toList.length := by simpa using hi
    have hi2 : i < bs.data.size := by simpa using hi
    rw [List.drop_eq_getElem_cons hi', List.reverse_cons, List.append_assoc]
    congr 1
    have : bs.get! i = bs.data.toList[i] := by
      show bs.data[i]! = _
      rw [getElem!_pos bs.data i hi2, Array.getElem_toList]
    rw [this]
    rfl
theorem toList_data (bs : ByteArray) : bs.toList = bs.data.toList := by
  unfold ByteArray.toList
  rw [toList_loop bs _ 0 [] rfl]
  rfl
def bytes (l : List Nat) : ByteArray := ⟨(l.map UInt8.ofNat).toArray⟩
def str (l : List Nat) : AV := .lit (.string (bytes l))
theorem bytes_size (l : List Nat) : (bytes l).size = l.length := by simp [bytes, ByteArray.size]
theorem bytes_get {l : List Nat} {i : Nat} (h : i < l.length) : (bytes l)[i]? = some (UInt8.ofNat l[i]) := by
  have h' : i < (bytes l).size := by rw [bytes_size]; exact h
  rw [getElem?_pos (bytes l) i h']
  show some ((bytes l).data[i]) = _
  simp [bytes]
theorem bytes_extract (l : List Nat) (i : Nat) : (bytes l).extract i (bytes l).size = bytes (l.drop i) := by
  apply ByteArray.ext
  rw [ByteArray.data_extract, bytes_size]
  apply Array.ext'
  simp [bytes, List.map_drop]
  exact List.take_of_length_le (by simp)
theorem bytes_toList (l : List Nat) : (bytes l).toList = l.map UInt8.ofNat := by
  rw [toList_data]
  simp [bytes]
theorem bytes_nil : bytes [] = { data := #[] } := rfl
def trimL (c : Nat) (l : List Nat) : List Nat := l.dropWhile (fun x => x == c)
theorem trimL_drop {c : Nat} {l : List Nat} : ∀ {i : Nat}, (∀ x ∈ l.take i, x = c) → trimL c (l.drop i) = trimL c l := by
  induction l with
  | nil => intro i _; simp
  | cons y l ih =>
    intro i h
    cases i with
    | zero => rfl
    | succ i =>
      have hy : y = c := h y (by simp)
      rw [List.drop_succ_cons, ih fun x hx => h x (by simp [hx])]
      unfold trimL
      rw [List.dropWhile_cons, if_pos (by simp [hy])]
theorem c_trimLeftByte (l : List Nat) (c : Nat) (hl : ∀ x ∈ l, x < 256) (hc : c < 256) (hn : l.length < 1000000) : ACalls prog 161 [str l, .lit (.int .u8 (c : Int))] (str (trimL c l)) := by
  refine conN func161 rfl (by kernel_rfl) ?_
  conv => whnf
  refine ⟨Nat, fun i => i ≤ l.length ∧ ∀ x ∈ l.take i, x = c, fun i => { fr := [(0, str (l.drop i)), (1, .lit (.int .u8 (c : Int)))], g := 9 }, fun i => l.length - i, 0, ⟨Nat.zero_le _, by simp⟩,
    ⟨trivial, ⟨.inl ⟨.refl _, rfl⟩, .inl ⟨.refl _, rfl⟩, trivial⟩, trivial⟩, ?_⟩
  rintro i ⟨h1, h2⟩
  dsimp only at h1 h2 ⊢
  have hsz : (((bytes (l.drop i)).size : Nat) : Int) = ((l.length - i : Nat) : Int) := by rw [bytes_size, List.length_drop]
  conv => whnf
  by_cases hi : i < l.length
  · have hb1 : decide ((((bytes (l.drop i)).size : Nat) : Int) > 0) = true := by
      rw [hsz]
      exact decide_eq_true (by omega)
    rw [hb1]
    conv => whnf
    have hd : (l.drop i)[0]? = some l[i] := by simp [hi]
    have hd0 : 0 < (l.drop i).length := by simp; omega
    have hg : (bytes (l.drop i))[0]? = some (UInt8.ofNat l[i]) := by
      rw [bytes_get hd0]
      simp
    have hlt : l[i] < 256 := hl _ (List.getElem_mem _)
    have hn' : ((UInt8.ofNat l[i]).toNat : Int) = (l[i] : Int) := by
      rw [UInt8.toNat_ofNat']
      congr 1
      exact Nat.mod_eq_of_lt hlt
    obtain ⟨v, hv⟩ : ∃ v : UInt8, UInt8.ofNat l[i] = v := ⟨_, rfl⟩
    rw [hv] at hg hn'
    refine ⟨v, ⟨by omega, hg⟩, ?_⟩
    conv => whnf
    by_cases hx : l[i] = c
    · have hb2 : ((v.toNat : Int) == (c : Int)) = true := by rw [hn', hx]; simp
      rw [hb2]
      conv => whnf
      refine ⟨⟨by omega, by rw [hsz]; omega, Int.le_refl _⟩, ?_⟩
      conv => whnf
      refine ⟨i + 1, ⟨hi, fun x hx' => ?_⟩, ⟨trivial, ⟨.inl ⟨.of_eq ?_, rfl⟩, .inl ⟨.refl _, rfl⟩, trivial⟩, trivial⟩, by show l.length - (i + 1) < l.length - i; omega⟩
      · rw [List.take_succ_eq_append_getElem hi, List.mem_append] at hx'
        rcases hx' with hx' | hx'
        · exact h2 x hx'
        · simp at hx'
          rw [hx', hx]
      · show AV.lit (.string ((bytes (l.drop i)).extract 1 (bytes (l.drop i)).size)) = str (l.drop (i + 1))
        rw [bytes_extract, List.drop_drop]
        rfl
    · have hb2 : ((v.toNat : Int) == (c : Int)) = false := by rw [hn']; simp; omega
      rw [hb2]
      conv => whnf
      have : trimL c l = l.drop i := by
        rw [← trimL_drop h2, List.drop_eq_getElem_cons hi]
        unfold trimL
        rw [List.dropWhile_cons, if_neg (by simpa using hx)]
      rw [this]
      exact fin rfl rfl
  · have hb1 : decide ((((bytes (l.drop i)).size : Nat) : Int) > 0) = false := by
      rw [hsz]
      exact decide_eq_false (by omega)
    rw [hb1]
    conv => whnf
    have : trimL c l = l.drop i := by
      rw [← trimL_drop h2, List.drop_eq_nil_of_le (by omega)]
      rfl
    rw [this]
    exact fin rfl rfl
theorem c_TrimLeft0 (l : List Nat) (hl : ∀ x ∈ l, x < 256) (hn : l.length < 1000000) : ACalls prog 155 [str l, .lit (.string { data := #[48] })] (str (trimL 48 l)) := by
  have C := c_trimLeftByte l 48 hl (by decide) hn
  refine conN func155 rfl (by kernel_rfl) ?_
  conv => whnf
  by_cases h0 : l = []
  · subst h0
    have hb : ((bytes []).toList == ({ data := #[] } : ByteArray).toList) = true := by rw [bytes_nil]; simp
    rw [hb]
    conv => whnf
    exact fin rfl rfl
  · have hb : ((bytes l).toList == ({ data := #[] } : ByteArray).toList) = false := by
      rw [← bytes_nil, bytes_toList, bytes_toList]
      cases l with
      | nil => exact absurd rfl h0
      | cons x l => rfl
    rw [hb]
    have hb2 : (({ data := #[48] } : ByteArray).toList == ({ data := #[] } : ByteArray).toList) = false := by
      rw [toList_data, toList_data]
      rfl
    conv => whnf
    rw [hb2]
    conv => whnf
    refine ⟨48, ⟨by omega, rfl⟩, ?_⟩
    conv => whnf
    refine ⟨48, ⟨by omega, rfl⟩, ?_⟩
    conv => whnf
    refine callS C rfl rfl ?_
    conv => whnf
    exact fin rfl rfl
end
section
open Go Go.RowKit Go.Proofs.Tryz
def by8 (x : Nat) : AV := .lit (.int .u8 (x : Int))
def revI (n i : Nat) (g : Nat → AV) : List AV := (List.range n).map fun k => if k < i ∨ n ≤ k + i then g (n - 1 - k) else g k
theorem revI_get {n i k : Nat} {g : Nat → AV} (h : k < n) : (revI n i g)[k]? = some (if k < i ∨ n ≤ k + i then g (n - 1 - k) else g k) := by simp [revI, h]
theorem revI_step {n i : Nat} {g : Nat → AV} (h : i < n - 1 - i) : ((revI n i g).set i (g (n - 1 - i))).set (n - 1 - i) (g i) = revI n (i + 1) g := by
  apply List.ext_getElem?
  intro k
  by_cases hk : k < n
  · rw [revI_get hk, List.getElem?_set, List.getElem?_set]
    simp only [List.length_set, revI, List.length_map, List.length_range]
    by_cases h1 : n - 1 - i = k
    · rw [if_pos h1, if_pos (by omega), if_pos (by omega)]
      congr 2
      omega
    · rw [if_neg h1]
      by_cases h2 : i = k
      · rw [if_pos h2, if_pos (by omega), if_pos (by omega), h2]
      · rw [if_neg h2]
        have := revI_get (i := i) (g := g) hk
        unfold revI at this
        rw [this]
        congr 1
        by_cases h3 : k < i ∨ n ≤ k + i
        · rw [if_pos h3, if_pos (by omega)]
        · rw [if_neg h3, if_neg (by omega)]
  · rw [List.getElem?_eq_none (by simp [revI]; omega), List.getElem?_eq_none (by simp [revI]; omega)]
theorem ltL_rev {n i b : Nat} {g : Nat → AV} (h : ∀ k, (g k).lt b = true) : AV.ltL b (revI n i g) = true := by
  unfold revI
  generalize List.range n = l
  induction l with
  | nil => rfl
  | cons a l ih =>
    show ((if a < i ∨ n ≤ a + i then g (n - 1 - a) else g a).lt b && _) = true
    rw [ih, Bool.and_true]
    split <;> exact h _
theorem c_Reverse1 (n : Nat) (f : Nat → Nat) (hn : n < 1000000) : ACallsM prog 154 [.own (0, 0) n] [⟨5, 1, revI n 0 fun k => by8 (f k)⟩] (.tup []) [⟨5, 1, (List.range n).map fun k => by8 (f (n - 1 - k))⟩] := by
  refine conM func154 rfl (by kernel_rfl) ?_
  have w0 : IntKind.wrap .i64 ((n : Int) - 1) = (n : Int) - 1 := wI (by omega) (by omega)
  conv => whnf
  refine ⟨Nat, fun i => 2 * i ≤ n, fun i => { fr := [(0, .own (0, 0) n), (2, i64 (i : Int)), (3, i64 ((n : Int) - 1 - (i : Int)))], st := [((0, 0), ⟨5, 1, revI n i fun k => by8 (f k)⟩)], g := 9 }, fun i => n - i, 0, Nat.zero_le _,
    ⟨trivial, ⟨.inl ⟨.refl _, rfl⟩, .inl ⟨.refl _, rfl⟩, .inl ⟨.of_eq (congrArg i64 (w0.trans (by simp))), rfl⟩, trivial⟩, ⟨.same rfl (ltL_rev fun _ => rfl), List.not_mem_nil, Nat.le_of_ble_eq_true rfl⟩, trivial⟩, ?_⟩
  rintro i hi
  dsimp only at hi ⊢
  conv => whnf
  refine Br.mk (fun h => ?_) (fun h => ?_)
  · have hlt : i < n - 1 - i := by
      have := of_decide_eq_true h
      omega
    have hj : ((n : Int) - 1 - (i : Int)) = ((n - 1 - i : Nat) : Int) := by omega
    rw [hj]
    clear h
    have e1 := revI_get (i := i) (g := fun k => by8 (f k)) (show n - 1 - i < n by omega)
    rw [if_neg (by omega)] at e1
    have e2 := revI_get (i := i) (g := fun k => by8 (f k)) (show i < n by omega)
    rw [if_neg (by omega)] at e2
    conv => whnf
    refine ⟨by kernel_rfl, ?_⟩
    conv => whnf
    refine ⟨⟨rfl, rfl⟩, ⟨by omega, by omega⟩, ?_⟩
    conv => whnf
    refine elA_mk (by8 (f (n - 1 - i))) e1 ?_
    conv => whnf
    refine ⟨⟨rfl, rfl⟩, ⟨by omega, by omega⟩, ?_⟩
    conv => whnf
    refine elA_mk (by8 (f i)) e2 ?_
    conv => whnf
    refine ⟨⟨rfl, rfl⟩, ⟨by omega, by omega⟩, ?_⟩
    conv => whnf
    refine elA_mk (by8 (f i)) e2 ?_
    conv => whnf
    refine ⟨⟨rfl, rfl⟩, ⟨by omega, by omega⟩, ?_⟩
    conv => whnf
    have e3 : ((revI n i fun k => by8 (f k)).set i (by8 (f (n - 1 - i))))[n - 1 - i]? = some (by8 (f (n - 1 - i))) := by
      rw [List.getElem?_set_ne (by omega)]
      exact e1
    refine elA_mk (by8 (f (n - 1 - i))) e3 ?_
    conv => whnf
    refine ⟨i + 1, by show 2 * (i + 1) ≤ n; omega, ⟨trivial, ⟨.inl ⟨.refl _, rfl⟩, .inl ⟨.of_eq (congrArg i64 ?_), rfl⟩, .inl ⟨.of_eq (congrArg i64 ?_), rfl⟩, trivial⟩, ⟨.same ?_ (ltL_rev fun _ => rfl), List.not_mem_nil, Nat.le_of_ble_eq_true rfl⟩, trivial⟩, by show n - (i + 1) < n - i; omega⟩
    · exact (wI (n := (i : Int) + 1) (by omega) (by omega)).trans (by simp)
    · rw [wI (by omega) (by omega)]
      omega
    · refine congrArg (fun z => some (Row.mk 5 1 z)) ?_
      exact revI_step (g := fun k => by8 (f k)) hlt
  · have hlt : ¬ i < n - 1 - i := by
      have := of_decide_eq_false h
      omega
    conv => whnf
    refine ⟨trivial, ⟨congrArg (fun z => some (Row.mk 5 1 z)) ?_, ?_⟩, trivial⟩
    · apply List.ext_getElem?
      intro k
      by_cases hk : k < n
      · rw [revI_get hk]
        simp only [List.getElem?_map, List.getElem?_range hk, Option.map_some]
        congr 1
        split
        · rfl
        · have : k = n - 1 - k := by omega
          rw [← this]
      · rw [List.getElem?_eq_none (by simp [revI]; omega), List.getElem?_eq_none (by simp; omega)]
    · generalize List.range n = l
      induction l with
      | nil => rfl
      | cons a l ih => show (true && _) = true; rw [ih]; rfl
end
section
open Go Go.RowKit Go.Proofs.Tryz
def dgt (n k : Nat) : Nat := 48 + n / 10 ^ k % 10
theorem dgt_lt (n k : Nat) : dgt n k < 256 := by unfold dgt; omega
def decL (n m : Nat) : List Nat := (List.range m).map fun k => dgt n (m - 1 - k)
theorem decL_succ (n m : Nat) : decL n (m + 1) = dgt n m :: decL n m := by
  unfold decL
  rw [List.range_succ_eq_map, List.map_cons, List.map_map]
  congr 1
  apply List.map_congr_left
  intro k hk
  show dgt n (m + 1 - 1 - (k + 1)) = _
  congr 1
  omega
theorem decL_len (n m : Nat) : (decL n m).length = m := by simp [decL]
def decD (n : Nat) : List Nat := if n = 0 then [48] else trimL 48 (decL n n)
theorem trim_dec {n m : Nat} (h : n < 10 ^ m) : ∀ k, trimL 48 (decL n (m + k)) = trimL 48 (decL n m)
  | 0 => rfl
  | k + 1 => by
    have h1 : n < 10 ^ (m + k) := Nat.lt_of_lt_of_le h (Nat.pow_le_pow_right (by decide) (by omega))
    rw [show m + (k + 1) = m + k + 1 by omega, decL_succ]
    have : dgt n (m + k) = 48 := by unfold dgt; rw [Nat.div_eq_of_lt h1]
    unfold trimL
    rw [List.dropWhile_cons, this, if_pos (by rfl)]
    exact trim_dec h k
theorem decD_eq {n m : Nat} (h0 : n ≠ 0) (h : n < 10 ^ m) : trimL 48 (decL n m) = decD n := by
  unfold decD
  rw [if_neg h0]
  have hn : n < 10 ^ n := Nat.lt_pow_self (by decide)
  rcases Nat.le_total m n with hm | hm
  · obtain ⟨k, rfl⟩ : ∃ k, n = m + k := ⟨n - m, by omega⟩
    exact (trim_dec h k).symm
  · obtain ⟨k, rfl⟩ : ∃ k, m = n + k := ⟨m - n, by omega⟩
    exact trim_dec hn k
theorem dgt_block {n o i : Nat} (hi : i < 9) : 48 + (n / 10 ^ (9 * o) % 1000000000) / 10 ^ i % 10 = dgt n (9 * o + i) := by
  unfold dgt
  congr 1
  have e : 1000000000 = 10 ^ i * 10 ^ (9 - i) := by
    rw [← Nat.pow_add, show i + (9 - i) = 9 by omega]
  rw [e, Nat.mod_mul_right_div_self, Nat.mod_mod_of_dvd _ ⟨10 ^ (8 - i), by rw [show 9 - i = (8 - i) + 1 by omega, Nat.pow_succ, Nat.mul_comm]⟩, Nat.div_div_eq_div_mul, ← Nat.pow_add]
noncomputable def tCode (l : List Bool) : Code := Code.at' (bodyOf f135) l
def outR (n m : Nat) : List AV := (List.range m).map fun k => by8 (dgt n k)
theorem outR_succ (n m : Nat) : outR n m ++ [by8 (dgt n m)] = outR n (m + 1) := by
  unfold outR
  rw [List.range_succ, List.map_append]
  rfl
theorem outR_len (n m : Nat) : (outR n m).length = m := by simp [outR]
theorem by8_map_lt {b : Nat} {g : Nat → Nat} : ∀ l : List Nat, AV.ltL b (l.map fun k => by8 (g k)) = true
  | [] => rfl
  | a :: l => by show (true && _) = true; rw [by8_map_lt l]; rfl
theorem by8_map_off {ρ : Ren} {g : Nat → Nat} : ∀ l : List Nat, AV.offL ρ (l.map fun k => by8 (g k)) = true
  | [] => rfl
  | a :: l => by show (true && _) = true; rw [by8_map_off l]; rfl
theorem by8_map_closed {g : Nat → Nat} : ∀ l : List Nat, AV.closedL (l.map fun k => by8 (g k)) = true
  | [] => rfl
  | a :: l => by show (true && _) = true; rw [by8_map_closed l]; rfl
def innI (n q r o : Nat) (i : Nat) : Inv := match 9 * o + i with
  | 0 => { fr := [(3, nilA), (4, nat q), (7, u64 (r / 10 ^ i : Nat)), (27, i64 (i : Int))], st := [], g := 9 }
  | m + 1 => { ren := [((10, 6), (3, 0))], fr := [(3, .own (3, 0) (m + 1)), (4, nat q), (7, u64 (r / 10 ^ i : Nat)), (27, i64 (i : Int))], st := [((3, 0), ⟨5, 1, outR n (m + 1)⟩)], g := 9 }
def innE (n q m : Nat) : Inv := { fr := [(3, .own (3, 0) m), (4, nat q)], st := [((3, 0), ⟨5, 1, outR n m⟩)], g := 30 }
theorem dig_round {n a q r o i : Nat} (ha : n / 10 ^ (9 * o) = a) (hr : a % 1000000000 = r) (hi : i ≤ 9) (ho : 9 * o < 100000) (K : NPost) :
    Pc prog f135.ntmps (tCode [true, true, true, false, false, false, true, false, true, true, false, true, false, false]) (innI n q r o i).fr (innI n q r o i).st (innI n q r o i).g
      (loopP (fun i => i ≤ 9) (innI n q r o) (fun i => 9 - i) i (blockP 2 (thenP (wkP (fun _ : Unit => True) (fun _ => innE n q (9 * o + 9))) K))) := by
  have hrl : r < 1000000000 := by rw [← hr]; exact Nat.mod_lt _ (by decide)
  have hd : i < 9 → 48 + r / 10 ^ i % 10 = dgt n (9 * o + i) := fun h => by rw [← hr, ← ha]; exact dgt_block h
  have hri : r / 10 ^ i ≤ r := Nat.div_le_self _ _
  have e2 : i < 9 → innI n q r o (i + 1) = { ren := [((10, 6), (3, 0))], fr := [(3, .own (3, 0) (9 * o + i + 1)), (4, nat q), (7, u64 (r / 10 ^ (i + 1) : Nat)), (27, i64 ((i + 1 : Nat) : Int))], st := [((3, 0), ⟨5, 1, outR n (9 * o + i + 1)⟩)], g := 9 } := fun _ => rfl
  have hq10 : r / 10 ^ (i + 1) = r / 10 ^ i / 10 := by rw [Nat.pow_succ, Nat.div_div_eq_div_mul]
  obtain ⟨t, ht⟩ : ∃ t, r / 10 ^ i = t := ⟨_, rfl⟩
  have k1 : IntKind.wrap .u64 ((t : Int).tdiv 10) = ((t / 10 : Nat) : Int) := by
    have hl : t / 10 < 18446744073709551616 := by omega
    rw [show (t : Int).tdiv 10 = ((t / 10 : Nat) : Int) from rfl, wU, Nat.mod_eq_of_lt hl]
  have k2 : IntKind.wrap .u8 (IntKind.wrap .u64 (48 + (t : Int).tmod 10)) = ((48 + t % 10 : Nat) : Int) := by
    have hl : 48 + t % 10 < 256 := by omega
    rw [show 48 + (t : Int).tmod 10 = ((48 + t % 10 : Nat) : Int) from rfl, wU, Nat.mod_eq_of_lt (by omega)]
    show (((48 + t % 10 : Nat) : Int)) % 256 = _
    omega
  have k3 : IntKind.wrap .i64 ((i : Int) + 1) = ((i + 1 : Nat) : Int) := (wI (by omega) (by omega)).trans (by simp)
  by_cases h9 : i < 9
  · have hd := hd h9
    have e2 := e2 h9
    rw [ht] at hd hq10
    cases hm : 9 * o + i with
    | zero =>
      have e1 : innI n q r o i = { fr := [(3, nilA), (4, nat q), (7, u64 (r / 10 ^ i : Nat)), (27, i64 (i : Int))], st := [], g := 9 } := by unfold innI; rw [hm]
      rw [e1, ht]
      rw [hm] at hd
      rw [hm, Nat.zero_add] at e2
      refine pcN (by kernel_rfl) ?_
      conv => whnf
      refine Br.mk (fun h => ?_) (fun h => ?_)
      · clear h
        conv => whnf
        refine ⟨⟨by show 0 < 1; decide, by show 1 ≤ 1099511627776; decide, trivial⟩, ?_⟩
        conv => whnf
        refine ⟨i + 1, by show i + 1 ≤ 9; omega, ?_, by show 9 - (i + 1) < 9 - i; omega⟩
        rw [e2]
        refine ⟨⟨trivial, rfl⟩, ⟨.inr (.inr (.own (3, 0) 1 rfl)), .inl ⟨.refl _, rfl⟩, .inl ⟨.of_eq (congrArg (fun z => AV.lit (.int .u64 z)) ?_), rfl⟩, .inl ⟨.of_eq (congrArg i64 k3), rfl⟩, trivial⟩, ⟨.same ?_ rfl, List.not_mem_nil, Nat.le_of_ble_eq_true rfl⟩, trivial⟩
        · rw [k1, hq10]
        · refine congrArg (fun z => some (Row.mk 5 1 z)) ?_
          rw [k2, hd]
          rfl
      · exact absurd h (by simp; omega)
    | succ m =>
      have e1 : innI n q r o i = { ren := [((10, 6), (3, 0))], fr := [(3, .own (3, 0) (m + 1)), (4, nat q), (7, u64 (r / 10 ^ i : Nat)), (27, i64 (i : Int))], st := [((3, 0), ⟨5, 1, outR n (m + 1)⟩)], g := 9 } := by unfold innI; rw [hm]
      rw [e1, ht]
      rw [hm] at hd e2
      refine pcN (by kernel_rfl) ?_
      conv => whnf
      refine Br.mk (fun h => ?_) (fun h => ?_)
      · clear h
        conv => whnf
        refine ⟨⟨outR_len n (m + 1), rfl, rfl, by show m + 1 + 1 ≤ 1099511627776; omega, trivial⟩, ?_⟩
        conv => whnf
        refine ⟨i + 1, by show i + 1 ≤ 9; omega, ?_, by show 9 - (i + 1) < 9 - i; omega⟩
        rw [e2]
        refine ⟨⟨trivial, rfl⟩, ⟨.inr (.inr (.own (3, 0) (m + 1 + 1) rfl)), .inl ⟨.refl _, rfl⟩, .inl ⟨.of_eq (congrArg (fun z => AV.lit (.int .u64 z)) ?_), rfl⟩, .inl ⟨.of_eq (congrArg i64 k3), rfl⟩, trivial⟩, ⟨.same ?_ ?_, List.not_mem_nil, Nat.le_of_ble_eq_true rfl⟩, trivial⟩
        · rw [k1, hq10]
        · refine congrArg (fun z => some (Row.mk 5 1 z)) ?_
          rw [k2, hd]
          exact outR_succ n (m + 1)
        · show (AV.ltL _ (outR n (m + 1 + 1)) && AV.offL _ (outR n (m + 1 + 1))) = true
          unfold outR
          rw [by8_map_lt, by8_map_off]
          rfl
      · exact absurd h (by simp; omega)
  · obtain rfl : i = 9 := by omega
    have e1 : innI n q r o 9 = { ren := [((10, 6), (3, 0))], fr := [(3, .own (3, 0) (9 * o + 9)), (4, nat q), (7, u64 (r / 10 ^ 9 : Nat)), (27, i64 ((9 : Nat) : Int))], st := [((3, 0), ⟨5, 1, outR n (9 * o + 9)⟩)], g := 9 } := rfl
    rw [e1]
    refine pcN (by kernel_rfl) ?_
    conv => whnf
    exact ⟨(), trivial, trivial, ⟨.inl ⟨.refl _, rfl⟩, .inl ⟨.refl _, rfl⟩, trivial⟩, ⟨.same rfl (by unfold outR; exact by8_map_lt _), List.not_mem_nil, Nat.le_of_ble_eq_true rfl⟩, trivial⟩
end
section
open Go Go.RowKit Go.Proofs.Tryz
def outI (n o : Nat) : Inv := match 9 * o with
  | 0 => { fr := [(0, nat (n / 10 ^ (9 * o))), (3, nilA)], st := [], g := 9 }
  | m + 1 => { fr := [(0, nat (n / 10 ^ (9 * o))), (3, .own (3, 0) (m + 1))], st := [((3, 0), ⟨5, 1, outR n (m + 1)⟩)], g := 9 }
def endI (n o : Nat) : Inv := { fr := [(3, .own (3, 0) (9 * o))], st := [((3, 0), ⟨5, 1, outR n (9 * o)⟩)], g := 40 }
def endP (n o : Nat) : Prop := n < 10 ^ (9 * o) ∧ 9 * o < 100000
theorem ten_lim {n k : Nat} (hn : n < Big) (h : n / 10 ^ k ≠ 0) : k < maxBits := by
  have h1 : 10 ^ k ≤ n := by
    apply Nat.le_of_not_lt
    intro g
    exact h (Nat.div_eq_of_lt g)
  have h2 : 2 ^ k ≤ 10 ^ k := Nat.pow_le_pow_left (by decide) k
  have h3 : 2 ^ k < 2 ^ maxBits := by rw [← Big_eq]; omega
  exact (Nat.pow_lt_pow_iff_right (by decide)).1 h3
theorem text_round {n o : Nat} (hn : n < Big) (h0 : n ≠ 0) (ho : 9 * o < 100000) (K : NPost) :
    Pc prog f135.ntmps (tCode [true, true, true, false, false, false]) (outI n o).fr (outI n o).st (outI n o).g
      (loopP (fun o => 9 * o < 100000) (outI n) (fun o => n / 10 ^ (9 * o)) o (blockP 0 (thenP (wkP (endP n) (endI n)) K))) := by
  obtain ⟨a, ha⟩ : ∃ a, n / 10 ^ (9 * o) = a := ⟨_, rfl⟩
  obtain ⟨q, hq⟩ : ∃ q, a / 1000000000 = q := ⟨_, rfl⟩
  obtain ⟨r, hr⟩ : ∃ r, a % 1000000000 = r := ⟨_, rfl⟩
  have haB : a < Big := Nat.lt_of_le_of_lt (by rw [← ha]; exact Nat.div_le_self _ _) hn
  have hrl : r < 1000000000 := by rw [← hr]; exact Nat.mod_lt _ (by decide)
  have CD := c_Div a 1000000000 haB (Nat.lt_of_le_of_lt (by decide : 1000000000 ≤ B) (by rw [Big_eq]; exact (Nat.pow_lt_pow_iff_right (by decide) : 2 ^ 32 < 2 ^ maxBits ↔ 32 < maxBits).2 (by decide))) (by decide)
  have CS := c_Small r (Nat.lt_of_le_of_lt (by rw [← hr]; exact Nat.mod_le _ _) haB)
  have es : smallN r = .ok r := by unfold smallN; rw [if_pos (by omega)]
  rw [es] at CS
  rw [hq, hr] at CD
  have hq2 : n / 10 ^ (9 * (o + 1)) = q := by
    rw [show 9 * (o + 1) = 9 * o + 9 by omega, Nat.pow_add, ← Nat.div_div_eq_div_mul, ha, ← hq]
  have hlen : (((digs a).map dg).length : Int) = ((digs a).length : Int) := by simp
  have hnext : a ≠ 0 → 9 * (o + 1) < 100000 := fun h => by
    have := ten_lim hn (k := 9 * o) (by rw [ha]; exact h)
    unfold maxBits at this
    omega
  have hlt : a ≠ 0 → n / 10 ^ (9 * (o + 1)) < n / 10 ^ (9 * o) := fun h => by
    rw [hq2, ha, ← hq]
    exact Nat.div_lt_self (Nat.pos_of_ne_zero h) (by decide)
  have hend : a = 0 → endP n o := fun h => ⟨by
    apply Nat.lt_of_not_le
    intro g
    have := Nat.div_pos g (Nat.pow_pos (n := 9 * o) (by decide : 0 < 10))
    omega, ho⟩
  have hb : a ≠ 0 → decide ((((digs a).map dg).length : Int) > 0) = true := fun h => by
    have : (digs a).length ≠ 0 := fun e => h (digs_eq_nil.1 (List.length_eq_zero_iff.1 e))
    rw [hlen]
    exact decide_eq_true (by omega)
  have hb0 : a = 0 → decide ((((digs a).map dg).length : Int) > 0) = false := fun h => by
    rw [h, digs_zero]
    rfl
  cases hm : 9 * o with
  | zero =>
    have e1 : outI n o = { fr := [(0, nat a), (3, nilA)], st := [], g := 9 } := by unfold outI; rw [hm, ← ha, hm]
    have e3 : innI n q r o 0 = { fr := [(3, nilA), (4, nat q), (7, u64 (r / 10 ^ 0 : Nat)), (27, i64 ((0 : Nat) : Int))], st := [], g := 9 } := by unfold innI; rw [hm]
    have ha0 : a ≠ 0 := by rw [← ha, hm]; simpa using h0
    have hb := hb ha0
    have hnext := hnext ha0
    have hlt := hlt ha0
    rw [e1]
    refine .go (by kernel_rfl) ?_
    conv => whnf
    refine Br.mk (fun h => ?_) (fun h => ?_)
    · clear h
      conv => whnf
      refine .block ?_
      refine .go (by kernel_rfl) ?_
      conv => whnf
      refine callS (c_Of 1000000000 (by decide)) rfl rfl ?_
      conv => whnf
      refine callS CD rfl rfl ?_
      conv => whnf
      refine .go (by kernel_rfl) ?_
      conv => whnf
      refine callS CS rfl rfl ?_
      conv => whnf
      refine .cut (fun _ : Unit => True) (fun _ => innE n q (9 * o + 9)) ?_ ?_
      · refine .go (by kernel_rfl) ?_
        conv => whnf
        refine .block (.loop (fun i => i ≤ 9) (innI n q r o) (fun i => 9 - i) 0 (Nat.zero_le _) ?_ fun i hi => dig_round ha hr hi ho _)
        exact (congrArg (fun I : Inv => Wk (mkS _ _ _) I.F I.ren I.fr I.st I.g) e3).mpr ⟨trivial, ⟨.inl ⟨.refl _, rfl⟩, .inl ⟨.refl _, rfl⟩, .inl ⟨.of_eq (congrArg (fun z : Nat => u64 z) (by simp)), rfl⟩, .inl ⟨.refl _, rfl⟩, trivial⟩, trivial⟩
      · rintro ⟨⟩ _
        refine pcN (by kernel_rfl) ?_
        conv => whnf
        exact ⟨o + 1, hnext, ⟨trivial, ⟨.inl ⟨.of_eq (congrArg nat hq2.symm), rfl⟩, .inl ⟨.refl _, rfl⟩, trivial⟩, ⟨.same rfl (by unfold outR; exact by8_map_lt _), List.not_mem_nil, Nat.le_of_ble_eq_true rfl⟩, trivial⟩, hlt⟩
    · rw [hb] at h
      cases h
  | succ m =>
    have e1 : outI n o = { fr := [(0, nat a), (3, .own (3, 0) (m + 1))], st := [((3, 0), ⟨5, 1, outR n (m + 1)⟩)], g := 9 } := by unfold outI; rw [hm, ← ha, hm]
    have e3 : innI n q r o 0 = { ren := [((10, 6), (3, 0))], fr := [(3, .own (3, 0) (m + 1)), (4, nat q), (7, u64 (r / 10 ^ 0 : Nat)), (27, i64 ((0 : Nat) : Int))], st := [((3, 0), ⟨5, 1, outR n (m + 1)⟩)], g := 9 } := by unfold innI; rw [Nat.add_zero, hm]
    rw [e1]
    refine .go (by kernel_rfl) ?_
    conv => whnf
    refine Br.mk (fun h => ?_) (fun h => ?_)
    · have ha0 : a ≠ 0 := fun e => by rw [hb0 e] at h; cases h
      have hnext := hnext ha0
      have hlt := hlt ha0
      clear h
      conv => whnf
      refine .block ?_
      refine .go (by kernel_rfl) ?_
      conv => whnf
      refine callS (c_Of 1000000000 (by decide)) rfl rfl ?_
      conv => whnf
      refine callS CD rfl rfl ?_
      conv => whnf
      refine .go (by kernel_rfl) ?_
      conv => whnf
      refine callS CS rfl rfl ?_
      conv => whnf
      refine .cut (fun _ : Unit => True) (fun _ => innE n q (9 * o + 9)) ?_ ?_
      · refine .go (by kernel_rfl) ?_
        conv => whnf
        refine .block (.loop (fun i => i ≤ 9) (innI n q r o) (fun i => 9 - i) 0 (Nat.zero_le _) ?_ fun i hi => dig_round ha hr hi ho _)
        exact (congrArg (fun I : Inv => Wk (mkS _ _ _) I.F I.ren I.fr I.st I.g) e3).mpr ⟨⟨trivial, rfl⟩, ⟨.inr (.inr (.own (3, 0) (m + 1) rfl)), .inl ⟨.refl _, rfl⟩, .inl ⟨.of_eq (congrArg (fun z : Nat => u64 z) (by simp)), rfl⟩, .inl ⟨.refl _, rfl⟩, trivial⟩, ⟨.same rfl (by show (AV.ltL _ (outR n (m + 1)) && AV.offL _ (outR n (m + 1))) = true; unfold outR; rw [by8_map_lt, by8_map_off]; rfl), List.not_mem_nil, Nat.le_of_ble_eq_true rfl⟩, trivial⟩
      · rintro ⟨⟩ _
        refine pcN (by kernel_rfl) ?_
        conv => whnf
        exact ⟨o + 1, hnext, ⟨trivial, ⟨.inl ⟨.of_eq (congrArg nat hq2.symm), rfl⟩, .inl ⟨.refl _, rfl⟩, trivial⟩, ⟨.same rfl (by unfold outR; exact by8_map_lt _), List.not_mem_nil, Nat.le_of_ble_eq_true rfl⟩, trivial⟩, hlt⟩
    · have ha0 : a = 0 := by
        apply Classical.byContradiction
        intro e
        rw [hb e] at h
        cases h
      have hE := hend ha0
      clear h
      conv => whnf
      refine ⟨o, hE, ?_⟩
      unfold endI
      rw [hm]
      exact ⟨trivial, ⟨.inl ⟨.refl _, rfl⟩, trivial⟩, ⟨.same rfl (by unfold outR; exact by8_map_lt _), List.not_mem_nil, Nat.le_of_ble_eq_true rfl⟩, trivial⟩
theorem revI0 (n : Nat) (g : Nat → AV) : revI n 0 g = (List.range n).map g := by
  unfold revI
  apply List.map_congr_left
  intro k hk
  rw [if_neg (by have := List.mem_range.1 hk; omega)]
theorem fold_bytes : ∀ (l : List Nat) (b : ByteArray), ((l.map fun x : Nat => (x : Int)).foldl (fun r n => r.push (UInt8.ofNat n.toNat)) b) = b ++ bytes l
  | [], b => by
    apply ByteArray.ext
    simp [bytes, ByteArray.data_append]
  | x :: l, b => by
    rw [List.map_cons, List.foldl_cons, fold_bytes l]
    apply ByteArray.ext
    simp [bytes, ByteArray.data_append, ByteArray.data_push]
theorem c_Text (n : Nat) (hn : n < Big) : ACalls prog 135 [nat n] (str (decD n)) := by
  have hlen : (((digs n).map dg).length : Int) = ((digs n).length : Int) := by simp
  refine conP func135 rfl (by kernel_rfl) ?_
  refine .go (by kernel_rfl) ?_
  conv => whnf
  refine .go (by kernel_rfl) ?_
  conv => whnf
  by_cases h0 : n = 0
  · subst h0
    refine Br.mk (fun h => ?_) (fun h => ?_)
    · conv => whnf
      exact fin rfl rfl
    · rw [hlen, digs_zero] at h
      exact absurd h (by decide)
  refine Br.mk (fun h => ?_) (fun h => ?_)
  · have : (digs n).length ≠ 0 := fun e => h0 (digs_eq_nil.1 (List.length_eq_zero_iff.1 e))
    rw [hlen] at h
    simp at h
    exact absurd (by rw [h]; rfl) this
  clear h
  conv => whnf
  refine .go (by kernel_rfl) ?_
  conv => whnf
  refine .cut (endP n) (endI n) ?_ ?_
  · refine .block (.loop (fun o => 9 * o < 100000) (outI n) (fun o => n / 10 ^ (9 * o)) 0 (by decide) ?_ fun o ho => text_round hn h0 ho _)
    exact ⟨trivial, ⟨.inl ⟨.of_eq (congrArg nat (by simp)), rfl⟩, .inl ⟨.refl _, rfl⟩, trivial⟩, trivial⟩
  rintro o ⟨h1, h2⟩
  obtain ⟨m, hm⟩ : ∃ m, 9 * o = m := ⟨_, rfl⟩
  unfold endI
  rw [hm] at h1 h2 ⊢
  have CR := c_Reverse1 m (dgt n) (by omega)
  rw [revI0] at CR
  have CT := c_TrimLeft0 (decL n m) (fun x hx => by obtain ⟨k, _, rfl⟩ := List.mem_map.1 hx; exact dgt_lt _ _) (by rw [decL_len]; omega)
  rw [decD_eq h0 h1] at CT
  have hfold : ((((decL n m).map fun x : Nat => (x : Int)).foldl (fun r n => r.push (UInt8.ofNat n.toNat)) ByteArray.empty)) = bytes (decL n m) := by
    rw [fold_bytes]
    apply ByteArray.ext
    simp [ByteArray.data_append]
  refine .go (by kernel_rfl) ?_
  conv => whnf
  refine callM [(3, 0)] [.own (0, 0) m] [⟨5, 1, outR n m⟩] _ ⟨.own 0 (3, 0) _ rfl, trivial⟩ ⟨⟨rfl, by unfold outR; exact by8_map_closed _⟩, trivial⟩ (by simp) CR rfl ?_
  conv => whnf
  refine pcN (by kernel_rfl) ?_
  conv => whnf
  refine ⟨(decL n m).map fun x : Nat => (x : Int), ⟨rfl, ?_, by simp⟩, ?_⟩
  · show (List.range m).map (fun k => by8 (dgt n (m - 1 - k))) = _
    unfold decL
    rw [List.map_map, List.map_map]
    rfl
  rw [hfold]
  conv => whnf
  refine callS CT rfl rfl ?_
  conv => whnf
  exact fin rfl rfl
end
end Go.Proofs.YtoofmffmgdkinaaGreatDoor.Abs
