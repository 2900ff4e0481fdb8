/- VecHolds: for every input the law returns true, and each argument reads afterwards as it read before. Conditions: the listed variables of the library hold what their text lays (tied by the card). -/
import Derived.Test.YtojfepabmbnmnaaGreatDoorMo
import Derived.Test.YtojfepabmbnmnaaGreatDoorMn
/- VecReckons: the walk. -/
set_option linter.unusedVariables false
set_option linter.unusedSectionVars false
set_option linter.unusedSimpArgs false
set_option maxHeartbeats 4000000
set_option maxRecDepth 20000
namespace Go.Proofs.YtojfepabmbnmnaaGreatDoor.Abs
open Go Go.RowKit Go.Proofs.Tryz
attribute [local irreducible] zMul zAdd zLeft zRight fitZ qMake zDiv dMake dLevel dRound dNear dAdd dMul dRatio dCmp dMin dMax dAbs dLess qCmp sOut qAdd qMul sAdd sMul sNear qSum sHasQ sSize vUnit vEach vDot vNear vHolds vSame qSgn

theorem okL1_q {k : Nat} {a : List RawQ} (hb : ∀ x ∈ a, RawB x) (h : okL1 k a = true) : ∃ a' : List FQ, slv a = lQ a' ∧ a'.length = k ∧ k ≤ 16 ∧ ∀ x ∈ a', sm 5 x := by
  unfold okL1 at h
  simp only [Bool.and_eq_true, decide_eq_true_eq] at h
  obtain ⟨a', h1, h2, h3⟩ := fitX_all hb h.2.2
  exact ⟨a', congrArg AV.sl h1, by omega, by omega, h3⟩
abbrev RawL (a : List RawQ) : Prop := a.length ≤ 9223372036854775807 ∧ ∀ x ∈ a, RawB x
theorem qs_get {l : List FQ} {i : Nat} (h : i < l.length) : (qs l)[i]'(by rw [qs_len]; exact h) = l[i].q := by simp [qs]
theorem zipQ {f : Rat → Rat → Rat} {r a b : List FQ} (h : qs r = List.zipWith f (qs a) (qs b)) {i : Nat} (hr : i < r.length) (ha : i < a.length) (hb : i < b.length) : r[i].q = f a[i].q b[i].q := by
  have h1 := congrArg (fun l : List Rat => l[i]?) h
  simp only [List.getElem?_zipWith] at h1
  rw [List.getElem?_eq_getElem (by rw [qs_len]; exact hr), List.getElem?_eq_getElem (by rw [qs_len]; exact ha), List.getElem?_eq_getElem (by rw [qs_len]; exact hb), qs_get hr, qs_get ha, qs_get hb] at h1
  exact Option.some.inj h1
theorem add_sub_list : ∀ {x y : List Rat}, x.length = y.length → List.zipWith (· - ·) (List.zipWith (· + ·) x y) y = x
  | [], [], _ => rfl
  | a :: x, b :: y, h => by
    have ih := add_sub_list (x := x) (y := y) (by simpa using h)
    simp only [List.zipWith_cons_cons, ih]
    congr 1
    grind
theorem cmpQ_self (x : Rat) : cmpQ x x = 0 := cmpQ_zero.2 rfl

theorem reckons_bad (a b c : List RawQ) (ha : RawL a) (hb : RawL b) (hc : RawL c) (h : fitL [a, b, c] = false ∨ 6 < a.length) : ACalls prog 3 [slv a, slv b, slv c] (boo true) := by
  have CF := c_fit a [b, c] (fun x hx => by
    simp at hx
    rcases hx with rfl | rfl | rfl
    · exact ha
    · exact hb
    · exact hc) (by simp)
  obtain ⟨f, hf⟩ : ∃ f, fitL [a, b, c] = f := ⟨_, rfl⟩
  rw [hf] at CF h
  have lenA : (((a.map rawv).length : Nat) : Int) = (a.length : Int) := by simp
  refine conN func3 rfl (by kernel_rfl) ?_
  conv => whnf
  refine callS c_points rfl rfl ?_
  conv => whnf
  refine callL [(2, 3)] [.sl [slv a, slv b, slv c]] ⟨⟨_, rfl⟩, trivial⟩ ⟨.own2 (.head _) rfl rfl rfl rfl, trivial⟩ CF rfl ?_
  conv => whnf
  cases f with
  | false =>
    conv => whnf
    exact fin rfl rfl
  | true =>
    conv => whnf
    have h2 : 6 < a.length := h.resolve_left (by simp)
    rw [lenA, decide_eq_true (by omega : (a.length : Int) > 6)]
    conv => whnf
    exact fin rfl rfl

theorem reckons_good (a b c : List FQ) (hab : a.length = b.length) (hac : a.length = c.length) (h6 : a.length ≤ 6) (sa : SzL a 160 160) (sb : SzL b 160 160) (sc : SzL c 160 160)
    (CF : ACalls prog 14 [.sl [lQ a, lQ b, lQ c]] (boo true)) : ACalls prog 3 [lQ a, lQ b, lQ c] (boo true) := by
  obtain ⟨S, s1, s2, s3, s4⟩ := vAdd_ok (t := 320) hab sa sb (by decide) (by decide) (by decide) (by decide)
  obtain ⟨D, d1, d2, d3, d4⟩ := vSub_ok (t := 481) (s2.trans hab) s4 sb (by decide) (by decide) (by decide) (by decide)
  have hD : vSame D a = true := by
    unfold vSame
    refine decide_eq_true ?_
    show qs D = qs a
    rw [d3, s3, add_sub_list (by simp [qs_len, hab])]
  obtain ⟨X, x1, x2, x3⟩ := vDot_ok (m := 481) (s2.trans hac) s4 sc (by decide) (by decide) (by decide) (by omega)
  obtain ⟨P, p1, p2, p3⟩ := vDot_ok (m := 320) hac sa sc (by decide) (by decide) (by decide) (by omega)
  obtain ⟨Q, q1, q2, q3⟩ := vDot_ok (m := 320) (hac.symm.trans hab) sc sb (by decide) (by decide) (by decide) (by omega)
  obtain ⟨Y, y1, y2, y3⟩ := qAdd_ok (t := 3848) (p3.mono (j' := 1927) (k' := 1921) (by omega) (by omega)) (q3.mono (j' := 1927) (k' := 1921) (by omega) (by omega)) (by decide) (by decide) (by decide) (by decide)
  have hXY : qCmp X Y = .ok 0 := by
    rw [qCmp_ok (x3.mono (j' := 2893) (k' := 2887) (by omega) (by omega)) y3 (by decide) (by decide)]
    have : X.q = Y.q := by
      rw [x2, y2, p2, q2, s3, dotR_add (by simp [qs_len, hab]), dotR_comm (x := qs b)]
    rw [this, cmpQ_self]
  have step : ∀ i (h1 : i < a.length), ∃ x, qAdd a[i] (b[i]'(by omega)) = .ok x ∧ qCmp x (S[i]'(by omega)) = .ok 0 := fun i hi => by
    obtain ⟨x, e1, e2, e3⟩ := qAdd_ok (t := 320) (sa a[i] (List.getElem_mem _)) (sb (b[i]'(by omega)) (List.getElem_mem _)) (by decide) (by decide) (by decide) (by decide)
    refine ⟨x, e1, ?_⟩
    rw [qCmp_ok e3 (s4 (S[i]'(by omega)) (List.getElem_mem _)) (by decide) (by decide)]
    rw [e2, zipQ s3 (by omega) hi (by omega), cmpQ_self]
  have C1 := c_vAdd a b (by omega)
  rw [s1] at C1
  have C1 : ACalls prog _ [lQ a, lQ b] (.tup [lQ S, i64 0]) := C1
  have C2 := c_vSub S b (by omega)
  rw [d1] at C2
  have C2 : ACalls prog _ [lQ S, lQ b] (.tup [lQ D, i64 0]) := C2
  have C3 := c_vSame D a (by omega)
  rw [hD] at C3
  have C4 := c_vDot S c (by omega)
  rw [x1] at C4
  have C5 := c_vDot a c (by omega)
  rw [p1] at C5
  have C6 := c_vDot c b (by omega)
  rw [q1] at C6
  have C7 := c_qAdd P Q
  rw [y1] at C7
  have C8 := c_qCompare X Y
  rw [hXY] at C8
  have lenA : (((a.map ratv).length : Nat) : Int) = (a.length : Int) := by simp
  have lenS : (((S.map ratv).length : Nat) : Int) = (a.length : Int) := by simp [s2]
  refine conN func3 rfl (by kernel_rfl) ?_
  conv => whnf
  refine callS c_points rfl rfl ?_
  conv => whnf
  refine callL [(2, 3)] [.sl [lQ a, lQ b, lQ c]] ⟨⟨_, rfl⟩, trivial⟩ ⟨.own2 (.head _) rfl rfl rfl rfl, trivial⟩ CF rfl ?_
  conv => whnf
  rw [lenA, decide_eq_false (by omega : ¬ (a.length : Int) > 6)]
  conv => whnf
  refine callS C1 rfl rfl ?_
  conv => whnf
  refine callS C2 rfl rfl ?_
  conv => whnf
  refine callS C3 rfl rfl ?_
  conv => whnf
  rw [lenA, lenS, show ((a.length : Int) != (a.length : Int)) = false by simp]
  conv => whnf
  refine ⟨Nat, fun i => i ≤ a.length, fun i => { fr := [(0, lQ a), (1, lQ b), (2, lQ c), (7, lQ S), (71, i64 a.length), (72, i64 i)], g := 9 }, fun i => a.length - i, 0, Nat.zero_le _,
    ⟨trivial, ⟨.inl ⟨.refl _, rfl⟩, .inl ⟨.refl _, rfl⟩, .inl ⟨.refl _, rfl⟩, .inl ⟨.refl _, rfl⟩, .inl ⟨.of_eq (congrArg i64 lenA), rfl⟩, .inl ⟨.refl _, rfl⟩, trivial⟩, trivial⟩, ?_⟩
  rintro i hi
  dsimp only at hi ⊢
  conv => whnf
  refine Br.mk (fun h => ?_) (fun h => ?_)
  · have hlt : i < a.length := by
      have := of_decide_eq_true h
      omega
    clear h
    have hltb : i < b.length := by omega
    have hltS : i < S.length := by omega
    obtain ⟨x, e1, e2⟩ := step i hlt
    have K1 := c_qAdd a[i] b[i]
    rw [e1] at K1
    have K2 := c_qCompare x S[i]
    rw [e2] at K2
    conv => whnf
    refine ⟨by kernel_rfl, ?_⟩
    conv => whnf
    refine ⟨ratv a[i], ⟨by omega, by simp [hlt], rfl, rfl⟩, ?_⟩
    conv => whnf
    refine ⟨ratv b[i], ⟨by omega, by simp [hltb], rfl, rfl⟩, ?_⟩
    conv => whnf
    refine callD K1 rfl rfl ?_
    conv => whnf
    refine ⟨by kernel_rfl, ?_⟩
    conv => whnf
    refine ⟨ratv S[i], ⟨by omega, by simp [hltS], rfl, rfl⟩, ?_⟩
    conv => whnf
    refine callD K2 rfl rfl ?_
    conv => whnf
    refine ⟨i + 1, hlt, ⟨trivial, ⟨.inl ⟨.refl _, rfl⟩, .inl ⟨.refl _, rfl⟩, .inl ⟨.refl _, rfl⟩, .inl ⟨.refl _, rfl⟩, .inl ⟨.refl _, rfl⟩, .inl ⟨.of_eq (congrArg i64 ?_), rfl⟩, trivial⟩, trivial⟩, by show a.length - (i + 1) < a.length - i; omega⟩
    exact (wI (n := (i : Int) + 1) (by omega) (by omega)).trans (by simp)
  · clear h
    conv => whnf
    refine callS C4 rfl rfl ?_
    conv => whnf
    refine callS C5 rfl rfl ?_
    conv => whnf
    refine callS C6 rfl rfl ?_
    conv => whnf
    refine callS C7 rfl rfl ?_
    conv => whnf
    refine callS C8 rfl rfl ?_
    conv => whnf
    exact fin rfl rfl

theorem vecReckons_c : ∀ avs, RdArgs prog 9 f3.params.toList avs → ACalls prog 3 avs (.lit (.bool true)) := by
  intro avs h
  have h : RdArgs prog 9 [22, 22, 22] avs := h
  match avs, h with
  | [x, y, z], ⟨⟨c1, r1, e1⟩, ⟨c2, r2, e2⟩, ⟨c3, r3, e3⟩, _⟩ =>
    obtain ⟨a, rfl, ha⟩ := rd_rats r1
    obtain ⟨b, rfl, hb⟩ := rd_rats r2
    obtain ⟨c, rfl, hc⟩ := rd_rats r3
    rw [mkV_one ag_rats] at e1 e2 e3
    subst e1 e2 e3
    by_cases hf : fitL [a, b, c] = true
    · have hf' : (okL1 a.length a && (okL1 a.length b && (okL1 a.length c && true))) = true := hf
      simp only [Bool.and_eq_true] at hf'
      obtain ⟨a', ea, la, la16, sa⟩ := okL1_q ha.2 hf'.1
      obtain ⟨b', eb, lb, _, sb⟩ := okL1_q hb.2 hf'.2.1
      obtain ⟨c', ec, lc, _, sc⟩ := okL1_q hc.2 hf'.2.2.1
      by_cases h6 : 6 < a.length
      · exact reckons_bad a b c ha hb hc (.inr h6)
      · have CF := c_fit a [b, c] (fun x hx => by
          simp at hx
          rcases hx with rfl | rfl | rfl
          · exact ha
          · exact hb
          · exact hc) (by simp)
        rw [hf] at CF
        have CF : ACalls prog 14 [.sl [slv a, slv b, slv c]] (boo true) := CF
        rw [ea, eb, ec] at CF
        show ACalls prog _ [slv a, slv b, slv c] _
        rw [ea, eb, ec]
        exact reckons_good a' b' c' (by omega) (by omega) (by omega) (sm_szL sa) (sm_szL sb) (sm_szL sc) CF
    · exact reckons_bad a b c ha hb hc (.inl (by simpa using hf))

end Go.Proofs.YtojfepabmbnmnaaGreatDoor.Abs

/- VecScales: the walk. -/
set_option linter.unusedVariables false
set_option linter.unusedSectionVars false
set_option linter.unusedSimpArgs false
set_option maxHeartbeats 4000000
set_option maxRecDepth 20000
namespace Go.Proofs.YtojfepabmbnmnaaGreatDoor.Abs
open Go Go.RowKit Go.Proofs.Tryz
attribute [local irreducible] zMul zAdd zLeft zRight fitZ qMake zDiv dMake dLevel dRound dNear dAdd dMul dRatio dCmp dMin dMax dAbs dLess qCmp sOut qAdd qMul sAdd sMul sNear qSum sHasQ sSize vUnit vEach vDot vNear vHolds vSame qSgn vScale

theorem scales_bad (a b : List RawQ) (x : RawQ) (ha : RawL a) (hb : RawL b) (hx : RawB x) (h : fitL [a, b] = false ∨ 6 < a.length ∨ fitL [[x]] = false) : ACalls prog 4 [slv a, slv b, rawv x] (boo true) := by
  have CF := c_fit a [b] (fun y hy => by
    simp at hy
    rcases hy with rfl | rfl
    · exact ha
    · exact hb) (by simp)
  have CG := c_fit [x] [] (fun y hy => by
    simp at hy
    subst hy
    exact ⟨by simp, by simpa using hx⟩) (by simp)
  obtain ⟨f, hf⟩ : ∃ f, fitL [a, b] = f := ⟨_, rfl⟩
  obtain ⟨g, hg⟩ : ∃ g, fitL [[x]] = g := ⟨_, rfl⟩
  rw [hf] at CF h
  rw [hg] at CG h
  have lenA : (((a.map rawv).length : Nat) : Int) = (a.length : Int) := by simp
  refine conN func4 rfl (by kernel_rfl) ?_
  conv => whnf
  refine callS c_points rfl rfl ?_
  conv => whnf
  refine callL [(2, 2)] [.sl [slv a, slv b]] ⟨⟨_, rfl⟩, trivial⟩ ⟨.own2 (.head _) rfl rfl rfl rfl, trivial⟩ CF rfl ?_
  conv => whnf
  cases f with
  | false =>
    conv => whnf
    exact fin rfl rfl
  | true =>
    conv => whnf
    rw [lenA]
    by_cases h6 : 6 < a.length
    · rw [decide_eq_true (by omega : (a.length : Int) > 6)]
      conv => whnf
      exact fin rfl rfl
    · rw [decide_eq_false (by omega : ¬ (a.length : Int) > 6)]
      have hg0 : g = false := by
        rcases h with h | h | h
        · cases h
        · exact absurd h h6
        · exact h
      subst hg0
      conv => whnf
      refine callL [(2, 12), (2, 13)] [.sl [slv [x]]] ⟨⟨_, rfl⟩, ⟨_, rfl⟩, trivial⟩ ⟨.own _ _ _ [slv [x]] (.tail _ (.head _)) rfl rfl rfl (fun j u v hu hv => ?_), trivial⟩ CG rfl ?_
      · cases j with
        | zero =>
          cases hu
          cases hv
          exact .own2 (.head _) rfl rfl rfl rfl
        | succ j => cases hv
      conv => whnf
      exact fin rfl rfl

theorem mul_one_list (x : List Rat) : x.map (· * (1 : Rat)) = x := by
  rw [show (fun y : Rat => y * 1) = id from funext Rat.mul_one, List.map_id]
theorem mul_zero_list (x : List Rat) : x.map (· * (0 : Rat)) = List.replicate x.length 0 := by
  rw [show (fun y : Rat => y * 0) = (fun _ => (0 : Rat)) from funext Rat.mul_zero, List.map_const']
theorem one_q : (qOf 1 1).q = 1 := by kernel_rfl
theorem scales_good (a b : List FQ) (c : FQ) (hab : a.length = b.length) (h6 : a.length ≤ 6) (sa : SzL a 160 160) (sb : SzL b 160 160) (sc : Sz c.q 160 160)
    (CF : ACalls prog 14 [.sl [lQ a, lQ b]] (boo true)) (CG : ACalls prog 14 [.sl [lQ [c]]] (boo true)) : ACalls prog 4 [lQ a, lQ b, rat c.q] (boo true) := by
  obtain ⟨S, s1, s2, s3, s4⟩ := vScale_ok sa sc (by decide) (by decide)
  obtain ⟨O, o1, o2, o3, o4⟩ := vScale_ok (c := qOf 1 1) sa sz_one (by decide) (by decide)
  obtain ⟨Z, z1, z2, z3, z4⟩ := vScale_ok (c := q0) sa sz_zero (by decide) (by decide)
  obtain ⟨P, p1, p2, p3⟩ := vDot_ok (m := 320) hab sa sb (by decide) (by decide) (by decide) (by omega)
  obtain ⟨Q, q1, q2, q3⟩ := vDot_ok (m := 480) (s2.trans hab) s4 sb (by decide) (by decide) (by decide) (by omega)
  obtain ⟨R, r1, r2, r3⟩ := qMul_ok (p3.mono (j' := 1927) (k' := 1921) (by omega) (by omega)) sc (by decide) (by decide)
  have hQR : qCmp Q R = .ok 0 := by
    rw [qCmp_ok (q3.mono (j' := 2887) (k' := 2881) (by omega) (by omega)) r3 (by decide) (by decide)]
    have : Q.q = R.q := by rw [q2, r2, p2, s3, dotR_scale]
    rw [this, cmpQ_self]
  have hO : vSame O a = true := by
    unfold vSame
    refine decide_eq_true ?_
    show qs O = qs a
    rw [o3, one_q, mul_one_list]
  have hcl : clampN (a.length : Int) = a.length := by have := clampN_in (n := (a.length : Int)) (by omega) (by omega); omega
  have hZ : vSame Z (List.replicate a.length q0) = true := by
    unfold vSame
    refine decide_eq_true ?_
    show qs Z = (List.replicate a.length q0).map FQ.q
    rw [z3, List.map_replicate]
    show (qs a).map (· * (0 : Rat)) = List.replicate a.length 0
    rw [mul_zero_list, qs_len]
  have C1 := c_vScale a c (by omega)
  rw [s1] at C1
  have C1 : ACalls prog _ [lQ a, rat c.q] (.tup [lQ S, i64 0]) := C1
  have C2 := c_vScale a (qOf 1 1) (by omega)
  rw [o1] at C2
  have C2 : ACalls prog _ [lQ a, rat (qOf 1 1).q] (.tup [lQ O, i64 0]) := C2
  have C3 := c_vScale a q0 (by omega)
  rw [z1] at C3
  have C3 : ACalls prog _ [lQ a, rat q0.q] (.tup [lQ Z, i64 0]) := C3
  have C4 := c_vDot a b (by omega)
  rw [p1] at C4
  have C5 := c_vDot S b (by omega)
  rw [q1] at C5
  have C6 := c_qMul P c
  rw [r1] at C6
  have C7 := c_qCompare Q R
  rw [hQR] at C7
  have C8 := c_vSame O a (by omega)
  rw [hO] at C8
  have C9 := c_vZero (a.length : Int)
  rw [hcl] at C9
  have C10 := c_vSame Z (List.replicate a.length q0) (by omega)
  rw [hZ] at C10
  have lenA : (((a.map ratv).length : Nat) : Int) = (a.length : Int) := by simp
  refine conN func4 rfl (by kernel_rfl) ?_
  conv => whnf
  refine callS c_points rfl rfl ?_
  conv => whnf
  refine callL [(2, 2)] [.sl [lQ a, lQ b]] ⟨⟨_, rfl⟩, trivial⟩ ⟨.own2 (.head _) rfl rfl rfl rfl, trivial⟩ CF rfl ?_
  conv => whnf
  rw [lenA, decide_eq_false (by omega : ¬ (a.length : Int) > 6)]
  conv => whnf
  refine callL [(2, 12), (2, 13)] [.sl [lQ [c]]] ⟨⟨_, rfl⟩, ⟨_, rfl⟩, trivial⟩ ⟨.own _ _ _ [lQ [c]] (.tail _ (.head _)) rfl rfl rfl (fun j u v hu hv => ?_), trivial⟩ CG rfl ?_
  · cases j with
    | zero =>
      cases hu
      cases hv
      exact .own2 (.head _) rfl rfl rfl rfl
    | succ j => cases hv
  conv => whnf
  refine callS C1 rfl rfl ?_
  conv => whnf
  refine callS (c_qOf 1 1 (by decide) (by decide) (by decide) (by decide)) rfl rfl ?_
  conv => whnf
  refine callS C2 rfl rfl ?_
  conv => whnf
  refine callS c_qZero rfl rfl ?_
  conv => whnf
  refine callS C3 rfl rfl ?_
  conv => whnf
  refine callS C4 rfl rfl ?_
  conv => whnf
  refine callS C5 rfl rfl ?_
  conv => whnf
  refine callS C6 rfl rfl ?_
  conv => whnf
  refine callS C7 rfl rfl ?_
  conv => whnf
  refine callS C8 rfl rfl ?_
  conv => whnf
  rw [lenA]
  refine callS C9 rfl rfl ?_
  conv => whnf
  refine callS C10 rfl rfl ?_
  conv => whnf
  exact fin rfl rfl

theorem vecScales_c : ∀ avs, RdArgs prog 9 f4.params.toList avs → ACalls prog 4 avs (.lit (.bool true)) := by
  intro avs h
  have h : RdArgs prog 9 [22, 22, 34] avs := h
  match avs, h with
  | [x, y, z], ⟨⟨c1, r1, e1⟩, ⟨c2, r2, e2⟩, ⟨c3, r3, e3⟩, _⟩ =>
    obtain ⟨a, rfl, ha⟩ := rd_rats r1
    obtain ⟨b, rfl, hb⟩ := rd_rats r2
    obtain ⟨c, hc, _, hcb⟩ := rd_rat r3
    rw [mkV_one ag_rats] at e1 e2
    rw [hc] at e3
    subst e1 e2 e3
    by_cases hf : fitL [a, b] = true
    · have hf' : (okL1 a.length a && (okL1 a.length b && true)) = true := hf
      simp only [Bool.and_eq_true] at hf'
      obtain ⟨a', ea, la, la16, sa⟩ := okL1_q ha.2 hf'.1
      obtain ⟨b', eb, lb, _, sb⟩ := okL1_q hb.2 hf'.2.1
      by_cases h6 : 6 < a.length
      · exact scales_bad a b c ha hb hcb (.inr (.inl h6))
      · by_cases hg : fitL [[c]] = true
        · have CF := c_fit a [b] (fun x hx => by
            simp at hx
            rcases hx with rfl | rfl
            · exact ha
            · exact hb) (by simp)
          rw [hf] at CF
          have CF : ACalls prog 14 [.sl [slv a, slv b]] (boo true) := CF
          have hg' : (okL1 1 [c] && true) = true := hg
          unfold okL1 at hg'
          simp only [Bool.and_eq_true] at hg'
          have hg2 : (fitX c && true) = true := hg'.1.2.2
          rw [Bool.and_true] at hg2
          obtain ⟨c', ec, sc⟩ := fitX_q hcb hg2
          have CG := c_fit [c] [] (fun y hy => by
            simp at hy
            subst hy
            exact ⟨by simp, by simpa using hcb⟩) (by simp)
          rw [hg] at CG
          subst ec
          have CG : ACalls prog 14 [.sl [lQ [c']]] (boo true) := CG
          rw [ea, eb] at CF
          show ACalls prog _ [slv a, slv b, rat c'.q] _
          rw [ea, eb]
          exact scales_good a' b' c' (by omega) (by omega) (sm_szL sa) (sm_szL sb) (sm_sz sc) CF CG
        · exact scales_bad a b c ha hb hcb (.inr (.inr (by simpa using hg)))
    · exact scales_bad a b c ha hb hcb (.inl (by simpa using hf))

end Go.Proofs.YtojfepabmbnmnaaGreatDoor.Abs

/- VecHolds: the walk. -/
set_option linter.unusedVariables false
set_option linter.unusedSectionVars false
set_option linter.unusedSimpArgs false
set_option maxHeartbeats 4000000
set_option maxRecDepth 20000
namespace Go.Proofs.YtojfepabmbnmnaaGreatDoor.Abs
open Go Go.RowKit Go.Proofs.Tryz
attribute [local irreducible] zMul zAdd zLeft zRight fitZ qMake zDiv dMake dLevel dRound dNear dAdd dMul dRatio dCmp dMin dMax dAbs dLess qCmp sOut qAdd qMul sAdd sMul sNear qSum sHasQ

/-- Spans that hold these numbers, and are of a size. -/
inductive Hld (K L : Nat) : List FS → List Rat → Prop
  | nil : Hld K L [] []
  | cons {s : FS} {x : Rat} {l : List FS} {m : List Rat} (h1 : SGr K L s) (h2 : In x s) (h : Hld K L l m) : Hld K L (s :: l) (x :: m)
theorem Hld.len {K L : Nat} {l : List FS} {m : List Rat} (h : Hld K L l m) : l.length = m.length := by
  induction h with
  | nil => rfl
  | cons _ _ _ ih => simp [ih]
theorem Hld.gr {K L : Nat} {l : List FS} {m : List Rat} (h : Hld K L l m) : ∀ s ∈ l, SGr K L s := by
  induction h with
  | nil => simp
  | cons h1 _ _ ih =>
    intro s hs
    rcases List.mem_cons.1 hs with rfl | hs
    · exact h1
    · exact ih s hs
theorem Hld.get {K L : Nat} {l : List FS} {m : List Rat} (h : Hld K L l m) : ∀ (i : Nat) (s : FS) (x : Rat), l[i]? = some s → m[i]? = some x → In x s := by
  induction h with
  | nil => intro i s x h; simp at h
  | cons _ h2 _ ih =>
    intro i s x hs hx
    cases i with
    | zero => simp at hs hx; subst hs hx; exact h2
    | succ i => exact ih i s x (by simpa using hs) (by simpa using hx)
theorem Hld.of {K L : Nat} : ∀ {l : List FS} {m : List Rat}, l.length = m.length → (∀ (i : Nat) (s : FS) (x : Rat), l[i]? = some s → m[i]? = some x → SGr K L s ∧ In x s) → Hld K L l m
  | [], [], _, _ => .nil
  | s :: l, x :: m, h, g => .cons (g 0 s x rfl rfl).1 (g 0 s x rfl rfl).2 (Hld.of (by simpa using h) fun i s' x' h1 h2 => g (i + 1) s' x' (by simpa using h1) (by simpa using h2))
  | [], _ :: _, h, _ => by cases h
  | _ :: _, [], h, _ => by cases h
theorem vNear_hld {l : List FQ} {j k : Nat} {bits : Int} (hb : bitsOk bits = true) (hl : SzL l j k) (h : bits.toNat + k + 2 ≤ 16384) (hj : j ≤ 16384) : ∃ r, vNear l bits = .ok r ∧ Hld (j + 2) (bits.toNat + k) r (qs l) := by
  obtain ⟨r, h1, h2, h3⟩ := vNear_ok hb hl h hj
  refine ⟨r, h1, .of (by rw [h2, qs_len]) fun i s x hs hx => ?_⟩
  unfold qs at hx
  rw [List.getElem?_map] at hx
  cases hq : l[i]? with
  | none => rw [hq] at hx; cases hx
  | some q =>
    rw [hq] at hx
    cases hx
    exact h3 i q s hq hs
theorem vPlus_hld {bits : Int} (hb : bitsOk bits = true) {K L : Nat} (h : K + L + 1 ≤ 16384) : ∀ {a b : List FS} {x y : List Rat}, Hld K L a x → Hld K L b y → a.length = b.length → ∃ r, vPlus bits a b = .ok r ∧ Hld (K + 2) L r (List.zipWith (· + ·) x y) := by
  intro a b x y ha hb' hab
  unfold vPlus
  rw [if_neg (by simpa using hab)]
  induction ha generalizing b y with
  | nil =>
    cases hb' with
    | nil => exact ⟨[], rfl, .nil⟩
    | cons _ _ _ => cases hab
  | cons g1 g2 _ ih =>
    cases hb' with
    | nil => cases hab
    | cons k1 k2 hb' =>
      obtain ⟨r, r1, r2⟩ := ih hb' (by simpa using hab)
      obtain ⟨s, s1, s2, s3, s4⟩ := sAdd_ok hb g1 k1 h
      exact ⟨s :: r, by simp only [List.zip_cons_cons, runE, s1, r1], .cons s2 (In.add g2 k2 s3 s4) r2⟩
theorem vInner_acc {bits : Int} (hb : bitsOk bits = true) {K L : Nat} (h : K + L + (K + L) + 1 ≤ 16384) : ∀ {a b : List FS} {x y : List Rat}, Hld K L a x → Hld K L b y → a.length = b.length → ∀ (acc : FS) (v : Rat) (k : Nat), SGr k (L + L) acc → In v acc → K + K + 1 ≤ k → k + 2 * a.length + (L + L) + 1 ≤ 16384 →
    ∃ r, foldE (innerStep bits) acc (a.zip b) = .ok r ∧ SGr (k + 2 * a.length) (L + L) r ∧ In (v + dotR x y) r := by
  intro a b x y ha
  induction ha generalizing b y with
  | nil =>
    intro hb' hab acc v k g1 g2 g3 g4
    cases hb' with
    | nil => exact ⟨acc, rfl, g1, by show In (v + 0) acc; rw [Rat.add_zero]; exact g2⟩
    | cons _ _ _ => cases hab
  | cons g1 g2 _ ih =>
    intro hb' hab acc v k k1 k2 k3 k4
    cases hb' with
    | nil => cases hab
    | cons m1 m2 hb' =>
      simp only [List.length_cons] at k4 ⊢
      obtain ⟨p, p1, p2, p3⟩ := sMul_ok hb g1 m1 h
      obtain ⟨s, s1, s2, s3, s4⟩ := sAdd_ok hb k1 (p2.mono k3 (Nat.le_refl _)) (by omega)
      obtain ⟨r, r1, r2, r3⟩ := ih hb' (by simpa using hab) s _ (k + 2) s2 (In.add k2 (p3 _ _ g2 m2) s3 s4) (by omega) (by omega)
      refine ⟨r, by simp only [List.zip_cons_cons, foldE, innerStep, bnd, p1, s1]; exact r1, r2.mono (by omega) (Nat.le_refl _), ?_⟩
      simp only [dotR, List.zipWith_cons_cons, sumQ] at r3 ⊢
      rw [← Rat.add_assoc]
      exact r3
theorem vInner_hld {bits : Int} (hb : bitsOk bits = true) {K L : Nat} {a b : List FS} {x y : List Rat} (ha : Hld K L a x) (hb' : Hld K L b y) (hab : a.length = b.length) (h : K + K + 1 + 2 * a.length + (L + L) + 1 ≤ 16384) :
    ∃ r, vInner bits a b = .ok r ∧ SGr (K + K + 1 + 2 * a.length) (L + L) r ∧ In (dotR x y) r := by
  unfold vInner
  rw [if_neg (by simpa using hab)]
  obtain ⟨r, r1, r2, r3⟩ := vInner_acc hb (by omega) ha hb' hab s0 0 (K + K + 1) (.s0 _ _) .s0 (Nat.le_refl _) h
  exact ⟨r, r1, r2, by rw [Rat.zero_add] at r3; exact r3⟩
theorem vTimes_hld {bits : Int} (hb : bitsOk bits = true) {K L K' L' : Nat} {c : FS} (hc : SGr K' L' c) (h : K + L + (K' + L') + 1 ≤ 16384) : ∀ {a : List FS} {x : List Rat}, Hld K L a x → ∃ r, vTimes a c bits = .ok r ∧ r.length = a.length := by
  intro a x ha
  unfold vTimes
  induction ha with
  | nil => exact ⟨[], rfl, rfl⟩
  | cons g1 _ _ ih =>
    obtain ⟨r, r1, r2⟩ := ih
    obtain ⟨p, p1, _⟩ := sMul_ok hb g1 hc h
    exact ⟨p :: r, by simp only [runE, p1, r1], by simp [r2]⟩
theorem norm_acc {K L : Nat} : ∀ {a : List FS} {x : List Rat}, Hld K L a x → ∀ acc : FD, Gr K L acc → acc.v ≤ (a.foldl (fun m s => dMax m (sSize s)) acc).v ∧ Gr K L (a.foldl (fun m s => dMax m (sSize s)) acc) ∧ ∀ y ∈ x, absQ y ≤ (a.foldl (fun m s => dMax m (sSize s)) acc).v := by
  intro a x ha
  induction ha with
  | nil => exact fun acc h => ⟨Rat.le_refl, h, by simp⟩
  | cons g1 g2 _ ih =>
    rename_i s x0 l m hl
    intro acc h
    have hg : Gr K L (sSize s) := dMax_gr (dAbs_gr g1.1) (dAbs_gr g1.2)
    obtain ⟨h1, h2, h3⟩ := ih (dMax acc (sSize s)) (dMax_gr h hg)
    have hm := le_max acc (sSize s)
    refine ⟨Rat.le_trans hm.1 h1, h2, fun y hy => ?_⟩
    rcases List.mem_cons.1 hy with rfl | hy
    · exact Rat.le_trans (sSize_v s g2) (Rat.le_trans hm.2 h1)
    · exact h3 y hy
theorem qAbs_a (a : FQ) : (qAbs a).q = absQ a.q := by
  unfold qAbs absQ
  by_cases h : a.q.num < 0
  · rw [if_pos h, if_pos (by
      have : ¬ 0 ≤ a.q := fun g => by have := Rat.num_nonneg.2 g; omega
      exact Rat.not_le.1 this)]
    rfl
  · rw [if_neg h, if_neg (by
      have : 0 ≤ a.q := Rat.num_nonneg.1 (by omega)
      exact Rat.not_lt.2 this)]
theorem qAbs_sz {a : FQ} {j k : Nat} (h : Sz a.q j k) : Sz (qAbs a).q j k := by
  unfold qAbs
  split
  · exact h.neg
  · exact h

end Go.Proofs.YtojfepabmbnmnaaGreatDoor.Abs

/- VecHolds: the walk. -/
set_option linter.unusedVariables false
set_option linter.unusedSectionVars false
set_option linter.unusedSimpArgs false
set_option maxHeartbeats 4000000
set_option maxRecDepth 20000
namespace Go.Proofs.YtojfepabmbnmnaaGreatDoor.Abs
open Go Go.RowKit Go.Proofs.Tryz
attribute [local irreducible] zMul zAdd zLeft zRight fitZ qMake zDiv dMake dLevel dRound dNear dAdd dMul dRatio dCmp dMin dMax dAbs dLess qCmp sOut qAdd qMul sAdd sMul sNear qSum sHasQ sSize vEach vDot vNear vHolds vSame qSgn vScale vPlus vInner vTimes vNorm dCmpQ qAbs

theorem holds_bad (a b : List RawQ) (bits : Int) (ha : RawL a) (hb : RawL b) (h : fitL [a, b] = false ∨ 6 < a.length ∨ bits < 2 ∨ bits > 300) : ACalls prog 7 [slv a, slv b, i64 bits] (boo true) := by
  have CF := c_fit a [b] (fun y hy => by
    simp at hy
    rcases hy with rfl | rfl
    · exact ha
    · exact hb) (by simp)
  obtain ⟨f, hf⟩ : ∃ f, fitL [a, b] = f := ⟨_, rfl⟩
  rw [hf] at CF h
  have lenA : (((a.map rawv).length : Nat) : Int) = (a.length : Int) := by simp
  refine conN func7 rfl (by kernel_rfl) ?_
  conv => whnf
  refine callS c_points rfl rfl ?_
  conv => whnf
  refine callL [(2, 2)] [.sl [slv a, slv b]] ⟨⟨_, rfl⟩, trivial⟩ ⟨.own2 (.head _) rfl rfl rfl rfl, trivial⟩ CF rfl ?_
  conv => whnf
  cases f with
  | false =>
    conv => whnf
    exact fin rfl rfl
  | true =>
    conv => whnf
    rw [lenA]
    by_cases h6 : 6 < a.length
    · rw [decide_eq_true (by omega : (a.length : Int) > 6)]
      conv => whnf
      exact fin rfl rfl
    · rw [decide_eq_false (by omega : ¬ (a.length : Int) > 6)]
      conv => whnf
      by_cases h2 : bits < 2
      · rw [decide_eq_true h2]
        conv => whnf
        exact fin rfl rfl
      · rw [decide_eq_false h2]
        have h3 : bits > 300 := by
          rcases h with h | h | h | h
          · cases h
          · exact absurd h h6
          · exact absurd h h2
          · exact h
        conv => whnf
        rw [decide_eq_true h3]
        conv => whnf
        exact fin rfl rfl

theorem holds_good (a b : List FQ) (bits : Int) (hab : a.length = b.length) (h6 : a.length ≤ 6) (h2 : 2 ≤ bits) (h300 : bits ≤ 300) (sa : SzL a 160 160) (sb : SzL b 160 160)
    (CF : ACalls prog 14 [.sl [lQ a, lQ b]] (boo true)) : ACalls prog 7 [lQ a, lQ b, i64 bits] (boo true) := by
  have hbo : bitsOk bits = true := bitsOk_iff.2 ⟨h2, by omega⟩
  have hBO : BOk bits := ⟨by omega, by omega⟩
  obtain ⟨L, hL⟩ : ∃ L, bits.toNat + 160 = L := ⟨_, rfl⟩
  obtain ⟨X, x1, x2⟩ := vNear_hld hbo sa (by omega) (by decide)
  obtain ⟨Y, y1, y2⟩ := vNear_hld hbo sb (by omega) (by decide)
  rw [hL] at x2 y2
  have lX : X.length = a.length := by rw [x2.len, qs_len]
  have lY : Y.length = a.length := by rw [y2.len, qs_len, hab]
  obtain ⟨S, s1, s2⟩ := vPlus_hld hbo (by omega) x2 y2 (by omega)
  obtain ⟨P, p1, p2, p3⟩ := vInner_hld hbo x2 y2 (by omega) (by omega)
  obtain ⟨T, t1, t2, t3, t4⟩ := vAdd_ok (t := 320) hab sa sb (by decide) (by decide) (by decide) (by decide)
  obtain ⟨Q, q1, q2, q3⟩ := vDot_ok (m := 320) hab sa sb (by decide) (by decide) (by decide) (by omega)
  have H1 : vHolds X a = .ok true := vHolds_ok lX x2.gr sa (by omega) (by omega) fun i s y hs hy => x2.get i s y.q hs (by unfold qs; rw [List.getElem?_map, hy]; rfl)
  have H2 : vHolds S T = .ok true := vHolds_ok (by rw [s2.len, t2]; simp [qs_len, hab]) s2.gr t4 (by omega) (by omega) fun i s y hs hy => s2.get i s y.q hs (by
    rw [← t3]
    unfold qs
    rw [List.getElem?_map, hy]
    rfl)
  have H3 : sHasQ P Q = .ok true := sHasQ_ok (p2.mono (K' := 340) (L' := 1000) (by omega) (by omega)) (q3.mono (j' := 1927) (k' := 1921) (by omega) (by omega)) (by decide) (by decide) (by rw [q2]; exact p3)
  obtain ⟨_, n1, n2⟩ := norm_acc x2 d0 (.d0 _ _)
  obtain ⟨N, hN⟩ : ∃ N, vNorm X = N := ⟨_, rfl⟩
  have hN' : X.foldl (fun m s => dMax m (sSize s)) d0 = N := by rw [← hN]; with_unfolding_all rfl
  rw [hN'] at n1 n2
  have step : ∀ i (h : i < a.length), ∃ c : Int, dCmpQ N (qAbs a[i]) = .ok c ∧ ¬ c < 0 := fun i h => by
    refine ⟨_, dCmpQ_ok n1 (qAbs_sz (sa a[i] (List.getElem_mem _))) (by omega) (by omega), ?_⟩
    have := cmpQ_ge.2 (n2 (a[i].q) (List.mem_map.2 ⟨a[i], List.getElem_mem _, rfl⟩))
    rw [← qAbs_a] at this
    omega
  have step2 : ∀ (h : 0 < a.length), ∃ M, vTimes X (Y[0]'(by omega)) bits = .ok M ∧ M.length = X.length := fun h =>
    vTimes_hld hbo (y2.gr (Y[0]'(by omega)) (List.getElem_mem _)) (by omega) x2
  have C1 := c_vNear a bits hBO (by omega)
  rw [x1] at C1
  have C1 : ACalls prog _ [lQ a, i64 bits] (.tup [lS X, i64 0]) := C1
  have C2 := c_vNear b bits hBO (by omega)
  rw [y1] at C2
  have C2 : ACalls prog _ [lQ b, i64 bits] (.tup [lS Y, i64 0]) := C2
  have C3 := c_vPlus X Y bits hBO (by omega)
  rw [s1] at C3
  have C3 : ACalls prog _ [lS X, lS Y, i64 bits] (.tup [lS S, i64 0]) := C3
  have C4 := c_vInner X Y bits hBO (by omega)
  rw [p1] at C4
  have C5 := c_vAdd a b (by omega)
  rw [t1] at C5
  have C5 : ACalls prog _ [lQ a, lQ b] (.tup [lQ T, i64 0]) := C5
  have C6 := c_vDot a b (by omega)
  rw [q1] at C6
  have C7 := c_vHolds X a (by omega)
  rw [H1] at C7
  have C8 := c_vHolds S T (by rw [s2.len]; simp [qs_len]; omega)
  rw [H2] at C8
  have C9 := c_sHasQ P Q
  rw [H3] at C9
  have C10 := c_vNorm X (by omega)
  rw [hN] at C10
  have lenA : (((a.map ratv).length : Nat) : Int) = (a.length : Int) := by simp
  clear x1 y1 s1 p1 t1 q1 H1 H2 H3 hN hN'
  refine conN func7 rfl (by kernel_rfl) ?_
  conv => whnf
  refine callS c_points rfl rfl ?_
  conv => whnf
  refine callL [(2, 2)] [.sl [lQ a, lQ b]] ⟨⟨_, rfl⟩, trivial⟩ ⟨.own2 (.head _) rfl rfl rfl rfl, trivial⟩ CF rfl ?_
  conv => whnf
  rw [lenA, decide_eq_false (by omega : ¬ (a.length : Int) > 6)]
  conv => whnf
  rw [decide_eq_false (by omega : ¬ bits < 2)]
  conv => whnf
  rw [decide_eq_false (by omega : ¬ bits > 300)]
  conv => whnf
  refine callS C1 rfl rfl ?_
  conv => whnf
  refine callS C2 rfl rfl ?_
  conv => whnf
  refine callS C3 rfl rfl ?_
  conv => whnf
  refine callS C4 rfl rfl ?_
  conv => whnf
  refine callS C5 rfl rfl ?_
  conv => whnf
  refine callS C6 rfl rfl ?_
  conv => whnf
  refine callS C7 rfl rfl ?_
  conv => whnf
  refine callS C8 rfl rfl ?_
  conv => whnf
  refine callS C9 rfl rfl ?_
  conv => whnf
  refine callS C10 rfl rfl ?_
  conv => whnf
  refine ⟨Nat, fun i => i ≤ a.length, fun i => { fr := [(2, i64 bits), (7, lS X), (9, lS Y), (25, .ptr (14, 2) 0 0), (150, lQ a), (151, i64 a.length), (152, i64 i)], st := [((14, 2), ⟨58, 3, [dyad N]⟩)], g := 20 }, fun i => a.length - i, 0, Nat.zero_le _,
    ⟨trivial, ⟨.inl ⟨.refl _, rfl⟩, .inl ⟨.refl _, rfl⟩, .inl ⟨.refl _, rfl⟩, .inl ⟨.refl _, rfl⟩, .inl ⟨.refl _, rfl⟩, .inl ⟨.of_eq (congrArg i64 lenA), rfl⟩, .inl ⟨.refl _, rfl⟩, trivial⟩, ⟨.same rfl rfl, List.not_mem_nil, Nat.le_of_ble_eq_true rfl⟩, trivial⟩, ?_⟩
  rintro i hi
  dsimp only at hi ⊢
  conv => whnf
  refine Br.mk (fun h => ?_) (fun h => ?_)
  · have hlt : i < a.length := by
      have := of_decide_eq_true h
      omega
    clear h
    obtain ⟨c, k1, k2⟩ := step i hlt
    obtain ⟨M, m1, m2⟩ := step2 (by omega)
    have hY : 0 < Y.length := by omega
    have K1 := c_qAbs a[i]
    have K2 := c_dCmpQ N (qAbs a[i])
    rw [k1] at K2
    have K2 : ACalls prog _ [dyad N, rat (qAbs a[i]).q] (.tup [i64 c, i64 0]) := K2
    have K3 := c_vTimes X Y[0] bits hBO (by omega)
    rw [m1] at K3
    have K3 : ACalls prog _ [lS X, spa Y[0], i64 bits] (.tup [lS M, i64 0]) := K3
    have lenM : (((M.map spa).length : Nat) : Int) = (X.length : Int) := by simp [m2]
    have lenX : (((X.map spa).length : Nat) : Int) = (X.length : Int) := by simp
    conv => whnf
    refine ⟨ratv a[i], ⟨by omega, by simp [hlt], rfl, rfl⟩, ?_⟩
    conv => whnf
    refine ⟨by kernel_rfl, ?_⟩
    conv => whnf
    refine callD K1 rfl rfl ?_
    conv => whnf
    refine callD K2 rfl rfl ?_
    conv => whnf
    rw [decide_eq_false k2]
    conv => whnf
    refine ⟨spa Y[0], ⟨by omega, by simp [hY], rfl, rfl⟩, ?_⟩
    conv => whnf
    refine callS K3 rfl rfl ?_
    conv => whnf
    rw [lenM, lenX, show ((X.length : Int) != (X.length : Int)) = false by simp]
    conv => whnf
    refine ⟨i + 1, hlt, ⟨trivial, ⟨.inl ⟨.refl _, rfl⟩, .inl ⟨.refl _, rfl⟩, .inl ⟨.refl _, rfl⟩, .inl ⟨.refl _, rfl⟩, .inl ⟨.refl _, rfl⟩, .inl ⟨.refl _, rfl⟩, .inl ⟨.of_eq (congrArg i64 ?_), rfl⟩, trivial⟩, ⟨.same rfl rfl, List.not_mem_nil, Nat.le_of_ble_eq_true rfl⟩, trivial⟩, by show a.length - (i + 1) < a.length - i; omega⟩
    exact (wI (n := (i : Int) + 1) (by omega) (by omega)).trans (by simp)
  · clear h
    conv => whnf
    exact fin rfl rfl

theorem vecHolds_c : ∀ avs, RdArgs prog 9 f7.params.toList avs → ACalls prog 7 avs (.lit (.bool true)) := by
  intro avs h
  have h : RdArgs prog 9 [22, 22, 3] avs := h
  match avs, h with
  | [x, y, z], ⟨⟨c1, r1, e1⟩, ⟨c2, r2, e2⟩, ⟨c3, r3, e3⟩, _⟩ =>
    obtain ⟨a, rfl, ha⟩ := rd_rats r1
    obtain ⟨b, rfl, hb⟩ := rd_rats r2
    obtain ⟨bits, rfl, _⟩ := rd_int r3
    rw [mkV_one ag_rats] at e1 e2
    rw [mkV_one ag_int] at e3
    subst e1 e2 e3
    by_cases hf : fitL [a, b] = true
    · have hf' : (okL1 a.length a && (okL1 a.length b && true)) = true := hf
      simp only [Bool.and_eq_true] at hf'
      obtain ⟨a', ea, la, la16, sa⟩ := okL1_q ha.2 hf'.1
      obtain ⟨b', eb, lb, _, sb⟩ := okL1_q hb.2 hf'.2.1
      by_cases h6 : 6 < a.length
      · exact holds_bad a b bits ha hb (.inr (.inl h6))
      · by_cases h2 : bits < 2
        · exact holds_bad a b bits ha hb (.inr (.inr (.inl h2)))
        · by_cases h3 : bits > 300
          · exact holds_bad a b bits ha hb (.inr (.inr (.inr h3)))
          · have CF := c_fit a [b] (fun x hx => by
              simp at hx
              rcases hx with rfl | rfl
              · exact ha
              · exact hb) (by simp)
            rw [hf] at CF
            have CF : ACalls prog 14 [.sl [slv a, slv b]] (boo true) := CF
            rw [ea, eb] at CF
            show ACalls prog _ [slv a, slv b, i64 bits] _
            rw [ea, eb]
            exact holds_good a' b' bits (by omega) (by omega) (by omega) (by omega) (sm_szL sa) (sm_szL sb) CF
    · exact holds_bad a b bits ha hb (.inl (by simpa using hf))

end Go.Proofs.YtojfepabmbnmnaaGreatDoor.Abs

/- VecHolds: for every input the law returns true, and each argument reads afterwards as it read before. Conditions: the listed variables of the library hold what their text lays (tied by the card). -/
set_option linter.unusedVariables false
namespace Go.Proofs.YtojfepabmbnmnaaGreatDoor.Abs
open Go Go.RowKit Go.ChangeShapes Go.WideShapes Go.ChangeAt Go.Proofs.Tryz

theorem vecHolds_laid {W : World} (h : laidMetH prog Rows.vecHoldsRow.laid W) : GOk (fun b => b < W.heap.size) W :=
  gok_of_tab (Lib.tabIs_of_head gDb gDbT underlying184 underlying5 cU8 cDb h)
theorem vecHolds_met (os : Os) : laidMet prog Rows.vecHoldsRow.laid ((laidWorld os).forCall (fun _ _ => 0) ⟨#[], #[.slice none 0 0, .slice none 0 0, .int .i64 0], []⟩).memory :=
  laidMet_of_run' 8 (by kernel_rfl) (by kernel_rfl)
theorem vecHolds_reads (os : Os) {H : Type} (enc : TypeId × Value → H) : ∃ x places, DataW.whole enc prog ((laidWorld os).forCall (fun _ _ => 0) ⟨#[], #[.slice none 0 0, .slice none 0 0, .int .i64 0], []⟩).memory f7.params.toList Rows.vecHoldsSpec.vars false (#[.slice none 0 0, .slice none 0 0, .int .i64 0] : Array Value).toList 8 = some (x, [], places) :=
  ⟨[.nil, .nil, .lit (.int .i64 0)], [], by kernel_rfl⟩
set_option maxRecDepth 100000 in
theorem vecHolds_lifted (os : Os) (started : os.Started) (H : Type) (enc : TypeId × Value → H) (F : Stop.Interp) :
    ReturnsInHanded {} checked os 7 .any ((OpenSpec.ofChange Rows.vecHoldsSpec).preRow enc prog f7 Rows.vecHoldsRow.domain false Rows.vecHoldsRow.laid) (((OpenSpec.ofChange Rows.vecHoldsSpec).at F).post enc prog f7 false true false false) := by
  obtain ⟨x, places, hx⟩ := vecHolds_reads os enc
  refine returnsInHanded_of_row (C := checked) (s := OpenSpec.ofChange Rows.vecHoldsSpec) ownK started (by kernel_rfl) func7
    (witness_row_at (enc := enc) (C := checked) false (laidWorld os) #[.slice none 0 0, .slice none 0 0, .int .i64 0] rfl (by kernel_rfl) (by kernel_rfl) (by kernel_rfl)
      (OpenSpec.preRow_of_cond 8 hx (by kernel_rfl) (fun k hk => by cases hk) (by kernel_rfl) (vecHolds_met os))) ?_
  intro W base args ds gs before hval hW _ _ _ hL _ _
  exact bridge (n := 9) laidOutP (by kernel_rfl) rfl (fun ds hd => by
    match ds, hd with
    | [_, _, _], _ => rfl) rfl underlying4 vecHolds_c hval hW (vecHolds_laid hL)
theorem vecHolds_said : Rows.VecHoldsSaid :=
  OpenClaim.holds_of_cond 7 f7 rfl rfl rfl rfl rfl rfl rfl ⟨rfl, rfl, rfl, rfl, rfl⟩ rfl rfl rfl rfl rfl (by kernel_rfl) func7 (by kernel_rfl)
    (of_decide_eq_true (by kernel_rfl)) (by unfold Func.isWrapper; first | (rw [if_pos (by decide +kernel)]; kernel_rfl) | (rw [if_neg (by decide +kernel)]; exact ⟨rfl, rfl⟩))
    (fun os started H enc _ F => by rw [OpenClaim.pre_eq_preRow]; exact vecHolds_lifted os started H enc F)
theorem vecHolds_plain (f : FuncId) (fn : Func) (hf : Tryz.pinned.checked.prog.funcNamed "girdle/girdlelaw07.VecHolds" = some f) (hfn : Tryz.pinned.checked.prog.funcs[f]? = some fn) :
    false = Tryz.pinned.checked.prog.looks [] ∧ ∀ (j : Nat) t, fn.params[j]? = some t → Tryz.pinned.checked.prog.wantsStandIn t = false := by
  obtain rfl : f = 7 := Option.some.inj ((show prog.funcNamed "girdle/girdlelaw07.VecHolds" = some 7 by kernel_rfl).symm.trans hf) |>.symm
  obtain rfl : fn = f7 := (Option.some.inj (func7.symm.trans hfn)).symm
  refine ⟨by kernel_rfl, fun j t ht => ?_⟩
  have hall : (f7.params.toList.all fun u => !prog.wantsStandIn u) = true := by kernel_rfl
  exact (show prog.wantsStandIn t = false by simpa using List.all_eq_true.1 hall t (by simpa using Array.mem_of_getElem? ht))
end Go.Proofs.YtojfepabmbnmnaaGreatDoor.Abs
namespace Go.Proofs.YtojfepabmbnmnaaGreatDoor
open Go Go.Proofs.YtojfepabmbnmnaaGreatDoor.Abs
/-- THE CARD. -/
theorem vecHolds_card : Rows.VecHoldsCardSaid :=
  Claim7.holds_tied_plain_at .later [] _ _ _ _ vecHolds_said (fun _ h => by cases h) (by kernel_rfl) (fun _ h => by cases h) vecHolds_row_tie rfl ⟨rfl, rfl⟩ (by kernel_rfl) rfl vecHolds_plain (by kernel_rfl)
#print axioms vecHolds_card
end Go.Proofs.YtojfepabmbnmnaaGreatDoor
