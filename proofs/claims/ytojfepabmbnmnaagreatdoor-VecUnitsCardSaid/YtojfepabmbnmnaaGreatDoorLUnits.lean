/- VecUnits: for every input the law returns true, and each argument reads afterwards as it read before. Conditions: the listed variables of the library hold what their text lays (tied by the card). -/
import Derived.Test.YtojfepabmbnmnaaGreatDoorMo
import Derived.Test.YtojfepabmbnmnaaGreatDoorMn
/- VecReckons: the walk. -/
set_option linter.unusedVariables false
set_option linter.unusedSectionVars false
set_option linter.unusedSimpArgs false
set_option maxHeartbeats 4000000
set_option maxRecDepth 20000
namespace Go.Proofs.YtojfepabmbnmnaaGreatDoor.Abs
open Go Go.RowKit Go.Proofs.Tryz
attribute [local irreducible] zMul zAdd zLeft zRight fitZ qMake zDiv dMake dLevel dRound dNear dAdd dMul dRatio dCmp dMin dMax dAbs dLess qCmp sOut qAdd qMul sAdd sMul sNear qSum sHasQ sSize vUnit vEach vDot vNear vHolds vSame qSgn

theorem okL1_q {k : Nat} {a : List RawQ} (hb : ∀ x ∈ a, RawB x) (h : okL1 k a = true) : ∃ a' : List FQ, slv a = lQ a' ∧ a'.length = k ∧ k ≤ 16 ∧ ∀ x ∈ a', sm 5 x := by
  unfold okL1 at h
  simp only [Bool.and_eq_true, decide_eq_true_eq] at h
  obtain ⟨a', h1, h2, h3⟩ := fitX_all hb h.2.2
  exact ⟨a', congrArg AV.sl h1, by omega, by omega, h3⟩
abbrev RawL (a : List RawQ) : Prop := a.length ≤ 9223372036854775807 ∧ ∀ x ∈ a, RawB x
theorem qs_get {l : List FQ} {i : Nat} (h : i < l.length) : (qs l)[i]'(by rw [qs_len]; exact h) = l[i].q := by simp [qs]
theorem zipQ {f : Rat → Rat → Rat} {r a b : List FQ} (h : qs r = List.zipWith f (qs a) (qs b)) {i : Nat} (hr : i < r.length) (ha : i < a.length) (hb : i < b.length) : r[i].q = f a[i].q b[i].q := by
  have h1 := congrArg (fun l : List Rat => l[i]?) h
  simp only [List.getElem?_zipWith] at h1
  rw [List.getElem?_eq_getElem (by rw [qs_len]; exact hr), List.getElem?_eq_getElem (by rw [qs_len]; exact ha), List.getElem?_eq_getElem (by rw [qs_len]; exact hb), qs_get hr, qs_get ha, qs_get hb] at h1
  exact Option.some.inj h1
theorem add_sub_list : ∀ {x y : List Rat}, x.length = y.length → List.zipWith (· - ·) (List.zipWith (· + ·) x y) y = x
  | [], [], _ => rfl
  | a :: x, b :: y, h => by
    have ih := add_sub_list (x := x) (y := y) (by simpa using h)
    simp only [List.zipWith_cons_cons, ih]
    congr 1
    grind
theorem cmpQ_self (x : Rat) : cmpQ x x = 0 := cmpQ_zero.2 rfl

theorem reckons_bad (a b c : List RawQ) (ha : RawL a) (hb : RawL b) (hc : RawL c) (h : fitL [a, b, c] = false ∨ 6 < a.length) : ACalls prog 3 [slv a, slv b, slv c] (boo true) := by
  have CF := c_fit a [b, c] (fun x hx => by
    simp at hx
    rcases hx with rfl | rfl | rfl
    · exact ha
    · exact hb
    · exact hc) (by simp)
  obtain ⟨f, hf⟩ : ∃ f, fitL [a, b, c] = f := ⟨_, rfl⟩
  rw [hf] at CF h
  have lenA : (((a.map rawv).length : Nat) : Int) = (a.length : Int) := by simp
  refine conN func3 rfl (by kernel_rfl) ?_
  conv => whnf
  refine callS c_points rfl rfl ?_
  conv => whnf
  refine callL [(2, 3)] [.sl [slv a, slv b, slv c]] ⟨⟨_, rfl⟩, trivial⟩ ⟨.own2 (.head _) rfl rfl rfl rfl, trivial⟩ CF rfl ?_
  conv => whnf
  cases f with
  | false =>
    conv => whnf
    exact fin rfl rfl
  | true =>
    conv => whnf
    have h2 : 6 < a.length := h.resolve_left (by simp)
    rw [lenA, decide_eq_true (by omega : (a.length : Int) > 6)]
    conv => whnf
    exact fin rfl rfl

theorem reckons_good (a b c : List FQ) (hab : a.length = b.length) (hac : a.length = c.length) (h6 : a.length ≤ 6) (sa : SzL a 160 160) (sb : SzL b 160 160) (sc : SzL c 160 160)
    (CF : ACalls prog 14 [.sl [lQ a, lQ b, lQ c]] (boo true)) : ACalls prog 3 [lQ a, lQ b, lQ c] (boo true) := by
  obtain ⟨S, s1, s2, s3, s4⟩ := vAdd_ok (t := 320) hab sa sb (by decide) (by decide) (by decide) (by decide)
  obtain ⟨D, d1, d2, d3, d4⟩ := vSub_ok (t := 481) (s2.trans hab) s4 sb (by decide) (by decide) (by decide) (by decide)
  have hD : vSame D a = true := by
    unfold vSame
    refine decide_eq_true ?_
    show qs D = qs a
    rw [d3, s3, add_sub_list (by simp [qs_len, hab])]
  obtain ⟨X, x1, x2, x3⟩ := vDot_ok (m := 481) (s2.trans hac) s4 sc (by decide) (by decide) (by decide) (by omega)
  obtain ⟨P, p1, p2, p3⟩ := vDot_ok (m := 320) hac sa sc (by decide) (by decide) (by decide) (by omega)
  obtain ⟨Q, q1, q2, q3⟩ := vDot_ok (m := 320) (hac.symm.trans hab) sc sb (by decide) (by decide) (by decide) (by omega)
  obtain ⟨Y, y1, y2, y3⟩ := qAdd_ok (t := 3848) (p3.mono (j' := 1927) (k' := 1921) (by omega) (by omega)) (q3.mono (j' := 1927) (k' := 1921) (by omega) (by omega)) (by decide) (by decide) (by decide) (by decide)
  have hXY : qCmp X Y = .ok 0 := by
    rw [qCmp_ok (x3.mono (j' := 2893) (k' := 2887) (by omega) (by omega)) y3 (by decide) (by decide)]
    have : X.q = Y.q := by
      rw [x2, y2, p2, q2, s3, dotR_add (by simp [qs_len, hab]), dotR_comm (x := qs b)]
    rw [this, cmpQ_self]
  have step : ∀ i (h1 : i < a.length), ∃ x, qAdd a[i] (b[i]'(by omega)) = .ok x ∧ qCmp x (S[i]'(by omega)) = .ok 0 := fun i hi => by
    obtain ⟨x, e1, e2, e3⟩ := qAdd_ok (t := 320) (sa a[i] (List.getElem_mem _)) (sb (b[i]'(by omega)) (List.getElem_mem _)) (by decide) (by decide) (by decide) (by decide)
    refine ⟨x, e1, ?_⟩
    rw [qCmp_ok e3 (s4 (S[i]'(by omega)) (List.getElem_mem _)) (by decide) (by decide)]
    rw [e2, zipQ s3 (by omega) hi (by omega), cmpQ_self]
  have C1 := c_vAdd a b (by omega)
  rw [s1] at C1
  have C1 : ACalls prog _ [lQ a, lQ b] (.tup [lQ S, i64 0]) := C1
  have C2 := c_vSub S b (by omega)
  rw [d1] at C2
  have C2 : ACalls prog _ [lQ S, lQ b] (.tup [lQ D, i64 0]) := C2
  have C3 := c_vSame D a (by omega)
  rw [hD] at C3
  have C4 := c_vDot S c (by omega)
  rw [x1] at C4
  have C5 := c_vDot a c (by omega)
  rw [p1] at C5
  have C6 := c_vDot c b (by omega)
  rw [q1] at C6
  have C7 := c_qAdd P Q
  rw [y1] at C7
  have C8 := c_qCompare X Y
  rw [hXY] at C8
  have lenA : (((a.map ratv).length : Nat) : Int) = (a.length : Int) := by simp
  have lenS : (((S.map ratv).length : Nat) : Int) = (a.length : Int) := by simp [s2]
  refine conN func3 rfl (by kernel_rfl) ?_
  conv => whnf
  refine callS c_points rfl rfl ?_
  conv => whnf
  refine callL [(2, 3)] [.sl [lQ a, lQ b, lQ c]] ⟨⟨_, rfl⟩, trivial⟩ ⟨.own2 (.head _) rfl rfl rfl rfl, trivial⟩ CF rfl ?_
  conv => whnf
  rw [lenA, decide_eq_false (by omega : ¬ (a.length : Int) > 6)]
  conv => whnf
  refine callS C1 rfl rfl ?_
  conv => whnf
  refine callS C2 rfl rfl ?_
  conv => whnf
  refine callS C3 rfl rfl ?_
  conv => whnf
  rw [lenA, lenS, show ((a.length : Int) != (a.length : Int)) = false by simp]
  conv => whnf
  refine ⟨Nat, fun i => i ≤ a.length, fun i => { fr := [(0, lQ a), (1, lQ b), (2, lQ c), (7, lQ S), (71, i64 a.length), (72, i64 i)], g := 9 }, fun i => a.length - i, 0, Nat.zero_le _,
    ⟨trivial, ⟨.inl ⟨.refl _, rfl⟩, .inl ⟨.refl _, rfl⟩, .inl ⟨.refl _, rfl⟩, .inl ⟨.refl _, rfl⟩, .inl ⟨.of_eq (congrArg i64 lenA), rfl⟩, .inl ⟨.refl _, rfl⟩, trivial⟩, trivial⟩, ?_⟩
  rintro i hi
  dsimp only at hi ⊢
  conv => whnf
  refine Br.mk (fun h => ?_) (fun h => ?_)
  · have hlt : i < a.length := by
      have := of_decide_eq_true h
      omega
    clear h
    have hltb : i < b.length := by omega
    have hltS : i < S.length := by omega
    obtain ⟨x, e1, e2⟩ := step i hlt
    have K1 := c_qAdd a[i] b[i]
    rw [e1] at K1
    have K2 := c_qCompare x S[i]
    rw [e2] at K2
    conv => whnf
    refine ⟨by kernel_rfl, ?_⟩
    conv => whnf
    refine ⟨ratv a[i], ⟨by omega, by simp [hlt], rfl, rfl⟩, ?_⟩
    conv => whnf
    refine ⟨ratv b[i], ⟨by omega, by simp [hltb], rfl, rfl⟩, ?_⟩
    conv => whnf
    refine callD K1 rfl rfl ?_
    conv => whnf
    refine ⟨by kernel_rfl, ?_⟩
    conv => whnf
    refine ⟨ratv S[i], ⟨by omega, by simp [hltS], rfl, rfl⟩, ?_⟩
    conv => whnf
    refine callD K2 rfl rfl ?_
    conv => whnf
    refine ⟨i + 1, hlt, ⟨trivial, ⟨.inl ⟨.refl _, rfl⟩, .inl ⟨.refl _, rfl⟩, .inl ⟨.refl _, rfl⟩, .inl ⟨.refl _, rfl⟩, .inl ⟨.refl _, rfl⟩, .inl ⟨.of_eq (congrArg i64 ?_), rfl⟩, trivial⟩, trivial⟩, by show a.length - (i + 1) < a.length - i; omega⟩
    exact (wI (n := (i : Int) + 1) (by omega) (by omega)).trans (by simp)
  · clear h
    conv => whnf
    refine callS C4 rfl rfl ?_
    conv => whnf
    refine callS C5 rfl rfl ?_
    conv => whnf
    refine callS C6 rfl rfl ?_
    conv => whnf
    refine callS C7 rfl rfl ?_
    conv => whnf
    refine callS C8 rfl rfl ?_
    conv => whnf
    exact fin rfl rfl

theorem vecReckons_c : ∀ avs, RdArgs prog 9 f3.params.toList avs → ACalls prog 3 avs (.lit (.bool true)) := by
  intro avs h
  have h : RdArgs prog 9 [22, 22, 22] avs := h
  match avs, h with
  | [x, y, z], ⟨⟨c1, r1, e1⟩, ⟨c2, r2, e2⟩, ⟨c3, r3, e3⟩, _⟩ =>
    obtain ⟨a, rfl, ha⟩ := rd_rats r1
    obtain ⟨b, rfl, hb⟩ := rd_rats r2
    obtain ⟨c, rfl, hc⟩ := rd_rats r3
    rw [mkV_one ag_rats] at e1 e2 e3
    subst e1 e2 e3
    by_cases hf : fitL [a, b, c] = true
    · have hf' : (okL1 a.length a && (okL1 a.length b && (okL1 a.length c && true))) = true := hf
      simp only [Bool.and_eq_true] at hf'
      obtain ⟨a', ea, la, la16, sa⟩ := okL1_q ha.2 hf'.1
      obtain ⟨b', eb, lb, _, sb⟩ := okL1_q hb.2 hf'.2.1
      obtain ⟨c', ec, lc, _, sc⟩ := okL1_q hc.2 hf'.2.2.1
      by_cases h6 : 6 < a.length
      · exact reckons_bad a b c ha hb hc (.inr h6)
      · have CF := c_fit a [b, c] (fun x hx => by
          simp at hx
          rcases hx with rfl | rfl | rfl
          · exact ha
          · exact hb
          · exact hc) (by simp)
        rw [hf] at CF
        have CF : ACalls prog 14 [.sl [slv a, slv b, slv c]] (boo true) := CF
        rw [ea, eb, ec] at CF
        show ACalls prog _ [slv a, slv b, slv c] _
        rw [ea, eb, ec]
        exact reckons_good a' b' c' (by omega) (by omega) (by omega) (sm_szL sa) (sm_szL sb) (sm_szL sc) CF
    · exact reckons_bad a b c ha hb hc (.inl (by simpa using hf))

end Go.Proofs.YtojfepabmbnmnaaGreatDoor.Abs

/- VecScales: the walk. -/
set_option linter.unusedVariables false
set_option linter.unusedSectionVars false
set_option linter.unusedSimpArgs false
set_option maxHeartbeats 4000000
set_option maxRecDepth 20000
namespace Go.Proofs.YtojfepabmbnmnaaGreatDoor.Abs
open Go Go.RowKit Go.Proofs.Tryz
attribute [local irreducible] zMul zAdd zLeft zRight fitZ qMake zDiv dMake dLevel dRound dNear dAdd dMul dRatio dCmp dMin dMax dAbs dLess qCmp sOut qAdd qMul sAdd sMul sNear qSum sHasQ sSize vUnit vEach vDot vNear vHolds vSame qSgn vScale

theorem scales_bad (a b : List RawQ) (x : RawQ) (ha : RawL a) (hb : RawL b) (hx : RawB x) (h : fitL [a, b] = false ∨ 6 < a.length ∨ fitL [[x]] = false) : ACalls prog 4 [slv a, slv b, rawv x] (boo true) := by
  have CF := c_fit a [b] (fun y hy => by
    simp at hy
    rcases hy with rfl | rfl
    · exact ha
    · exact hb) (by simp)
  have CG := c_fit [x] [] (fun y hy => by
    simp at hy
    subst hy
    exact ⟨by simp, by simpa using hx⟩) (by simp)
  obtain ⟨f, hf⟩ : ∃ f, fitL [a, b] = f := ⟨_, rfl⟩
  obtain ⟨g, hg⟩ : ∃ g, fitL [[x]] = g := ⟨_, rfl⟩
  rw [hf] at CF h
  rw [hg] at CG h
  have lenA : (((a.map rawv).length : Nat) : Int) = (a.length : Int) := by simp
  refine conN func4 rfl (by kernel_rfl) ?_
  conv => whnf
  refine callS c_points rfl rfl ?_
  conv => whnf
  refine callL [(2, 2)] [.sl [slv a, slv b]] ⟨⟨_, rfl⟩, trivial⟩ ⟨.own2 (.head _) rfl rfl rfl rfl, trivial⟩ CF rfl ?_
  conv => whnf
  cases f with
  | false =>
    conv => whnf
    exact fin rfl rfl
  | true =>
    conv => whnf
    rw [lenA]
    by_cases h6 : 6 < a.length
    · rw [decide_eq_true (by omega : (a.length : Int) > 6)]
      conv => whnf
      exact fin rfl rfl
    · rw [decide_eq_false (by omega : ¬ (a.length : Int) > 6)]
      have hg0 : g = false := by
        rcases h with h | h | h
        · cases h
        · exact absurd h h6
        · exact h
      subst hg0
      conv => whnf
      refine callL [(2, 12), (2, 13)] [.sl [slv [x]]] ⟨⟨_, rfl⟩, ⟨_, rfl⟩, trivial⟩ ⟨.own _ _ _ [slv [x]] (.tail _ (.head _)) rfl rfl rfl (fun j u v hu hv => ?_), trivial⟩ CG rfl ?_
      · cases j with
        | zero =>
          cases hu
          cases hv
          exact .own2 (.head _) rfl rfl rfl rfl
        | succ j => cases hv
      conv => whnf
      exact fin rfl rfl

theorem mul_one_list (x : List Rat) : x.map (· * (1 : Rat)) = x := by
  rw [show (fun y : Rat => y * 1) = id from funext Rat.mul_one, List.map_id]
theorem mul_zero_list (x : List Rat) : x.map (· * (0 : Rat)) = List.replicate x.length 0 := by
  rw [show (fun y : Rat => y * 0) = (fun _ => (0 : Rat)) from funext Rat.mul_zero, List.map_const']
theorem one_q : (qOf 1 1).q = 1 := by kernel_rfl
theorem scales_good (a b : List FQ) (c : FQ) (hab : a.length = b.length) (h6 : a.length ≤ 6) (sa : SzL a 160 160) (sb : SzL b 160 160) (sc : Sz c.q 160 160)
    (CF : ACalls prog 14 [.sl [lQ a, lQ b]] (boo true)) (CG : ACalls prog 14 [.sl [lQ [c]]] (boo true)) : ACalls prog 4 [lQ a, lQ b, rat c.q] (boo true) := by
  obtain ⟨S, s1, s2, s3, s4⟩ := vScale_ok sa sc (by decide) (by decide)
  obtain ⟨O, o1, o2, o3, o4⟩ := vScale_ok (c := qOf 1 1) sa sz_one (by decide) (by decide)
  obtain ⟨Z, z1, z2, z3, z4⟩ := vScale_ok (c := q0) sa sz_zero (by decide) (by decide)
  obtain ⟨P, p1, p2, p3⟩ := vDot_ok (m := 320) hab sa sb (by decide) (by decide) (by decide) (by omega)
  obtain ⟨Q, q1, q2, q3⟩ := vDot_ok (m := 480) (s2.trans hab) s4 sb (by decide) (by decide) (by decide) (by omega)
  obtain ⟨R, r1, r2, r3⟩ := qMul_ok (p3.mono (j' := 1927) (k' := 1921) (by omega) (by omega)) sc (by decide) (by decide)
  have hQR : qCmp Q R = .ok 0 := by
    rw [qCmp_ok (q3.mono (j' := 2887) (k' := 2881) (by omega) (by omega)) r3 (by decide) (by decide)]
    have : Q.q = R.q := by rw [q2, r2, p2, s3, dotR_scale]
    rw [this, cmpQ_self]
  have hO : vSame O a = true := by
    unfold vSame
    refine decide_eq_true ?_
    show qs O = qs a
    rw [o3, one_q, mul_one_list]
  have hcl : clampN (a.length : Int) = a.length := by have := clampN_in (n := (a.length : Int)) (by omega) (by omega); omega
  have hZ : vSame Z (List.replicate a.length q0) = true := by
    unfold vSame
    refine decide_eq_true ?_
    show qs Z = (List.replicate a.length q0).map FQ.q
    rw [z3, List.map_replicate]
    show (qs a).map (· * (0 : Rat)) = List.replicate a.length 0
    rw [mul_zero_list, qs_len]
  have C1 := c_vScale a c (by omega)
  rw [s1] at C1
  have C1 : ACalls prog _ [lQ a, rat c.q] (.tup [lQ S, i64 0]) := C1
  have C2 := c_vScale a (qOf 1 1) (by omega)
  rw [o1] at C2
  have C2 : ACalls prog _ [lQ a, rat (qOf 1 1).q] (.tup [lQ O, i64 0]) := C2
  have C3 := c_vScale a q0 (by omega)
  rw [z1] at C3
  have C3 : ACalls prog _ [lQ a, rat q0.q] (.tup [lQ Z, i64 0]) := C3
  have C4 := c_vDot a b (by omega)
  rw [p1] at C4
  have C5 := c_vDot S b (by omega)
  rw [q1] at C5
  have C6 := c_qMul P c
  rw [r1] at C6
  have C7 := c_qCompare Q R
  rw [hQR] at C7
  have C8 := c_vSame O a (by omega)
  rw [hO] at C8
  have C9 := c_vZero (a.length : Int)
  rw [hcl] at C9
  have C10 := c_vSame Z (List.replicate a.length q0) (by omega)
  rw [hZ] at C10
  have lenA : (((a.map ratv).length : Nat) : Int) = (a.length : Int) := by simp
  refine conN func4 rfl (by kernel_rfl) ?_
  conv => whnf
  refine callS c_points rfl rfl ?_
  conv => whnf
  refine callL [(2, 2)] [.sl [lQ a, lQ b]] ⟨⟨_, rfl⟩, trivial⟩ ⟨.own2 (.head _) rfl rfl rfl rfl, trivial⟩ CF rfl ?_
  conv => whnf
  rw [lenA, decide_eq_false (by omega : ¬ (a.length : Int) > 6)]
  conv => whnf
  refine callL [(2, 12), (2, 13)] [.sl [lQ [c]]] ⟨⟨_, rfl⟩, ⟨_, rfl⟩, trivial⟩ ⟨.own _ _ _ [lQ [c]] (.tail _ (.head _)) rfl rfl rfl (fun j u v hu hv => ?_), trivial⟩ CG rfl ?_
  · cases j with
    | zero =>
      cases hu
      cases hv
      exact .own2 (.head _) rfl rfl rfl rfl
    | succ j => cases hv
  conv => whnf
  refine callS C1 rfl rfl ?_
  conv => whnf
  refine callS (c_qOf 1 1 (by decide) (by decide) (by decide) (by decide)) rfl rfl ?_
  conv => whnf
  refine callS C2 rfl rfl ?_
  conv => whnf
  refine callS c_qZero rfl rfl ?_
  conv => whnf
  refine callS C3 rfl rfl ?_
  conv => whnf
  refine callS C4 rfl rfl ?_
  conv => whnf
  refine callS C5 rfl rfl ?_
  conv => whnf
  refine callS C6 rfl rfl ?_
  conv => whnf
  refine callS C7 rfl rfl ?_
  conv => whnf
  refine callS C8 rfl rfl ?_
  conv => whnf
  rw [lenA]
  refine callS C9 rfl rfl ?_
  conv => whnf
  refine callS C10 rfl rfl ?_
  conv => whnf
  exact fin rfl rfl

theorem vecScales_c : ∀ avs, RdArgs prog 9 f4.params.toList avs → ACalls prog 4 avs (.lit (.bool true)) := by
  intro avs h
  have h : RdArgs prog 9 [22, 22, 34] avs := h
  match avs, h with
  | [x, y, z], ⟨⟨c1, r1, e1⟩, ⟨c2, r2, e2⟩, ⟨c3, r3, e3⟩, _⟩ =>
    obtain ⟨a, rfl, ha⟩ := rd_rats r1
    obtain ⟨b, rfl, hb⟩ := rd_rats r2
    obtain ⟨c, hc, _, hcb⟩ := rd_rat r3
    rw [mkV_one ag_rats] at e1 e2
    rw [hc] at e3
    subst e1 e2 e3
    by_cases hf : fitL [a, b] = true
    · have hf' : (okL1 a.length a && (okL1 a.length b && true)) = true := hf
      simp only [Bool.and_eq_true] at hf'
      obtain ⟨a', ea, la, la16, sa⟩ := okL1_q ha.2 hf'.1
      obtain ⟨b', eb, lb, _, sb⟩ := okL1_q hb.2 hf'.2.1
      by_cases h6 : 6 < a.length
      · exact scales_bad a b c ha hb hcb (.inr (.inl h6))
      · by_cases hg : fitL [[c]] = true
        · have CF := c_fit a [b] (fun x hx => by
            simp at hx
            rcases hx with rfl | rfl
            · exact ha
            · exact hb) (by simp)
          rw [hf] at CF
          have CF : ACalls prog 14 [.sl [slv a, slv b]] (boo true) := CF
          have hg' : (okL1 1 [c] && true) = true := hg
          unfold okL1 at hg'
          simp only [Bool.and_eq_true] at hg'
          have hg2 : (fitX c && true) = true := hg'.1.2.2
          rw [Bool.and_true] at hg2
          obtain ⟨c', ec, sc⟩ := fitX_q hcb hg2
          have CG := c_fit [c] [] (fun y hy => by
            simp at hy
            subst hy
            exact ⟨by simp, by simpa using hcb⟩) (by simp)
          rw [hg] at CG
          subst ec
          have CG : ACalls prog 14 [.sl [lQ [c']]] (boo true) := CG
          rw [ea, eb] at CF
          show ACalls prog _ [slv a, slv b, rat c'.q] _
          rw [ea, eb]
          exact scales_good a' b' c' (by omega) (by omega) (sm_szL sa) (sm_szL sb) (sm_sz sc) CF CG
        · exact scales_bad a b c ha hb hcb (.inr (.inr (by simpa using hg)))
    · exact scales_bad a b c ha hb hcb (.inl (by simpa using hf))

end Go.Proofs.YtojfepabmbnmnaaGreatDoor.Abs

/- VecUnits: the walk. -/
set_option linter.unusedVariables false
set_option linter.unusedSectionVars false
set_option linter.unusedSimpArgs false
set_option maxHeartbeats 4000000
set_option maxRecDepth 20000
namespace Go.Proofs.YtojfepabmbnmnaaGreatDoor.Abs
open Go Go.RowKit Go.Proofs.Tryz
attribute [local irreducible] zMul zAdd zLeft zRight fitZ qMake zDiv dMake dLevel dRound dNear dAdd dMul dRatio dCmp dMin dMax dAbs dLess qCmp sOut qAdd qMul sAdd sMul sNear qSum sHasQ sSize vEach vDot vNear vHolds vSame qSgn vScale

theorem units_bad (a : List RawQ) (ha : RawL a) (h : fitL [a] = false) : ACalls prog 6 [slv a] (boo true) := by
  have CF := c_fit a [] (fun y hy => by simp at hy; subst hy; exact ha) (by simp)
  rw [h] at CF
  refine conN func6 rfl (by kernel_rfl) ?_
  conv => whnf
  refine callS c_points rfl rfl ?_
  conv => whnf
  refine callL [(2, 1)] [.sl [slv a]] ⟨⟨_, rfl⟩, trivial⟩ ⟨.own2 (.head _) rfl rfl rfl rfl, trivial⟩ CF rfl ?_
  conv => whnf
  exact fin rfl rfl

theorem unit_qs {n i : Nat} (hi : i < n) (hn : n ≤ 16) : qs (vUnit (n : Int) (i : Int)) = (List.replicate n (0 : Rat)).set i 1 := by
  have hc := clampN_in (n := (n : Int)) (by omega) (by omega)
  have hc2 : clampN (n : Int) = n := by omega
  unfold vUnit
  rw [if_pos (by omega), hc2]
  unfold qs
  rw [List.map_set, List.map_replicate, one_q]
  rfl
theorem dotR_unit : ∀ {x : List Rat} {i : Nat} (h : i < x.length), dotR x ((List.replicate x.length (0 : Rat)).set i 1) = x[i]
  | a :: x, 0, h => by
    have hz : ∀ y : List Rat, dotR y (List.replicate y.length (0 : Rat)) = 0 := fun y => by
      induction y with
      | nil => rfl
      | cons b y ih =>
        simp only [dotR, List.length_cons, List.replicate_succ, List.zipWith_cons_cons, sumQ] at ih ⊢
        rw [ih]
        grind
    have := hz x
    simp only [dotR, List.length_cons, List.replicate_succ, List.set_cons_zero, List.zipWith_cons_cons, sumQ, List.getElem_cons_zero] at this ⊢
    rw [this]
    grind
  | a :: x, i + 1, h => by
    have ih := dotR_unit (x := x) (i := i) (by simpa using h)
    simp only [dotR, List.length_cons, List.replicate_succ, List.set_cons_succ, List.zipWith_cons_cons, sumQ, List.getElem_cons_succ] at ih ⊢
    rw [ih]
    grind
/-- So far summed up. -/
def upTo (x : List Rat) (i : Nat) : List Rat := x.take i ++ List.replicate (x.length - i) 0
theorem upTo_len {x : List Rat} {i : Nat} (h : i ≤ x.length) : (upTo x i).length = x.length := by simp [upTo]; omega
theorem upTo_step {x : List Rat} {i : Nat} (h : i < x.length) : List.zipWith (· + ·) (upTo x i) (((List.replicate x.length (0 : Rat)).set i 1).map (· * x[i])) = upTo x (i + 1) := by
  apply List.ext_getElem?
  intro k
  by_cases hk : k < x.length
  · rw [List.getElem?_zipWith, List.getElem?_map, List.getElem?_set]
    unfold upTo
    rw [List.getElem?_append, List.getElem?_append, List.getElem?_take, List.getElem?_take]
    simp only [List.length_take, List.getElem?_replicate]
    by_cases h1 : k < i
    · rw [if_pos (by omega), if_pos h1, if_neg (by omega), if_pos hk, if_pos (by omega), if_pos (by omega), List.getElem?_eq_getElem hk]
      simp [Rat.zero_mul, Rat.add_zero]
    · by_cases h2 : i = k
      · subst h2
        rw [if_neg (by omega), if_pos (by omega), if_pos rfl, if_pos (by simpa using h), if_pos (by omega), if_pos (by omega), List.getElem?_eq_getElem hk]
        simp [Rat.zero_add, Rat.one_mul]
      · rw [if_neg (by omega), if_pos (by omega), if_neg h2, if_pos hk, if_neg (by omega), if_pos (by omega)]
        simp [Rat.zero_mul, Rat.add_zero]
  · rw [List.getElem?_eq_none (by simp [upTo]; omega), List.getElem?_eq_none (by simp [upTo]; omega)]
theorem dotR_unit' {x : List Rat} {n i : Nat} {v : Rat} (hn : x.length = n) (hv : x[i]? = some v) : dotR x ((List.replicate n (0 : Rat)).set i 1) = v := by
  subst hn
  obtain ⟨h, rfl⟩ := List.getElem?_eq_some_iff.1 hv
  exact dotR_unit h
theorem upTo_step' {x : List Rat} {n i : Nat} {v : Rat} (hn : x.length = n) (hv : x[i]? = some v) : List.zipWith (· + ·) (upTo x i) (((List.replicate n (0 : Rat)).set i 1).map (· * v)) = upTo x (i + 1) := by
  subst hn
  obtain ⟨h, rfl⟩ := List.getElem?_eq_some_iff.1 hv
  exact upTo_step h
theorem upTo_sz {l : List FQ} {i : Nat} {A : List FQ} (h : qs A = upTo (qs l) i) (hs : SzL l 160 160) : SzL A 160 160 := by
  intro x hx
  have hm : x.q ∈ qs A := List.mem_map.2 ⟨x, hx, rfl⟩
  rw [h] at hm
  unfold upTo at hm
  rcases List.mem_append.1 hm with hm | hm
  · obtain ⟨y, hy, e⟩ := List.mem_map.1 (List.mem_of_mem_take hm)
    rw [← e]
    exact hs y hy
  · rw [(List.mem_replicate.1 hm).2]
    exact ⟨by decide +kernel, by decide +kernel⟩

theorem units_good (a : List FQ) (h16 : a.length ≤ 16) (sa : SzL a 160 160) (CF : ACalls prog 14 [.sl [lQ a]] (boo true)) : ACalls prog 6 [lQ a] (boo true) := by
  have hcl : clampN (a.length : Int) = a.length := by have := clampN_in (n := (a.length : Int)) (by omega) (by omega); omega
  have CZ := c_vZero (a.length : Int)
  rw [hcl] at CZ
  have lenA : (((a.map ratv).length : Nat) : Int) = (a.length : Int) := by simp
  have step : ∀ (i : Nat) (A : List FQ), i < a.length → A.length = a.length → qs A = upTo (qs a) i → ∃ (y : FQ) (S A' : List FQ), vDot a (vUnit a.length i) = .ok y ∧ (∀ h : i < a.length, qCmp a[i] y = .ok 0) ∧ (∀ h : i < a.length, vScale (vUnit a.length i) a[i] = .ok S) ∧ vEach qAdd A S = .ok A' ∧ A'.length = a.length ∧ qs A' = upTo (qs a) (i + 1) := fun i A hi hA hq => by
    have hu : (vUnit (a.length : Int) (i : Int)).length = a.length := by rw [vUnit_len, hcl]
    have hus := unit_qs hi h16
    obtain ⟨y, y1, y2, y3⟩ := vDot_ok (m := 161) hu.symm sa (vUnit_sz _ _) (by decide) (by decide) (by decide) (by omega)
    obtain ⟨S, s1, s2, s3, s4⟩ := vScale_ok (c := a[i]) (vUnit_sz (a.length : Int) (i : Int)) (sa _ (List.getElem_mem _)) (by decide) (by decide)
    have sA := upTo_sz hq sa
    obtain ⟨A', t1, t2, t3, t4⟩ := vAdd_ok (t := 321) (hA.trans (hu.symm.trans s2.symm)) sA s4 (by decide) (by decide) (by decide) (by decide)
    refine ⟨y, S, A', y1, fun h => ?_, fun h => s1, t1, t2.trans hA, ?_⟩
    · rw [qCmp_ok (sa a[i] (List.getElem_mem _)) (y3.mono (j' := 2593) (k' := 2593) (by omega) (by omega)) (by decide) (by decide)]
      have : y.q = a[i].q := by
        rw [y2, hus]
        exact dotR_unit' (qs_len a) (by simp [qs, h])
      rw [this, cmpQ_self]
    · rw [t3, hq, s3, hus]
      exact upTo_step' (qs_len a) (by simp [qs, hi])
  refine conN func6 rfl (by kernel_rfl) ?_
  conv => whnf
  refine callS c_points rfl rfl ?_
  conv => whnf
  refine callL [(2, 1)] [.sl [lQ a]] ⟨⟨_, rfl⟩, trivial⟩ ⟨.own2 (.head _) rfl rfl rfl rfl, trivial⟩ CF rfl ?_
  conv => whnf
  rw [lenA]
  refine callS CZ rfl rfl ?_
  conv => whnf
  refine ⟨Nat × List FQ, fun q => q.1 ≤ a.length ∧ q.2.length = a.length ∧ qs q.2 = upTo (qs a) q.1, fun q => { fr := [(0, lQ a), (3, lQ q.2), (23, lQ a), (24, i64 a.length), (25, i64 q.1)], g := 9 }, fun q => a.length - q.1, (0, List.replicate a.length q0), ⟨Nat.zero_le _, by simp, ?_⟩,
    ⟨trivial, ⟨.inl ⟨.refl _, rfl⟩, .inl ⟨.refl _, rfl⟩, .inl ⟨.refl _, rfl⟩, .inl ⟨.of_eq (congrArg i64 lenA), rfl⟩, .inl ⟨.refl _, rfl⟩, trivial⟩, trivial⟩, ?_⟩
  · show (List.replicate a.length q0).map FQ.q = [] ++ List.replicate ((qs a).length - 0) 0
    rw [List.map_replicate, qs_len]
    rfl
  rintro ⟨i, A⟩ ⟨h1, h2, h3⟩
  dsimp only at h1 h2 h3 ⊢
  conv => whnf
  refine Br.mk (fun h => ?_) (fun h => ?_)
  · have hlt : i < a.length := by
      have := of_decide_eq_true h
      omega
    clear h
    obtain ⟨y, S, A', k1, k2, k3, k4, k5, k6⟩ := step i A hlt h2 h3
    have k2 := k2 hlt
    have k3 := k3 hlt
    have C1 := c_vUnit (a.length : Int) (i : Int)
    obtain ⟨U, hU⟩ : ∃ U, vUnit (a.length : Int) (i : Int) = U := ⟨_, rfl⟩
    rw [hU] at C1 k1 k3
    have lU : U.length < 1000000 := by rw [← hU, vUnit_len, hcl]; omega
    have C2 := c_vDot a U (by omega)
    rw [k1] at C2
    have C3 := c_qCompare a[i] y
    rw [k2] at C3
    have C4 := c_vScale U a[i] lU
    rw [k3] at C4
    have C4 : ACalls prog _ [lQ U, rat a[i].q] (.tup [lQ S, i64 0]) := C4
    have C5 := c_vAdd A S (by omega)
    rw [k4] at C5
    have C5 : ACalls prog _ [lQ A, lQ S] (.tup [lQ A', i64 0]) := C5
    conv => whnf
    refine ⟨ratv a[i], ⟨by omega, by simp [hlt], rfl, rfl⟩, ?_⟩
    conv => whnf
    rw [lenA]
    refine callS C1 rfl rfl ?_
    conv => whnf
    refine callS C2 rfl rfl ?_
    conv => whnf
    refine callS C3 rfl rfl ?_
    conv => whnf
    refine callS C4 rfl rfl ?_
    conv => whnf
    refine callS C5 rfl rfl ?_
    conv => whnf
    refine ⟨(i + 1, A'), ⟨hlt, k5, k6⟩, ⟨trivial, ⟨.inl ⟨.refl _, rfl⟩, .inl ⟨.refl _, rfl⟩, .inl ⟨.refl _, rfl⟩, .inl ⟨.refl _, rfl⟩, .inl ⟨.of_eq (congrArg i64 ?_), rfl⟩, trivial⟩, trivial⟩, by show a.length - (i + 1) < a.length - i; omega⟩
    exact (wI (n := (i : Int) + 1) (by omega) (by omega)).trans (by simp)
  · have he : i = a.length := by
      have := of_decide_eq_false h
      omega
    clear h
    have hS : vSame A a = true := by
      unfold vSame
      refine decide_eq_true ?_
      show qs A = qs a
      rw [h3, he]
      unfold upTo
      rw [List.take_of_length_le (by rw [qs_len]; omega), qs_len, Nat.sub_self]
      exact List.append_nil _
    have CS := c_vSame A a (by omega)
    rw [hS] at CS
    conv => whnf
    refine callS CS rfl rfl ?_
    conv => whnf
    exact fin rfl rfl

theorem vecUnits_c : ∀ avs, RdArgs prog 9 f6.params.toList avs → ACalls prog 6 avs (.lit (.bool true)) := by
  intro avs h
  have h : RdArgs prog 9 [22] avs := h
  match avs, h with
  | [x], ⟨⟨c1, r1, e1⟩, _⟩ =>
    obtain ⟨a, rfl, ha⟩ := rd_rats r1
    rw [mkV_one ag_rats] at e1
    subst e1
    by_cases hf : fitL [a] = true
    · have hf' : (okL1 a.length a && true) = true := hf
      simp only [Bool.and_eq_true] at hf'
      obtain ⟨a', ea, la, la16, sa⟩ := okL1_q ha.2 hf'.1
      have CF := c_fit a [] (fun y hy => by simp at hy; subst hy; exact ha) (by simp)
      rw [hf] at CF
      have CF : ACalls prog 14 [.sl [slv a]] (boo true) := CF
      rw [ea] at CF
      show ACalls prog _ [slv a] _
      rw [ea]
      exact units_good a' (by omega) (sm_szL sa) CF
    · exact units_bad a ha (by simpa using hf)

end Go.Proofs.YtojfepabmbnmnaaGreatDoor.Abs

/- VecUnits: for every input the law returns true, and each argument reads afterwards as it read before. Conditions: the listed variables of the library hold what their text lays (tied by the card). -/
set_option linter.unusedVariables false
namespace Go.Proofs.YtojfepabmbnmnaaGreatDoor.Abs
open Go Go.RowKit Go.ChangeShapes Go.WideShapes Go.ChangeAt Go.Proofs.Tryz

theorem vecUnits_laid {W : World} (h : laidMetH prog Rows.vecUnitsRow.laid W) : GOk (fun b => b < W.heap.size) W :=
  gok_of_tab (Lib.tabIs_of_head gDb gDbT underlying184 underlying5 cU8 cDb h)
theorem vecUnits_met (os : Os) : laidMet prog Rows.vecUnitsRow.laid ((laidWorld os).forCall (fun _ _ => 0) ⟨#[], #[.slice none 0 0], []⟩).memory :=
  laidMet_of_run' 8 (by kernel_rfl) (by kernel_rfl)
theorem vecUnits_reads (os : Os) {H : Type} (enc : TypeId × Value → H) : ∃ x places, DataW.whole enc prog ((laidWorld os).forCall (fun _ _ => 0) ⟨#[], #[.slice none 0 0], []⟩).memory f6.params.toList Rows.vecUnitsSpec.vars false (#[.slice none 0 0] : Array Value).toList 8 = some (x, [], places) :=
  ⟨[.nil], [], by kernel_rfl⟩
set_option maxRecDepth 100000 in
theorem vecUnits_lifted (os : Os) (started : os.Started) (H : Type) (enc : TypeId × Value → H) (F : Stop.Interp) :
    ReturnsInHanded {} checked os 6 .any ((OpenSpec.ofChange Rows.vecUnitsSpec).preRow enc prog f6 Rows.vecUnitsRow.domain false Rows.vecUnitsRow.laid) (((OpenSpec.ofChange Rows.vecUnitsSpec).at F).post enc prog f6 false true false false) := by
  obtain ⟨x, places, hx⟩ := vecUnits_reads os enc
  refine returnsInHanded_of_row (C := checked) (s := OpenSpec.ofChange Rows.vecUnitsSpec) ownK started (by kernel_rfl) func6
    (witness_row_at (enc := enc) (C := checked) false (laidWorld os) #[.slice none 0 0] rfl (by kernel_rfl) (by kernel_rfl) (by kernel_rfl)
      (OpenSpec.preRow_of_cond 8 hx (by kernel_rfl) (fun k hk => by cases hk) (by kernel_rfl) (vecUnits_met os))) ?_
  intro W base args ds gs before hval hW _ _ _ hL _ _
  exact bridge (n := 9) laidOutP (by kernel_rfl) rfl (fun ds hd => by
    match ds, hd with
    | [_], _ => rfl) rfl underlying4 vecUnits_c hval hW (vecUnits_laid hL)
theorem vecUnits_said : Rows.VecUnitsSaid :=
  OpenClaim.holds_of_cond 6 f6 rfl rfl rfl rfl rfl rfl rfl ⟨rfl, rfl, rfl, rfl, rfl⟩ rfl rfl rfl rfl rfl (by kernel_rfl) func6 (by kernel_rfl)
    (of_decide_eq_true (by kernel_rfl)) (by unfold Func.isWrapper; first | (rw [if_pos (by decide +kernel)]; kernel_rfl) | (rw [if_neg (by decide +kernel)]; exact ⟨rfl, rfl⟩))
    (fun os started H enc _ F => by rw [OpenClaim.pre_eq_preRow]; exact vecUnits_lifted os started H enc F)
theorem vecUnits_plain (f : FuncId) (fn : Func) (hf : Tryz.pinned.checked.prog.funcNamed "girdle/girdlelaw07.VecUnits" = some f) (hfn : Tryz.pinned.checked.prog.funcs[f]? = some fn) :
    false = Tryz.pinned.checked.prog.looks [] ∧ ∀ (j : Nat) t, fn.params[j]? = some t → Tryz.pinned.checked.prog.wantsStandIn t = false := by
  obtain rfl : f = 6 := Option.some.inj ((show prog.funcNamed "girdle/girdlelaw07.VecUnits" = some 6 by kernel_rfl).symm.trans hf) |>.symm
  obtain rfl : fn = f6 := (Option.some.inj (func6.symm.trans hfn)).symm
  refine ⟨by kernel_rfl, fun j t ht => ?_⟩
  have hall : (f6.params.toList.all fun u => !prog.wantsStandIn u) = true := by kernel_rfl
  exact (show prog.wantsStandIn t = false by simpa using List.all_eq_true.1 hall t (by simpa using Array.mem_of_getElem? ht))
end Go.Proofs.YtojfepabmbnmnaaGreatDoor.Abs
namespace Go.Proofs.YtojfepabmbnmnaaGreatDoor
open Go Go.Proofs.YtojfepabmbnmnaaGreatDoor.Abs
/-- THE CARD. -/
theorem vecUnits_card : Rows.VecUnitsCardSaid :=
  Claim7.holds_tied_plain_at .later [] _ _ _ _ vecUnits_said (fun _ h => by cases h) (by kernel_rfl) (fun _ h => by cases h) vecUnits_row_tie rfl ⟨rfl, rfl⟩ (by kernel_rfl) rfl vecUnits_plain (by kernel_rfl)
#print axioms vecUnits_card
end Go.Proofs.YtojfepabmbnmnaaGreatDoor
