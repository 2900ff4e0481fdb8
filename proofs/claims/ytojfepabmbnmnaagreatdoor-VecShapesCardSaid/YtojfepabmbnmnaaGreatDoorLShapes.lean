/- VecShapes: for every input the law returns true, and each argument reads afterwards as it read before. Conditions: the listed variables of the library hold what their text lays (tied by the card). -/
import Derived.Test.YtojfepabmbnmnaaGreatDoorMo
import Derived.Test.YtojfepabmbnmnaaGreatDoorMn
/- VecShapes: the walk. -/
set_option linter.unusedVariables false
set_option linter.unusedSectionVars false
set_option linter.unusedSimpArgs false
set_option maxHeartbeats 4000000
set_option maxRecDepth 20000
namespace Go.Proofs.YtojfepabmbnmnaaGreatDoor.Abs
open Go Go.RowKit Go.Proofs.Tryz
attribute [local irreducible] zMul zAdd zLeft zRight fitZ qMake zDiv dMake dLevel dRound dNear dAdd dMul dRatio dCmp dMin dMax dAbs dLess qCmp sOut qAdd qMul sAdd sMul sNear qSum sHasQ sSize vUnit vEach vDot vNear vHolds vSame qSgn

/-- Lists that fit are lists of ratios. -/
theorem fitL_one {a : List RawQ} (hb : ∀ x ∈ a, RawB x) (h : fitL [a] = true) : ∃ a' : List FQ, slv a = lQ a' ∧ a'.length ≤ 16 ∧ ∀ x ∈ a', sm 5 x := by
  have h : (okL1 a.length a && true) = true := h
  unfold okL1 at h
  simp only [Bool.and_eq_true, decide_eq_true_eq] at h
  obtain ⟨a', h1, h2, h3⟩ := fitX_all hb h.1.2.2
  exact ⟨a', congrArg AV.sl h1, by omega, h3⟩

theorem shapes_bad (n at' : Int) (a : List RawQ) (hb : a.length ≤ 9223372036854775807 ∧ ∀ x ∈ a, RawB x) (h : fitL [a] = false ∨ n < 0 ∨ n > 16) :
    ACalls prog 5 [i64 n, i64 at', slv a] (boo true) := by
  have CF := c_fit a [] (fun x hx => by simp at hx; subst hx; exact hb) (by simp)
  obtain ⟨f, hf⟩ : ∃ f, fitL [a] = f := ⟨_, rfl⟩
  rw [hf] at CF h
  refine conN func5 rfl (by kernel_rfl) ?_
  conv => whnf
  refine callS c_points rfl rfl ?_
  conv => whnf
  refine callL [(2, 1)] [.sl [slv a]] ⟨⟨_, rfl⟩, trivial⟩ ⟨.own2 (.head _) rfl rfl rfl rfl, trivial⟩ CF rfl ?_
  conv => whnf
  cases f with
  | false =>
    conv => whnf
    exact fin rfl rfl
  | true =>
    conv => whnf
    by_cases h1 : n < 0
    · rw [decide_eq_true h1]
      conv => whnf
      exact fin rfl rfl
    · have h2 : n > 16 := by
        rcases h with h | h | h
        · cases h
        · exact absurd h h1
        · exact h
      rw [decide_eq_false h1]
      conv => whnf
      rw [decide_eq_true h2]
      conv => whnf
      exact fin rfl rfl

theorem shapes_good (n at' : Int) (a : List FQ) (h0 : 0 ≤ n) (h16 : n ≤ 16) (hl : a.length ≤ 16) (hs : ∀ x ∈ a, sm 5 x) (CF : ACalls prog 14 [.sl [lQ a]] (boo true)) :
    ACalls prog 5 [i64 n, i64 at', lQ a] (boo true) := by
  obtain ⟨U, hU⟩ : ∃ U, vUnit n at' = U := ⟨_, rfl⟩
  have CU := c_vUnit n at'
  have lU : (U.length : Int) = n := by rw [← hU, vUnit_len, clampN_in h0 h16]
  have sU : SzL U 1 1 := by rw [← hU]; exact vUnit_sz n at'
  have gU : ∀ (i : Nat) (x : FQ), U[i]? = some x → (qSgn x != 0) = ((i : Int) == at') := fun i x hx => vUnit_sgn (by rw [hU]; exact hx)
  rw [hU] at CU
  have hU6 : U.length < 1000000 := by omega
  have sA : SzL a 160 160 := sm_szL (k := 5) hs
  have CK := c_vCheckQ U n hU6
  rw [if_neg (by omega)] at CK
  have CK2 := c_vCheckQ a n (by omega)
  obtain ⟨V, v1, v2, v3⟩ := vNear_ok (l := U) (bits := 5) (by decide) sU (by decide) (by decide)
  have CN := c_vNear U 5 ⟨by decide, by decide⟩ hU6
  rw [v1] at CN
  have sV : ∀ s ∈ V, SGr 3 6 s := fun s hs => by
    obtain ⟨i, hi, rfl⟩ := List.mem_iff_getElem.1 hs
    have hiU : i < U.length := by omega
    exact (v3 i U[i] V[i] (by simp [hiU]) (by simp [hi])).1
  obtain ⟨x1, e1, C1, hx1, he1⟩ := varT (c_vAdd U a hU6)
  obtain ⟨x2, e2, C2, hx2, he2⟩ := varT (c_vDot U a hU6)
  obtain ⟨x3, e3, C3, hx3, he3⟩ := varT (c_vSub a U (by omega))
  obtain ⟨x4, e4, C4, hx4, he4⟩ := varT (c_vHolds V a (by omega))
  obtain ⟨sb, CS, hsb⟩ : ∃ sb, ACalls prog 17 [lQ U, lQ a] (boo sb) ∧ vSame U a = sb := ⟨_, c_vSame U a hU6, rfl⟩
  have good : U.length = a.length → e1 = 0 ∧ e2 = 0 ∧ e3 = 0 ∧ e4 = 0 := fun hab => by
    obtain ⟨r1, q1, _⟩ := vAdd_ok (t := 161) hab sU sA (by decide) (by decide) (by decide) (by decide)
    obtain ⟨r2, q2, _⟩ := vDot_ok (m := 161) hab sU sA (by decide) (by decide) (by decide) (by omega)
    obtain ⟨r3, q3, _⟩ := vSub_ok (t := 161) hab.symm sA sU (by decide) (by decide) (by decide) (by decide)
    obtain ⟨r4, q4⟩ := vHolds_run (a := V) (x := a) (by omega) sV sA (by decide) (by decide)
    rw [q1] at he1
    rw [q2] at he2
    rw [q3] at he3
    rw [q4] at he4
    exact ⟨he1.symm, he2.symm, he3.symm, he4.symm⟩
  have bad : U.length ≠ a.length → e1 = 20 ∧ e2 = 20 ∧ e3 = 20 ∧ e4 = 20 ∧ sb = false := fun hab => by
    have q1 : vEach qAdd U a = .error eShape := by unfold vEach; rw [if_pos hab]
    have q2 : vDot U a = .error eShape := by unfold vDot vEach; rw [if_pos hab]; rfl
    have q3 : vEach qSub a U = .error eShape := by unfold vEach; rw [if_pos (fun e => hab e.symm)]
    have q4 : vHolds V a = .error eShape := by unfold vHolds; rw [if_pos (by omega)]
    rw [q1] at he1
    rw [q2] at he2
    rw [q3] at he3
    rw [q4] at he4
    refine ⟨he1.symm, he2.symm, he3.symm, he4.symm, ?_⟩
    rw [← hsb]
    unfold vSame
    exact decide_eq_false fun e => hab (by have := congrArg List.length e; simpa using this)
  have lenU : (((U.map ratv).length : Nat) : Int) = n := by rw [List.length_map]; exact lU
  have lenA : (((a.map ratv).length : Nat) : Int) = (a.length : Int) := by simp
  clear hx1 he1 hx2 he2 hx3 he3 hx4 he4 hsb
  refine conN func5 rfl (by kernel_rfl) ?_
  conv => whnf
  refine callS c_points rfl rfl ?_
  conv => whnf
  refine callL [(2, 1)] [.sl [lQ a]] ⟨⟨_, rfl⟩, trivial⟩ ⟨.own2 (.head _) rfl rfl rfl rfl, trivial⟩ CF rfl ?_
  conv => whnf
  rw [decide_eq_false (by omega : ¬ n < 0)]
  conv => whnf
  rw [decide_eq_false (by omega : ¬ n > 16)]
  conv => whnf
  refine callS CU rfl rfl ?_
  conv => whnf
  rw [lenU, show (n != n) = false by simp]
  conv => whnf
  refine callS CK rfl rfl ?_
  conv => whnf
  refine ⟨Nat, fun i => i ≤ U.length, fun i => { fr := [(0, i64 n), (1, i64 at'), (2, lQ a), (7, lQ U), (47, lQ U), (48, i64 n), (49, i64 i)], g := 9 }, fun i => U.length - i, 0, Nat.zero_le _,
    ⟨trivial, ⟨.inl ⟨.refl _, rfl⟩, .inl ⟨.refl _, rfl⟩, .inl ⟨.refl _, rfl⟩, .inl ⟨.refl _, rfl⟩, .inl ⟨.refl _, rfl⟩, .inl ⟨.of_eq (congrArg i64 lenU), rfl⟩, .inl ⟨.refl _, rfl⟩, trivial⟩, trivial⟩, ?_⟩
  rintro i hi
  dsimp only at hi ⊢
  conv => whnf
  refine Br.mk (fun h => ?_) (fun h => ?_)
  · have hlt : i < U.length := by
      have := of_decide_eq_true h
      omega
    clear h
    have hg := gU i U[i] (by simp [hlt])
    have CG := c_qSign U[i]
    obtain ⟨g, hgv⟩ : ∃ g, qSgn U[i] = g := ⟨_, rfl⟩
    rw [hgv] at CG hg
    conv => whnf
    refine ⟨ratv U[i], ⟨by omega, by simp [hlt], rfl, rfl⟩, ?_⟩
    conv => whnf
    refine callS CG rfl rfl ?_
    conv => whnf
    refine ⟨trivial, ?_⟩
    conv => whnf
    rw [hg, show (!((((i : Int) == at') : Bool) == (((i : Int) == at') : Bool))) = false by simp]
    conv => whnf
    refine ⟨i + 1, hlt, ⟨trivial, ⟨.inl ⟨.refl _, rfl⟩, .inl ⟨.refl _, rfl⟩, .inl ⟨.refl _, rfl⟩, .inl ⟨.refl _, rfl⟩, .inl ⟨.refl _, rfl⟩, .inl ⟨.refl _, rfl⟩, .inl ⟨.of_eq (congrArg i64 ?_), rfl⟩, trivial⟩, trivial⟩, by show U.length - (i + 1) < U.length - i; omega⟩
    exact (wI (n := (i : Int) + 1) (by omega) (by omega)).trans (by simp)
  · clear h
    conv => whnf
    refine callS C1 rfl rfl ?_
    conv => whnf
    refine callS C2 rfl rfl ?_
    conv => whnf
    refine callS C3 rfl rfl ?_
    conv => whnf
    refine callS CN rfl rfl ?_
    conv => whnf
    refine callS C4 rfl rfl ?_
    conv => whnf
    rw [lenA]
    by_cases hab : U.length = a.length
    · obtain ⟨rfl, rfl, rfl, rfl⟩ := good hab
      rw [if_neg (by omega)] at CK2
      rw [show (n != (a.length : Int)) = false by simp; omega]
      conv => whnf
      refine callS CK2 rfl rfl ?_
      conv => whnf
      exact fin rfl rfl
    · obtain ⟨rfl, rfl, rfl, rfl, rfl⟩ := bad hab
      rw [if_pos (by omega)] at CK2
      rw [show (n != (a.length : Int)) = true by simp; omega]
      conv => whnf
      refine callS CS rfl rfl ?_
      conv => whnf
      refine callS CK2 rfl rfl ?_
      conv => whnf
      exact fin rfl rfl

theorem vecShapes_c : ∀ avs, RdArgs prog 9 f5.params.toList avs → ACalls prog 5 avs (.lit (.bool true)) := by
  intro avs h
  have h : RdArgs prog 9 [3, 3, 22] avs := h
  match avs, h with
  | [x, y, z], ⟨⟨c1, r1, e1⟩, ⟨c2, r2, e2⟩, ⟨c3, r3, e3⟩, _⟩ =>
    obtain ⟨n, rfl, _⟩ := rd_int r1
    obtain ⟨at', rfl, _⟩ := rd_int r2
    obtain ⟨a, rfl, h1, h2⟩ := rd_rats r3
    rw [mkV_one ag_int] at e1 e2
    rw [mkV_one ag_rats] at e3
    subst e1 e2 e3
    by_cases hf : fitL [a] = true
    · by_cases h0 : n < 0
      · exact shapes_bad n at' a ⟨h1, h2⟩ (.inr (.inl h0))
      · by_cases h16 : n > 16
        · exact shapes_bad n at' a ⟨h1, h2⟩ (.inr (.inr h16))
        · obtain ⟨a', e, hl, hs⟩ := fitL_one h2 hf
          have CF := c_fit a [] (fun x hx => by simp at hx; subst hx; exact ⟨h1, h2⟩) (by simp)
          rw [hf] at CF
          have CF : ACalls prog 14 [.sl [slv a]] (boo true) := CF
          rw [e] at CF
          show ACalls prog _ [i64 n, i64 at', slv a] _
          rw [e]
          exact shapes_good n at' a' (by omega) (by omega) hl hs CF
    · exact shapes_bad n at' a ⟨h1, h2⟩ (.inl (by simpa using hf))

end Go.Proofs.YtojfepabmbnmnaaGreatDoor.Abs

/- VecShapes: for every input the law returns true, and each argument reads afterwards as it read before. Conditions: the listed variables of the library hold what their text lays (tied by the card). -/
set_option linter.unusedVariables false
namespace Go.Proofs.YtojfepabmbnmnaaGreatDoor.Abs
open Go Go.RowKit Go.ChangeShapes Go.WideShapes Go.ChangeAt Go.Proofs.Tryz

theorem vecShapes_laid {W : World} (h : laidMetH prog Rows.vecShapesRow.laid W) : GOk (fun b => b < W.heap.size) W :=
  gok_of_tab (Lib.tabIs_of_head gDb gDbT underlying184 underlying5 cU8 cDb h)
theorem vecShapes_met (os : Os) : laidMet prog Rows.vecShapesRow.laid ((laidWorld os).forCall (fun _ _ => 0) ⟨#[], #[.int .i64 0, .int .i64 0, .slice none 0 0], []⟩).memory :=
  laidMet_of_run' 8 (by kernel_rfl) (by kernel_rfl)
theorem vecShapes_reads (os : Os) {H : Type} (enc : TypeId × Value → H) : ∃ x places, DataW.whole enc prog ((laidWorld os).forCall (fun _ _ => 0) ⟨#[], #[.int .i64 0, .int .i64 0, .slice none 0 0], []⟩).memory f5.params.toList Rows.vecShapesSpec.vars false (#[.int .i64 0, .int .i64 0, .slice none 0 0] : Array Value).toList 8 = some (x, [], places) :=
  ⟨[.lit (.int .i64 0), .lit (.int .i64 0), .nil], [], by kernel_rfl⟩
set_option maxRecDepth 100000 in
theorem vecShapes_lifted (os : Os) (started : os.Started) (H : Type) (enc : TypeId × Value → H) (F : Stop.Interp) :
    ReturnsInHanded {} checked os 5 .any ((OpenSpec.ofChange Rows.vecShapesSpec).preRow enc prog f5 Rows.vecShapesRow.domain false Rows.vecShapesRow.laid) (((OpenSpec.ofChange Rows.vecShapesSpec).at F).post enc prog f5 false true false false) := by
  obtain ⟨x, places, hx⟩ := vecShapes_reads os enc
  refine returnsInHanded_of_row (C := checked) (s := OpenSpec.ofChange Rows.vecShapesSpec) ownK started (by kernel_rfl) func5
    (witness_row_at (enc := enc) (C := checked) false (laidWorld os) #[.int .i64 0, .int .i64 0, .slice none 0 0] rfl (by kernel_rfl) (by kernel_rfl) (by kernel_rfl)
      (OpenSpec.preRow_of_cond 8 hx (by kernel_rfl) (fun k hk => by cases hk) (by kernel_rfl) (vecShapes_met os))) ?_
  intro W base args ds gs before hval hW _ _ _ hL _ _
  exact bridge (n := 9) laidOutP (by kernel_rfl) rfl (fun ds hd => by
    match ds, hd with
    | [_, _, _], _ => rfl) rfl underlying4 vecShapes_c hval hW (vecShapes_laid hL)
theorem vecShapes_said : Rows.VecShapesSaid :=
  OpenClaim.holds_of_cond 5 f5 rfl rfl rfl rfl rfl rfl rfl ⟨rfl, rfl, rfl, rfl, rfl⟩ rfl rfl rfl rfl rfl (by kernel_rfl) func5 (by kernel_rfl)
    (of_decide_eq_true (by kernel_rfl)) (by unfold Func.isWrapper; first | (rw [if_pos (by decide +kernel)]; kernel_rfl) | (rw [if_neg (by decide +kernel)]; exact ⟨rfl, rfl⟩))
    (fun os started H enc _ F => by rw [OpenClaim.pre_eq_preRow]; exact vecShapes_lifted os started H enc F)
theorem vecShapes_plain (f : FuncId) (fn : Func) (hf : Tryz.pinned.checked.prog.funcNamed "girdle/girdlelaw07.VecShapes" = some f) (hfn : Tryz.pinned.checked.prog.funcs[f]? = some fn) :
    false = Tryz.pinned.checked.prog.looks [] ∧ ∀ (j : Nat) t, fn.params[j]? = some t → Tryz.pinned.checked.prog.wantsStandIn t = false := by
  obtain rfl : f = 5 := Option.some.inj ((show prog.funcNamed "girdle/girdlelaw07.VecShapes" = some 5 by kernel_rfl).symm.trans hf) |>.symm
  obtain rfl : fn = f5 := (Option.some.inj (func5.symm.trans hfn)).symm
  refine ⟨by kernel_rfl, fun j t ht => ?_⟩
  have hall : (f5.params.toList.all fun u => !prog.wantsStandIn u) = true := by kernel_rfl
  exact (show prog.wantsStandIn t = false by simpa using List.all_eq_true.1 hall t (by simpa using Array.mem_of_getElem? ht))
end Go.Proofs.YtojfepabmbnmnaaGreatDoor.Abs
namespace Go.Proofs.YtojfepabmbnmnaaGreatDoor
open Go Go.Proofs.YtojfepabmbnmnaaGreatDoor.Abs
/-- THE CARD. -/
theorem vecShapes_card : Rows.VecShapesCardSaid :=
  Claim7.holds_tied_plain_at .later [] _ _ _ _ vecShapes_said (fun _ h => by cases h) (by kernel_rfl) (fun _ h => by cases h) vecShapes_row_tie rfl ⟨rfl, rfl⟩ (by kernel_rfl) rfl vecShapes_plain (by kernel_rfl)
#print axioms vecShapes_card
end Go.Proofs.YtojfepabmbnmnaaGreatDoor
