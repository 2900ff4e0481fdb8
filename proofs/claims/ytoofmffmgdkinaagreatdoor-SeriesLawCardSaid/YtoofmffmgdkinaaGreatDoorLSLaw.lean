/- SeriesLaw: for every input the law returns true, and each argument reads afterwards as it read before. Conditions: the listed variables of the library hold what their text lays (tied by the card). -/
import Derived.Test.YtoofmffmgdkinaaGreatDoorMw
import Derived.Test.YtoofmffmgdkinaaGreatDoorMn
/- SeriesLaw: the walk. -/
set_option linter.unusedVariables false
set_option linter.unusedSectionVars false
set_option linter.unusedSimpArgs false
set_option maxHeartbeats 4000000
set_option maxRecDepth 20000
namespace Go.Proofs.YtoofmffmgdkinaaGreatDoor.Abs
open Go Go.RowKit Go.Proofs.Tryz

structure LawS (k : Nat) (T : List (List FQ)) (t : FQ) (p : Gw) (nr m one x : List (List FS)) (less : List (List FQ)) : Prop where
  h1 : mMake T t 50 = .ok p
  h2 : mNear T 50 = .ok nr
  h3 : mTimes 50 nr p.2 = .ok m
  h4 : mScale (mOne k) (qOf (-1) 1) = .ok less
  h5 : mNear less 50 = .ok one
  h6 : mPlus 50 p.1 one = .ok x
  h7 : ∀ i j, i < k → j < k → ∃ z, sMeet (sp m i j) (sp x i j) = .ok z
  q1 : SqG k m
  q2 : SqG k x
  s1 : Six p.1
  s2 : Six p.2
  s3 : Six nr
  s4 : Six less
theorem law_T {k : Nat} {T : List (List FQ)} {t : FQ} (h : In3 k T t) : ∃ p nr m one x less, LawS k T t p nr m one x less := by
  have hk1 := h.k1
  have hk3 := h.k3
  have hbo : bitsOk ((50 : Nat) : Int) = true := by decide
  have hbn : ((50 : Nat) : Int).toNat = 50 := rfl
  obtain ⟨p, p1, p2⟩ := made (b := 50) (by omega) (by omega) hk1 hk3 h.sq (fun r hr => (h.sz r hr).mono (by omega) (by omega)) (h.st.mono (by omega) (by omega)) h.nn (fun i hi => Rat.le_trans (h.row i hi) (by decide +kernel))
  obtain ⟨nr, n1, n2⟩ := near_T hbo h.sq h.sz (by rw [hbn]; omega) (by omega)
  obtain ⟨o1, o2, o3⟩ := one_ok (n := k) (by omega)
  obtain ⟨less, l1, l2, l3, l4⟩ := scale_full o1 o2 neg1_sz (by omega) (by omega)
  rw [neg1_q] at l3
  obtain ⟨one, e1, e2⟩ := near_T hbo l2 l4 (by rw [hbn]; omega) (by omega)
  obtain ⟨c, c1, c2⟩ := row_all (by omega) h.sq
  have a0 := n2.lim h.sq
  have a1 := p2.e.mono (K' := 150) (L' := 2300) (by omega) (by omega)
  have a3 : HTL k 150 2300 one (fun _ i j => -idm i j) := ((e2.lim l2).mono (by omega) (by rw [hbn]; omega)).congr fun i j hi hj => Nul.zero.congr fun N => by
    rw [l3 i j hi hj, o3 i j hi hj]
    show -(if i = j then (1 : Rat) else 0) - (if i = j then (1 : Rat) else 0) * -1 = 0
    grind
  obtain ⟨m, m1, m2⟩ := times_L hbo a0 p2.s (by rw [hbn]; omega)
  obtain ⟨x, x1, x2⟩ := plus_L hbo a1 a3 (by omega)
  have g1 := m2.congr (g := fun N i j => EN k (en T) t.q N i j + -idm i j) fun i j hi hj => ((law_nul c1 c2 t.q hi hj).neg).congr fun N => by grind
  exact ⟨p, nr, m, one, x, less, p1, n1, m1, l1, e1, x1, g1.touch x2, m2.1, x2.1, p2.e.six (by omega), p2.s.six (by omega), a0.six (by omega), ⟨by rw [l2.1]; omega, l2.rows6 (by omega)⟩⟩

attribute [local irreducible] mMake mTwice mTimes mHolds mScale mPlus mNear mOne
theorem slaw_bad (n : Int) (l : List RawQ) (t : RawQ) {es : List AV} (C : ACalls prog 31 [i64 n, slv l, rawv t] (.tup [.sl es, boo false])) : ACalls prog 9 [i64 n, slv l, rawv t] (boo true) := by
  refine conN func9 rfl (by kernel_rfl) ?_
  conv => whnf
  refine callS c_grows rfl rfl ?_
  conv => whnf
  refine callS C rfl rfl ?_
  conv => whnf
  exact fin rfl rfl
theorem slaw_go {k : Nat} {l : List RawQ} {tq : FQ} (h : In3 k (TabQ k l) tq) (C : ACalls prog 31 [i64 (k : Nat), slv l, rat tq.q] (.tup [lT (TabQ k l), boo true])) : ACalls prog 9 [i64 (k : Nat), slv l, rat tq.q] (boo true) := by
  have B50 : BOk 50 := ⟨by decide, by decide⟩
  obtain ⟨p, nr, m, one, x, less, h1, h2, h3, h4, h5, h6, h7, q1, q2, s1, s2, s3, s4⟩ := law_T h
  obtain ⟨T, hT⟩ : ∃ T, TabQ k l = T := ⟨_, rfl⟩
  rw [hT] at h h1 h2 C
  have hk3 := h.k3
  have T6 : Six T := ⟨by rw [h.sq.1]; omega, h.sq.rows6 (by omega)⟩
  obtain ⟨j1, M1⟩ := c_mMake T tq 50 T6
  have M2 := c_mNear T 50 B50 T6.1 T6.2
  have M3 := c_mTimes nr p.2 50 B50 s3.1 s3.2 s2.1 s2.2
  have M4 := c_mScale (mOne (k : Nat)) (qOf (-1) 1) (one_six _).1 (one_six _).2
  have M5 := c_mNear less 50 B50 s4.1 s4.2
  have M6 := c_mPlus p.1 one 50 B50 s1.1 s1.2
  have M7 := c_touch (by omega : k < 1000000) m x q1 q2 h7
  have O := c_mOne (k : Nat)
  change mMake T tq 50 = .ok p at h1
  change mNear T 50 = .ok nr at h2
  change mTimes 50 nr p.2 = .ok m at h3
  change mNear less 50 = .ok one at h5
  change mPlus 50 p.1 one = .ok x at h6
  rw [h1] at M1
  rw [h2] at M2
  rw [h3] at M3
  rw [h4] at M4
  rw [h5] at M5
  rw [h6] at M6
  refine conP func9 rfl (by kernel_rfl) ?_
  refine .go (by kernel_rfl) ?_
  conv => whnf
  refine .go (by kernel_rfl) ?_
  conv => whnf
  refine callS c_grows rfl rfl ?_
  conv => whnf
  refine .go (by kernel_rfl) ?_
  conv => whnf
  refine callS C rfl rfl ?_
  conv => whnf
  refine .go (by kernel_rfl) ?_
  conv => whnf
  refine .go (by kernel_rfl) ?_
  conv => whnf
  refine callS M1 rfl rfl ?_
  conv => whnf
  refine .go (by kernel_rfl) ?_
  conv => whnf
  refine callS M2 rfl rfl ?_
  conv => whnf
  refine .go (by kernel_rfl) ?_
  conv => whnf
  refine callS M3 rfl rfl ?_
  conv => whnf
  refine .go (by kernel_rfl) ?_
  conv => whnf
  refine callS O rfl rfl ?_
  conv => whnf
  refine callS (c_qOf (-1) 1 (by decide) (by decide) (by decide) (by decide)) rfl rfl ?_
  conv => whnf
  refine callS M4 rfl rfl ?_
  conv => whnf
  refine .go (by kernel_rfl) ?_
  conv => whnf
  refine callS M5 rfl rfl ?_
  conv => whnf
  refine .go (by kernel_rfl) ?_
  conv => whnf
  refine callS M6 rfl rfl ?_
  conv => whnf
  refine pcN (by kernel_rfl) ?_
  conv => whnf
  refine callS M7 rfl rfl ?_
  conv => whnf
  exact fin rfl rfl
theorem seriesLaw_c : ∀ avs, RdArgs prog 9 f9.params.toList avs → ACalls prog 9 avs (.lit (.bool true)) := by
  intro avs h
  obtain ⟨n, l, t, rfl, hl, ht⟩ := rd_three3 (f := 0) h
  rcases c_table n l t hl ht with ⟨es, C⟩ | ⟨k, tq, hi, C⟩
  · exact slaw_bad n l t C
  · obtain rfl := hi.nk
    have e : rawv t = rat tq.q := by rw [← hi.q, rawv_rawQ]; rfl
    rw [e] at C ⊢
    exact slaw_go hi.in3 C

end Go.Proofs.YtoofmffmgdkinaaGreatDoor.Abs

/- SeriesLaw: for every input the law returns true, and each argument reads afterwards as it read before. Conditions: the listed variables of the library hold what their text lays (tied by the card). -/
set_option linter.unusedVariables false
namespace Go.Proofs.YtoofmffmgdkinaaGreatDoor.Abs
open Go Go.RowKit Go.ChangeShapes Go.WideShapes Go.ChangeAt Go.Proofs.Tryz

theorem seriesLaw_laid {W : World} (h : laidMetH prog Rows.seriesLawRow.laid W) : GOk (fun b => b < W.heap.size) W :=
  gok_of_tab (Lib.tabIs_of_head gDb gDbT underlying201 underlying5 cU8 cDb h)
theorem seriesLaw_met (os : Os) : laidMet prog Rows.seriesLawRow.laid ((laidWorld os).forCall (fun _ _ => 0) ⟨#[], #[.int .i64 0, .slice none 0 0, .agg #[.bool false, .slice none 0 0, .slice none 0 0]], []⟩).memory :=
  laidMet_of_run' 8 (by kernel_rfl) (by kernel_rfl)
theorem seriesLaw_reads (os : Os) {H : Type} (enc : TypeId × Value → H) : ∃ x places, DataW.whole enc prog ((laidWorld os).forCall (fun _ _ => 0) ⟨#[], #[.int .i64 0, .slice none 0 0, .agg #[.bool false, .slice none 0 0, .slice none 0 0]], []⟩).memory f9.params.toList Rows.seriesLawSpec.vars false (#[.int .i64 0, .slice none 0 0, .agg #[.bool false, .slice none 0 0, .slice none 0 0]] : Array Value).toList 8 = some (x, [], places) :=
  ⟨[.lit (.int .i64 0), .nil, .agg [.agg [.lit (.bool false), .nil], .nil]], [], by kernel_rfl⟩
set_option maxRecDepth 100000 in
theorem seriesLaw_lifted (os : Os) (started : os.Started) (H : Type) (enc : TypeId × Value → H) (F : Stop.Interp) :
    ReturnsInHanded {} checked os 9 .any ((OpenSpec.ofChange Rows.seriesLawSpec).preRow enc prog f9 Rows.seriesLawRow.domain false Rows.seriesLawRow.laid) (((OpenSpec.ofChange Rows.seriesLawSpec).at F).post enc prog f9 false true false false) := by
  obtain ⟨x, places, hx⟩ := seriesLaw_reads os enc
  refine returnsInHanded_of_row (C := checked) (s := OpenSpec.ofChange Rows.seriesLawSpec) ownK started (by kernel_rfl) func9
    (witness_row_at (enc := enc) (C := checked) false (laidWorld os) #[.int .i64 0, .slice none 0 0, .agg #[.bool false, .slice none 0 0, .slice none 0 0]] rfl (by kernel_rfl) (by kernel_rfl) (by kernel_rfl)
      (OpenSpec.preRow_of_cond 8 hx (by kernel_rfl) (fun k hk => by cases hk) (by kernel_rfl) (seriesLaw_met os))) ?_
  intro W base args ds gs before hval hW _ _ _ hL _ _
  exact bridge (n := 9) laidOutP (by kernel_rfl) rfl (fun ds hd => by
    match ds, hd with
    | [_, _, _], _ => rfl) rfl underlying4 seriesLaw_c hval hW (seriesLaw_laid hL)
theorem seriesLaw_said : Rows.SeriesLawSaid :=
  OpenClaim.holds_of_cond 9 f9 rfl rfl rfl rfl rfl rfl rfl ⟨rfl, rfl, rfl, rfl, rfl⟩ rfl rfl rfl rfl rfl (by kernel_rfl) func9 (by kernel_rfl)
    (of_decide_eq_true (by kernel_rfl)) (by unfold Func.isWrapper; first | (rw [if_pos (by decide +kernel)]; kernel_rfl) | (rw [if_neg (by decide +kernel)]; exact ⟨rfl, rfl⟩))
    (fun os started H enc _ F => by rw [OpenClaim.pre_eq_preRow]; exact seriesLaw_lifted os started H enc F)
theorem seriesLaw_plain (f : FuncId) (fn : Func) (hf : Tryz.pinned.checked.prog.funcNamed "girdle/girdlelaw13.SeriesLaw" = some f) (hfn : Tryz.pinned.checked.prog.funcs[f]? = some fn) :
    false = Tryz.pinned.checked.prog.looks [] ∧ ∀ (j : Nat) t, fn.params[j]? = some t → Tryz.pinned.checked.prog.wantsStandIn t = false := by
  obtain rfl : f = 9 := Option.some.inj ((show prog.funcNamed "girdle/girdlelaw13.SeriesLaw" = some 9 by kernel_rfl).symm.trans hf) |>.symm
  obtain rfl : fn = f9 := (Option.some.inj (func9.symm.trans hfn)).symm
  refine ⟨by kernel_rfl, fun j t ht => ?_⟩
  have hall : (f9.params.toList.all fun u => !prog.wantsStandIn u) = true := by kernel_rfl
  exact (show prog.wantsStandIn t = false by simpa using List.all_eq_true.1 hall t (by simpa using Array.mem_of_getElem? ht))
end Go.Proofs.YtoofmffmgdkinaaGreatDoor.Abs
namespace Go.Proofs.YtoofmffmgdkinaaGreatDoor
open Go Go.Proofs.YtoofmffmgdkinaaGreatDoor.Abs
/-- THE CARD. -/
theorem seriesLaw_card : Rows.SeriesLawCardSaid :=
  Claim7.holds_tied_plain_at .later [] _ _ _ _ seriesLaw_said (fun _ h => by cases h) (by kernel_rfl) (fun _ h => by cases h) seriesLaw_row_tie rfl ⟨rfl, rfl⟩ (by kernel_rfl) rfl seriesLaw_plain (by kernel_rfl)
#print axioms seriesLaw_card
end Go.Proofs.YtoofmffmgdkinaaGreatDoor
