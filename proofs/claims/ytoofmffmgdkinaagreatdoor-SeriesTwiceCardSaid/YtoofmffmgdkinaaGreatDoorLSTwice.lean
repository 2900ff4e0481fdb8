/- SeriesTwice: for every input the law returns true, and each argument reads afterwards as it read before. Conditions: the listed variables of the library hold what their text lays (tied by the card). -/
import Derived.Test.YtoofmffmgdkinaaGreatDoorMw
import Derived.Test.YtoofmffmgdkinaaGreatDoorMn
/- SeriesTwice: the walk. -/
set_option linter.unusedVariables false
set_option linter.unusedSectionVars false
set_option linter.unusedSimpArgs false
set_option maxHeartbeats 4000000
set_option maxRecDepth 20000
namespace Go.Proofs.YtoofmffmgdkinaaGreatDoor.Abs
open Go Go.RowKit Go.Proofs.Tryz

structure TwiS (k : Nat) (T : List (List FQ)) (t hq : FQ) (p q r : Gw) : Prop where
  h0 : qMul t hf = .ok hq
  h1 : mMake T hq 50 = .ok p
  h2 : mTwice 50 p = .ok q
  h3 : mMake T t 50 = .ok r
  h4 : ∀ i j, i < k → j < k → ∃ z, sMeet (sp q.1 i j) (sp r.1 i j) = .ok z
  h5 : ∀ i j, i < k → j < k → ∃ z, sMeet (sp q.2 i j) (sp r.2 i j) = .ok z
  q1 : SqG k q.1
  q2 : SqG k q.2
  r1 : SqG k r.1
  r2 : SqG k r.2
  s1 : Six p.1
  s2 : Six p.2
theorem twi_T {k : Nat} {T : List (List FQ)} {t : FQ} (h : In3 k T t) : ∃ hq p q r, TwiS k T t hq p q r := by
  have hk1 := h.k1
  have hk3 := h.k3
  have hbo : bitsOk ((50 : Nat) : Int) = true := by decide
  obtain ⟨hq, a1, a2, a3⟩ := qMul_ok h.st hf_sz (by omega) (by omega)
  rw [hf_q] at a2
  have hnn : 0 ≤ hq.q := by rw [a2]; have := h.nn; grind
  have hsz : ∀ r ∈ T, SzL r 33 33 := fun r hr => (h.sz r hr).mono (by omega) (by omega)
  obtain ⟨p, p1, p2⟩ := made (b := 50) (by omega) (by omega) hk1 hk3 h.sq hsz (a3.mono (by omega) (by omega)) hnn (fun i hi => by
    have e : (SS k fun j => absQ (en T i j * hq.q)) = (SS k fun j => absQ (en T i j * t.q)) * (1 / 2) := by
      rw [SS_mul_r]
      refine SS_congr fun j _ => ?_
      rw [a2]
      have : absQ (1 / 2 : Rat) = 1 / 2 := absQ_pos (by decide +kernel)
      rw [← Rat.mul_assoc, absQ_mul _ (1 / 2), this]
    rw [e]
    have := h.row i hi
    grind)
  obtain ⟨r, r1, r2⟩ := made (b := 50) (by omega) (by omega) hk1 hk3 h.sq hsz (h.st.mono (by omega) (by omega)) h.nn (fun i hi => Rat.le_trans (h.row i hi) (by decide +kernel))
  obtain ⟨c, c1, c2⟩ := row_all (by omega) h.sq
  obtain ⟨q, q1, q2⟩ := twice_T hbo c1 c2 p2 (by omega) (by omega) (by omega) (by omega)
  have ht : hq.q + hq.q = t.q := by rw [a2]; grind
  rw [ht] at q2
  exact ⟨hq, p, q, r, a1, p1, q1, r1, q2.e.touch r2.e, q2.s.touch r2.s, q2.e.1, q2.s.1, r2.e.1, r2.s.1, p2.e.six (by omega), p2.s.six (by omega)⟩

attribute [local irreducible] mMake mTwice mTimes mHolds mScale mPlus mNear mOne
theorem stwice_bad (n : Int) (l : List RawQ) (t : RawQ) {es : List AV} (C : ACalls prog 31 [i64 n, slv l, rawv t] (.tup [.sl es, boo false])) : ACalls prog 7 [i64 n, slv l, rawv t] (boo true) := by
  refine conN func7 rfl (by kernel_rfl) ?_
  conv => whnf
  refine callS c_grows rfl rfl ?_
  conv => whnf
  refine callS C rfl rfl ?_
  conv => whnf
  exact fin rfl rfl
theorem stwice_go {k : Nat} {l : List RawQ} {tq : FQ} (h : In3 k (TabQ k l) tq) (C : ACalls prog 31 [i64 (k : Nat), slv l, rat tq.q] (.tup [lT (TabQ k l), boo true])) : ACalls prog 7 [i64 (k : Nat), slv l, rat tq.q] (boo true) := by
  have B50 : BOk 50 := ⟨by decide, by decide⟩
  obtain ⟨hq, p, q, r, h0, h1, h2, h3, h4, h5, q1, q2, r1, r2, s1, s2⟩ := twi_T h
  obtain ⟨T, hT⟩ : ∃ T, TabQ k l = T := ⟨_, rfl⟩
  rw [hT] at h h1 h3 C
  have hk3 := h.k3
  have T6 : Six T := ⟨by rw [h.sq.1]; omega, h.sq.rows6 (by omega)⟩
  have M0 := c_qMul tq hf
  obtain ⟨j1, M1⟩ := c_mMake T hq 50 T6
  have M2 := c_mTwice p 50 B50 s1.1 s1.2 s2.1 s2.2
  obtain ⟨j3, M3⟩ := c_mMake T tq 50 T6
  change mMake T hq 50 = .ok p at h1
  change mTwice 50 p = .ok q at h2
  change mMake T tq 50 = .ok r at h3
  rw [h0] at M0
  rw [h1] at M1
  rw [h2] at M2
  rw [h3] at M3
  change ACalls prog _ _ (.tup [gro p, i64 0]) at M1
  change ACalls prog _ _ (.tup [gro q, i64 0]) at M2
  change ACalls prog _ _ (.tup [gro r, i64 0]) at M3
  have C12 : ACalls prog 21 [i64 1, i64 2] (rat hf.q) := c_qOf 1 2 (by decide) (by decide) (by decide) (by decide)
  have hlr : (((r.1.map lS).length : Nat) : Int) = (k : Int) := by rw [List.length_map, r1.1]
  refine conP func7 rfl (by kernel_rfl) ?_
  refine .go (by kernel_rfl) ?_
  conv => whnf
  refine .go (by kernel_rfl) ?_
  conv => whnf
  refine callS c_grows rfl rfl ?_
  conv => whnf
  refine .go (by kernel_rfl) ?_
  conv => whnf
  refine callS C rfl rfl ?_
  conv => whnf
  refine .go (by kernel_rfl) ?_
  conv => whnf
  refine .go (by kernel_rfl) ?_
  conv => whnf
  refine ⟨by kernel_rfl, ?_⟩
  conv => whnf
  refine callD C12 rfl rfl ?_
  conv => whnf
  refine callD M0 rfl rfl ?_
  conv => whnf
  refine .go (by kernel_rfl) ?_
  conv => whnf
  refine callS M1 rfl rfl ?_
  conv => whnf
  refine .go (by kernel_rfl) ?_
  conv => whnf
  refine callS M2 rfl rfl ?_
  conv => whnf
  refine .go (by kernel_rfl) ?_
  conv => whnf
  refine callS M3 rfl rfl ?_
  conv => whnf
  refine .go (by kernel_rfl) ?_
  conv => whnf
  clear M0 M1 M2 M3 C C12 h0 h1 h2 h3
  refine .cut (fun _ : Unit => True) (fun _ => { fr := [], g := 9 }) ?_ ?_
  · refine .go (by kernel_rfl) ?_
    conv => whnf
    refine .block (.loop (fun i : Nat => i ≤ k) (fun i => { fr := [(13, .ptr (6, 5) 0 0), (15, .ptr (7, 6) 0 0), (69, i64 (k : Nat)), (70, i64 (i : Nat))], st := [((6, 5), ⟨44, 2, [gro q]⟩), ((7, 6), ⟨44, 2, [gro r]⟩)], g := 9 }) (fun i => k - i) 0 (Nat.zero_le _) ?_ ?_)
    · exact ⟨trivial, ⟨.inl ⟨.refl _, rfl⟩, .inl ⟨.refl _, rfl⟩, .inl ⟨.of_eq (congrArg i64 hlr), rfl⟩, .inl ⟨.refl _, rfl⟩, trivial⟩, ⟨.same rfl rfl, List.not_mem_nil, Nat.le_of_ble_eq_true rfl⟩, ⟨.same rfl rfl, List.not_mem_nil, Nat.le_of_ble_eq_true rfl⟩, trivial⟩
    intro i hi
    dsimp only
    refine .go (by kernel_rfl) ?_
    conv => whnf
    refine .go (by kernel_rfl) ?_
    conv => whnf
    refine Br.mk (fun b => ?_) (fun b => ?_)
    · have hlt : i < k := by
        have := of_decide_eq_true b
        omega
      clear b
      have hl2 : ((((r.1.getD i []).map spa).length : Nat) : Int) = (k : Int) := by rw [List.length_map, r1.row hlt]
      conv => whnf
      refine .cut (fun _ : Unit => True) (fun _ => { fr := [(13, .ptr (6, 5) 0 0), (15, .ptr (7, 6) 0 0), (69, i64 (k : Nat)), (70, i64 (i : Nat))], st := [((6, 5), ⟨44, 2, [gro q]⟩), ((7, 6), ⟨44, 2, [gro r]⟩)], g := 40 }) ?_ ?_
      · refine .block ?_
        refine .go (by kernel_rfl) ?_
        conv => whnf
        refine .go (by kernel_rfl) ?_
        conv => whnf
        refine ⟨lS (r.1.getD i []), ⟨Int.natCast_nonneg _, sp_get r1 hlt, rfl, rfl⟩, ?_⟩
        conv => whnf
        refine .block (.loop (fun j : Nat => j ≤ k) (fun j => { fr := [(13, .ptr (6, 5) 0 0), (15, .ptr (7, 6) 0 0), (17, i64 (i : Nat)), (69, i64 (k : Nat)), (70, i64 (i : Nat)), (78, i64 (k : Nat)), (79, i64 (j : Nat))], st := [((6, 5), ⟨44, 2, [gro q]⟩), ((7, 6), ⟨44, 2, [gro r]⟩)], g := 20 }) (fun j => k - j) 0 (Nat.zero_le _) ?_ ?_)
        · exact ⟨trivial, ⟨.inl ⟨.refl _, rfl⟩, .inl ⟨.refl _, rfl⟩, .inl ⟨.refl _, rfl⟩, .inl ⟨.refl _, rfl⟩, .inl ⟨.refl _, rfl⟩, .inl ⟨.of_eq (congrArg i64 hl2), rfl⟩, .inl ⟨.refl _, rfl⟩, trivial⟩, ⟨.same rfl rfl, List.not_mem_nil, Nat.le_of_ble_eq_true rfl⟩, ⟨.same rfl rfl, List.not_mem_nil, Nat.le_of_ble_eq_true rfl⟩, trivial⟩
        intro j hj
        dsimp only
        refine .go (by kernel_rfl) ?_
        conv => whnf
        refine .go (by kernel_rfl) ?_
        conv => whnf
        refine Br.mk (fun b => ?_) (fun b => ?_)
        · have hlj : j < k := by
            have := of_decide_eq_true b
            omega
          clear b
          obtain ⟨z1, hz1⟩ := h4 i j hlt hlj
          obtain ⟨z2, hz2⟩ := h5 i j hlt hlj
          have CM := c_sMeet (sp q.1 i j) (sp r.1 i j)
          have CM2 := c_sMeet (sp q.2 i j) (sp r.2 i j)
          rw [hz1] at CM
          rw [hz2] at CM2
          conv => whnf
          refine .cut (fun _ : Unit => True) (fun _ => { fr := [(13, .ptr (6, 5) 0 0), (15, .ptr (7, 6) 0 0), (17, i64 (i : Nat)), (69, i64 (k : Nat)), (70, i64 (i : Nat)), (78, i64 (k : Nat)), (79, i64 (j : Nat))], st := [((6, 5), ⟨44, 2, [gro q]⟩), ((7, 6), ⟨44, 2, [gro r]⟩)], g := 60 }) ?_ ?_
          · refine .block ?_
            refine .go (by kernel_rfl) ?_
            conv => whnf
            refine .go (by kernel_rfl) ?_
            conv => whnf
            refine ⟨by kernel_rfl, ?_⟩
            conv => whnf
            refine ⟨lS (q.1.getD i []), ⟨Int.natCast_nonneg _, sp_get q1 hlt, rfl, rfl⟩, ?_⟩
            conv => whnf
            refine ⟨spa (sp q.1 i j), ⟨Int.natCast_nonneg _, sp_get2 q1 hlt hlj, rfl, rfl⟩, ?_⟩
            conv => whnf
            refine ⟨lS (r.1.getD i []), ⟨Int.natCast_nonneg _, sp_get r1 hlt, rfl, rfl⟩, ?_⟩
            conv => whnf
            refine ⟨spa (sp r.1 i j), ⟨Int.natCast_nonneg _, sp_get2 r1 hlt hlj, rfl, rfl⟩, ?_⟩
            conv => whnf
            refine callD CM rfl rfl ?_
            conv => whnf
            refine .go (by kernel_rfl) ?_
            conv => whnf
            refine ⟨by kernel_rfl, ?_⟩
            conv => whnf
            refine ⟨lS (q.2.getD i []), ⟨Int.natCast_nonneg _, sp_get q2 hlt, rfl, rfl⟩, ?_⟩
            conv => whnf
            refine ⟨spa (sp q.2 i j), ⟨Int.natCast_nonneg _, sp_get2 q2 hlt hlj, rfl, rfl⟩, ?_⟩
            conv => whnf
            refine ⟨lS (r.2.getD i []), ⟨Int.natCast_nonneg _, sp_get r2 hlt, rfl, rfl⟩, ?_⟩
            conv => whnf
            refine ⟨spa (sp r.2 i j), ⟨Int.natCast_nonneg _, sp_get2 r2 hlt hlj, rfl, rfl⟩, ?_⟩
            conv => whnf
            refine callD CM2 rfl rfl ?_
            conv => whnf
            refine pcN (by kernel_rfl) ?_
            conv => whnf
            exact ⟨(), trivial, ⟨trivial, ⟨.inl ⟨.refl _, rfl⟩, .inl ⟨.refl _, rfl⟩, .inl ⟨.refl _, rfl⟩, .inl ⟨.refl _, rfl⟩, .inl ⟨.refl _, rfl⟩, .inl ⟨.refl _, rfl⟩, .inl ⟨.refl _, rfl⟩, trivial⟩, ⟨.same rfl rfl, List.not_mem_nil, Nat.le_of_ble_eq_true rfl⟩, ⟨.same rfl rfl, List.not_mem_nil, Nat.le_of_ble_eq_true rfl⟩, trivial⟩⟩
          · rintro ⟨⟩ _
            refine pcN (by kernel_rfl) ?_
            conv => whnf
            exact ⟨j + 1, hlj, ⟨trivial, ⟨.inl ⟨.refl _, rfl⟩, .inl ⟨.refl _, rfl⟩, .inl ⟨.refl _, rfl⟩, .inl ⟨.refl _, rfl⟩, .inl ⟨.refl _, rfl⟩, .inl ⟨.refl _, rfl⟩, .inl ⟨.of_eq (congrArg i64 ((wI (n := (j : Int) + 1) (by omega) (by omega)).trans (by simp))), rfl⟩, trivial⟩, ⟨.same rfl rfl, List.not_mem_nil, Nat.le_of_ble_eq_true rfl⟩, ⟨.same rfl rfl, List.not_mem_nil, Nat.le_of_ble_eq_true rfl⟩, trivial⟩, by show k - (j + 1) < k - j; omega⟩
        · conv => whnf
          exact ⟨(), trivial, ⟨trivial, ⟨.inl ⟨.refl _, rfl⟩, .inl ⟨.refl _, rfl⟩, .inl ⟨.refl _, rfl⟩, .inl ⟨.refl _, rfl⟩, trivial⟩, ⟨.same rfl rfl, List.not_mem_nil, Nat.le_of_ble_eq_true rfl⟩, ⟨.same rfl rfl, List.not_mem_nil, Nat.le_of_ble_eq_true rfl⟩, trivial⟩⟩
      · rintro ⟨⟩ _
        refine pcN (by kernel_rfl) ?_
        conv => whnf
        exact ⟨i + 1, hlt, ⟨trivial, ⟨.inl ⟨.refl _, rfl⟩, .inl ⟨.refl _, rfl⟩, .inl ⟨.refl _, rfl⟩, .inl ⟨.of_eq (congrArg i64 ((wI (n := (i : Int) + 1) (by omega) (by omega)).trans (by simp))), rfl⟩, trivial⟩, ⟨.same rfl rfl, List.not_mem_nil, Nat.le_of_ble_eq_true rfl⟩, ⟨.same rfl rfl, List.not_mem_nil, Nat.le_of_ble_eq_true rfl⟩, trivial⟩, by show k - (i + 1) < k - i; omega⟩
    · conv => whnf
      exact ⟨(), trivial, ⟨trivial, trivial, trivial⟩⟩
  · rintro ⟨⟩ _
    refine pcN (by kernel_rfl) ?_
    conv => whnf
    exact fin rfl rfl
theorem seriesTwice_c : ∀ avs, RdArgs prog 9 f7.params.toList avs → ACalls prog 7 avs (.lit (.bool true)) := by
  intro avs h
  obtain ⟨n, l, t, rfl, hl, ht⟩ := rd_three3 (f := 0) h
  rcases c_table n l t hl ht with ⟨es, C⟩ | ⟨k, tq, hi, C⟩
  · exact stwice_bad n l t C
  · obtain rfl := hi.nk
    have e : rawv t = rat tq.q := by rw [← hi.q, rawv_rawQ]; rfl
    rw [e] at C ⊢
    exact stwice_go hi.in3 C

end Go.Proofs.YtoofmffmgdkinaaGreatDoor.Abs

/- SeriesTwice: for every input the law returns true, and each argument reads afterwards as it read before. Conditions: the listed variables of the library hold what their text lays (tied by the card). -/
set_option linter.unusedVariables false
namespace Go.Proofs.YtoofmffmgdkinaaGreatDoor.Abs
open Go Go.RowKit Go.ChangeShapes Go.WideShapes Go.ChangeAt Go.Proofs.Tryz

theorem seriesTwice_laid {W : World} (h : laidMetH prog Rows.seriesTwiceRow.laid W) : GOk (fun b => b < W.heap.size) W :=
  gok_of_tab (Lib.tabIs_of_head gDb gDbT underlying201 underlying5 cU8 cDb h)
theorem seriesTwice_met (os : Os) : laidMet prog Rows.seriesTwiceRow.laid ((laidWorld os).forCall (fun _ _ => 0) ⟨#[], #[.int .i64 0, .slice none 0 0, .agg #[.bool false, .slice none 0 0, .slice none 0 0]], []⟩).memory :=
  laidMet_of_run' 8 (by kernel_rfl) (by kernel_rfl)
theorem seriesTwice_reads (os : Os) {H : Type} (enc : TypeId × Value → H) : ∃ x places, DataW.whole enc prog ((laidWorld os).forCall (fun _ _ => 0) ⟨#[], #[.int .i64 0, .slice none 0 0, .agg #[.bool false, .slice none 0 0, .slice none 0 0]], []⟩).memory f7.params.toList Rows.seriesTwiceSpec.vars false (#[.int .i64 0, .slice none 0 0, .agg #[.bool false, .slice none 0 0, .slice none 0 0]] : Array Value).toList 8 = some (x, [], places) :=
  ⟨[.lit (.int .i64 0), .nil, .agg [.agg [.lit (.bool false), .nil], .nil]], [], by kernel_rfl⟩
set_option maxRecDepth 100000 in
theorem seriesTwice_lifted (os : Os) (started : os.Started) (H : Type) (enc : TypeId × Value → H) (F : Stop.Interp) :
    ReturnsInHanded {} checked os 7 .any ((OpenSpec.ofChange Rows.seriesTwiceSpec).preRow enc prog f7 Rows.seriesTwiceRow.domain false Rows.seriesTwiceRow.laid) (((OpenSpec.ofChange Rows.seriesTwiceSpec).at F).post enc prog f7 false true false false) := by
  obtain ⟨x, places, hx⟩ := seriesTwice_reads os enc
  refine returnsInHanded_of_row (C := checked) (s := OpenSpec.ofChange Rows.seriesTwiceSpec) ownK started (by kernel_rfl) func7
    (witness_row_at (enc := enc) (C := checked) false (laidWorld os) #[.int .i64 0, .slice none 0 0, .agg #[.bool false, .slice none 0 0, .slice none 0 0]] rfl (by kernel_rfl) (by kernel_rfl) (by kernel_rfl)
      (OpenSpec.preRow_of_cond 8 hx (by kernel_rfl) (fun k hk => by cases hk) (by kernel_rfl) (seriesTwice_met os))) ?_
  intro W base args ds gs before hval hW _ _ _ hL _ _
  exact bridge (n := 9) laidOutP (by kernel_rfl) rfl (fun ds hd => by
    match ds, hd with
    | [_, _, _], _ => rfl) rfl underlying4 seriesTwice_c hval hW (seriesTwice_laid hL)
theorem seriesTwice_said : Rows.SeriesTwiceSaid :=
  OpenClaim.holds_of_cond 7 f7 rfl rfl rfl rfl rfl rfl rfl ⟨rfl, rfl, rfl, rfl, rfl⟩ rfl rfl rfl rfl rfl (by kernel_rfl) func7 (by kernel_rfl)
    (of_decide_eq_true (by kernel_rfl)) (by unfold Func.isWrapper; first | (rw [if_pos (by decide +kernel)]; kernel_rfl) | (rw [if_neg (by decide +kernel)]; exact ⟨rfl, rfl⟩))
    (fun os started H enc _ F => by rw [OpenClaim.pre_eq_preRow]; exact seriesTwice_lifted os started H enc F)
theorem seriesTwice_plain (f : FuncId) (fn : Func) (hf : Tryz.pinned.checked.prog.funcNamed "girdle/girdlelaw13.SeriesTwice" = some f) (hfn : Tryz.pinned.checked.prog.funcs[f]? = some fn) :
    false = Tryz.pinned.checked.prog.looks [] ∧ ∀ (j : Nat) t, fn.params[j]? = some t → Tryz.pinned.checked.prog.wantsStandIn t = false := by
  obtain rfl : f = 7 := Option.some.inj ((show prog.funcNamed "girdle/girdlelaw13.SeriesTwice" = some 7 by kernel_rfl).symm.trans hf) |>.symm
  obtain rfl : fn = f7 := (Option.some.inj (func7.symm.trans hfn)).symm
  refine ⟨by kernel_rfl, fun j t ht => ?_⟩
  have hall : (f7.params.toList.all fun u => !prog.wantsStandIn u) = true := by kernel_rfl
  exact (show prog.wantsStandIn t = false by simpa using List.all_eq_true.1 hall t (by simpa using Array.mem_of_getElem? ht))
end Go.Proofs.YtoofmffmgdkinaaGreatDoor.Abs
namespace Go.Proofs.YtoofmffmgdkinaaGreatDoor
open Go Go.Proofs.YtoofmffmgdkinaaGreatDoor.Abs
/-- THE CARD. -/
theorem seriesTwice_card : Rows.SeriesTwiceCardSaid :=
  Claim7.holds_tied_plain_at .later [] _ _ _ _ seriesTwice_said (fun _ h => by cases h) (by kernel_rfl) (fun _ h => by cases h) seriesTwice_row_tie rfl ⟨rfl, rfl⟩ (by kernel_rfl) rfl seriesTwice_plain (by kernel_rfl)
#print axioms seriesTwice_card
end Go.Proofs.YtoofmffmgdkinaaGreatDoor
