/- GrowRefuses: for every input the law returns true, and each argument reads afterwards as it read before. Conditions: the listed variables of the library hold what their text lays (tied by the card). -/
import Derived.Test.YtoofmffmgdkinaaGreatDoorMx
import Derived.Test.YtoofmffmgdkinaaGreatDoorMn
set_option linter.unusedVariables false
set_option linter.unusedSectionVars false
set_option linter.unusedSimpArgs false
set_option maxHeartbeats 4000000
set_option maxRecDepth 20000
namespace Go.Proofs.YtoofmffmgdkinaaGreatDoor.Abs
open Go Go.RowKit Go.Proofs.Tryz
def r32 : FQ := qOf 32 1
theorem r32_q : r32.q = 32 := by kernel_rfl
theorem r32_sz : Sz r32.q 6 1 := ⟨by rw [r32_q]; decide +kernel, by rw [r32_q]; decide +kernel⟩
theorem refused {r : FQ} {bits : Int} (h : gChk r bits = 1) : gExp r bits = .error 0 ∧ gOne r bits = .error 0 ∧ gTwo r bits = .error 0 ∧ gCurve r bits = .error 0 ∧ gRise r bits = .error 0 := by
  have h1 : gArg r bits = .error 0 := by
    unfold gArg
    rw [h]
  have h2 : gTwo r bits = .error 0 := by
    unfold gTwo
    rw [h1]
    rfl
  refine ⟨?_, ?_, h2, ?_, ?_⟩
  · unfold gExp gPair
    rw [h1]
    rfl
  · unfold gOne gPair
    rw [h1]
    rfl
  · unfold gCurve
    rw [h2]
    rfl
  · unfold gRise
    rw [h2]
    rfl
theorem dSgn_d0 : dSgn d0 = 0 := by kernel_rfl
attribute [local irreducible] gExp gOne gTwo gCurve gRise qSgn qCmp
theorem grefuse_bad (t : RawQ) (bits : Int) (ht : RawB t) (h : t.2.1.length > 2 ∨ t.2.2.length > 2 ∨ rawCheck t ≠ 0) : ACalls prog 13 [rawv t, i64 bits] (boo true) := by
  obtain ⟨m, a, d⟩ := t
  obtain ⟨b1, b2, b3, b4⟩ := ht
  have q1 : (((a.map dg).length : Nat) : Int) = (a.length : Int) := by simp
  have q2 : (((d.map dg).length : Nat) : Int) = (d.length : Int) := by simp
  by_cases h5 : a.length > 2
  · refine conN func13 rfl (by kernel_rfl) ?_
    conv => whnf
    refine callS c_rises rfl rfl ?_
    conv => whnf
    rw [q1]
    rw [decide_eq_true (by omega)]
    conv => whnf
    exact fin rfl rfl
  by_cases h6 : d.length > 2
  · refine conN func13 rfl (by kernel_rfl) ?_
    conv => whnf
    refine callS c_rises rfl rfl ?_
    conv => whnf
    rw [q1]
    rw [decide_eq_false (by omega)]
    conv => whnf
    rw [q2, decide_eq_true (by omega)]
    conv => whnf
    exact fin rfl rfl
  obtain ⟨c, C, hc⟩ : ∃ c, ACalls prog 17 [rawv (m, a, d)] (i64 c) ∧ rawCheck (m, a, d) = c := ⟨_, c_qCheck m a d b1 b2 b3 b4, rfl⟩
  rw [hc] at h
  have h4 : c ≠ 0 := by
    rcases h with h | h | h
    · exact absurd h h5
    · exact absurd h h6
    · exact h
  refine conN func13 rfl (by kernel_rfl) ?_
  conv => whnf
  refine callS c_rises rfl rfl ?_
  conv => whnf
  rw [q1]
  rw [decide_eq_false (by omega)]
  conv => whnf
  rw [q2, decide_eq_false (by omega)]
  conv => whnf
  refine callS C rfl rfl ?_
  conv => whnf
  rw [show (c != 0) = true by simpa using h4]
  conv => whnf
  exact fin rfl rfl
theorem grefuse_go (a : FQ) (bits : Int) (hs : sm 2 a) : ACalls prog 13 [rat a.q, i64 bits] (boo true) := by
  have CC : ACalls prog 17 [rat a.q] (i64 0) := by
    have e1 : ∀ n : Nat, ((digs n).length ≤ 2) → (digs n).length ≤ 9223372036854775807 := fun n h => by omega
    have h := c_qCheck (rawQ a).1 (rawQ a).2.1 (rawQ a).2.2 (e1 _ hs.1) (e1 _ hs.2) (fun x hx => digs_lt hx) (fun x hx => digs_lt hx)
    have e2 : ratL (rawQ a).1 (rawQ a).2.1 (rawQ a).2.2 = rat a.q := rfl
    rw [e2] at h
    have e3 : qCheck (rawQ a).1 (rawQ a).2.1 (rawQ a).2.2 = 0 := rawCheck_rawQ a
    rw [e3] at h
    exact h
  have hl1 := hs.1
  have hl2 := hs.2
  have q1 : ((((digs a.q.num.natAbs).map dg).length : Nat) : Int) = ((digs a.q.num.natAbs).length : Int) := by simp
  have q2 : ((((digs a.q.den).map dg).length : Nat) : Int) = ((digs a.q.den).length : Int) := by simp
  have CS := c_qSign a
  have C32 : ACalls prog 21 [i64 32, i64 1] (rat r32.q) := c_qOf 32 1 (by decide) (by decide) (by decide) (by decide)
  have CX := c_qCompare a r32
  have hcmp : qCmp a r32 = .ok (cmpQ a.q r32.q) := qCmp_ok (sm_sz hs) r32_sz (by omega) (by omega)
  obtain ⟨c, hc⟩ : ∃ c, cmpQ a.q r32.q = c := ⟨_, rfl⟩
  rw [hc] at hcmp
  rw [hcmp] at CX
  change ACalls prog _ _ (.tup [i64 c, i64 ((0 : Nat) : Int)]) at CX
  obtain ⟨s, hs'⟩ : ∃ s, qSgn a = s := ⟨_, rfl⟩
  rw [hs'] at CS
  have hchk : ¬ (s ≥ 0 ∧ c ≤ 0 ∧ bits ≥ 8 ∧ bits ≤ 512) → gChk a bits = 1 := fun h => by
    unfold gChk
    rw [hs']
    by_cases q : bits < 8 ∨ bits > 512 ∨ s < 0
    · rw [if_pos q]
    · rw [if_neg q]
      show (match qCmp a r32 with | .error e => e + 1 | .ok c => if c > 0 then 1 else 0) = 1
      rw [hcmp]
      simp only
      rw [if_pos (by omega)]
  refine conP func13 rfl (by kernel_rfl) ?_
  refine .go (by kernel_rfl) ?_
  conv => whnf
  refine .go (by kernel_rfl) ?_
  conv => whnf
  refine callS c_rises rfl rfl ?_
  conv => whnf
  refine .go (by kernel_rfl) ?_
  conv => whnf
  rw [q1, decide_eq_false (by omega)]
  conv => whnf
  rw [q2, decide_eq_false (by omega)]
  conv => whnf
  refine callS CC rfl rfl ?_
  conv => whnf
  refine .go (by kernel_rfl) ?_
  conv => whnf
  refine ⟨by kernel_rfl, ?_⟩
  conv => whnf
  refine callD C32 rfl rfl ?_
  conv => whnf
  refine callD CX rfl rfl ?_
  conv => whnf
  refine .go (by kernel_rfl) ?_
  conv => whnf
  refine callS CS rfl rfl ?_
  conv => whnf
  by_cases k1 : s ≥ 0
  case neg =>
    rw [decide_eq_false k1]
    conv => whnf
    have hk := hchk (by omega)
    obtain ⟨r1, r2, r3, r4, r5⟩ := refused hk
    have E1 := c_gExp a bits
    have E2 := c_gOne a bits
    have E3 := c_gTwo a bits
    have E4 := c_gCurve a bits
    have E5 := c_gRise a bits
    have E6 := c_dSign d0
    rw [r1] at E1
    rw [r2] at E2
    rw [r3] at E3
    rw [r4] at E4
    rw [r5] at E5
    rw [dSgn_d0] at E6
    clear hk hchk r1 r2 r3 r4 r5 hcmp CC CS CX C32
    refine .go (by kernel_rfl) ?_
    conv => whnf
    refine callS E1 rfl rfl ?_
    conv => whnf
    refine .go (by kernel_rfl) ?_
    conv => whnf
    refine callS E2 rfl rfl ?_
    conv => whnf
    refine .go (by kernel_rfl) ?_
    conv => whnf
    refine callS E3 rfl rfl ?_
    conv => whnf
    refine .go (by kernel_rfl) ?_
    conv => whnf
    refine callS E4 rfl rfl ?_
    conv => whnf
    refine .go (by kernel_rfl) ?_
    conv => whnf
    refine callS E5 rfl rfl ?_
    conv => whnf
    refine pcN (by kernel_rfl) ?_
    conv => whnf
    refine callS E6 rfl rfl ?_
    conv => whnf
    refine callS E6 rfl rfl ?_
    conv => whnf
    exact fin rfl rfl
  rw [decide_eq_true k1]
  conv => whnf
  by_cases k2 : c ≤ 0
  case neg =>
    rw [decide_eq_false k2]
    conv => whnf
    have hk := hchk (by omega)
    obtain ⟨r1, r2, r3, r4, r5⟩ := refused hk
    have E1 := c_gExp a bits
    have E2 := c_gOne a bits
    have E3 := c_gTwo a bits
    have E4 := c_gCurve a bits
    have E5 := c_gRise a bits
    have E6 := c_dSign d0
    rw [r1] at E1
    rw [r2] at E2
    rw [r3] at E3
    rw [r4] at E4
    rw [r5] at E5
    rw [dSgn_d0] at E6
    clear hk hchk r1 r2 r3 r4 r5 hcmp CC CS CX C32
    refine .go (by kernel_rfl) ?_
    conv => whnf
    refine callS E1 rfl rfl ?_
    conv => whnf
    refine .go (by kernel_rfl) ?_
    conv => whnf
    refine callS E2 rfl rfl ?_
    conv => whnf
    refine .go (by kernel_rfl) ?_
    conv => whnf
    refine callS E3 rfl rfl ?_
    conv => whnf
    refine .go (by kernel_rfl) ?_
    conv => whnf
    refine callS E4 rfl rfl ?_
    conv => whnf
    refine .go (by kernel_rfl) ?_
    conv => whnf
    refine callS E5 rfl rfl ?_
    conv => whnf
    refine pcN (by kernel_rfl) ?_
    conv => whnf
    refine callS E6 rfl rfl ?_
    conv => whnf
    refine callS E6 rfl rfl ?_
    conv => whnf
    exact fin rfl rfl
  rw [decide_eq_true k2]
  conv => whnf
  by_cases k3 : bits ≥ 8
  case neg =>
    rw [decide_eq_false k3]
    conv => whnf
    have hk := hchk (by omega)
    obtain ⟨r1, r2, r3, r4, r5⟩ := refused hk
    have E1 := c_gExp a bits
    have E2 := c_gOne a bits
    have E3 := c_gTwo a bits
    have E4 := c_gCurve a bits
    have E5 := c_gRise a bits
    have E6 := c_dSign d0
    rw [r1] at E1
    rw [r2] at E2
    rw [r3] at E3
    rw [r4] at E4
    rw [r5] at E5
    rw [dSgn_d0] at E6
    clear hk hchk r1 r2 r3 r4 r5 hcmp CC CS CX C32
    refine .go (by kernel_rfl) ?_
    conv => whnf
    refine callS E1 rfl rfl ?_
    conv => whnf
    refine .go (by kernel_rfl) ?_
    conv => whnf
    refine callS E2 rfl rfl ?_
    conv => whnf
    refine .go (by kernel_rfl) ?_
    conv => whnf
    refine callS E3 rfl rfl ?_
    conv => whnf
    refine .go (by kernel_rfl) ?_
    conv => whnf
    refine callS E4 rfl rfl ?_
    conv => whnf
    refine .go (by kernel_rfl) ?_
    conv => whnf
    refine callS E5 rfl rfl ?_
    conv => whnf
    refine pcN (by kernel_rfl) ?_
    conv => whnf
    refine callS E6 rfl rfl ?_
    conv => whnf
    refine callS E6 rfl rfl ?_
    conv => whnf
    exact fin rfl rfl
  rw [decide_eq_true k3]
  conv => whnf
  by_cases k4 : bits ≤ 512
  case neg =>
    rw [decide_eq_false k4]
    conv => whnf
    have hk := hchk (by omega)
    obtain ⟨r1, r2, r3, r4, r5⟩ := refused hk
    have E1 := c_gExp a bits
    have E2 := c_gOne a bits
    have E3 := c_gTwo a bits
    have E4 := c_gCurve a bits
    have E5 := c_gRise a bits
    have E6 := c_dSign d0
    rw [r1] at E1
    rw [r2] at E2
    rw [r3] at E3
    rw [r4] at E4
    rw [r5] at E5
    rw [dSgn_d0] at E6
    clear hk hchk r1 r2 r3 r4 r5 hcmp CC CS CX C32
    refine .go (by kernel_rfl) ?_
    conv => whnf
    refine callS E1 rfl rfl ?_
    conv => whnf
    refine .go (by kernel_rfl) ?_
    conv => whnf
    refine callS E2 rfl rfl ?_
    conv => whnf
    refine .go (by kernel_rfl) ?_
    conv => whnf
    refine callS E3 rfl rfl ?_
    conv => whnf
    refine .go (by kernel_rfl) ?_
    conv => whnf
    refine callS E4 rfl rfl ?_
    conv => whnf
    refine .go (by kernel_rfl) ?_
    conv => whnf
    refine callS E5 rfl rfl ?_
    conv => whnf
    refine pcN (by kernel_rfl) ?_
    conv => whnf
    refine callS E6 rfl rfl ?_
    conv => whnf
    refine callS E6 rfl rfl ?_
    conv => whnf
    exact fin rfl rfl
  rw [decide_eq_true k4]
  conv => whnf
  exact fin rfl rfl
theorem growRefuses_c : ∀ avs, RdArgs prog 9 f13.params.toList avs → ACalls prog 13 avs (.lit (.bool true)) := by
  intro avs h
  have h : RdArgs prog 9 [28, 3] avs := h
  match avs, h with
  | [x, y], ⟨⟨c1, r1, e1⟩, ⟨c2, r2, e2⟩, _⟩ =>
    obtain ⟨t, ht, rfl, hb⟩ := rd_rat r1
    obtain ⟨n, rfl, _⟩ := rd_int r2
    rw [ht] at e1
    rw [mkV_one ag_int] at e2
    subst e1 e2
    by_cases hbad : t.2.1.length > 2 ∨ t.2.2.length > 2 ∨ rawCheck t ≠ 0
    · exact grefuse_bad t n hb hbad
    · obtain ⟨a, ha⟩ := raw_q hb.2.2.1 hb.2.2.2 (Classical.byContradiction fun q => hbad (.inr (.inr q)))
      have e : rawv t = rat a.q := by rw [← ha, rawv_rawQ]; rfl
      rw [e]
      refine grefuse_go a n ?_
      have h1 : ¬ t.2.1.length > 2 := fun q => hbad (.inl q)
      have h2 : ¬ t.2.2.length > 2 := fun q => hbad (.inr (.inl q))
      rw [← ha] at h1 h2
      have h1 : ¬ (digs a.q.num.natAbs).length > 2 := h1
      have h2 : ¬ (digs a.q.den).length > 2 := h2
      exact ⟨by omega, by omega⟩
end Go.Proofs.YtoofmffmgdkinaaGreatDoor.Abs
set_option linter.unusedVariables false
namespace Go.Proofs.YtoofmffmgdkinaaGreatDoor.Abs
open Go Go.RowKit Go.ChangeShapes Go.WideShapes Go.ChangeAt Go.Proofs.Tryz
theorem growRefuses_laid {W : World} (h : laidMetH prog Rows.growRefusesRow.laid W) : GOk (fun b => b < W.heap.size) W :=
  gok_of_tab (Lib.tabIs_of_head gDb gDbT underlying201 underlying5 cU8 cDb h)
theorem growRefuses_met (os : Os) : laidMet prog Rows.growRefusesRow.laid ((laidWorld os).forCall (fun _ _ => 0) ⟨#[], #[.agg #[.bool false, .slice none 0 0, .slice none 0 0], .int .i64 0], []⟩).memory :=
  laidMet_of_run' 8 (by kernel_rfl) (by kernel_rfl)
theorem growRefuses_reads (os : Os) {H : Type} (enc : TypeId × Value → H) : ∃ x places, DataW.whole enc prog ((laidWorld os).forCall (fun _ _ => 0) ⟨#[], #[.agg #[.bool false, .slice none 0 0, .slice none 0 0], .int .i64 0], []⟩).memory f13.params.toList Rows.growRefusesSpec.vars false (#[.agg #[.bool false, .slice none 0 0, .slice none 0 0], .int .i64 0] : Array Value).toList 8 = some (x, [], places) :=
  ⟨[.agg [.agg [.lit (.bool false), .nil], .nil], .lit (.int .i64 0)], [], by kernel_rfl⟩
set_option maxRecDepth 100000 in
theorem growRefuses_lifted (os : Os) (started : os.Started) (H : Type) (enc : TypeId × Value → H) (F : Stop.Interp) :
    ReturnsInHanded {} checked os 13 .any ((OpenSpec.ofChange Rows.growRefusesSpec).preRow enc prog f13 Rows.growRefusesRow.domain false Rows.growRefusesRow.laid) (((OpenSpec.ofChange Rows.growRefusesSpec).at F).post enc prog f13 false true false false) := by
  obtain ⟨x, places, hx⟩ := growRefuses_reads os enc
  refine returnsInHanded_of_row (C := checked) (s := OpenSpec.ofChange Rows.growRefusesSpec) ownK started (by kernel_rfl) func13
    (witness_row_at (enc := enc) (C := checked) false (laidWorld os) #[.agg #[.bool false, .slice none 0 0, .slice none 0 0], .int .i64 0] rfl (by kernel_rfl) (by kernel_rfl) (by kernel_rfl)
      (OpenSpec.preRow_of_cond 8 hx (by kernel_rfl) (fun k hk => by cases hk) (by kernel_rfl) (growRefuses_met os))) ?_
  intro W base args ds gs before hval hW _ _ _ hL _ _
  exact bridge (n := 9) laidOutP (by kernel_rfl) rfl (fun ds hd => by
    match ds, hd with
    | [_, _], _ => rfl) rfl underlying4 growRefuses_c hval hW (growRefuses_laid hL)
theorem growRefuses_said : Rows.GrowRefusesSaid :=
  OpenClaim.holds_of_cond 13 f13 rfl rfl rfl rfl rfl rfl rfl ⟨rfl, rfl, rfl, rfl, rfl⟩ rfl rfl rfl rfl rfl (by kernel_rfl) func13 (by kernel_rfl)
    (of_decide_eq_true (by kernel_rfl)) (by unfold Func.isWrapper; first | (rw [if_pos (by decide +kernel)]; kernel_rfl) | (rw [if_neg (by decide +kernel)]; exact ⟨rfl, rfl⟩))
    (fun os started H enc _ F => by rw [OpenClaim.pre_eq_preRow]; exact growRefuses_lifted os started H enc F)
theorem growRefuses_plain (f : FuncId) (fn : Func) (hf : Tryz.pinned.checked.prog.funcNamed "girdle/girdlelaw14.GrowRefuses" = some f) (hfn : Tryz.pinned.checked.prog.funcs[f]? = some fn) :
    false = Tryz.pinned.checked.prog.looks [] ∧ ∀ (j : Nat) t, fn.params[j]? = some t → Tryz.pinned.checked.prog.wantsStandIn t = false := by
  obtain rfl : f = 13 := Option.some.inj ((show prog.funcNamed "girdle/girdlelaw14.GrowRefuses" = some 13 by kernel_rfl).symm.trans hf) |>.symm
  obtain rfl : fn = f13 := (Option.some.inj (func13.symm.trans hfn)).symm
  refine ⟨by kernel_rfl, fun j t ht => ?_⟩
  have hall : (f13.params.toList.all fun u => !prog.wantsStandIn u) = true := by kernel_rfl
  exact (show prog.wantsStandIn t = false by simpa using List.all_eq_true.1 hall t (by simpa using Array.mem_of_getElem? ht))
end Go.Proofs.YtoofmffmgdkinaaGreatDoor.Abs
namespace Go.Proofs.YtoofmffmgdkinaaGreatDoor
open Go Go.Proofs.YtoofmffmgdkinaaGreatDoor.Abs
theorem growRefuses_card : Rows.GrowRefusesCardSaid :=
  Claim7.holds_tied_plain_at .later [] _ _ _ _ growRefuses_said (fun _ h => by cases h) (by kernel_rfl) (fun _ h => by cases h) growRefuses_row_tie rfl ⟨rfl, rfl⟩ (by kernel_rfl) rfl growRefuses_plain (by kernel_rfl)
#print axioms growRefuses_card
end Go.Proofs.YtoofmffmgdkinaaGreatDoor
