/- GrowGroups: for every input the law returns true, and each argument reads afterwards as it read before. Conditions: the listed variables of the library hold what their text lays (tied by the card). -/
import Derived.Test.YtoofmffmgdkinaaGreatDoorMz
import Derived.Test.YtoofmffmgdkinaaGreatDoorMn
set_option linter.unusedVariables false
set_option linter.unusedSectionVars false
set_option linter.unusedSimpArgs false
set_option maxHeartbeats 4000000
set_option maxRecDepth 20000
namespace Go.Proofs.YtoofmffmgdkinaaGreatDoor.Abs
open Go Go.RowKit Go.Proofs.Tryz
theorem one_pow' : ∀ m : Nat, (1 : Rat) ^ m = 1
  | 0 => Rat.pow_zero _
  | m + 1 => by rw [Rat.pow_succ, one_pow' m]; decide +kernel
theorem gS_EN (r : Rat) (N : Nat) : gS 0 r N = EN 1 (fun _ _ => 1) r N 0 0 := SS_congr fun m _ => by
  show ex (m + 0) 1 * r ^ m = ex m r * pw 1 (fun _ _ => 1) m 0 0
  rw [pw_one]
  rw [one_pow', Rat.mul_one]
  have := ex_mul 1 r m
  rw [Rat.one_mul] at this
  exact this
structure GroupS (r s t : FQ) (b : Nat) (a c d p m : FS) : Prop where
  h0 : qAdd r s = .ok t
  h1 : gExp r b = .ok a
  h2 : gExp s b = .ok c
  h3 : gExp t b = .ok d
  h4 : sMul a c b = .ok p
  h5 : sMeet p d = .ok m
theorem Lim.le {f : Nat → Rat} {s : FS} (h : Lim f s) : s.lo.v ≤ s.hi.v := by
  obtain ⟨g, g1, _⟩ := h
  exact Rat.le_trans (g1 0).1 (g1 0).2
theorem group_T {r s : FQ} {b : Nat} (h1 : 16 ≤ b) (h2 : b ≤ 200) (hr : Sz r.q 32 32) (hs : Sz s.q 32 32) (r0 : 0 ≤ r.q) (s0' : 0 ≤ s.q) (r8' : r.q ≤ 8) (s8 : s.q ≤ 8) : ∃ t a c d p m, GroupS r s t b a c d p m := by
  have e4 : (2 : Rat) ^ 4 * (1 / 2) = 8 := by decide +kernel
  have e5 : (2 : Rat) ^ 5 * (1 / 2) = 16 := by decide +kernel
  have hbo : bitsOk (b : Int) = true := bitsOk_iff.2 ⟨by omega, by omega⟩
  obtain ⟨t, t1, t2, t3⟩ := qAdd_ok (t := 64) hr hs (by omega) (by omega) (by omega) (by omega)
  obtain ⟨a, _, ga⟩ := grw_1 (f := 4) h1 h2 (by omega) r0 (by rw [e4]; exact r8') (hr.mono (by omega) (by omega))
  obtain ⟨c, _, gc⟩ := grw_1 (f := 4) h1 h2 (by omega) s0' (by rw [e4]; exact s8) (hs.mono (by omega) (by omega))
  obtain ⟨d, _, gd⟩ := grw_1 (r := t) (f := 5) h1 h2 (by omega) (by rw [t2]; grind) (by rw [e5, t2]; grind) (t3.mono (by omega) (by omega))
  obtain ⟨p, p1, _, p3⟩ := sMul_ok hbo ga.ge gc.ge (by omega)
  have l1 := Lim.mul ga.le gc.le p3
  have hrow : RowB 1 (fun _ _ => (1 : Rat)) 1 := fun i hi => by
    show absQ 1 + 0 ≤ 1
    decide +kernel
  have hn := EE_nul (n := 1) (A := fun _ _ => 1) hrow (by decide +kernel) r.q s.q (i := 0) (j := 0) (by omega) (by omega)
  have l2 : Lim (fun N => gS 0 t.q N) p := l1.nul (hn.neg.congr fun N => by
    have e : mm 1 (EN 1 (fun _ _ => 1) r.q N) (EN 1 (fun _ _ => 1) s.q N) 0 0 = gS 0 r.q N * gS 0 s.q N + 0 := by
      rw [gS_EN, gS_EN]
      rfl
    rw [e, gS_EN t.q, t2]
    grind)
  obtain ⟨m, hm⟩ := sMeet_ok l2.le gd.le.le (Lim.meet l2 gd.le) (Lim.meet gd.le l2)
  exact ⟨t, a, c, d, p, m, t1, ga.e, gc.e, gd.e, p1, hm⟩
attribute [local irreducible] gExp gTwo dLess qCmp qAdd sMul sMeet
theorem ggroup_bad1 (r s : RawQ) (bits : Int) (C : ACalls prog 44 [rawv r, i64 bits] (boo false)) : ACalls prog 14 [rawv r, rawv s, i64 bits] (boo true) := by
  refine conN func14 rfl (by kernel_rfl) ?_
  conv => whnf
  refine callS c_rises rfl rfl ?_
  conv => whnf
  refine callS C rfl rfl ?_
  conv => whnf
  exact fin rfl rfl
theorem ggroup_bad2 (r s : RawQ) (bits : Int) (C : ACalls prog 44 [rawv r, i64 bits] (boo true)) (C2 : ACalls prog 44 [rawv s, i64 bits] (boo false)) : ACalls prog 14 [rawv r, rawv s, i64 bits] (boo true) := by
  refine conN func14 rfl (by kernel_rfl) ?_
  conv => whnf
  refine callS c_rises rfl rfl ?_
  conv => whnf
  refine callS C rfl rfl ?_
  conv => whnf
  refine callS C2 rfl rfl ?_
  conv => whnf
  exact fin rfl rfl
theorem ggroup_go {r s : FQ} {b : Nat} (h1 : 16 ≤ b) (h2 : b ≤ 200) (hr : Sz r.q 32 32) (hs : Sz s.q 32 32) (r0 : 0 ≤ r.q) (s0' : 0 ≤ s.q) (r8' : r.q ≤ 8) (s8 : s.q ≤ 8)
    (C : ACalls prog 44 [rat r.q, i64 (b : Nat)] (boo true)) (C2 : ACalls prog 44 [rat s.q, i64 (b : Nat)] (boo true)) : ACalls prog 14 [rat r.q, rat s.q, i64 (b : Nat)] (boo true) := by
  obtain ⟨t, a, c, d, p, m, k0, k1, k2, k3, k4, k5⟩ := group_T h1 h2 hr hs r0 s0' r8' s8
  have M0 := c_qAdd r s
  have M1 := c_gExp r b
  have M2 := c_gExp s b
  have M3 := c_gExp t b
  have M4 := c_sMul a c b ⟨by omega, by omega⟩
  have M5 := c_sMeet p d
  rw [k0] at M0
  rw [k1] at M1
  rw [k2] at M2
  rw [k3] at M3
  rw [k4] at M4
  rw [k5] at M5
  refine conP func14 rfl (by kernel_rfl) ?_
  refine .go (by kernel_rfl) ?_
  conv => whnf
  refine .go (by kernel_rfl) ?_
  conv => whnf
  refine callS c_rises rfl rfl ?_
  conv => whnf
  refine .go (by kernel_rfl) ?_
  conv => whnf
  refine callS C rfl rfl ?_
  conv => whnf
  refine callS C2 rfl rfl ?_
  conv => whnf
  refine .go (by kernel_rfl) ?_
  conv => whnf
  refine callS M0 rfl rfl ?_
  conv => whnf
  refine .go (by kernel_rfl) ?_
  conv => whnf
  refine callS M1 rfl rfl ?_
  conv => whnf
  refine .go (by kernel_rfl) ?_
  conv => whnf
  refine callS M2 rfl rfl ?_
  conv => whnf
  refine .go (by kernel_rfl) ?_
  conv => whnf
  refine callS M3 rfl rfl ?_
  conv => whnf
  refine .go (by kernel_rfl) ?_
  conv => whnf
  refine callS M4 rfl rfl ?_
  conv => whnf
  refine .go (by kernel_rfl) ?_
  conv => whnf
  refine callS M5 rfl rfl ?_
  conv => whnf
  refine pcN (by kernel_rfl) ?_
  conv => whnf
  exact fin rfl rfl
theorem growGroups_c : ∀ avs, RdArgs prog 9 f14.params.toList avs → ACalls prog 14 avs (.lit (.bool true)) := by
  intro avs h
  obtain ⟨r, s, n, rfl, hr, hs⟩ := rd_rrb h
  rcases c_fit14 r n hr with C | ⟨a, b, fa, C⟩
  · exact ggroup_bad1 r s n C
  · rcases c_fit14 s n hs with C2 | ⟨a2, b2, fb, C2⟩
    · exact ggroup_bad2 r s n C C2
    · have e1 := fa.rawe
      have e2 := fb.rawe
      have e3 := fa.nb
      rw [e1, e3] at C
      rw [e2, e3] at C2
      rw [e1, e2, e3]
      exact ggroup_go fa.b1 fa.b2 fa.sz fb.sz fa.h0 fb.h0 fa.h8 fb.h8 C C2
end Go.Proofs.YtoofmffmgdkinaaGreatDoor.Abs
set_option linter.unusedVariables false
namespace Go.Proofs.YtoofmffmgdkinaaGreatDoor.Abs
open Go Go.RowKit Go.ChangeShapes Go.WideShapes Go.ChangeAt Go.Proofs.Tryz
theorem growGroups_laid {W : World} (h : laidMetH prog Rows.growGroupsRow.laid W) : GOk (fun b => b < W.heap.size) W :=
  gok_of_tab (Lib.tabIs_of_head gDb gDbT underlying201 underlying5 cU8 cDb h)
theorem growGroups_met (os : Os) : laidMet prog Rows.growGroupsRow.laid ((laidWorld os).forCall (fun _ _ => 0) ⟨#[], #[.agg #[.bool false, .slice none 0 0, .slice none 0 0], .agg #[.bool false, .slice none 0 0, .slice none 0 0], .int .i64 0], []⟩).memory :=
  laidMet_of_run' 8 (by kernel_rfl) (by kernel_rfl)
theorem growGroups_reads (os : Os) {H : Type} (enc : TypeId × Value → H) : ∃ x places, DataW.whole enc prog ((laidWorld os).forCall (fun _ _ => 0) ⟨#[], #[.agg #[.bool false, .slice none 0 0, .slice none 0 0], .agg #[.bool false, .slice none 0 0, .slice none 0 0], .int .i64 0], []⟩).memory f14.params.toList Rows.growGroupsSpec.vars false (#[.agg #[.bool false, .slice none 0 0, .slice none 0 0], .agg #[.bool false, .slice none 0 0, .slice none 0 0], .int .i64 0] : Array Value).toList 8 = some (x, [], places) :=
  ⟨[.agg [.agg [.lit (.bool false), .nil], .nil], .agg [.agg [.lit (.bool false), .nil], .nil], .lit (.int .i64 0)], [], by kernel_rfl⟩
set_option maxRecDepth 100000 in
theorem growGroups_lifted (os : Os) (started : os.Started) (H : Type) (enc : TypeId × Value → H) (F : Stop.Interp) :
    ReturnsInHanded {} checked os 14 .any ((OpenSpec.ofChange Rows.growGroupsSpec).preRow enc prog f14 Rows.growGroupsRow.domain false Rows.growGroupsRow.laid) (((OpenSpec.ofChange Rows.growGroupsSpec).at F).post enc prog f14 false true false false) := by
  obtain ⟨x, places, hx⟩ := growGroups_reads os enc
  refine returnsInHanded_of_row (C := checked) (s := OpenSpec.ofChange Rows.growGroupsSpec) ownK started (by kernel_rfl) func14
    (witness_row_at (enc := enc) (C := checked) false (laidWorld os) #[.agg #[.bool false, .slice none 0 0, .slice none 0 0], .agg #[.bool false, .slice none 0 0, .slice none 0 0], .int .i64 0] rfl (by kernel_rfl) (by kernel_rfl) (by kernel_rfl)
      (OpenSpec.preRow_of_cond 8 hx (by kernel_rfl) (fun k hk => by cases hk) (by kernel_rfl) (growGroups_met os))) ?_
  intro W base args ds gs before hval hW _ _ _ hL _ _
  exact bridge (n := 9) laidOutP (by kernel_rfl) rfl (fun ds hd => by
    match ds, hd with
    | [_, _, _], _ => rfl) rfl underlying4 growGroups_c hval hW (growGroups_laid hL)
theorem growGroups_said : Rows.GrowGroupsSaid :=
  OpenClaim.holds_of_cond 14 f14 rfl rfl rfl rfl rfl rfl rfl ⟨rfl, rfl, rfl, rfl, rfl⟩ rfl rfl rfl rfl rfl (by kernel_rfl) func14 (by kernel_rfl)
    (of_decide_eq_true (by kernel_rfl)) (by unfold Func.isWrapper; first | (rw [if_pos (by decide +kernel)]; kernel_rfl) | (rw [if_neg (by decide +kernel)]; exact ⟨rfl, rfl⟩))
    (fun os started H enc _ F => by rw [OpenClaim.pre_eq_preRow]; exact growGroups_lifted os started H enc F)
theorem growGroups_plain (f : FuncId) (fn : Func) (hf : Tryz.pinned.checked.prog.funcNamed "girdle/girdlelaw14.GrowGroups" = some f) (hfn : Tryz.pinned.checked.prog.funcs[f]? = some fn) :
    false = Tryz.pinned.checked.prog.looks [] ∧ ∀ (j : Nat) t, fn.params[j]? = some t → Tryz.pinned.checked.prog.wantsStandIn t = false := by
  obtain rfl : f = 14 := Option.some.inj ((show prog.funcNamed "girdle/girdlelaw14.GrowGroups" = some 14 by kernel_rfl).symm.trans hf) |>.symm
  obtain rfl : fn = f14 := (Option.some.inj (func14.symm.trans hfn)).symm
  refine ⟨by kernel_rfl, fun j t ht => ?_⟩
  have hall : (f14.params.toList.all fun u => !prog.wantsStandIn u) = true := by kernel_rfl
  exact (show prog.wantsStandIn t = false by simpa using List.all_eq_true.1 hall t (by simpa using Array.mem_of_getElem? ht))
end Go.Proofs.YtoofmffmgdkinaaGreatDoor.Abs
namespace Go.Proofs.YtoofmffmgdkinaaGreatDoor
open Go Go.Proofs.YtoofmffmgdkinaaGreatDoor.Abs
theorem growGroups_card : Rows.GrowGroupsCardSaid :=
  Claim7.holds_tied_plain_at .later [] _ _ _ _ growGroups_said (fun _ h => by cases h) (by kernel_rfl) (fun _ h => by cases h) growGroups_row_tie rfl ⟨rfl, rfl⟩ (by kernel_rfl) rfl growGroups_plain (by kernel_rfl)
#print axioms growGroups_card
end Go.Proofs.YtoofmffmgdkinaaGreatDoor
