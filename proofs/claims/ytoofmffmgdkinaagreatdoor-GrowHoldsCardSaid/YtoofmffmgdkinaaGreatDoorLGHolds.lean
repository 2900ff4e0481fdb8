/- GrowHolds: for every input the law returns true, and each argument reads afterwards as it read before. Conditions: the listed variables of the library hold what their text lays (tied by the card). -/
import Derived.Test.YtoofmffmgdkinaaGreatDoorNa
import Derived.Test.YtoofmffmgdkinaaGreatDoorMn
set_option linter.unusedVariables false
set_option linter.unusedSectionVars false
set_option linter.unusedSimpArgs false
set_option maxHeartbeats 4000000
set_option maxRecDepth 20000
namespace Go.Proofs.YtoofmffmgdkinaaGreatDoor.Abs
open Go Go.RowKit Go.Proofs.Tryz
structure HolS (sk : Nat) (r : Rat) (s : FS) (a l h : FQ) : Prop where
  ea : a.q = gS sk r 40
  el : l.q = 2 * gT sk r 40
  eh : qAdd a l = .ok h
  lo : ∃ c, dCmpQ s.lo h = .ok c ∧ ¬ c > 0
  hi : ∃ c, dCmpQ s.hi a = .ok c ∧ ¬ c < 0
theorem hol_T {sk K L m : Nat} {r : Rat} {s : FS} (hs : sk ≤ 2) (h0 : 0 ≤ r) (h8 : r ≤ 8) (hr : Sz r 32 32) (g : SGr K L s) (hK : K ≤ 200) (hL : L ≤ 13120) (hKL : K + L ≤ 13216) (hl : Lim (fun N => gS sk r (N - m)) s) : ∃ a l h, HolS sk r s a l h := by
  have za := gS_sz (m := 40) hs h0 hr (by omega)
  have zt := gT_sz (m := 40) hs h0 hr (by omega)
  have ht : ∃ t : FQ, t.q = gT sk r 40 := ⟨⟨_, lt_big zt.1 (by omega), lt_big zt.2 (by omega)⟩, rfl⟩
  obtain ⟨a, ha⟩ : ∃ a : FQ, a.q = gS sk r 40 := ⟨⟨_, lt_big za.1 (by omega), lt_big za.2 (by omega)⟩, rfl⟩
  obtain ⟨t, ht⟩ := ht
  rw [← ha] at za
  rw [← ht] at zt
  obtain ⟨l, _, l2, l3⟩ := qMul_ok zt sz_two (by omega) (by omega)
  obtain ⟨h, h1, h2, h3⟩ := qAdd_ok za l3 (t := 3084) (by omega) (by omega) (by omega) (by omega)
  have el : l.q = 2 * gT sk r 40 := by rw [l2, ht, q_two, Rat.mul_comm]
  refine ⟨a, l, h, ha, el, h1, ⟨_, dCmpQ_ok g.1 h3 (by omega) (by omega), ?_⟩, ⟨_, dCmpQ_ok g.2 za (by omega) (by omega), ?_⟩⟩
  · have : s.lo.v ≤ h.q := by
      rw [h2, ha, el]
      refine Lim.top (m := 0) hl fun n _ => gS_top h0 ?_ _
      have e : ((40 + sk : Nat) : Rat) = 40 + (sk : Rat) := by rw [Rat.natCast_add]; rfl
      have : (0 : Rat) ≤ (sk : Rat) := Rat.natCast_nonneg
      rw [e]
      grind
    have := cmpQ_le.2 this
    omega
  · have : a.q ≤ s.hi.v := by
      rw [ha]
      exact Lim.low (m := 40 + m) hl fun n hn => gS_mono h0 (by omega)
    have := cmpQ_ge.2 this
    omega
attribute [local irreducible] gExp gOne gTwo dCmpQ qAdd gS gT
theorem ghol_bad (r : RawQ) (bits : Int) (C : ACalls prog 44 [rawv r, i64 bits] (boo false)) : ACalls prog 10 [rawv r, i64 bits] (boo true) := by
  refine conN func10 rfl (by kernel_rfl) ?_
  conv => whnf
  refine callS c_rises rfl rfl ?_
  conv => whnf
  refine callS C rfl rfl ?_
  conv => whnf
  exact fin rfl rfl
theorem ghol_go {r : FQ} {b : Nat} (h1 : 16 ≤ b) (h2 : b ≤ 200) (hr : Sz r.q 32 32) (h0 : 0 ≤ r.q) (h8 : r.q ≤ 8)
    (C : ACalls prog 44 [rat r.q, i64 (b : Nat)] (boo true)) : ACalls prog 10 [rat r.q, i64 (b : Nat)] (boo true) := by
  have e4 : (2 : Rat) ^ 4 * (1 / 2) = 8 := by decide +kernel
  have hr' := hr.mono (j' := 66) (k' := 66) (by omega) (by omega)
  obtain ⟨s0, s1, g⟩ := grw_1 (f := 4) h1 h2 (by omega) h0 (by rw [e4]; exact h8) hr'
  obtain ⟨s2, x1, x2, x3⟩ := grw_2 h1 h2 h0 (by grind) hr'
  have H0 := hol_T (sk := 0) (m := 0) (by omega) h0 h8 hr g.ge (by omega) (by omega) (by omega) g.le
  have H1 := hol_T (sk := 1) (m := 0) (by omega) h0 h8 hr g.go (by omega) (by omega) (by omega) g.lo
  have H2 := hol_T (sk := 2) (m := 2) (by omega) h0 h8 hr x2 (by omega) (by omega) (by omega) x3
  have M0 := c_gExp r b
  have M1 := c_gOne r b
  have M2 := c_gTwo r b
  rw [g.e] at M0
  rw [g.o] at M1
  rw [x1] at M2
  change ACalls prog _ _ (.tup [spa s0, i64 0]) at M0
  change ACalls prog _ _ (.tup [spa s1, i64 0]) at M1
  change ACalls prog _ _ (.tup [spa s2, i64 0]) at M2
  refine conP func10 rfl (by kernel_rfl) ?_
  refine .go (by kernel_rfl) ?_
  conv => whnf
  refine .go (by kernel_rfl) ?_
  conv => whnf
  refine callS c_rises rfl rfl ?_
  conv => whnf
  refine .go (by kernel_rfl) ?_
  conv => whnf
  refine callS C rfl rfl ?_
  conv => whnf
  refine .cut (fun _ : Unit => True) (fun _ => { fr := [], st := [], g := 9 }) ?_ ?_
  · refine .go (by kernel_rfl) ?_
    conv => whnf
    refine .block (.loop (fun i : Nat => i ≤ 3) (fun i => { fr := [(1, i64 (b : Nat)), (2, .ptr (0, 0) 0 0), (22, i64 (i : Nat))], st := [((0, 0), ⟨28, 3, [rat r.q]⟩)], g := 9 }) (fun i => 3 - i) 0 (Nat.zero_le _) ?_ ?_)
    · exact ⟨trivial, ⟨.inl ⟨.refl _, rfl⟩, .inl ⟨.refl _, rfl⟩, .inl ⟨.refl _, rfl⟩, trivial⟩, ⟨.same rfl rfl, List.not_mem_nil, Nat.le_of_ble_eq_true rfl⟩, trivial⟩
    intro i hi
    dsimp only
    refine .go (by kernel_rfl) ?_
    conv => whnf
    refine .go (by kernel_rfl) ?_
    conv => whnf
    refine Br.mk (fun b => ?_) (fun b => ?_)
    · have hlt : i < 3 := by
        have := of_decide_eq_true b
        omega
      clear b
      conv => whnf
      refine .cut (fun _ : Unit => True) (fun _ => { fr := [(1, i64 (b : Nat)), (2, .ptr (0, 0) 0 0), (22, i64 (i : Nat))], st := [((0, 0), ⟨28, 3, [rat r.q]⟩)], g := 60 }) ?_ ?_
      · have hi3 : i = 0 ∨ i = 1 ∨ i = 2 := by omega
        rcases hi3 with rfl | rfl | rfl
        · obtain ⟨a, l, h, ea, el, eh, ⟨c, c1, c2⟩, d, d1, d2⟩ := H0
          have CA := c_qAdd a l
          have CL := c_dCmpQ s0.lo h
          have CH := c_dCmpQ s0.hi a
          rw [eh] at CA
          rw [c1] at CL
          rw [d1] at CH
          change ACalls prog _ _ (.tup [rat h.q, i64 0]) at CA
          change ACalls prog _ _ (.tup [i64 c, i64 0]) at CL
          change ACalls prog _ _ (.tup [i64 d, i64 0]) at CH
          have CT := (c_terms (s := 0) (by omega) h0 hr)
          rw [← ea, ← el] at CT
          refine .block ?_
          refine .go (by kernel_rfl) ?_
          conv => whnf
          refine .go (by kernel_rfl) ?_
          conv => whnf
          refine .go (by kernel_rfl) ?_
          conv => whnf
          refine .go (by kernel_rfl) ?_
          conv => whnf
          refine callS M0 rfl rfl ?_
          conv => whnf
          refine .go (by kernel_rfl) ?_
          conv => whnf
          refine callS CT rfl rfl ?_
          conv => whnf
          refine .go (by kernel_rfl) ?_
          conv => whnf
          refine callS CA rfl rfl ?_
          conv => whnf
          refine .go (by kernel_rfl) ?_
          conv => whnf
          refine callS CL rfl rfl ?_
          conv => whnf
          refine .go (by kernel_rfl) ?_
          conv => whnf
          refine callS CH rfl rfl ?_
          conv => whnf
          refine pcN (by kernel_rfl) ?_
          conv => whnf
          rw [decide_eq_false c2]
          conv => whnf
          rw [decide_eq_false d2]
          conv => whnf
          exact ⟨(), trivial, ⟨trivial, ⟨.inl ⟨.refl _, rfl⟩, .inl ⟨.refl _, rfl⟩, .inl ⟨.refl _, rfl⟩, trivial⟩, ⟨.same rfl rfl, List.not_mem_nil, Nat.le_of_ble_eq_true rfl⟩, trivial⟩⟩
        · obtain ⟨a, l, h, ea, el, eh, ⟨c, c1, c2⟩, d, d1, d2⟩ := H1
          have CA := c_qAdd a l
          have CL := c_dCmpQ s1.lo h
          have CH := c_dCmpQ s1.hi a
          rw [eh] at CA
          rw [c1] at CL
          rw [d1] at CH
          change ACalls prog _ _ (.tup [rat h.q, i64 0]) at CA
          change ACalls prog _ _ (.tup [i64 c, i64 0]) at CL
          change ACalls prog _ _ (.tup [i64 d, i64 0]) at CH
          have CT := (c_terms (s := 1) (by omega) h0 hr)
          rw [← ea, ← el] at CT
          refine .block ?_
          refine .go (by kernel_rfl) ?_
          conv => whnf
          refine .go (by kernel_rfl) ?_
          conv => whnf
          refine .go (by kernel_rfl) ?_
          conv => whnf
          refine .go (by kernel_rfl) ?_
          conv => whnf
          refine callS M1 rfl rfl ?_
          conv => whnf
          refine .go (by kernel_rfl) ?_
          conv => whnf
          refine callS CT rfl rfl ?_
          conv => whnf
          refine .go (by kernel_rfl) ?_
          conv => whnf
          refine callS CA rfl rfl ?_
          conv => whnf
          refine .go (by kernel_rfl) ?_
          conv => whnf
          refine callS CL rfl rfl ?_
          conv => whnf
          refine .go (by kernel_rfl) ?_
          conv => whnf
          refine callS CH rfl rfl ?_
          conv => whnf
          refine pcN (by kernel_rfl) ?_
          conv => whnf
          rw [decide_eq_false c2]
          conv => whnf
          rw [decide_eq_false d2]
          conv => whnf
          exact ⟨(), trivial, ⟨trivial, ⟨.inl ⟨.refl _, rfl⟩, .inl ⟨.refl _, rfl⟩, .inl ⟨.refl _, rfl⟩, trivial⟩, ⟨.same rfl rfl, List.not_mem_nil, Nat.le_of_ble_eq_true rfl⟩, trivial⟩⟩
        · obtain ⟨a, l, h, ea, el, eh, ⟨c, c1, c2⟩, d, d1, d2⟩ := H2
          have CA := c_qAdd a l
          have CL := c_dCmpQ s2.lo h
          have CH := c_dCmpQ s2.hi a
          rw [eh] at CA
          rw [c1] at CL
          rw [d1] at CH
          change ACalls prog _ _ (.tup [rat h.q, i64 0]) at CA
          change ACalls prog _ _ (.tup [i64 c, i64 0]) at CL
          change ACalls prog _ _ (.tup [i64 d, i64 0]) at CH
          have CT := (c_terms (s := 2) (by omega) h0 hr)
          rw [← ea, ← el] at CT
          refine .block ?_
          refine .go (by kernel_rfl) ?_
          conv => whnf
          refine .go (by kernel_rfl) ?_
          conv => whnf
          refine .go (by kernel_rfl) ?_
          conv => whnf
          refine .go (by kernel_rfl) ?_
          conv => whnf
          refine callS M2 rfl rfl ?_
          conv => whnf
          refine .go (by kernel_rfl) ?_
          conv => whnf
          refine callS CT rfl rfl ?_
          conv => whnf
          refine .go (by kernel_rfl) ?_
          conv => whnf
          refine callS CA rfl rfl ?_
          conv => whnf
          refine .go (by kernel_rfl) ?_
          conv => whnf
          refine callS CL rfl rfl ?_
          conv => whnf
          refine .go (by kernel_rfl) ?_
          conv => whnf
          refine callS CH rfl rfl ?_
          conv => whnf
          refine pcN (by kernel_rfl) ?_
          conv => whnf
          rw [decide_eq_false c2]
          conv => whnf
          rw [decide_eq_false d2]
          conv => whnf
          exact ⟨(), trivial, ⟨trivial, ⟨.inl ⟨.refl _, rfl⟩, .inl ⟨.refl _, rfl⟩, .inl ⟨.refl _, rfl⟩, trivial⟩, ⟨.same rfl rfl, List.not_mem_nil, Nat.le_of_ble_eq_true rfl⟩, trivial⟩⟩
      · rintro ⟨⟩ _
        refine pcN (by kernel_rfl) ?_
        conv => whnf
        refine ⟨i + 1, hlt, ?_, by show 3 - (i + 1) < 3 - i; omega⟩
        rw [show IntKind.i64.wrap ((i : Int) + 1) = ((i + 1 : Nat) : Int) from wI (by omega) (by omega)]
        exact ⟨trivial, ⟨.inl ⟨.refl _, rfl⟩, .inl ⟨.refl _, rfl⟩, .inl ⟨.refl _, rfl⟩, trivial⟩, ⟨.same rfl rfl, List.not_mem_nil, Nat.le_of_ble_eq_true rfl⟩, trivial⟩
    · conv => whnf
      exact ⟨(), trivial, ⟨trivial, trivial, trivial⟩⟩
  · rintro ⟨⟩ _
    refine .go (by kernel_rfl) ?_
    conv => whnf
    refine pcN (by kernel_rfl) ?_
    conv => whnf
    exact fin rfl rfl
theorem growHolds_c : ∀ avs, RdArgs prog 9 f10.params.toList avs → ACalls prog 10 avs (.lit (.bool true)) := by
  intro avs h
  obtain ⟨r, n, rfl, hr⟩ := rd_rb h
  rcases c_fit14 r n hr with C | ⟨a, b, fa, C⟩
  · exact ghol_bad r n C
  · have e1 := fa.rawe
    have e3 := fa.nb
    rw [e1, e3] at C ⊢
    exact ghol_go fa.b1 fa.b2 fa.sz fa.h0 fa.h8 C
end Go.Proofs.YtoofmffmgdkinaaGreatDoor.Abs
set_option linter.unusedVariables false
namespace Go.Proofs.YtoofmffmgdkinaaGreatDoor.Abs
open Go Go.RowKit Go.ChangeShapes Go.WideShapes Go.ChangeAt Go.Proofs.Tryz
theorem growHolds_laid {W : World} (h : laidMetH prog Rows.growHoldsRow.laid W) : GOk (fun b => b < W.heap.size) W :=
  gok_of_tab (Lib.tabIs_of_head gDb gDbT underlying201 underlying5 cU8 cDb h)
theorem growHolds_met (os : Os) : laidMet prog Rows.growHoldsRow.laid ((laidWorld os).forCall (fun _ _ => 0) ⟨#[], #[.agg #[.bool false, .slice none 0 0, .slice none 0 0], .int .i64 0], []⟩).memory :=
  laidMet_of_run' 8 (by kernel_rfl) (by kernel_rfl)
theorem growHolds_reads (os : Os) {H : Type} (enc : TypeId × Value → H) : ∃ x places, DataW.whole enc prog ((laidWorld os).forCall (fun _ _ => 0) ⟨#[], #[.agg #[.bool false, .slice none 0 0, .slice none 0 0], .int .i64 0], []⟩).memory f10.params.toList Rows.growHoldsSpec.vars false (#[.agg #[.bool false, .slice none 0 0, .slice none 0 0], .int .i64 0] : Array Value).toList 8 = some (x, [], places) :=
  ⟨[.agg [.agg [.lit (.bool false), .nil], .nil], .lit (.int .i64 0)], [], by kernel_rfl⟩
set_option maxRecDepth 100000 in
theorem growHolds_lifted (os : Os) (started : os.Started) (H : Type) (enc : TypeId × Value → H) (F : Stop.Interp) :
    ReturnsInHanded {} checked os 10 .any ((OpenSpec.ofChange Rows.growHoldsSpec).preRow enc prog f10 Rows.growHoldsRow.domain false Rows.growHoldsRow.laid) (((OpenSpec.ofChange Rows.growHoldsSpec).at F).post enc prog f10 false true false false) := by
  obtain ⟨x, places, hx⟩ := growHolds_reads os enc
  refine returnsInHanded_of_row (C := checked) (s := OpenSpec.ofChange Rows.growHoldsSpec) ownK started (by kernel_rfl) func10
    (witness_row_at (enc := enc) (C := checked) false (laidWorld os) #[.agg #[.bool false, .slice none 0 0, .slice none 0 0], .int .i64 0] rfl (by kernel_rfl) (by kernel_rfl) (by kernel_rfl)
      (OpenSpec.preRow_of_cond 8 hx (by kernel_rfl) (fun k hk => by cases hk) (by kernel_rfl) (growHolds_met os))) ?_
  intro W base args ds gs before hval hW _ _ _ hL _ _
  exact bridge (n := 9) laidOutP (by kernel_rfl) rfl (fun ds hd => by
    match ds, hd with
    | [_, _], _ => rfl) rfl underlying4 growHolds_c hval hW (growHolds_laid hL)
theorem growHolds_said : Rows.GrowHoldsSaid :=
  OpenClaim.holds_of_cond 10 f10 rfl rfl rfl rfl rfl rfl rfl ⟨rfl, rfl, rfl, rfl, rfl⟩ rfl rfl rfl rfl rfl (by kernel_rfl) func10 (by kernel_rfl)
    (of_decide_eq_true (by kernel_rfl)) (by unfold Func.isWrapper; first | (rw [if_pos (by decide +kernel)]; kernel_rfl) | (rw [if_neg (by decide +kernel)]; exact ⟨rfl, rfl⟩))
    (fun os started H enc _ F => by rw [OpenClaim.pre_eq_preRow]; exact growHolds_lifted os started H enc F)
theorem growHolds_plain (f : FuncId) (fn : Func) (hf : Tryz.pinned.checked.prog.funcNamed "girdle/girdlelaw14.GrowHolds" = some f) (hfn : Tryz.pinned.checked.prog.funcs[f]? = some fn) :
    false = Tryz.pinned.checked.prog.looks [] ∧ ∀ (j : Nat) t, fn.params[j]? = some t → Tryz.pinned.checked.prog.wantsStandIn t = false := by
  obtain rfl : f = 10 := Option.some.inj ((show prog.funcNamed "girdle/girdlelaw14.GrowHolds" = some 10 by kernel_rfl).symm.trans hf) |>.symm
  obtain rfl : fn = f10 := (Option.some.inj (func10.symm.trans hfn)).symm
  refine ⟨by kernel_rfl, fun j t ht => ?_⟩
  have hall : (f10.params.toList.all fun u => !prog.wantsStandIn u) = true := by kernel_rfl
  exact (show prog.wantsStandIn t = false by simpa using List.all_eq_true.1 hall t (by simpa using Array.mem_of_getElem? ht))
end Go.Proofs.YtoofmffmgdkinaaGreatDoor.Abs
namespace Go.Proofs.YtoofmffmgdkinaaGreatDoor
open Go Go.Proofs.YtoofmffmgdkinaaGreatDoor.Abs
theorem growHolds_card : Rows.GrowHoldsCardSaid :=
  Claim7.holds_tied_plain_at .later [] _ _ _ _ growHolds_said (fun _ h => by cases h) (by kernel_rfl) (fun _ h => by cases h) growHolds_row_tie rfl ⟨rfl, rfl⟩ (by kernel_rfl) rfl growHolds_plain (by kernel_rfl)
#print axioms growHolds_card
end Go.Proofs.YtoofmffmgdkinaaGreatDoor
