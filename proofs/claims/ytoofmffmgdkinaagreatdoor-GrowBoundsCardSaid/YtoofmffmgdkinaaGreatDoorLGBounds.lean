/- GrowBounds: for every input the law returns true, and each argument reads afterwards as it read before. Conditions: the listed variables of the library hold what their text lays (tied by the card). -/
import Derived.Test.YtoofmffmgdkinaaGreatDoorNa
import Derived.Test.YtoofmffmgdkinaaGreatDoorNb
import Derived.Test.YtoofmffmgdkinaaGreatDoorMn
set_option linter.unusedVariables false
set_option linter.unusedSectionVars false
set_option linter.unusedSimpArgs false
set_option maxHeartbeats 4000000
set_option maxRecDepth 20000
namespace Go.Proofs.YtoofmffmgdkinaaGreatDoor.Abs
open Go Go.RowKit Go.Proofs.Tryz
structure BoS (r : FQ) (b : Nat) (sm x y mo : FQ) (c d : FD) (ca cb cm : Int) : Prop where
  es : sm.q = gS 2 r.q 40
  ex : qMul sm r = .ok x
  ey : qMul x r = .ok y
  ec : gCurve r b = .ok c
  ed : gRise r b = .ok d
  ea : dCmpQ c y = .ok ca
  eb : dCmpQ d x = .ok cb
  eo : qAdd y (qOf 1 4) = .ok mo
  em : dCmpQ c mo = .ok cm
  ha : ca ≥ 0
  hb : cb ≥ 0
  hm : 40 ≤ b → cm < 0
theorem bounds_T {r : FQ} {b : Nat} (h1 : 16 ≤ b) (h2 : b ≤ 200) (hr : Sz r.q 32 32) (h0 : 0 ≤ r.q) (h8 : r.q ≤ 8) : ∃ sm x y mo c d ca cb cm, BoS r b sm x y mo c d ca cb cm := by
  have hbo : bitsOk (b : Int) = true := bitsOk_iff.2 ⟨by omega, by omega⟩
  have hbn : ((b : Nat) : Int).toNat = b := Int.toNat_natCast b
  have hr' := hr.mono (j' := 66) (k' := 66) (by omega) (by omega)
  obtain ⟨t, t1, t2, t3⟩ := grw_2 h1 h2 h0 (by grind) hr'
  have zs := gS_sz (s := 2) (m := 40) (by omega) h0 hr (by omega)
  obtain ⟨sm, es⟩ : ∃ a : FQ, a.q = gS 2 r.q 40 := ⟨⟨_, lt_big zs.1 (by omega), lt_big zs.2 (by omega)⟩, rfl⟩
  rw [← es] at zs
  obtain ⟨x, x1, x2, x3⟩ := qMul_ok zs hr (by omega) (by omega)
  obtain ⟨y, y1, y2, y3⟩ := qMul_ok x3 hr (by omega) (by omega)
  have e4 : (qOf 1 4).q = 1 / 4 := by kernel_rfl
  have z4 : Sz (qOf 1 4).q 1 3 := ⟨by rw [e4]; decide +kernel, by rw [e4]; decide +kernel⟩
  obtain ⟨mo, o1, o2, o3⟩ := qAdd_ok y3 z4 (t := 1628) (by omega) (by omega) (by omega) (by omega)
  obtain ⟨n, n1, n2, n3⟩ := sNear_ok hbo hr (by rw [hbn]; omega) (by omega)
  rw [hbn] at n2
  obtain ⟨u, u1, u2, u3⟩ := sMul_ok hbo t2 n2 (by omega)
  obtain ⟨w, w1, w2, w3⟩ := sMul_ok hbo u2 n2 (by omega)
  have lu := Lim.mul t3 (Lim.of_in n3) u3
  have lw := Lim.mul lu (Lim.of_in n3) w3
  have hc : gCurve r b = .ok (dMax w.hi d0) := by
    unfold gCurve
    rw [bnd_ok t1, bnd_ok n1, bnd_ok u1, bnd_ok w1]
  have hd : gRise r b = .ok (dMax u.hi d0) := by
    unfold gRise
    rw [bnd_ok t1, bnd_ok n1, bnd_ok u1]
  have gw : Gr 166 13584 (dMax w.hi d0) := dMax_gr (w2.2.mono (by omega) (by omega)) (.d0 _ _)
  have gu : Gr 166 13584 (dMax u.hi d0) := dMax_gr (u2.2.mono (by omega) (by omega)) (.d0 _ _)
  refine ⟨sm, x, y, mo, _, _, _, _, _, es, x1, y1, hc, hd, dCmpQ_ok gw y3 (by omega) (by omega), dCmpQ_ok gu x3 (by omega) (by omega), o1, dCmpQ_ok gw o3 (by omega) (by omega), ?_, ?_, ?_⟩
  · refine cmpQ_ge.2 (Rat.le_trans ?_ (le_max w.hi d0).1)
    rw [y2, x2, es]
    exact Lim.low (m := 42) lw fun N hN => Rat.mul_le_mul_of_nonneg_right (Rat.mul_le_mul_of_nonneg_right (gS_mono h0 (by omega)) h0) h0
  · refine cmpQ_ge.2 (Rat.le_trans ?_ (le_max u.hi d0).1)
    rw [x2, es]
    exact Lim.low (m := 42) lu fun N hN => Rat.mul_le_mul_of_nonneg_right (gS_mono h0 (by omega)) h0
  · intro hb
    have vt := two_va hb h2 h0 h8 hr' t1
    have vn := sNear_va (by omega) hbo hr (by rw [hbn]; omega) (by omega) n1
    have vu := sMul_va (by omega) u1
    have vw := sMul_va (by omega) w1
    have vn8 : va n ≤ 8 * sg := by
      rw [absQ_pos h0] at vn
      exact Rat.le_trans vn (Rat.mul_le_mul_of_nonneg_right h8 (by decide +kernel))
    have r0 : (0 : Rat) ≤ rh := by decide +kernel
    have k1 := Rat.mul_le_mul_of_nonneg_right (mul_le2 vt vn8 (va_nonneg n) (by decide +kernel)) r0
    have k2 := Rat.mul_le_mul_of_nonneg_right (mul_le2 (Rat.le_trans vu k1) vn8 (va_nonneg n) (by decide +kernel)) r0
    have k3 : va w ≤ wT * (1 / 8) := Rat.le_trans vw (Rat.le_trans k2 (by decide +kernel))
    have k4 : wid w ≤ 1 / 8 := by
      have hm := mag_nonneg w
      have : wT * wid w ≤ wT * (1 / 8) := by
        unfold va at k3
        grind
      exact Rat.le_of_mul_le_mul_left this (by decide +kernel)
    have k5 : w.hi.v - w.lo.v ≤ 1 / 8 := Rat.le_trans (absQ_le.1 (Rat.le_refl (a := wid w))).2 k4
    have gap : 2 * gT 2 r.q 40 * r.q * r.q ≤ 1 / 16 := by
      have a1 := gT_le (s := 2) h0 h8 40
      have a2 : 2 * gT 2 8 40 * 8 * 8 ≤ 1 / 16 := by
        unfold gT
        decide +kernel
      have a0 := gT_nonneg (s := 2) h0 40
      refine Rat.le_trans (mul_le2 (mul_le2 (Rat.mul_le_mul_of_nonneg_left a1 (by decide +kernel)) h8 h0 ?_) h8 h0 ?_) a2
      · have := gT_nonneg (s := 2) (r := 8) (by decide +kernel) 40
        grind
      · have := gT_nonneg (s := 2) (r := 8) (by decide +kernel) 40
        grind
    have lo : w.lo.v ≤ (gS 2 r.q 40 + 2 * gT 2 r.q 40) * r.q * r.q := Lim.top (m := 0) lw fun N _ => by
      have g := gS_top (s := 2) (M := 40) h0 (by
        have e : ((40 + 2 : Nat) : Rat) = 42 := by rfl
        rw [e]
        grind) (N - 2)
      exact Rat.mul_le_mul_of_nonneg_right (Rat.mul_le_mul_of_nonneg_right g h0) h0
    have ym : mo.q = gS 2 r.q 40 * r.q * r.q + 1 / 4 := by rw [o2, e4, y2, x2, es]
    have y0 : 0 ≤ gS 2 r.q 40 * r.q * r.q := Rat.mul_nonneg (Rat.mul_nonneg (SS_nonneg fun k _ => gT_nonneg h0 k) h0) h0
    have hlt : (dMax w.hi d0).v < mo.q := by
      have hd0 : d0.v = 0 := v_zero rfl
      rw [dMax_v, ym]
      split
      · rw [hd0]
        grind
      · grind
    show cmpQ _ _ < 0
    unfold cmpQ
    rw [if_pos hlt]
    decide
attribute [local irreducible] gCurve gRise dCmpQ qAdd qMul gS gT
theorem gbou_bad (r : RawQ) (bits : Int) (C : ACalls prog 44 [rawv r, i64 bits] (boo false)) : ACalls prog 11 [rawv r, i64 bits] (boo true) := by
  refine conN func11 rfl (by kernel_rfl) ?_
  conv => whnf
  refine callS c_rises rfl rfl ?_
  conv => whnf
  refine callS C rfl rfl ?_
  conv => whnf
  exact fin rfl rfl
theorem gbou_go {r : FQ} {b : Nat} (h1 : 16 ≤ b) (h2 : b ≤ 200) (hr : Sz r.q 32 32) (h0 : 0 ≤ r.q) (h8 : r.q ≤ 8)
    (C : ACalls prog 44 [rat r.q, i64 (b : Nat)] (boo true)) : ACalls prog 11 [rat r.q, i64 (b : Nat)] (boo true) := by
  obtain ⟨sm, x, y, mo, c, d, ca, cb, cm, es, ex, ey, ec, ed, ea, eb, eo, em, ha, hb, hm⟩ := bounds_T h1 h2 hr h0 h8
  have CT : ACalls prog 48 [rat r.q, i64 2] (.tup [rat (gS 2 r.q 40), rat (2 * gT 2 r.q 40)]) := c_terms (s := 2) (by omega) h0 hr
  have CX := c_qMul sm r
  have CY := c_qMul x r
  have CC := c_gCurve r b
  have CD := c_gRise r b
  have CA := c_dCmpQ c y
  have CB := c_dCmpQ d x
  have C4 : ACalls prog 21 [i64 1, i64 4] (rat (qOf 1 4).q) := c_qOf 1 4 (by decide) (by decide) (by decide) (by decide)
  have CO := c_qAdd y (qOf 1 4)
  have CM := c_dCmpQ c mo
  rw [← es] at CT
  rw [ex] at CX
  rw [ey] at CY
  rw [ec] at CC
  rw [ed] at CD
  rw [ea] at CA
  rw [eb] at CB
  rw [eo] at CO
  rw [em] at CM
  change ACalls prog _ _ (.tup [rat x.q, i64 0]) at CX
  change ACalls prog _ _ (.tup [rat y.q, i64 0]) at CY
  change ACalls prog _ _ (.tup [dyad c, i64 0]) at CC
  change ACalls prog _ _ (.tup [dyad d, i64 0]) at CD
  change ACalls prog _ _ (.tup [i64 ca, i64 0]) at CA
  change ACalls prog _ _ (.tup [i64 cb, i64 0]) at CB
  change ACalls prog _ _ (.tup [rat mo.q, i64 0]) at CO
  change ACalls prog _ _ (.tup [i64 cm, i64 0]) at CM
  clear es ex ey ec ed ea eb eo em
  refine conP func11 rfl (by kernel_rfl) ?_
  refine .go (by kernel_rfl) ?_
  conv => whnf
  refine .go (by kernel_rfl) ?_
  conv => whnf
  refine callS c_rises rfl rfl ?_
  conv => whnf
  refine .go (by kernel_rfl) ?_
  conv => whnf
  refine callS C rfl rfl ?_
  conv => whnf
  refine .go (by kernel_rfl) ?_
  conv => whnf
  refine callS CT rfl rfl ?_
  conv => whnf
  refine .go (by kernel_rfl) ?_
  conv => whnf
  refine callS CX rfl rfl ?_
  conv => whnf
  refine .go (by kernel_rfl) ?_
  conv => whnf
  refine callS CY rfl rfl ?_
  conv => whnf
  refine .go (by kernel_rfl) ?_
  conv => whnf
  refine callS CC rfl rfl ?_
  conv => whnf
  refine .go (by kernel_rfl) ?_
  conv => whnf
  refine callS CD rfl rfl ?_
  conv => whnf
  refine .go (by kernel_rfl) ?_
  conv => whnf
  refine callS CA rfl rfl ?_
  conv => whnf
  refine .go (by kernel_rfl) ?_
  conv => whnf
  refine callS CB rfl rfl ?_
  conv => whnf
  refine .go (by kernel_rfl) ?_
  conv => whnf
  refine ⟨by kernel_rfl, ?_⟩
  conv => whnf
  refine callD C4 rfl rfl ?_
  conv => whnf
  refine callD CO rfl rfl ?_
  conv => whnf
  refine .go (by kernel_rfl) ?_
  conv => whnf
  refine callS CM rfl rfl ?_
  conv => whnf
  refine pcN (by kernel_rfl) ?_
  conv => whnf
  rw [decide_eq_true ha]
  conv => whnf
  rw [decide_eq_true hb]
  conv => whnf
  by_cases h40 : b < 40
  · rw [decide_eq_true (by omega : (b : Int) < 40)]
    conv => whnf
    exact fin rfl rfl
  · rw [decide_eq_false (by omega : ¬ (b : Int) < 40)]
    conv => whnf
    rw [decide_eq_true (hm (by omega))]
    conv => whnf
    exact fin rfl rfl
theorem growBounds_c : ∀ avs, RdArgs prog 9 f11.params.toList avs → ACalls prog 11 avs (.lit (.bool true)) := by
  intro avs h
  obtain ⟨r, n, rfl, hr⟩ := rd_rb h
  rcases c_fit14 r n hr with C | ⟨a, b, fa, C⟩
  · exact gbou_bad r n C
  · have e1 := fa.rawe
    have e3 := fa.nb
    rw [e1, e3] at C ⊢
    exact gbou_go fa.b1 fa.b2 fa.sz fa.h0 fa.h8 C
end Go.Proofs.YtoofmffmgdkinaaGreatDoor.Abs
set_option linter.unusedVariables false
namespace Go.Proofs.YtoofmffmgdkinaaGreatDoor.Abs
open Go Go.RowKit Go.ChangeShapes Go.WideShapes Go.ChangeAt Go.Proofs.Tryz
theorem growBounds_laid {W : World} (h : laidMetH prog Rows.growBoundsRow.laid W) : GOk (fun b => b < W.heap.size) W :=
  gok_of_tab (Lib.tabIs_of_head gDb gDbT underlying201 underlying5 cU8 cDb h)
theorem growBounds_met (os : Os) : laidMet prog Rows.growBoundsRow.laid ((laidWorld os).forCall (fun _ _ => 0) ⟨#[], #[.agg #[.bool false, .slice none 0 0, .slice none 0 0], .int .i64 0], []⟩).memory :=
  laidMet_of_run' 8 (by kernel_rfl) (by kernel_rfl)
theorem growBounds_reads (os : Os) {H : Type} (enc : TypeId × Value → H) : ∃ x places, DataW.whole enc prog ((laidWorld os).forCall (fun _ _ => 0) ⟨#[], #[.agg #[.bool false, .slice none 0 0, .slice none 0 0], .int .i64 0], []⟩).memory f11.params.toList Rows.growBoundsSpec.vars false (#[.agg #[.bool false, .slice none 0 0, .slice none 0 0], .int .i64 0] : Array Value).toList 8 = some (x, [], places) :=
  ⟨[.agg [.agg [.lit (.bool false), .nil], .nil], .lit (.int .i64 0)], [], by kernel_rfl⟩
set_option maxRecDepth 100000 in
theorem growBounds_lifted (os : Os) (started : os.Started) (H : Type) (enc : TypeId × Value → H) (F : Stop.Interp) :
    ReturnsInHanded {} checked os 11 .any ((OpenSpec.ofChange Rows.growBoundsSpec).preRow enc prog f11 Rows.growBoundsRow.domain false Rows.growBoundsRow.laid) (((OpenSpec.ofChange Rows.growBoundsSpec).at F).post enc prog f11 false true false false) := by
  obtain ⟨x, places, hx⟩ := growBounds_reads os enc
  refine returnsInHanded_of_row (C := checked) (s := OpenSpec.ofChange Rows.growBoundsSpec) ownK started (by kernel_rfl) func11
    (witness_row_at (enc := enc) (C := checked) false (laidWorld os) #[.agg #[.bool false, .slice none 0 0, .slice none 0 0], .int .i64 0] rfl (by kernel_rfl) (by kernel_rfl) (by kernel_rfl)
      (OpenSpec.preRow_of_cond 8 hx (by kernel_rfl) (fun k hk => by cases hk) (by kernel_rfl) (growBounds_met os))) ?_
  intro W base args ds gs before hval hW _ _ _ hL _ _
  exact bridge (n := 9) laidOutP (by kernel_rfl) rfl (fun ds hd => by
    match ds, hd with
    | [_, _], _ => rfl) rfl underlying4 growBounds_c hval hW (growBounds_laid hL)
theorem growBounds_said : Rows.GrowBoundsSaid :=
  OpenClaim.holds_of_cond 11 f11 rfl rfl rfl rfl rfl rfl rfl ⟨rfl, rfl, rfl, rfl, rfl⟩ rfl rfl rfl rfl rfl (by kernel_rfl) func11 (by kernel_rfl)
    (of_decide_eq_true (by kernel_rfl)) (by unfold Func.isWrapper; first | (rw [if_pos (by decide +kernel)]; kernel_rfl) | (rw [if_neg (by decide +kernel)]; exact ⟨rfl, rfl⟩))
    (fun os started H enc _ F => by rw [OpenClaim.pre_eq_preRow]; exact growBounds_lifted os started H enc F)
theorem growBounds_plain (f : FuncId) (fn : Func) (hf : Tryz.pinned.checked.prog.funcNamed "girdle/girdlelaw14.GrowBounds" = some f) (hfn : Tryz.pinned.checked.prog.funcs[f]? = some fn) :
    false = Tryz.pinned.checked.prog.looks [] ∧ ∀ (j : Nat) t, fn.params[j]? = some t → Tryz.pinned.checked.prog.wantsStandIn t = false := by
  obtain rfl : f = 11 := Option.some.inj ((show prog.funcNamed "girdle/girdlelaw14.GrowBounds" = some 11 by kernel_rfl).symm.trans hf) |>.symm
  obtain rfl : fn = f11 := (Option.some.inj (func11.symm.trans hfn)).symm
  refine ⟨by kernel_rfl, fun j t ht => ?_⟩
  have hall : (f11.params.toList.all fun u => !prog.wantsStandIn u) = true := by kernel_rfl
  exact (show prog.wantsStandIn t = false by simpa using List.all_eq_true.1 hall t (by simpa using Array.mem_of_getElem? ht))
end Go.Proofs.YtoofmffmgdkinaaGreatDoor.Abs
namespace Go.Proofs.YtoofmffmgdkinaaGreatDoor
open Go Go.Proofs.YtoofmffmgdkinaaGreatDoor.Abs
theorem growBounds_card : Rows.GrowBoundsCardSaid :=
  Claim7.holds_tied_plain_at .later [] _ _ _ _ growBounds_said (fun _ h => by cases h) (by kernel_rfl) (fun _ h => by cases h) growBounds_row_tie rfl ⟨rfl, rfl⟩ (by kernel_rfl) rfl growBounds_plain (by kernel_rfl)
#print axioms growBounds_card
end Go.Proofs.YtoofmffmgdkinaaGreatDoor
