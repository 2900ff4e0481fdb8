/- Two lists of two: what is reckoned of them. -/
import Derived.Test.YtojfepabmbnmnaaGreatDoorMl
import Derived.Test.YtojfepabmbnmnaaGreatDoorMm
import Derived.KernelRfl
import Derived.Test.YtojfepabmbnmnaaGreatDoorMn
/- Two lists of two: what is reckoned of them. -/
set_option linter.unusedVariables false
set_option linter.unusedSectionVars false
set_option linter.unusedSimpArgs false
set_option maxHeartbeats 4000000
namespace Go.Proofs.YtojfepabmbnmnaaGreatDoor.Abs
open Go Go.RowKit Go.Proofs.Tryz

def PA : List FQ := [qOf 1 1, qOf 1 2]
def PB : List FQ := [qOf 2 1, qOf (-4) 1]
def PT : List FQ := [qOf 2 1, qOf 1 1]
def PN : List FS := okOr [] (vNear PA 10)
def PM : List FS := okOr [] (vNear PB 10)
def PX : FS := okOr s0 (vInner 10 PN PM)
def PY : List FS := okOr [] (vPlus 10 PN PM)
def PZ : List FS := okOr [] (vTimes PN (sPoint (dOf 2 0)) 10)
theorem p_add : vEach qAdd PA PB = .ok [qOf 3 1, qOf (-7) 2] := by kernel_rfl
theorem p_sub : vEach qSub PA PB = .ok [qOf (-1) 1, qOf 9 2] := by kernel_rfl
theorem p_dot : vDot PA PB = .ok q0 := by kernel_rfl
theorem p_scale : vScale PA (qOf 2 1) = .ok PT := by kernel_rfl
theorem p_near : vNear PA 10 = .ok PN := by kernel_rfl
theorem p_nearB : vNear PB 10 = .ok PM := by kernel_rfl
theorem p_inner : vInner 10 PN PM = .ok PX := by kernel_rfl
theorem p_plus : vPlus 10 PN PM = .ok PY := by kernel_rfl
theorem p_times : vTimes PN (sPoint (dOf 2 0)) 10 = .ok PZ := by kernel_rfl
theorem p_holds : vHolds PZ PT = .ok true := by kernel_rfl
theorem p_add2 : vEach qAdd PA [] = .error eShape := by kernel_rfl
theorem p_t1 : decQ (qOf (-7) 2).q = [45, 55, 47, 50] := by kernel_rfl
theorem p_t2 : decQ (qOf 9 2).q = [57, 47, 50] := by kernel_rfl
theorem p_t3 : sText PX = [48, 46, 46, 48] := by kernel_rfl
theorem p_y : ∃ y0 y1, PY = [y0, y1] ∧ sText y0 = [51, 46, 46, 51] := ⟨PY[0]?.getD s0, PY[1]?.getD s0, by kernel_rfl, by kernel_rfl⟩
theorem p_norm : dCmp (vNorm PM) (dOf 4 0) = 0 := by kernel_rfl
theorem p_same : vSame PA PA = true := by kernel_rfl
theorem p_same2 : vSame PA PB = false := by kernel_rfl
theorem p_unit : vUnit 3 1 = [q0, qOf 1 1, q0] := by kernel_rfl
theorem p_t4 : decQ (qOf 1 1).q = [49] := by kernel_rfl
theorem p_zero : List.replicate (clampN 3) q0 = [q0, q0, q0] := by kernel_rfl
theorem p_sgn : qSgn q0 = 0 := by kernel_rfl
theorem p_lens : PA.length = 2 ∧ PB.length = 2 ∧ PN.length = 2 ∧ PM.length = 2 ∧ PZ.length = 2 := ⟨by kernel_rfl, by kernel_rfl, by kernel_rfl, by kernel_rfl, by kernel_rfl⟩

end Go.Proofs.YtojfepabmbnmnaaGreatDoor.Abs

/- The head of the laws of lists: points. -/
set_option linter.unusedVariables false
set_option linter.unusedSectionVars false
set_option linter.unusedSimpArgs false
set_option maxHeartbeats 4000000
set_option maxRecDepth 20000
namespace Go.Proofs.YtojfepabmbnmnaaGreatDoor.Abs
open Go Go.RowKit Go.Proofs.Tryz

theorem str_eq {a : List Nat} {b : ByteArray} (h : bytes a = b) : ((bytes a).toList == b.toList) = true := by rw [h]; simp

theorem c_points : ACalls prog 13 [] (boo true) := by
  have CA := c_vAdd PA PB (by decide +kernel)
  have CS := c_vSub PA PB (by decide +kernel)
  have CD := c_vDot PA PB (by decide +kernel)
  have CC := c_vScale PA (qOf 2 1) (by decide +kernel)
  have CN := c_vNear PA 10 ⟨by decide, by decide⟩ (by decide +kernel)
  have CM := c_vNear PB 10 ⟨by decide, by decide⟩ (by decide +kernel)
  have CI := c_vInner PN PM 10 ⟨by decide, by decide⟩ (by decide +kernel)
  have CP := c_vPlus PN PM 10 ⟨by decide, by decide⟩ (by decide +kernel)
  have CT := c_vTimes PN (sPoint (dOf 2 0)) 10 ⟨by decide, by decide⟩ (by decide +kernel)
  have CH := c_vHolds PZ PT (by decide +kernel)
  have CA2 := c_vAdd PA [] (by decide +kernel)
  rw [p_add] at CA
  rw [p_sub] at CS
  rw [p_dot] at CD
  rw [p_scale] at CC
  rw [p_near] at CN
  rw [p_nearB] at CM
  rw [p_inner] at CI
  rw [p_plus] at CP
  rw [p_times] at CT
  rw [p_holds] at CH
  rw [p_add2] at CA2
  have T1 := c_qText (qOf (-7) 2)
  have T2 := c_qText (qOf 9 2)
  have T3 := c_sText PX
  have T4 := c_qText (qOf 1 1)
  rw [p_t1] at T1
  rw [p_t2] at T2
  rw [p_t3] at T3
  rw [p_t4] at T4
  obtain ⟨y0, y1, hy, hyt⟩ := p_y
  have T5 := c_sText y0
  rw [hyt] at T5
  have CG := c_qSign q0
  rw [p_sgn] at CG
  have CW := c_vNorm PM (by decide +kernel)
  have CV := c_dCmp (vNorm PM) (dOf 4 0)
  rw [p_norm] at CV
  have S1 := c_vSame PA PA (by decide +kernel)
  have S2 := c_vSame PA PB (by decide +kernel)
  rw [p_same] at S1
  rw [p_same2] at S2
  have Z1 := c_vZero 3
  rw [p_zero] at Z1
  have U1 := c_vUnit 3 1
  rw [p_unit] at U1
  have K1 := c_vCheckQ PA 2 (by decide +kernel)
  have K2 := c_vCheckQ PA 3 (by decide +kernel)
  rw [if_neg (by rw [show PA.length = 2 from p_lens.1]; decide)] at K1
  rw [if_pos (by rw [show PA.length = 2 from p_lens.1]; decide)] at K2
  refine conP func13 rfl (by kernel_rfl) ?_
  refine .go (by kernel_rfl) ?_
  conv => whnf
  refine .go (by kernel_rfl) ?_
  conv => whnf
  refine callS (c_qOf 1 1 (by decide) (by decide) (by decide) (by decide)) rfl rfl ?_
  conv => whnf
  refine callS (c_qOf 1 2 (by decide) (by decide) (by decide) (by decide)) rfl rfl ?_
  conv => whnf
  refine callS (c_qOf 2 1 (by decide) (by decide) (by decide) (by decide)) rfl rfl ?_
  conv => whnf
  refine callS (c_qOf (-4) 1 (by decide) (by decide) (by decide) (by decide)) rfl rfl ?_
  conv => whnf
  refine .weaken (i := { F := [(1, 2), (1, 5)], fr := [(1, lQ PA), (2, lQ PB)], g := 9 }) ⟨⟨⟨_, rfl⟩, ⟨_, rfl⟩, trivial⟩, ⟨.inr (.inl (.own2 (.head _) rfl rfl rfl rfl)), .inr (.inl (.own2 (.tail _ (.head _)) rfl rfl rfl rfl)), trivial⟩, trivial⟩ ?_
  refine .go (by kernel_rfl) ?_
  conv => whnf
  refine callS CA rfl rfl ?_
  conv => whnf
  refine .go (by kernel_rfl) ?_
  conv => whnf
  refine callS CS rfl rfl ?_
  conv => whnf
  refine .go (by kernel_rfl) ?_
  conv => whnf
  refine callS CD rfl rfl ?_
  conv => whnf
  refine .go (by kernel_rfl) ?_
  conv => whnf
  refine callS (c_qOf 2 1 (by decide) (by decide) (by decide) (by decide)) rfl rfl ?_
  conv => whnf
  refine callS CC rfl rfl ?_
  conv => whnf
  refine .go (by kernel_rfl) ?_
  conv => whnf
  refine callS CN rfl rfl ?_
  conv => whnf
  refine .go (by kernel_rfl) ?_
  conv => whnf
  refine callS CM rfl rfl ?_
  conv => whnf
  refine .go (by kernel_rfl) ?_
  conv => whnf
  refine callS CI rfl rfl ?_
  conv => whnf
  refine .go (by kernel_rfl) ?_
  conv => whnf
  refine callS CP rfl rfl ?_
  conv => whnf
  refine .go (by kernel_rfl) ?_
  conv => whnf
  refine callS (c_dOf 2 0 (by decide) (by decide)) rfl rfl ?_
  conv => whnf
  refine callS (c_sPoint (dOf 2 0)) rfl rfl ?_
  conv => whnf
  refine callS CT rfl rfl ?_
  conv => whnf
  refine .go (by kernel_rfl) ?_
  conv => whnf
  refine callS CH rfl rfl ?_
  conv => whnf
  refine .go (by kernel_rfl) ?_
  conv => whnf
  refine callL [] [lQ PA, lQ []] trivial ⟨.sh _ _ rfl (.refl _), .sh _ _ rfl .nil, trivial⟩ CA2 rfl ?_
  conv => whnf
  refine pcN (by kernel_rfl) ?_
  conv => whnf
  refine ⟨ratv (qOf (-7) 2), ⟨by decide, rfl, rfl, rfl⟩, ?_⟩
  conv => whnf
  refine callS T1 rfl rfl ?_
  conv => whnf
  rw [show ((bytes [45, 55, 47, 50]).toList == ({ data := #[45, 55, 47, 50] } : ByteArray).toList) = true from str_eq rfl]
  conv => whnf
  refine ⟨ratv (qOf 9 2), ⟨by decide, rfl, rfl, rfl⟩, ?_⟩
  conv => whnf
  refine callS T2 rfl rfl ?_
  conv => whnf
  rw [show ((bytes [57, 47, 50]).toList == ({ data := #[57, 47, 50] } : ByteArray).toList) = true from str_eq rfl]
  conv => whnf
  refine callS CG rfl rfl ?_
  conv => whnf
  refine callS T3 rfl rfl ?_
  conv => whnf
  rw [show ((bytes [48, 46, 46, 48]).toList == ({ data := #[48, 46, 46, 48] } : ByteArray).toList) = true from str_eq rfl]
  conv => whnf
  refine ⟨spa y0, ⟨by decide, by rw [hy]; rfl, rfl, rfl⟩, ?_⟩
  conv => whnf
  refine callS T5 rfl rfl ?_
  conv => whnf
  rw [show ((bytes [51, 46, 46, 51]).toList == ({ data := #[51, 46, 46, 51] } : ByteArray).toList) = true from str_eq rfl]
  conv => whnf
  refine callS CW rfl rfl ?_
  conv => whnf
  refine callS (c_dOf 4 0 (by decide) (by decide)) rfl rfl ?_
  conv => whnf
  refine callS CV rfl rfl ?_
  conv => whnf
  refine callS S1 rfl rfl ?_
  conv => whnf
  refine callS S2 rfl rfl ?_
  conv => whnf
  refine callS Z1 rfl rfl ?_
  conv => whnf
  refine callS U1 rfl rfl ?_
  conv => whnf
  refine ⟨ratv (qOf 1 1), ⟨by decide, rfl, rfl, rfl⟩, ?_⟩
  conv => whnf
  refine callS T4 rfl rfl ?_
  conv => whnf
  rw [show ((bytes [49]).toList == ({ data := #[49] } : ByteArray).toList) = true from str_eq rfl]
  conv => whnf
  refine callS K1 rfl rfl ?_
  conv => whnf
  refine callS K2 rfl rfl ?_
  conv => whnf
  exact fin rfl rfl
end Go.Proofs.YtojfepabmbnmnaaGreatDoor.Abs

/- The laws of lists: fit. -/
set_option linter.unusedVariables false
set_option linter.unusedSectionVars false
set_option linter.unusedSimpArgs false
set_option maxHeartbeats 4000000
namespace Go.Proofs.YtojfepabmbnmnaaGreatDoor.Abs
open Go Go.RowKit Go.Proofs.Tryz

def slv (a : List RawQ) : AV := .sl (a.map rawv)
def okL1 (k : Nat) (a : List RawQ) : Bool := decide (a.length = k) && (decide (a.length ≤ 16) && a.all fitX)
def fitL (ls : List (List RawQ)) : Bool := match ls with
  | [] => true
  | a0 :: _ => ls.all (okL1 a0.length)

theorem all_of_take {α : Type} {p : α → Bool} {l : List α} {i : Nat} (h : ∀ x ∈ l.take i, p x = true) (hi : l.length ≤ i) : l.all p = true := by
  rw [List.take_of_length_le hi] at h
  exact List.all_eq_true.2 h
theorem all_no {α : Type} {p : α → Bool} {l : List α} {i : Nat} (hi : i < l.length) (h : p l[i] = false) : l.all p = false := by
  apply Bool.eq_false_iff.2
  intro e
  have := List.all_eq_true.1 e l[i] (List.getElem_mem hi)
  rw [h] at this
  cases this

theorem c_fit (a0 : List RawQ) (ls : List (List RawQ)) (hb : ∀ a ∈ a0 :: ls, a.length ≤ 9223372036854775807 ∧ ∀ x ∈ a, RawB x) (hn : (a0 :: ls).length < 1000) :
    ACalls prog 14 [.sl ((a0 :: ls).map slv)] (boo (fitL (a0 :: ls))) := by
  obtain ⟨L, hL⟩ : ∃ L, a0 :: ls = L := ⟨_, rfl⟩
  have h0 : L[0]? = some a0 := by rw [← hL]; rfl
  have hf : fitL L = L.all (okL1 a0.length) := by rw [← hL]; rfl
  rw [hL] at hb hn ⊢
  clear hL
  rw [hf]
  have hlen : (((L.map slv).length : Nat) : Int) = (L.length : Int) := by simp
  have hl0 : (((a0.map rawv).length : Nat) : Int) = (a0.length : Int) := by simp
  refine conN func14 rfl (by kernel_rfl) ?_
  conv => whnf
  refine ⟨Nat, fun i => i ≤ L.length ∧ ∀ a ∈ L.take i, okL1 a0.length a = true, fun i => { fr := [(0, .sl (L.map slv)), (7, .sl (L.map slv)), (8, i64 L.length), (9, i64 i)], g := 9 }, fun i => L.length - i, 0, ⟨Nat.zero_le _, by simp⟩,
    ⟨trivial, ⟨.inl ⟨.refl _, rfl⟩, .inl ⟨.refl _, rfl⟩, .inl ⟨.of_eq (congrArg i64 hlen), rfl⟩, .inl ⟨.refl _, rfl⟩, trivial⟩, trivial⟩, ?_⟩
  rintro i ⟨h1, h2⟩
  dsimp only at h1 h2 ⊢
  conv => whnf
  refine Br.mk (fun h => ?_) (fun h => ?_)
  · have hi : i < L.length := by simpa using h
    clear h
    obtain ⟨a, ha⟩ : ∃ a, L[i] = a := ⟨_, rfl⟩
    have hmem : a ∈ L := by rw [← ha]; exact List.getElem_mem hi
    obtain ⟨hal, hax⟩ := hb a hmem
    have hla : (((a.map rawv).length : Nat) : Int) = (a.length : Int) := by simp
    have no : okL1 a0.length a = false → L.all (okL1 a0.length) = false := fun h => all_no hi (by rw [ha]; exact h)
    conv => whnf
    refine ⟨slv a, ⟨by omega, by simp [hi, ha], rfl, rfl⟩, ?_⟩
    conv => whnf
    refine ⟨slv a0, ⟨by omega, by rw [List.getElem?_map]; show (L[0]?).map slv = _; rw [h0]; rfl, rfl, rfl⟩, ?_⟩
    conv => whnf
    rw [hla, hl0]
    by_cases k1 : a.length = a0.length
    · rw [show ((a.length : Int) != (a0.length : Int)) = false by rw [k1]; simp]
      conv => whnf
      rw [hla]
      by_cases k2 : a.length ≤ 16
      · rw [decide_eq_false (by omega : ¬ (a.length : Int) > 16)]
        conv => whnf
        refine ⟨Nat, fun j => j ≤ a.length ∧ ∀ x ∈ a.take j, fitX x = true, fun j => { fr := [(0, .sl (L.map slv)), (7, .sl (L.map slv)), (8, i64 L.length), (9, i64 i), (25, slv a), (26, i64 a.length), (27, i64 j)], g := 9 }, fun j => a.length - j, 0, ⟨Nat.zero_le _, by simp⟩,
          ⟨trivial, ⟨.inl ⟨.refl _, rfl⟩, .inl ⟨.refl _, rfl⟩, .inl ⟨.refl _, rfl⟩, .inl ⟨.refl _, rfl⟩, .inl ⟨.refl _, rfl⟩, .inl ⟨.of_eq (congrArg i64 hla), rfl⟩, .inl ⟨.refl _, rfl⟩, trivial⟩, trivial⟩, ?_⟩
        rintro j ⟨j1, j2⟩
        dsimp only at j1 j2 ⊢
        conv => whnf
        refine Br.mk (fun h => ?_) (fun h => ?_)
        · have hj : j < a.length := by simpa using h
          clear h
          obtain ⟨x, hx⟩ : ∃ x, a[j] = x := ⟨_, rfl⟩
          obtain ⟨b1, b2, b3, b4⟩ := hax x (by rw [← hx]; exact List.getElem_mem hj)
          have no2 : fitX x = false → L.all (okL1 a0.length) = false := fun h => no (by
            have : a.all fitX = false := all_no hj (by rw [hx]; exact h)
            unfold okL1
            rw [this]
            simp)
          have e1 : (((x.2.1.map dg).length : Nat) : Int) = (x.2.1.length : Int) := by simp
          have e2 : (((x.2.2.map dg).length : Nat) : Int) = (x.2.2.length : Int) := by simp
          conv => whnf
          refine ⟨rawv x, ⟨by omega, by simp [hj, hx], rfl, rfl⟩, ?_⟩
          conv => whnf
          rw [e1]
          by_cases c1 : x.2.1.length ≤ 5
          · rw [decide_eq_false (by omega : ¬ (x.2.1.length : Int) > 5)]
            conv => whnf
            rw [e2]
            by_cases c2 : x.2.2.length ≤ 5
            · rw [decide_eq_false (by omega : ¬ (x.2.2.length : Int) > 5)]
              conv => whnf
              obtain ⟨c, C, hc⟩ : ∃ c, ACalls prog 47 [rawv x] (i64 c) ∧ rawCheck x = c := ⟨_, c_qCheck x.1 x.2.1 x.2.2 (by omega) (by omega) b3 b4, rfl⟩
              refine callS C rfl rfl ?_
              conv => whnf
              refine Br.mk (fun h => ?_) (fun h => ?_)
              · have c3 : ¬ c = 0 := by simpa using h
                rw [no2 (by unfold fitX; rw [hc, decide_eq_false c3]; simp)]
                conv => whnf
                exact fin rfl rfl
              · have c3 : c = 0 := by simpa using h
                conv => whnf
                refine ⟨j + 1, ⟨by omega, fun y hy => ?_⟩, ⟨trivial, ⟨.inl ⟨.refl _, rfl⟩, .inl ⟨.refl _, rfl⟩, .inl ⟨.refl _, rfl⟩, .inl ⟨.refl _, rfl⟩, .inl ⟨.refl _, rfl⟩, .inl ⟨.refl _, rfl⟩, .inl ⟨.of_eq (congrArg i64 ?_), rfl⟩, trivial⟩, trivial⟩, by show a.length - (j + 1) < a.length - j; omega⟩
                · rw [List.take_succ_eq_append_getElem hj, List.mem_append] at hy
                  rcases hy with hy | hy
                  · exact j2 y hy
                  · simp only [List.mem_singleton] at hy
                    rw [hy, hx]
                    unfold fitX
                    rw [hc, decide_eq_true c1, decide_eq_true c2, decide_eq_true c3]
                    rfl
                · exact (wI (n := (j : Int) + 1) (by omega) (by omega)).trans (by simp)
            · rw [decide_eq_true (by omega : (x.2.2.length : Int) > 5), no2 (by unfold fitX; rw [decide_eq_false c2]; simp)]
              conv => whnf
              exact fin rfl rfl
          · rw [decide_eq_true (by omega : (x.2.1.length : Int) > 5), no2 (by unfold fitX; rw [decide_eq_false c1]; simp)]
            conv => whnf
            exact fin rfl rfl
        · have he : j = a.length := by
            have : ¬ j < a.length := by simpa using h
            omega
          clear h
          have hall : okL1 a0.length a = true := by
            unfold okL1
            rw [all_of_take j2 (by omega), decide_eq_true k1, decide_eq_true k2]
            rfl
          conv => whnf
          refine ⟨i + 1, ⟨by omega, fun y hy => ?_⟩, ⟨trivial, ⟨.inl ⟨.refl _, rfl⟩, .inl ⟨.refl _, rfl⟩, .inl ⟨.refl _, rfl⟩, .inl ⟨.of_eq (congrArg i64 ?_), rfl⟩, trivial⟩, trivial⟩, by show L.length - (i + 1) < L.length - i; omega⟩
          · rw [List.take_succ_eq_append_getElem hi, List.mem_append] at hy
            rcases hy with hy | hy
            · exact h2 y hy
            · simp only [List.mem_singleton] at hy
              rw [hy, ha]
              exact hall
          · exact (wI (n := (i : Int) + 1) (by omega) (by omega)).trans (by simp)
      · rw [decide_eq_true (by omega : (a.length : Int) > 16), no (by unfold okL1; rw [decide_eq_false k2]; simp)]
        conv => whnf
        exact fin rfl rfl
    · rw [show ((a.length : Int) != (a0.length : Int)) = true by simp; omega, no (by unfold okL1; rw [decide_eq_false k1]; simp)]
      conv => whnf
      exact fin rfl rfl
  · have he : i = L.length := by
      have : ¬ i < L.length := by simpa using h
      omega
    rw [all_of_take h2 (by omega)]
    conv => whnf
    exact fin rfl rfl

end Go.Proofs.YtojfepabmbnmnaaGreatDoor.Abs
