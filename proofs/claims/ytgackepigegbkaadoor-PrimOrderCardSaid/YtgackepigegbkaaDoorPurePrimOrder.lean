/- The plain law of PrimOrder. -/
import Derived.Test.YtgackepigegbkaaDoorPureNum
import Derived.Test.YtgackepigegbkaaDoorQDPrimOrder
namespace Go.Proofs.YtgackepigegbkaaDoor.Pure
open Go.RowKit Go.Proofs.YtgackepigegbkaaDoor.Q Go.Proofs.YtgackepigegbkaaDoorW.PrintWords Go.Proofs.YtgackepigegbkaaDoorW.PrintLast Go.Proofs.YtgackepigegbkaaDoorW.PrintMore
set_option linter.unusedVariables false

theorem start (k : Nat) (p a b c : Int) : stencillaw01_PrimOrder.f (k + 2) p a b c = stencillaw01_PrimOrder.j0 (k + 2) p a b c false := by
  unfold stencillaw01_PrimOrder.f
  rw [comp_some k 1 18446744073709551615 1 (by decide) (by decide) (by decide) (by decide)]
  have e : compV 1 18446744073709551615 1 = -1 := by decide +kernel
  rw [e]
  have e2 : prim_Fits.f 0 255 = some true := by decide +kernel
  show (if (-1 : Int) = -1 then ((prim_Fits.f 0 255).bind fun t157 => (stencillaw01_PrimOrder.j0 (k + 2) p a b c (!t157))) else stencillaw01_PrimOrder.j0 (k + 2) p a b c true) = _
  rw [if_pos rfl, e2]; rfl
theorem j0_in (k : Nat) (p a b c : Int) (h : ¬ (p < 0 ∨ 10 < p)) : stencillaw01_PrimOrder.j0 (k + 1) p a b c false = stencillaw01_PrimOrder.j1 k p a b c false := by
  rcases row_cases p with ⟨q, _⟩ | rfl | rfl | rfl | rfl | rfl | rfl | rfl | rfl | rfl | rfl | rfl
  · exact absurd q h
  all_goals kernel_rfl
theorem j0_out (k : Nat) (p a b c : Int) (h : primRow p = (0, false, false, 0, 0, 0)) (ha0 : 0 ≤ a) (ha1 : a < 18446744073709551616) (hb0 : 0 ≤ b) (hb1 : b < 18446744073709551616) : stencillaw01_PrimOrder.j0 (k + 3) p a b c false = some true := by
  have s : prim_Size.f p = some 0 := by unfold prim_Size.f prim_of.f; rw [h]; rfl
  have n : prim_Null.f p = some 0 := by unfold prim_Null.f prim_of.f; rw [h]; rfl
  have f : fitsV p a = false := by unfold fitsV; rw [fits_no p a h]; rfl
  have cc : compV p a b = 0 := by unfold compV; rw [f]; rfl
  unfold stencillaw01_PrimOrder.j0
  show ((prim_Size.f p).bind fun t158 => (if t158 = 0 then ((prim_Fits.f p a).bind fun t159 => (if t159 = true then (some false) else ((prim_Compare.f (k + 2) p a b).bind fun t160 => (if t160 = 0 then ((prim_Null.f p).bind fun t161 => (some (t161 == 0))) else (some false))))) else _)) = _
  rw [s]
  show ((prim_Fits.f p a).bind fun t159 => (if t159 = true then (some false) else ((prim_Compare.f (k + 2) p a b).bind fun t160 => (if t160 = 0 then ((prim_Null.f p).bind fun t161 => (some (t161 == 0))) else (some false))))) = _
  rw [fits_some p a, f]
  show ((prim_Compare.f (k + 2) p a b).bind fun t160 => (if t160 = 0 then ((prim_Null.f p).bind fun t161 => (some (t161 == 0))) else (some false))) = _
  rw [comp_some k p a b ha0 ha1 hb0 hb1, cc]
  show ((prim_Null.f p).bind fun t161 => (some (t161 == 0))) = _
  rw [n]; rfl
theorem j1_eq (k : Nat) (p a b c : Int) (ha0 : 0 ≤ a) (ha1 : a < 18446744073709551616) (hb0 : 0 ≤ b) (hb1 : b < 18446744073709551616) (hc0 : 0 ≤ c) (hc1 : c < 18446744073709551616) :
    stencillaw01_PrimOrder.j1 (k + 3) p a b c false = if compV p b a = wrap64 (-compV p a b) then stencillaw01_PrimOrder.j2 (k + 2) p a b c (compV p a b) (compV p b c) (compV p a c) (fitsV p a && fitsV p b) else some false := by
  show ((prim_Compare.f (k + 2) p a b).bind fun t168 => ((prim_Compare.f (k + 2) p b c).bind fun t169 => ((prim_Compare.f (k + 2) p a c).bind fun t170 => ((prim_Compare.f (k + 2) p b a).bind fun t171 => (if t171 = (wrap64 (-t168)) then ((prim_Fits.f p a).bind fun t172 => (if t172 = true then ((prim_Fits.f p b).bind fun t173 => (stencillaw01_PrimOrder.j2 (k + 2) p a b c t168 t169 t170 t173)) else (stencillaw01_PrimOrder.j2 (k + 2) p a b c t168 t169 t170 false))) else (some false)))))) = _
  rw [comp_some k p a b ha0 ha1 hb0 hb1, comp_some k p b c hb0 hb1 hc0 hc1, comp_some k p a c ha0 ha1 hc0 hc1, comp_some k p b a hb0 hb1 ha0 ha1, fits_some p a, fits_some p b]
  show (if compV p b a = wrap64 (-compV p a b) then (if fitsV p a = true then stencillaw01_PrimOrder.j2 (k + 2) p a b c (compV p a b) (compV p b c) (compV p a c) (fitsV p b) else stencillaw01_PrimOrder.j2 (k + 2) p a b c (compV p a b) (compV p b c) (compV p a c) false) else some false) = _
  cases fitsV p a <;> rfl
theorem j3_eq (k : Nat) (p c x9 x10 x11 : Int) (x12 : Bool) : stencillaw01_PrimOrder.j3 (k + 1) p c x9 x10 x11 x12 false = if x12 = true then (if fitsV p c = true then (if x9 < 0 ∧ x10 < 0 ∧ x11 ≥ 0 then some false else if x9 = 0 then some (!(x10 != x11)) else some true) else some true) else some true := by
  show (if x12 = true then ((prim_Fits.f p c).bind fun t174 => (if t174 = true then (if x9 < 0 then (if x10 < 0 then (if x11 ≥ 0 then (some false) else (if x9 = 0 then (some (!(x10 != x11))) else (some (!false)))) else (if x9 = 0 then (some (!(x10 != x11))) else (some (!false)))) else (if x9 = 0 then (some (!(x10 != x11))) else (some (!false)))) else (some true))) else (some true)) = _
  rw [fits_some p c]
  show (if x12 = true then (if fitsV p c = true then _ else _) else _) = _
  cases x12
  · rfl
  · cases fitsV p c
    · rfl
    · rw [if_pos rfl, if_pos rfl, if_pos rfl, if_pos rfl]
      by_cases c1 : x9 < 0
      · rw [if_pos c1]
        by_cases c2 : x10 < 0
        · rw [if_pos c2]
          by_cases c3 : x11 ≥ 0
          · rw [if_pos c3, if_pos ⟨c1, c2, c3⟩]
          · rw [if_neg c3, if_neg (show ¬ (x9 < 0 ∧ x10 < 0 ∧ x11 ≥ 0) from fun h => c3 h.2.2)]; rfl
        · rw [if_neg c2, if_neg (show ¬ (x9 < 0 ∧ x10 < 0 ∧ x11 ≥ 0) from fun h => c2 h.2.1)]; rfl
      · rw [if_neg c1, if_neg (show ¬ (x9 < 0 ∧ x10 < 0 ∧ x11 ≥ 0) from fun h => c1 h.1)]; rfl
theorem PrimOrder : stencillaw01_PrimOrder.Pure := by
  intro p a b c wp wa wb wc
  obtain ⟨ha0, ha1⟩ := wf_u64 wa
  obtain ⟨hb0, hb1⟩ := wf_u64 wb
  obtain ⟨hc0, hc1⟩ := wf_u64 wc
  refine ⟨10, ?_⟩
  rw [start 8]
  rcases row_cases p with ⟨_, h⟩ | hin
  · exact j0_out 7 p a b c h ha0 ha1 hb0 hb1
  · have hin' : ¬ (p < 0 ∨ 10 < p) := by omega
    rw [j0_in 9 p a b c hin', j1_eq 6 p a b c ha0 ha1 hb0 hb1 hc0 hc1]
    have inj := fun fa fb => rank_inj (p := p) ha0 ha1 hb0 hb1 fa fb
    have anti : compV p b a = wrap64 (-compV p a b) := by
      unfold compV
      rw [Bool.and_comm (fitsV p b)]
      cases (fitsV p a && fitsV p b)
      · rw [if_neg (by decide), if_neg (by decide)]; decide +kernel
      · rw [if_pos rfl, if_pos rfl]
        unfold cmpV
        by_cases c1 : rankV p a < rankV p b
        · simp only [if_pos c1, if_neg (show ¬ rankV p b < rankV p a by omega)]; decide +kernel
        · rw [if_neg c1]
          by_cases c2 : rankV p b < rankV p a
          · simp only [if_pos c2, if_neg c1]; decide +kernel
          · simp only [if_neg c2, if_neg c1]; decide +kernel
    rw [if_pos anti]
    show (if a = b then (stencillaw01_PrimOrder.j3 7 p c (compV p a b) (compV p b c) (compV p a c) (fitsV p a && fitsV p b) ((compV p a b == 0) != true)) else (stencillaw01_PrimOrder.j3 7 p c (compV p a b) (compV p b c) (compV p a c) (fitsV p a && fitsV p b) ((compV p a b == 0) != (!(fitsV p a && fitsV p b))))) = some true
    have z : (if a = b then ((compV p a b == 0) != true) else ((compV p a b == 0) != (!(fitsV p a && fitsV p b)))) = false := by
      by_cases e : a = b
      · rw [if_pos e]
        subst e
        have : compV p a a = 0 := by unfold compV cmpV; split <;> simp
        rw [this]; rfl
      · rw [if_neg e]
        cases f : (fitsV p a && fitsV p b)
        · have : compV p a b = 0 := by unfold compV; rw [f]; rfl
          rw [this]; rfl
        · have ff := Bool.and_eq_true_iff.mp f
          have ne : rankV p a ≠ rankV p b := fun q => e (inj ff.1 ff.2 q)
          have : compV p a b ≠ 0 := by
            unfold compV; rw [f, if_pos rfl]; unfold cmpV
            split
            · decide
            · split
              · decide
              · omega
          rw [beq_eq_false_iff_ne.mpr this]; rfl
    have tr : stencillaw01_PrimOrder.j3 7 p c (compV p a b) (compV p b c) (compV p a c) (fitsV p a && fitsV p b) false = some true := by
      rw [j3_eq 6]
      cases f : (fitsV p a && fitsV p b)
      · rfl
      · rw [if_pos rfl]
        cases fc : fitsV p c
        · rfl
        · rw [if_pos rfl]
          have ff := Bool.and_eq_true_iff.mp f
          have e1 : compV p a b = cmpV (rankV p a) (rankV p b) := by unfold compV; rw [f, if_pos rfl]
          have e2 : compV p b c = cmpV (rankV p b) (rankV p c) := by unfold compV; rw [ff.2, fc]; rfl
          have e3 : compV p a c = cmpV (rankV p a) (rankV p c) := by unfold compV; rw [ff.1, fc]; rfl
          rw [e1, e2, e3]
          generalize rankV p a = x
          generalize rankV p b = y
          generalize rankV p c = v
          have lt : ∀ s t : Int, cmpV s t < 0 ↔ s < t := by intro s t; unfold cmpV; split <;> (try split) <;> omega
          have eq : ∀ s t : Int, cmpV s t = 0 ↔ s = t := by intro s t; unfold cmpV; split <;> (try split) <;> omega
          rw [if_neg (by rw [lt, lt, ge_iff_le, ← Int.not_lt, lt]; omega)]
          by_cases q : cmpV x y = 0
          · rw [if_pos q]
            obtain rfl := (eq x y).mp q
            simp
          · rw [if_neg q]
    by_cases e : a = b
    · rw [if_pos e] at z ⊢; rw [z]; exact tr
    · rw [if_neg e] at z ⊢; rw [z]; exact tr
end Go.Proofs.YtgackepigegbkaaDoor.Pure
