-- Made by a wrapper of this project over the kit's print.py, with contracts by hand beside it. Not trusted: Lean checks it.
import Derived.Test.YtgackepigegbkaaDoorQx0
import Derived.Test.YtgackepigegbkaaDoorQx2
import Derived.Test.YtgackepigegbkaaDoorHOf
namespace Go.Proofs.YtgackepigegbkaaDoor.Q
open Go.RowKit Go.Proofs.YtgackepigegbkaaDoorW.PrintWords Go.Proofs.YtgackepigegbkaaDoorW.PrintLast Go.Proofs.YtgackepigegbkaaDoorW.PrintMore
attribute [local go_sem] max2_int min2_int max_two min_two max_three min_three max_four min_four   -- for this text's walks alone
set_option linter.unusedVariables false
set_option linter.unusedSimpArgs false

/-! ### stencillaw01_PrimOrder: function 3 -/
mutual
def stencillaw01_PrimOrder.j0 : Nat → Int → Int → Int → Int → Bool → Option (Bool)
  | 0, _, _, _, _, _ => none
  | k + 1, x0, x1, x2, x3, x18 => if x18 = true then (some false) else ((prim_Size.f x0).bind fun t158 => (if t158 = 0 then ((prim_Fits.f x0 x1).bind fun t159 => (if t159 = true then (some false) else ((prim_Compare.f k x0 x1 x2).bind fun t160 => (if t160 = 0 then ((prim_Null.f x0).bind fun t161 => (some (t161 == 0))) else (some false))))) else ((prim_Null.f x0).bind fun t162 => ((prim_Fits.f x0 t162).bind fun t163 => (if t163 = true then ((prim_Min.f x0).bind fun t164 => ((prim_Fits.f x0 t164).bind fun t165 => (if t165 = true then ((prim_Max.f x0).bind fun t166 => ((prim_Fits.f x0 t166).bind fun t167 => (stencillaw01_PrimOrder.j1 k x0 x1 x2 x3 (!t167)))) else (stencillaw01_PrimOrder.j1 k x0 x1 x2 x3 true)))) else (stencillaw01_PrimOrder.j1 k x0 x1 x2 x3 true))))))
def stencillaw01_PrimOrder.j1 : Nat → Int → Int → Int → Int → Bool → Option (Bool)
  | 0, _, _, _, _, _ => none
  | k + 1, x0, x1, x2, x3, x56 => if x56 = true then (some false) else ((prim_Compare.f k x0 x1 x2).bind fun t168 => ((prim_Compare.f k x0 x2 x3).bind fun t169 => ((prim_Compare.f k x0 x1 x3).bind fun t170 => ((prim_Compare.f k x0 x2 x1).bind fun t171 => (if t171 = (wrap64 (-t168)) then ((prim_Fits.f x0 x1).bind fun t172 => (if t172 = true then ((prim_Fits.f x0 x2).bind fun t173 => (stencillaw01_PrimOrder.j2 k x0 x1 x2 x3 t168 t169 t170 t173)) else (stencillaw01_PrimOrder.j2 k x0 x1 x2 x3 t168 t169 t170 false))) else (some false))))))
def stencillaw01_PrimOrder.j2 : Nat → Int → Int → Int → Int → Int → Int → Int → Bool → Option (Bool)
  | 0, _, _, _, _, _, _, _, _ => none
  | k + 1, x0, x1, x2, x3, x9, x10, x11, x12 => if x1 = x2 then (stencillaw01_PrimOrder.j3 k x0 x3 x9 x10 x11 x12 ((x9 == 0) != true)) else (stencillaw01_PrimOrder.j3 k x0 x3 x9 x10 x11 x12 ((x9 == 0) != (!x12)))
def stencillaw01_PrimOrder.j3 : Nat → Int → Int → Int → Int → Int → Bool → Bool → Option (Bool)
  | 0, _, _, _, _, _, _, _ => none
  | k + 1, x0, x3, x9, x10, x11, x12, x93 => if x93 = true then (some false) else (if x12 = true then ((prim_Fits.f x0 x3).bind fun t174 => (if t174 = true then (if x9 < 0 then (if x10 < 0 then (if x11 ≥ 0 then (some false) else (if x9 = 0 then (some (!(x10 != x11))) else (some (!false)))) else (if x9 = 0 then (some (!(x10 != x11))) else (some (!false)))) else (if x9 = 0 then (some (!(x10 != x11))) else (some (!false)))) else (some true))) else (some true))
end
def stencillaw01_PrimOrder.f (k : Nat) (a0 : Int) (a1 : Int) (a2 : Int) (a3 : Int) : Option (Bool) := (prim_Compare.f k 1 18446744073709551615 1).bind fun t156 => (if t156 = (-1) then ((prim_Fits.f 0 255).bind fun t157 => (stencillaw01_PrimOrder.j0 k a0 a1 a2 a3 (!t157))) else (stencillaw01_PrimOrder.j0 k a0 a1 a2 a3 true))
theorem stencillaw01_PrimOrder.mono_l : ∀ k, (∀ y0 y1 y2 y3 y4, LeO (stencillaw01_PrimOrder.j0 k y0 y1 y2 y3 y4) (stencillaw01_PrimOrder.j0 (k + 1) y0 y1 y2 y3 y4)) ∧ (∀ y0 y1 y2 y3 y4, LeO (stencillaw01_PrimOrder.j1 k y0 y1 y2 y3 y4) (stencillaw01_PrimOrder.j1 (k + 1) y0 y1 y2 y3 y4)) ∧ (∀ y0 y1 y2 y3 y4 y5 y6 y7, LeO (stencillaw01_PrimOrder.j2 k y0 y1 y2 y3 y4 y5 y6 y7) (stencillaw01_PrimOrder.j2 (k + 1) y0 y1 y2 y3 y4 y5 y6 y7)) ∧ (∀ y0 y1 y2 y3 y4 y5 y6, LeO (stencillaw01_PrimOrder.j3 k y0 y1 y2 y3 y4 y5 y6) (stencillaw01_PrimOrder.j3 (k + 1) y0 y1 y2 y3 y4 y5 y6))
  | 0 => ⟨fun _ _ _ _ _ r h => by simp [stencillaw01_PrimOrder.j0] at h, fun _ _ _ _ _ r h => by simp [stencillaw01_PrimOrder.j1] at h, fun _ _ _ _ _ _ _ _ r h => by simp [stencillaw01_PrimOrder.j2] at h, fun _ _ _ _ _ _ _ r h => by simp [stencillaw01_PrimOrder.j3] at h⟩
  | k + 1 => by
    obtain ⟨ih0, ih1, ih2, ih3⟩ := stencillaw01_PrimOrder.mono_l k
    refine ⟨?_, ?_, ?_, ?_⟩
    · intro y0 y1 y2 y3 y4
      unfold stencillaw01_PrimOrder.j0
      repeat' first
      | (with_reducible exact ih0 _ _ _ _ _)
      | (with_reducible exact ih1 _ _ _ _ _)
      | (with_reducible exact ih2 _ _ _ _ _ _ _ _)
      | (with_reducible exact ih3 _ _ _ _ _ _ _)
      | (with_reducible exact prim_Compare.mono _ _ _ _)
      | (with_reducible exact LeO.refl _)
      | (with_reducible exact LeO.none _)
      | (with_reducible refine LeO.ite ?_ ?_)
      | (with_reducible refine LeO.bind ?_ (fun _ => ?_))
      | exact ih0 _ _ _ _ _
      | exact ih1 _ _ _ _ _
      | exact ih2 _ _ _ _ _ _ _ _
      | exact ih3 _ _ _ _ _ _ _
      | exact prim_Compare.mono _ _ _ _
      | exact LeO.none _
      | refine LeO.ite ?_ ?_
      | refine LeO.bind ?_ (fun _ => ?_)
    · intro y0 y1 y2 y3 y4
      unfold stencillaw01_PrimOrder.j1
      repeat' first
      | (with_reducible exact ih0 _ _ _ _ _)
      | (with_reducible exact ih1 _ _ _ _ _)
      | (with_reducible exact ih2 _ _ _ _ _ _ _ _)
      | (with_reducible exact ih3 _ _ _ _ _ _ _)
      | (with_reducible exact prim_Compare.mono _ _ _ _)
      | (with_reducible exact LeO.refl _)
      | (with_reducible exact LeO.none _)
      | (with_reducible refine LeO.ite ?_ ?_)
      | (with_reducible refine LeO.bind ?_ (fun _ => ?_))
      | exact ih0 _ _ _ _ _
      | exact ih1 _ _ _ _ _
      | exact ih2 _ _ _ _ _ _ _ _
      | exact ih3 _ _ _ _ _ _ _
      | exact prim_Compare.mono _ _ _ _
      | exact LeO.none _
      | refine LeO.ite ?_ ?_
      | refine LeO.bind ?_ (fun _ => ?_)
    · intro y0 y1 y2 y3 y4 y5 y6 y7
      unfold stencillaw01_PrimOrder.j2
      repeat' first
      | (with_reducible exact ih0 _ _ _ _ _)
      | (with_reducible exact ih1 _ _ _ _ _)
      | (with_reducible exact ih2 _ _ _ _ _ _ _ _)
      | (with_reducible exact ih3 _ _ _ _ _ _ _)
      | (with_reducible exact prim_Compare.mono _ _ _ _)
      | (with_reducible exact LeO.refl _)
      | (with_reducible exact LeO.none _)
      | (with_reducible refine LeO.ite ?_ ?_)
      | (with_reducible refine LeO.bind ?_ (fun _ => ?_))
      | exact ih0 _ _ _ _ _
      | exact ih1 _ _ _ _ _
      | exact ih2 _ _ _ _ _ _ _ _
      | exact ih3 _ _ _ _ _ _ _
      | exact prim_Compare.mono _ _ _ _
      | exact LeO.none _
      | refine LeO.ite ?_ ?_
      | refine LeO.bind ?_ (fun _ => ?_)
    · intro y0 y1 y2 y3 y4 y5 y6
      unfold stencillaw01_PrimOrder.j3
      repeat' first
      | (with_reducible exact ih0 _ _ _ _ _)
      | (with_reducible exact ih1 _ _ _ _ _)
      | (with_reducible exact ih2 _ _ _ _ _ _ _ _)
      | (with_reducible exact ih3 _ _ _ _ _ _ _)
      | (with_reducible exact prim_Compare.mono _ _ _ _)
      | (with_reducible exact LeO.refl _)
      | (with_reducible exact LeO.none _)
      | (with_reducible refine LeO.ite ?_ ?_)
      | (with_reducible refine LeO.bind ?_ (fun _ => ?_))
      | exact ih0 _ _ _ _ _
      | exact ih1 _ _ _ _ _
      | exact ih2 _ _ _ _ _ _ _ _
      | exact ih3 _ _ _ _ _ _ _
      | exact prim_Compare.mono _ _ _ _
      | exact LeO.none _
      | refine LeO.ite ?_ ?_
      | refine LeO.bind ?_ (fun _ => ?_)
theorem stencillaw01_PrimOrder.mono : ∀ a0 a1 a2 a3 k, LeO (stencillaw01_PrimOrder.f k a0 a1 a2 a3) (stencillaw01_PrimOrder.f (k + 1) a0 a1 a2 a3) := by
  intro a0 a1 a2 a3 k
  obtain ⟨ih0, ih1, ih2, ih3⟩ := stencillaw01_PrimOrder.mono_l k
  unfold stencillaw01_PrimOrder.f
  repeat' first
      | (with_reducible exact ih0 _ _ _ _ _)
      | (with_reducible exact ih1 _ _ _ _ _)
      | (with_reducible exact ih2 _ _ _ _ _ _ _ _)
      | (with_reducible exact ih3 _ _ _ _ _ _ _)
      | (with_reducible exact prim_Compare.mono _ _ _ _)
      | (with_reducible exact LeO.refl _)
      | (with_reducible exact LeO.none _)
      | (with_reducible refine LeO.ite ?_ ?_)
      | (with_reducible refine LeO.bind ?_ (fun _ => ?_))
      | exact ih0 _ _ _ _ _
      | exact ih1 _ _ _ _ _
      | exact ih2 _ _ _ _ _ _ _ _
      | exact ih3 _ _ _ _ _ _ _
      | exact prim_Compare.mono _ _ _ _
      | exact LeO.none _
      | refine LeO.ite ?_ ?_
      | refine LeO.bind ?_ (fun _ => ?_)
set_option maxHeartbeats 8000000 in
set_option maxRecDepth 100000 in
theorem stencillaw01_PrimOrder.calls (k : Nat) (a0 : Int) (a1 : Int) (a2 : Int) (a3 : Int) (r : Bool) (w : World) (h : stencillaw01_PrimOrder.f k a0 a1 a2 a3 = some r) (hT0 : Tab w) :
    Calls Tryd.prog 3 #[.int .i64 a0, .int .u64 a1, .int .u64 a2, .int .u64 a3] w fun e w' => e = .returned (.bool r) ∧ Below w.heap.size w w' := by
  have HT := Aside0.mk hT0
  clear hT0
  have HB := Aside0.mk (Below.refl w.heap.size w)
  have H : ((prim_Compare.f k 1 18446744073709551615 1).bind fun t156 => (if t156 = (-1) then ((prim_Fits.f 0 255).bind fun t157 => (stencillaw01_PrimOrder.j0 k a0 a1 a2 a3 (!t157))) else (stencillaw01_PrimOrder.j0 k a0 a1 a2 a3 true))) = some r := h
  clear h
  have HC5 := Aside0.mk H
  clear H
  go_enter Tryd.func3, Tryd.ntmps3
  go_upto_region 1 with (fail)
  go_cut [18] (fun v18 wc => ∃ (kq : Nat) (x18_4 : Bool), v18 = .bool x18_4 ∧ Aside0 (stencillaw01_PrimOrder.j0 kq a0 a1 a2 a3 x18_4 = some r) ∧ Aside0 (kq ≤ k) ∧ Aside0 (Below w.heap.size w wc))
  case first =>
    have H := HC5.out
    clear HC5
    replace H := Option.bind_eq_some_iff.mp H
    obtain ⟨t156, A60, H⟩ := H
    replace H : (if t156 = (-1) then ((prim_Fits.f 0 255).bind fun t157 => (stencillaw01_PrimOrder.j0 k a0 a1 a2 a3 (!t157))) else (stencillaw01_PrimOrder.j0 k a0 a1 a2 a3 true)) = some r := H
    have A6 := Aside0.mk A60
    clear A60
    by_cases c7 : t156 = (-1)
    · rw [if_pos c7] at H
      have c7b0 : (t156 == (-1)) = true := beq_iff_eq.mpr c7
      have c7b1 : (t156 != (-1)) = false := bne_eq_false_iff_eq.mpr c7
      clear c7
      (first | rw [c7b0] | (simp only [i64_w, i32_w]; rw [c7b0]) | skip)
      replace H := Option.bind_eq_some_iff.mp H
      obtain ⟨t157, A80, H⟩ := H
      replace H : (stencillaw01_PrimOrder.j0 k a0 a1 a2 a3 (!t157)) = some r := H
      have A8 := Aside0.mk A80
      clear A80
      have H' := Aside0.mk H
      clear H
      go_wp2_with (first | ((with_reducible refine gate_callee (f := 7) rfl ?_); refine goesL_ (some 13) rfl rfl Tryd.func7 (by kernel_rfl) rfl #[.int .i64 1, .int .u64 18446744073709551615, .int .u64 1] rfl (by (try simp only [List.map_toArray, List.map_cons, List.map_nil]); first | done | rfl | (simp only [List.length_drop, List.length_take]; rfl)) ?_; (with_reducible refine (prim_Compare.calls k 1 18446744073709551615 1 t156 _ A6.out (by first | exact HT.out | exact tab_below HT.out (by repeat (first | (with_reducible first | exact HB.out | apply below_alloc | apply pw_below_drewN | apply below_drew1 | apply below_drew) | exact HB.out)) | exact tab_drawn HT.out (by repeat (first | exact Drawn0.refl _ | apply Drawn0.step)))).mono ?_); rintro e w9 ⟨rfl, hb⟩; refine ⟨_, rfl, ?_⟩; have n0_ := Aside0.mk (below_step (by repeat (first | (with_reducible first | exact HB.out | apply below_alloc | apply pw_below_drewN | apply below_drew1) | exact HB.out)) hb); clear HB; have HB := n0_; clear n0_; (try clear hb); (try clear hb2); (try clear hk); (try clear hi)) | (go_at_call 8; (with_reducible refine (prim_Fits.calls 0 255 t157 _ A8.out (by first | exact HT.out | exact tab_below HT.out (by repeat (first | (with_reducible first | exact HB.out | apply below_alloc | apply pw_below_drewN | apply below_drew1 | apply below_drew) | exact HB.out)) | exact tab_drawn HT.out (by repeat (first | exact Drawn0.refl _ | apply Drawn0.step)))).mono ?_); rintro e w10 ⟨rfl, hb⟩; have n0_ := Aside0.mk (below_step (by repeat (first | (with_reducible first | exact HB.out | apply below_alloc | apply pw_below_drewN | apply below_drew1) | exact HB.out)) hb); clear HB; have HB := n0_; clear n0_; (try clear hb); (try clear hb2); (try clear hk); (try clear hi)))
      go_meet
      case rel => exact ⟨_, (!t157), (by first | rfl | (simp; done) | (simp [*]; done)), H', ⟨by first | omega | exact Nat.le_refl _⟩, ⟨by repeat (first | (with_reducible first | exact HB.out | apply below_alloc | apply pw_below_drewN | apply below_drew1) | exact HB.out)⟩⟩
    · rw [if_neg c7] at H
      have c7b0 : (t156 == (-1)) = false := beq_eq_false_iff_ne.mpr c7
      have c7b1 : (t156 != (-1)) = true := bne_iff_ne.mpr c7
      (first | rw [c7b0] | (simp only [i64_w, i32_w]; rw [c7b0]) | skip)
      have H' := Aside0.mk H
      clear H
      go_wp2_with (first | ((with_reducible refine gate_callee (f := 7) rfl ?_); refine goesL_ (some 13) rfl rfl Tryd.func7 (by kernel_rfl) rfl #[.int .i64 1, .int .u64 18446744073709551615, .int .u64 1] rfl (by (try simp only [List.map_toArray, List.map_cons, List.map_nil]); first | done | rfl | (simp only [List.length_drop, List.length_take]; rfl)) ?_; (with_reducible refine (prim_Compare.calls k 1 18446744073709551615 1 t156 _ A6.out (by first | exact HT.out | exact tab_below HT.out (by repeat (first | (with_reducible first | exact HB.out | apply below_alloc | apply pw_below_drewN | apply below_drew1 | apply below_drew) | exact HB.out)) | exact tab_drawn HT.out (by repeat (first | exact Drawn0.refl _ | apply Drawn0.step)))).mono ?_); rintro e w11 ⟨rfl, hb⟩; refine ⟨_, rfl, ?_⟩; have n0_ := Aside0.mk (below_step (by repeat (first | (with_reducible first | exact HB.out | apply below_alloc | apply pw_below_drewN | apply below_drew1) | exact HB.out)) hb); clear HB; have HB := n0_; clear n0_; (try clear hb); (try clear hb2); (try clear hk); (try clear hi)))
      go_meet
      case rel => exact ⟨_, (true), (by first | rfl | (simp; done) | (simp [*]; done)), H', ⟨by first | omega | exact Nat.le_refl _⟩, ⟨by repeat (first | (with_reducible first | exact HB.out | apply below_alloc | apply pw_below_drewN | apply below_drew1) | exact HB.out)⟩⟩
  case rest =>
    clear HC5
    try clear p2
    try clear c3
    try clear c7
    try clear c7b0
    try clear c7b1
    obtain ⟨kq, x18_4, rfl, HA, HJ4, HB⟩ := hcut
    cases kq with
    | zero => exact absurd HA.out (by simp [stencillaw01_PrimOrder.j0])
    | succ kj4 =>
      have H := HA.out
      clear HA
      simp only [stencillaw01_PrimOrder.j0] at H
      by_cases c12 : x18_4 = true
      · subst c12
        have H1 : (some false) = some r := by rw [if_pos rfl] at H; exact H
        clear H
        have H := H1
        clear H1
        obtain rfl := Option.some.inj H
        go_wp2
        go_ret
        exact ⟨by first | rfl | (simp [errW_none, errW_some] <;> rfl) | (simp [*, errW_none, errW_some] <;> rfl), by repeat (first | (with_reducible first | exact HB.out | apply below_alloc | apply pw_below_drewN | apply below_drew1) | exact HB.out)⟩
      · replace c12 := Bool.eq_false_iff.mpr c12
        subst c12
        have H1 : ((prim_Size.f a0).bind fun t158 => (if t158 = 0 then ((prim_Fits.f a0 a1).bind fun t159 => (if t159 = true then (some false) else ((prim_Compare.f kj4 a0 a1 a2).bind fun t160 => (if t160 = 0 then ((prim_Null.f a0).bind fun t161 => (some (t161 == 0))) else (some false))))) else ((prim_Null.f a0).bind fun t162 => ((prim_Fits.f a0 t162).bind fun t163 => (if t163 = true then ((prim_Min.f a0).bind fun t164 => ((prim_Fits.f a0 t164).bind fun t165 => (if t165 = true then ((prim_Max.f a0).bind fun t166 => ((prim_Fits.f a0 t166).bind fun t167 => (stencillaw01_PrimOrder.j1 kj4 a0 a1 a2 a3 (!t167)))) else (stencillaw01_PrimOrder.j1 kj4 a0 a1 a2 a3 true)))) else (stencillaw01_PrimOrder.j1 kj4 a0 a1 a2 a3 true)))))) = some r := by rw [if_neg (show ¬ (false = true) by decide)] at H; exact H
        clear H
        have H := H1
        clear H1
        replace H := Option.bind_eq_some_iff.mp H
        obtain ⟨t158, A130, H⟩ := H
        replace H : (if t158 = 0 then ((prim_Fits.f a0 a1).bind fun t159 => (if t159 = true then (some false) else ((prim_Compare.f kj4 a0 a1 a2).bind fun t160 => (if t160 = 0 then ((prim_Null.f a0).bind fun t161 => (some (t161 == 0))) else (some false))))) else ((prim_Null.f a0).bind fun t162 => ((prim_Fits.f a0 t162).bind fun t163 => (if t163 = true then ((prim_Min.f a0).bind fun t164 => ((prim_Fits.f a0 t164).bind fun t165 => (if t165 = true then ((prim_Max.f a0).bind fun t166 => ((prim_Fits.f a0 t166).bind fun t167 => (stencillaw01_PrimOrder.j1 kj4 a0 a1 a2 a3 (!t167)))) else (stencillaw01_PrimOrder.j1 kj4 a0 a1 a2 a3 true)))) else (stencillaw01_PrimOrder.j1 kj4 a0 a1 a2 a3 true))))) = some r := H
        have A13 := Aside0.mk A130
        clear A130
        by_cases c14 : t158 = 0
        · rw [if_pos c14] at H
          have c14b0 : (t158 == 0) = true := beq_iff_eq.mpr c14
          have c14b1 : (t158 != 0) = false := bne_eq_false_iff_eq.mpr c14
          clear c14
          replace H := Option.bind_eq_some_iff.mp H
          obtain ⟨t159, A150, H⟩ := H
          replace H : (if t159 = true then (some false) else ((prim_Compare.f kj4 a0 a1 a2).bind fun t160 => (if t160 = 0 then ((prim_Null.f a0).bind fun t161 => (some (t161 == 0))) else (some false)))) = some r := H
          have A15 := Aside0.mk A150
          clear A150
          by_cases c16 : t159 = true
          · subst c16
            have H1 : (some false) = some r := by rw [if_pos rfl] at H; exact H
            clear H
            have H := H1
            clear H1
            obtain rfl := Option.some.inj H
            go_wp2_with (first | ((with_reducible refine gate_callee (f := 9) rfl ?_); refine goesL_ (some 20) rfl rfl Tryd.func9 (by kernel_rfl) rfl #[.int .i64 a0] rfl (by (try simp only [List.map_toArray, List.map_cons, List.map_nil]); first | done | rfl | (simp only [List.length_drop, List.length_take]; rfl)) ?_; (with_reducible refine (prim_Size.calls a0 t158 _ A13.out (by first | exact HT.out | exact tab_below HT.out (by repeat (first | (with_reducible first | exact HB.out | apply below_alloc | apply pw_below_drewN | apply below_drew1 | apply below_drew) | exact HB.out)) | exact tab_drawn HT.out (by repeat (first | exact Drawn0.refl _ | apply Drawn0.step)))).mono ?_); rintro e w17 ⟨rfl, hb⟩; refine ⟨_, rfl, ?_⟩; have n0_ := Aside0.mk (below_step (by repeat (first | (with_reducible first | exact HB.out | apply below_alloc | apply pw_below_drewN | apply below_drew1) | exact HB.out)) hb); clear HB; have HB := n0_; clear n0_; (try clear hb); (try clear hb2); (try clear hk); (try clear hi)) | ((with_reducible refine gate_callee (f := 8) rfl ?_); refine goesL_ (some 24) rfl rfl Tryd.func8 (by kernel_rfl) rfl #[.int .i64 a0, .int .u64 a1] rfl (by (try simp only [List.map_toArray, List.map_cons, List.map_nil]); first | done | rfl | (simp only [List.length_drop, List.length_take]; rfl)) ?_; (with_reducible refine (prim_Fits.calls a0 a1 true _ A15.out (by first | exact HT.out | exact tab_below HT.out (by repeat (first | (with_reducible first | exact HB.out | apply below_alloc | apply pw_below_drewN | apply below_drew1 | apply below_drew) | exact HB.out)) | exact tab_drawn HT.out (by repeat (first | exact Drawn0.refl _ | apply Drawn0.step)))).mono ?_); rintro e w18 ⟨rfl, hb⟩; refine ⟨_, rfl, ?_⟩; have n0_ := Aside0.mk (below_step (by repeat (first | (with_reducible first | exact HB.out | apply below_alloc | apply pw_below_drewN | apply below_drew1) | exact HB.out)) hb); clear HB; have HB := n0_; clear n0_; (try clear hb); (try clear hb2); (try clear hk); (try clear hi)))
            go_ret
            exact ⟨by first | rfl | (simp [errW_none, errW_some] <;> rfl) | (simp [*, errW_none, errW_some] <;> rfl), by repeat (first | (with_reducible first | exact HB.out | apply below_alloc | apply pw_below_drewN | apply below_drew1) | exact HB.out)⟩
          · replace c16 := Bool.eq_false_iff.mpr c16
            subst c16
            have H1 : ((prim_Compare.f kj4 a0 a1 a2).bind fun t160 => (if t160 = 0 then ((prim_Null.f a0).bind fun t161 => (some (t161 == 0))) else (some false))) = some r := by rw [if_neg (show ¬ (false = true) by decide)] at H; exact H
            clear H
            have H := H1
            clear H1
            replace H := Option.bind_eq_some_iff.mp H
            obtain ⟨t160, A190, H⟩ := H
            replace H : (if t160 = 0 then ((prim_Null.f a0).bind fun t161 => (some (t161 == 0))) else (some false)) = some r := H
            have A19 := Aside0.mk A190
            clear A190
            by_cases c20 : t160 = 0
            · rw [if_pos c20] at H
              have c20b0 : (t160 == 0) = true := beq_iff_eq.mpr c20
              have c20b1 : (t160 != 0) = false := bne_eq_false_iff_eq.mpr c20
              clear c20
              replace H := Option.bind_eq_some_iff.mp H
              obtain ⟨t161, A210, H⟩ := H
              replace H : (some (t161 == 0)) = some r := H
              have A21 := Aside0.mk A210
              clear A210
              obtain rfl := Option.some.inj H
              go_wp2_with (first | ((with_reducible refine gate_callee (f := 9) rfl ?_); refine goesL_ (some 20) rfl rfl Tryd.func9 (by kernel_rfl) rfl #[.int .i64 a0] rfl (by (try simp only [List.map_toArray, List.map_cons, List.map_nil]); first | done | rfl | (simp only [List.length_drop, List.length_take]; rfl)) ?_; (with_reducible refine (prim_Size.calls a0 t158 _ A13.out (by first | exact HT.out | exact tab_below HT.out (by repeat (first | (with_reducible first | exact HB.out | apply below_alloc | apply pw_below_drewN | apply below_drew1 | apply below_drew) | exact HB.out)) | exact tab_drawn HT.out (by repeat (first | exact Drawn0.refl _ | apply Drawn0.step)))).mono ?_); rintro e w22 ⟨rfl, hb⟩; refine ⟨_, rfl, ?_⟩; have n0_ := Aside0.mk (below_step (by repeat (first | (with_reducible first | exact HB.out | apply below_alloc | apply pw_below_drewN | apply below_drew1) | exact HB.out)) hb); clear HB; have HB := n0_; clear n0_; (try clear hb); (try clear hb2); (try clear hk); (try clear hi)) | ((with_reducible refine gate_callee (f := 8) rfl ?_); refine goesL_ (some 24) rfl rfl Tryd.func8 (by kernel_rfl) rfl #[.int .i64 a0, .int .u64 a1] rfl (by (try simp only [List.map_toArray, List.map_cons, List.map_nil]); first | done | rfl | (simp only [List.length_drop, List.length_take]; rfl)) ?_; (with_reducible refine (prim_Fits.calls a0 a1 false _ A15.out (by first | exact HT.out | exact tab_below HT.out (by repeat (first | (with_reducible first | exact HB.out | apply below_alloc | apply pw_below_drewN | apply below_drew1 | apply below_drew) | exact HB.out)) | exact tab_drawn HT.out (by repeat (first | exact Drawn0.refl _ | apply Drawn0.step)))).mono ?_); rintro e w23 ⟨rfl, hb⟩; refine ⟨_, rfl, ?_⟩; have n0_ := Aside0.mk (below_step (by repeat (first | (with_reducible first | exact HB.out | apply below_alloc | apply pw_below_drewN | apply below_drew1) | exact HB.out)) hb); clear HB; have HB := n0_; clear n0_; (try clear hb); (try clear hb2); (try clear hk); (try clear hi)) | (go_at_call 7; (with_reducible refine (prim_Compare.calls kj4 a0 a1 a2 t160 _ A19.out (by first | exact HT.out | exact tab_below HT.out (by repeat (first | (with_reducible first | exact HB.out | apply below_alloc | apply pw_below_drewN | apply below_drew1 | apply below_drew) | exact HB.out)) | exact tab_drawn HT.out (by repeat (first | exact Drawn0.refl _ | apply Drawn0.step)))).mono ?_); rintro e w24 ⟨rfl, hb⟩; have n0_ := Aside0.mk (below_step (by repeat (first | (with_reducible first | exact HB.out | apply below_alloc | apply pw_below_drewN | apply below_drew1) | exact HB.out)) hb); clear HB; have HB := n0_; clear n0_; (try clear hb); (try clear hb2); (try clear hk); (try clear hi)) | (go_at_call 10; (with_reducible refine (prim_Null.calls a0 t161 _ A21.out (by first | exact HT.out | exact tab_below HT.out (by repeat (first | (with_reducible first | exact HB.out | apply below_alloc | apply pw_below_drewN | apply below_drew1 | apply below_drew) | exact HB.out)) | exact tab_drawn HT.out (by repeat (first | exact Drawn0.refl _ | apply Drawn0.step)))).mono ?_); rintro e w25 ⟨rfl, hb⟩; have n0_ := Aside0.mk (below_step (by repeat (first | (with_reducible first | exact HB.out | apply below_alloc | apply pw_below_drewN | apply below_drew1) | exact HB.out)) hb); clear HB; have HB := n0_; clear n0_; (try clear hb); (try clear hb2); (try clear hk); (try clear hi)))
              go_ret
              exact ⟨by first | rfl | (simp [errW_none, errW_some] <;> rfl) | (simp [*, errW_none, errW_some] <;> rfl), by repeat (first | (with_reducible first | exact HB.out | apply below_alloc | apply pw_below_drewN | apply below_drew1) | exact HB.out)⟩
            · rw [if_neg c20] at H
              have c20b0 : (t160 == 0) = false := beq_eq_false_iff_ne.mpr c20
              have c20b1 : (t160 != 0) = true := bne_iff_ne.mpr c20
              obtain rfl := Option.some.inj H
              go_wp2_with (first | ((with_reducible refine gate_callee (f := 9) rfl ?_); refine goesL_ (some 20) rfl rfl Tryd.func9 (by kernel_rfl) rfl #[.int .i64 a0] rfl (by (try simp only [List.map_toArray, List.map_cons, List.map_nil]); first | done | rfl | (simp only [List.length_drop, List.length_take]; rfl)) ?_; (with_reducible refine (prim_Size.calls a0 t158 _ A13.out (by first | exact HT.out | exact tab_below HT.out (by repeat (first | (with_reducible first | exact HB.out | apply below_alloc | apply pw_below_drewN | apply below_drew1 | apply below_drew) | exact HB.out)) | exact tab_drawn HT.out (by repeat (first | exact Drawn0.refl _ | apply Drawn0.step)))).mono ?_); rintro e w26 ⟨rfl, hb⟩; refine ⟨_, rfl, ?_⟩; have n0_ := Aside0.mk (below_step (by repeat (first | (with_reducible first | exact HB.out | apply below_alloc | apply pw_below_drewN | apply below_drew1) | exact HB.out)) hb); clear HB; have HB := n0_; clear n0_; (try clear hb); (try clear hb2); (try clear hk); (try clear hi)) | ((with_reducible refine gate_callee (f := 8) rfl ?_); refine goesL_ (some 24) rfl rfl Tryd.func8 (by kernel_rfl) rfl #[.int .i64 a0, .int .u64 a1] rfl (by (try simp only [List.map_toArray, List.map_cons, List.map_nil]); first | done | rfl | (simp only [List.length_drop, List.length_take]; rfl)) ?_; (with_reducible refine (prim_Fits.calls a0 a1 false _ A15.out (by first | exact HT.out | exact tab_below HT.out (by repeat (first | (with_reducible first | exact HB.out | apply below_alloc | apply pw_below_drewN | apply below_drew1 | apply below_drew) | exact HB.out)) | exact tab_drawn HT.out (by repeat (first | exact Drawn0.refl _ | apply Drawn0.step)))).mono ?_); rintro e w27 ⟨rfl, hb⟩; refine ⟨_, rfl, ?_⟩; have n0_ := Aside0.mk (below_step (by repeat (first | (with_reducible first | exact HB.out | apply below_alloc | apply pw_below_drewN | apply below_drew1) | exact HB.out)) hb); clear HB; have HB := n0_; clear n0_; (try clear hb); (try clear hb2); (try clear hk); (try clear hi)) | (go_at_call 7; (with_reducible refine (prim_Compare.calls kj4 a0 a1 a2 t160 _ A19.out (by first | exact HT.out | exact tab_below HT.out (by repeat (first | (with_reducible first | exact HB.out | apply below_alloc | apply pw_below_drewN | apply below_drew1 | apply below_drew) | exact HB.out)) | exact tab_drawn HT.out (by repeat (first | exact Drawn0.refl _ | apply Drawn0.step)))).mono ?_); rintro e w28 ⟨rfl, hb⟩; have n0_ := Aside0.mk (below_step (by repeat (first | (with_reducible first | exact HB.out | apply below_alloc | apply pw_below_drewN | apply below_drew1) | exact HB.out)) hb); clear HB; have HB := n0_; clear n0_; (try clear hb); (try clear hb2); (try clear hk); (try clear hi)))
              go_ret
              exact ⟨by first | rfl | (simp [errW_none, errW_some] <;> rfl) | (simp [*, errW_none, errW_some] <;> rfl), by repeat (first | (with_reducible first | exact HB.out | apply below_alloc | apply pw_below_drewN | apply below_drew1) | exact HB.out)⟩
        · rw [if_neg c14] at H
          have c14b0 : (t158 == 0) = false := beq_eq_false_iff_ne.mpr c14
          have c14b1 : (t158 != 0) = true := bne_iff_ne.mpr c14
          have HC29 := Aside0.mk H
          clear H
          go_upto_region 5 with (first | ((with_reducible refine gate_callee (f := 9) rfl ?_); refine goesL_ (some 20) rfl rfl Tryd.func9 (by kernel_rfl) rfl #[.int .i64 a0] rfl (by (try simp only [List.map_toArray, List.map_cons, List.map_nil]); first | done | rfl | (simp only [List.length_drop, List.length_take]; rfl)) ?_; (with_reducible refine (prim_Size.calls a0 t158 _ A13.out (by first | exact HT.out | exact tab_below HT.out (by repeat (first | (with_reducible first | exact HB.out | apply below_alloc | apply pw_below_drewN | apply below_drew1 | apply below_drew) | exact HB.out)) | exact tab_drawn HT.out (by repeat (first | exact Drawn0.refl _ | apply Drawn0.step)))).mono ?_); rintro e w30 ⟨rfl, hb⟩; refine ⟨_, rfl, ?_⟩; have n0_ := Aside0.mk (below_step (by repeat (first | (with_reducible first | exact HB.out | apply below_alloc | apply pw_below_drewN | apply below_drew1) | exact HB.out)) hb); clear HB; have HB := n0_; clear n0_; (try clear hb); (try clear hb2); (try clear hk); (try clear hi)))
          (try simp only [Act.put, List.setIfInBounds_toArray, List.set_cons_zero, List.set_cons_succ])
          go_cut [56] (fun v56 wc => ∃ (kq : Nat) (x56_28 : Bool), v56 = .bool x56_28 ∧ Aside0 (stencillaw01_PrimOrder.j1 kq a0 a1 a2 a3 x56_28 = some r) ∧ Aside0 (kq ≤ kj4) ∧ Aside0 (Below w.heap.size w wc))
          case first =>
            have H := HC29.out
            clear HC29
            replace H := Option.bind_eq_some_iff.mp H
            obtain ⟨t162, A310, H⟩ := H
            replace H : ((prim_Fits.f a0 t162).bind fun t163 => (if t163 = true then ((prim_Min.f a0).bind fun t164 => ((prim_Fits.f a0 t164).bind fun t165 => (if t165 = true then ((prim_Max.f a0).bind fun t166 => ((prim_Fits.f a0 t166).bind fun t167 => (stencillaw01_PrimOrder.j1 kj4 a0 a1 a2 a3 (!t167)))) else (stencillaw01_PrimOrder.j1 kj4 a0 a1 a2 a3 true)))) else (stencillaw01_PrimOrder.j1 kj4 a0 a1 a2 a3 true))) = some r := H
            have A31 := Aside0.mk A310
            clear A310
            replace H := Option.bind_eq_some_iff.mp H
            obtain ⟨t163, A320, H⟩ := H
            replace H : (if t163 = true then ((prim_Min.f a0).bind fun t164 => ((prim_Fits.f a0 t164).bind fun t165 => (if t165 = true then ((prim_Max.f a0).bind fun t166 => ((prim_Fits.f a0 t166).bind fun t167 => (stencillaw01_PrimOrder.j1 kj4 a0 a1 a2 a3 (!t167)))) else (stencillaw01_PrimOrder.j1 kj4 a0 a1 a2 a3 true)))) else (stencillaw01_PrimOrder.j1 kj4 a0 a1 a2 a3 true)) = some r := H
            have A32 := Aside0.mk A320
            clear A320
            by_cases c33 : t163 = true
            · subst c33
              have H1 : ((prim_Min.f a0).bind fun t164 => ((prim_Fits.f a0 t164).bind fun t165 => (if t165 = true then ((prim_Max.f a0).bind fun t166 => ((prim_Fits.f a0 t166).bind fun t167 => (stencillaw01_PrimOrder.j1 kj4 a0 a1 a2 a3 (!t167)))) else (stencillaw01_PrimOrder.j1 kj4 a0 a1 a2 a3 true)))) = some r := by rw [if_pos rfl] at H; exact H
              clear H
              have H := H1
              clear H1
              replace H := Option.bind_eq_some_iff.mp H
              obtain ⟨t164, A340, H⟩ := H
              replace H : ((prim_Fits.f a0 t164).bind fun t165 => (if t165 = true then ((prim_Max.f a0).bind fun t166 => ((prim_Fits.f a0 t166).bind fun t167 => (stencillaw01_PrimOrder.j1 kj4 a0 a1 a2 a3 (!t167)))) else (stencillaw01_PrimOrder.j1 kj4 a0 a1 a2 a3 true))) = some r := H
              have A34 := Aside0.mk A340
              clear A340
              replace H := Option.bind_eq_some_iff.mp H
              obtain ⟨t165, A350, H⟩ := H
              replace H : (if t165 = true then ((prim_Max.f a0).bind fun t166 => ((prim_Fits.f a0 t166).bind fun t167 => (stencillaw01_PrimOrder.j1 kj4 a0 a1 a2 a3 (!t167)))) else (stencillaw01_PrimOrder.j1 kj4 a0 a1 a2 a3 true)) = some r := H
              have A35 := Aside0.mk A350
              clear A350
              by_cases c36 : t165 = true
              · subst c36
                have H1 : ((prim_Max.f a0).bind fun t166 => ((prim_Fits.f a0 t166).bind fun t167 => (stencillaw01_PrimOrder.j1 kj4 a0 a1 a2 a3 (!t167)))) = some r := by rw [if_pos rfl] at H; exact H
                clear H
                have H := H1
                clear H1
                replace H := Option.bind_eq_some_iff.mp H
                obtain ⟨t166, A370, H⟩ := H
                replace H : ((prim_Fits.f a0 t166).bind fun t167 => (stencillaw01_PrimOrder.j1 kj4 a0 a1 a2 a3 (!t167))) = some r := H
                have A37 := Aside0.mk A370
                clear A370
                replace H := Option.bind_eq_some_iff.mp H
                obtain ⟨t167, A380, H⟩ := H
                replace H : (stencillaw01_PrimOrder.j1 kj4 a0 a1 a2 a3 (!t167)) = some r := H
                have A38 := Aside0.mk A380
                clear A380
                have H' := Aside0.mk H
                clear H
                go_wp2_with (first | ((with_reducible refine gate_callee (f := 10) rfl ?_); refine goesL_ (some 40) rfl rfl Tryd.func10 (by kernel_rfl) rfl #[.int .i64 a0] rfl (by (try simp only [List.map_toArray, List.map_cons, List.map_nil]); first | done | rfl | (simp only [List.length_drop, List.length_take]; rfl)) ?_; (with_reducible refine (prim_Null.calls a0 t162 _ A31.out (by first | exact HT.out | exact tab_below HT.out (by repeat (first | (with_reducible first | exact HB.out | apply below_alloc | apply pw_below_drewN | apply below_drew1 | apply below_drew) | exact HB.out)) | exact tab_drawn HT.out (by repeat (first | exact Drawn0.refl _ | apply Drawn0.step)))).mono ?_); rintro e w39 ⟨rfl, hb⟩; refine ⟨_, rfl, ?_⟩; have n0_ := Aside0.mk (below_step (by repeat (first | (with_reducible first | exact HB.out | apply below_alloc | apply pw_below_drewN | apply below_drew1) | exact HB.out)) hb); clear HB; have HB := n0_; clear n0_; (try clear hb); (try clear hb2); (try clear hk); (try clear hi)) | ((with_reducible refine gate_callee (f := 8) rfl ?_); refine goesL_ (some 41) rfl rfl Tryd.func8 (by kernel_rfl) rfl #[.int .i64 a0, .int .u64 t162] rfl (by (try simp only [List.map_toArray, List.map_cons, List.map_nil]); first | done | rfl | (simp only [List.length_drop, List.length_take]; rfl)) ?_; (with_reducible refine (prim_Fits.calls a0 t162 true _ A32.out (by first | exact HT.out | exact tab_below HT.out (by repeat (first | (with_reducible first | exact HB.out | apply below_alloc | apply pw_below_drewN | apply below_drew1 | apply below_drew) | exact HB.out)) | exact tab_drawn HT.out (by repeat (first | exact Drawn0.refl _ | apply Drawn0.step)))).mono ?_); rintro e w40 ⟨rfl, hb⟩; refine ⟨_, rfl, ?_⟩; have n0_ := Aside0.mk (below_step (by repeat (first | (with_reducible first | exact HB.out | apply below_alloc | apply pw_below_drewN | apply below_drew1) | exact HB.out)) hb); clear HB; have HB := n0_; clear n0_; (try clear hb); (try clear hb2); (try clear hk); (try clear hi)) | (go_at_call 11; (with_reducible refine (prim_Min.calls a0 t164 _ A34.out (by first | exact HT.out | exact tab_below HT.out (by repeat (first | (with_reducible first | exact HB.out | apply below_alloc | apply pw_below_drewN | apply below_drew1 | apply below_drew) | exact HB.out)) | exact tab_drawn HT.out (by repeat (first | exact Drawn0.refl _ | apply Drawn0.step)))).mono ?_); rintro e w41 ⟨rfl, hb⟩; have n0_ := Aside0.mk (below_step (by repeat (first | (with_reducible first | exact HB.out | apply below_alloc | apply pw_below_drewN | apply below_drew1) | exact HB.out)) hb); clear HB; have HB := n0_; clear n0_; (try clear hb); (try clear hb2); (try clear hk); (try clear hi)) | (go_at_call 8; (with_reducible refine (prim_Fits.calls a0 t164 true _ A35.out (by first | exact HT.out | exact tab_below HT.out (by repeat (first | (with_reducible first | exact HB.out | apply below_alloc | apply pw_below_drewN | apply below_drew1 | apply below_drew) | exact HB.out)) | exact tab_drawn HT.out (by repeat (first | exact Drawn0.refl _ | apply Drawn0.step)))).mono ?_); rintro e w42 ⟨rfl, hb⟩; have n0_ := Aside0.mk (below_step (by repeat (first | (with_reducible first | exact HB.out | apply below_alloc | apply pw_below_drewN | apply below_drew1) | exact HB.out)) hb); clear HB; have HB := n0_; clear n0_; (try clear hb); (try clear hb2); (try clear hk); (try clear hi)) | (go_at_call 12; (with_reducible refine (prim_Max.calls a0 t166 _ A37.out (by first | exact HT.out | exact tab_below HT.out (by repeat (first | (with_reducible first | exact HB.out | apply below_alloc | apply pw_below_drewN | apply below_drew1 | apply below_drew) | exact HB.out)) | exact tab_drawn HT.out (by repeat (first | exact Drawn0.refl _ | apply Drawn0.step)))).mono ?_); rintro e w43 ⟨rfl, hb⟩; have n0_ := Aside0.mk (below_step (by repeat (first | (with_reducible first | exact HB.out | apply below_alloc | apply pw_below_drewN | apply below_drew1) | exact HB.out)) hb); clear HB; have HB := n0_; clear n0_; (try clear hb); (try clear hb2); (try clear hk); (try clear hi)) | (go_at_call 8; (with_reducible refine (prim_Fits.calls a0 t166 t167 _ A38.out (by first | exact HT.out | exact tab_below HT.out (by repeat (first | (with_reducible first | exact HB.out | apply below_alloc | apply pw_below_drewN | apply below_drew1 | apply below_drew) | exact HB.out)) | exact tab_drawn HT.out (by repeat (first | exact Drawn0.refl _ | apply Drawn0.step)))).mono ?_); rintro e w44 ⟨rfl, hb⟩; have n0_ := Aside0.mk (below_step (by repeat (first | (with_reducible first | exact HB.out | apply below_alloc | apply pw_below_drewN | apply below_drew1) | exact HB.out)) hb); clear HB; have HB := n0_; clear n0_; (try clear hb); (try clear hb2); (try clear hk); (try clear hi)))
                go_meet
                case rel => exact ⟨_, (!t167), (by first | rfl | (simp; done) | (simp [*]; done)), H', ⟨by have := HJ4.out; first | omega | exact Nat.le_refl _⟩, ⟨by repeat (first | (with_reducible first | exact HB.out | apply below_alloc | apply pw_below_drewN | apply below_drew1) | exact HB.out)⟩⟩
              · replace c36 := Bool.eq_false_iff.mpr c36
                subst c36
                have H1 : (stencillaw01_PrimOrder.j1 kj4 a0 a1 a2 a3 true) = some r := by rw [if_neg (show ¬ (false = true) by decide)] at H; exact H
                clear H
                have H := H1
                clear H1
                have H' := Aside0.mk H
                clear H
                go_wp2_with (first | ((with_reducible refine gate_callee (f := 10) rfl ?_); refine goesL_ (some 40) rfl rfl Tryd.func10 (by kernel_rfl) rfl #[.int .i64 a0] rfl (by (try simp only [List.map_toArray, List.map_cons, List.map_nil]); first | done | rfl | (simp only [List.length_drop, List.length_take]; rfl)) ?_; (with_reducible refine (prim_Null.calls a0 t162 _ A31.out (by first | exact HT.out | exact tab_below HT.out (by repeat (first | (with_reducible first | exact HB.out | apply below_alloc | apply pw_below_drewN | apply below_drew1 | apply below_drew) | exact HB.out)) | exact tab_drawn HT.out (by repeat (first | exact Drawn0.refl _ | apply Drawn0.step)))).mono ?_); rintro e w45 ⟨rfl, hb⟩; refine ⟨_, rfl, ?_⟩; have n0_ := Aside0.mk (below_step (by repeat (first | (with_reducible first | exact HB.out | apply below_alloc | apply pw_below_drewN | apply below_drew1) | exact HB.out)) hb); clear HB; have HB := n0_; clear n0_; (try clear hb); (try clear hb2); (try clear hk); (try clear hi)) | ((with_reducible refine gate_callee (f := 8) rfl ?_); refine goesL_ (some 41) rfl rfl Tryd.func8 (by kernel_rfl) rfl #[.int .i64 a0, .int .u64 t162] rfl (by (try simp only [List.map_toArray, List.map_cons, List.map_nil]); first | done | rfl | (simp only [List.length_drop, List.length_take]; rfl)) ?_; (with_reducible refine (prim_Fits.calls a0 t162 true _ A32.out (by first | exact HT.out | exact tab_below HT.out (by repeat (first | (with_reducible first | exact HB.out | apply below_alloc | apply pw_below_drewN | apply below_drew1 | apply below_drew) | exact HB.out)) | exact tab_drawn HT.out (by repeat (first | exact Drawn0.refl _ | apply Drawn0.step)))).mono ?_); rintro e w46 ⟨rfl, hb⟩; refine ⟨_, rfl, ?_⟩; have n0_ := Aside0.mk (below_step (by repeat (first | (with_reducible first | exact HB.out | apply below_alloc | apply pw_below_drewN | apply below_drew1) | exact HB.out)) hb); clear HB; have HB := n0_; clear n0_; (try clear hb); (try clear hb2); (try clear hk); (try clear hi)) | (go_at_call 11; (with_reducible refine (prim_Min.calls a0 t164 _ A34.out (by first | exact HT.out | exact tab_below HT.out (by repeat (first | (with_reducible first | exact HB.out | apply below_alloc | apply pw_below_drewN | apply below_drew1 | apply below_drew) | exact HB.out)) | exact tab_drawn HT.out (by repeat (first | exact Drawn0.refl _ | apply Drawn0.step)))).mono ?_); rintro e w47 ⟨rfl, hb⟩; have n0_ := Aside0.mk (below_step (by repeat (first | (with_reducible first | exact HB.out | apply below_alloc | apply pw_below_drewN | apply below_drew1) | exact HB.out)) hb); clear HB; have HB := n0_; clear n0_; (try clear hb); (try clear hb2); (try clear hk); (try clear hi)) | (go_at_call 8; (with_reducible refine (prim_Fits.calls a0 t164 false _ A35.out (by first | exact HT.out | exact tab_below HT.out (by repeat (first | (with_reducible first | exact HB.out | apply below_alloc | apply pw_below_drewN | apply below_drew1 | apply below_drew) | exact HB.out)) | exact tab_drawn HT.out (by repeat (first | exact Drawn0.refl _ | apply Drawn0.step)))).mono ?_); rintro e w48 ⟨rfl, hb⟩; have n0_ := Aside0.mk (below_step (by repeat (first | (with_reducible first | exact HB.out | apply below_alloc | apply pw_below_drewN | apply below_drew1) | exact HB.out)) hb); clear HB; have HB := n0_; clear n0_; (try clear hb); (try clear hb2); (try clear hk); (try clear hi)))
                go_meet
                case rel => exact ⟨_, (true), (by first | rfl | (simp; done) | (simp [*]; done)), H', ⟨by have := HJ4.out; first | omega | exact Nat.le_refl _⟩, ⟨by repeat (first | (with_reducible first | exact HB.out | apply below_alloc | apply pw_below_drewN | apply below_drew1) | exact HB.out)⟩⟩
            · replace c33 := Bool.eq_false_iff.mpr c33
              subst c33
              have H1 : (stencillaw01_PrimOrder.j1 kj4 a0 a1 a2 a3 true) = some r := by rw [if_neg (show ¬ (false = true) by decide)] at H; exact H
              clear H
              have H := H1
              clear H1
              have H' := Aside0.mk H
              clear H
              go_wp2_with (first | ((with_reducible refine gate_callee (f := 10) rfl ?_); refine goesL_ (some 40) rfl rfl Tryd.func10 (by kernel_rfl) rfl #[.int .i64 a0] rfl (by (try simp only [List.map_toArray, List.map_cons, List.map_nil]); first | done | rfl | (simp only [List.length_drop, List.length_take]; rfl)) ?_; (with_reducible refine (prim_Null.calls a0 t162 _ A31.out (by first | exact HT.out | exact tab_below HT.out (by repeat (first | (with_reducible first | exact HB.out | apply below_alloc | apply pw_below_drewN | apply below_drew1 | apply below_drew) | exact HB.out)) | exact tab_drawn HT.out (by repeat (first | exact Drawn0.refl _ | apply Drawn0.step)))).mono ?_); rintro e w49 ⟨rfl, hb⟩; refine ⟨_, rfl, ?_⟩; have n0_ := Aside0.mk (below_step (by repeat (first | (with_reducible first | exact HB.out | apply below_alloc | apply pw_below_drewN | apply below_drew1) | exact HB.out)) hb); clear HB; have HB := n0_; clear n0_; (try clear hb); (try clear hb2); (try clear hk); (try clear hi)) | ((with_reducible refine gate_callee (f := 8) rfl ?_); refine goesL_ (some 41) rfl rfl Tryd.func8 (by kernel_rfl) rfl #[.int .i64 a0, .int .u64 t162] rfl (by (try simp only [List.map_toArray, List.map_cons, List.map_nil]); first | done | rfl | (simp only [List.length_drop, List.length_take]; rfl)) ?_; (with_reducible refine (prim_Fits.calls a0 t162 false _ A32.out (by first | exact HT.out | exact tab_below HT.out (by repeat (first | (with_reducible first | exact HB.out | apply below_alloc | apply pw_below_drewN | apply below_drew1 | apply below_drew) | exact HB.out)) | exact tab_drawn HT.out (by repeat (first | exact Drawn0.refl _ | apply Drawn0.step)))).mono ?_); rintro e w50 ⟨rfl, hb⟩; refine ⟨_, rfl, ?_⟩; have n0_ := Aside0.mk (below_step (by repeat (first | (with_reducible first | exact HB.out | apply below_alloc | apply pw_below_drewN | apply below_drew1) | exact HB.out)) hb); clear HB; have HB := n0_; clear n0_; (try clear hb); (try clear hb2); (try clear hk); (try clear hi)))
              go_meet
              case rel => exact ⟨_, (true), (by first | rfl | (simp; done) | (simp [*]; done)), H', ⟨by have := HJ4.out; first | omega | exact Nat.le_refl _⟩, ⟨by repeat (first | (with_reducible first | exact HB.out | apply below_alloc | apply pw_below_drewN | apply below_drew1) | exact HB.out)⟩⟩
          case rest =>
            clear HC29
            try clear c1
            try clear c2
            try clear p2
            try clear c3
            try clear c7
            try clear c7b0
            try clear c7b1
            try clear c8
            try clear c9
            try clear c10
            try clear c12
            try clear c14
            try clear c14b0
            try clear c14b1
            try clear c16
            try clear c20
            try clear c20b0
            try clear c20b1
            try clear c33
            try clear c36
            try clear p2
            obtain ⟨kq, x56_28, rfl, HA, HJ28, HB⟩ := hcut
            cases kq with
            | zero => exact absurd HA.out (by simp [stencillaw01_PrimOrder.j1])
            | succ kj28 =>
              have H := HA.out
              clear HA
              simp only [stencillaw01_PrimOrder.j1] at H
              by_cases c51 : x56_28 = true
              · subst c51
                have H1 : (some false) = some r := by rw [if_pos rfl] at H; exact H
                clear H
                have H := H1
                clear H1
                obtain rfl := Option.some.inj H
                go_wp2
                go_ret
                exact ⟨by first | rfl | (simp [errW_none, errW_some] <;> rfl) | (simp [*, errW_none, errW_some] <;> rfl), by repeat (first | (with_reducible first | exact HB.out | apply below_alloc | apply pw_below_drewN | apply below_drew1) | exact HB.out)⟩
              · replace c51 := Bool.eq_false_iff.mpr c51
                subst c51
                have H1 : ((prim_Compare.f kj28 a0 a1 a2).bind fun t168 => ((prim_Compare.f kj28 a0 a2 a3).bind fun t169 => ((prim_Compare.f kj28 a0 a1 a3).bind fun t170 => ((prim_Compare.f kj28 a0 a2 a1).bind fun t171 => (if t171 = (wrap64 (-t168)) then ((prim_Fits.f a0 a1).bind fun t172 => (if t172 = true then ((prim_Fits.f a0 a2).bind fun t173 => (stencillaw01_PrimOrder.j2 kj28 a0 a1 a2 a3 t168 t169 t170 t173)) else (stencillaw01_PrimOrder.j2 kj28 a0 a1 a2 a3 t168 t169 t170 false))) else (some false)))))) = some r := by rw [if_neg (show ¬ (false = true) by decide)] at H; exact H
                clear H
                have H := H1
                clear H1
                replace H := Option.bind_eq_some_iff.mp H
                obtain ⟨t168, A520, H⟩ := H
                replace H : ((prim_Compare.f kj28 a0 a2 a3).bind fun t169 => ((prim_Compare.f kj28 a0 a1 a3).bind fun t170 => ((prim_Compare.f kj28 a0 a2 a1).bind fun t171 => (if t171 = (wrap64 (-t168)) then ((prim_Fits.f a0 a1).bind fun t172 => (if t172 = true then ((prim_Fits.f a0 a2).bind fun t173 => (stencillaw01_PrimOrder.j2 kj28 a0 a1 a2 a3 t168 t169 t170 t173)) else (stencillaw01_PrimOrder.j2 kj28 a0 a1 a2 a3 t168 t169 t170 false))) else (some false))))) = some r := H
                have A52 := Aside0.mk A520
                clear A520
                replace H := Option.bind_eq_some_iff.mp H
                obtain ⟨t169, A530, H⟩ := H
                replace H : ((prim_Compare.f kj28 a0 a1 a3).bind fun t170 => ((prim_Compare.f kj28 a0 a2 a1).bind fun t171 => (if t171 = (wrap64 (-t168)) then ((prim_Fits.f a0 a1).bind fun t172 => (if t172 = true then ((prim_Fits.f a0 a2).bind fun t173 => (stencillaw01_PrimOrder.j2 kj28 a0 a1 a2 a3 t168 t169 t170 t173)) else (stencillaw01_PrimOrder.j2 kj28 a0 a1 a2 a3 t168 t169 t170 false))) else (some false)))) = some r := H
                have A53 := Aside0.mk A530
                clear A530
                replace H := Option.bind_eq_some_iff.mp H
                obtain ⟨t170, A540, H⟩ := H
                replace H : ((prim_Compare.f kj28 a0 a2 a1).bind fun t171 => (if t171 = (wrap64 (-t168)) then ((prim_Fits.f a0 a1).bind fun t172 => (if t172 = true then ((prim_Fits.f a0 a2).bind fun t173 => (stencillaw01_PrimOrder.j2 kj28 a0 a1 a2 a3 t168 t169 t170 t173)) else (stencillaw01_PrimOrder.j2 kj28 a0 a1 a2 a3 t168 t169 t170 false))) else (some false))) = some r := H
                have A54 := Aside0.mk A540
                clear A540
                replace H := Option.bind_eq_some_iff.mp H
                obtain ⟨t171, A550, H⟩ := H
                replace H : (if t171 = (wrap64 (-t168)) then ((prim_Fits.f a0 a1).bind fun t172 => (if t172 = true then ((prim_Fits.f a0 a2).bind fun t173 => (stencillaw01_PrimOrder.j2 kj28 a0 a1 a2 a3 t168 t169 t170 t173)) else (stencillaw01_PrimOrder.j2 kj28 a0 a1 a2 a3 t168 t169 t170 false))) else (some false)) = some r := H
                have A55 := Aside0.mk A550
                clear A550
                by_cases c56 : t171 = (wrap64 (-t168))
                · rw [if_pos c56] at H
                  have c56b0 : (t171 == (wrap64 (-t168))) = true := beq_iff_eq.mpr c56
                  have c56b1 : (t171 != (wrap64 (-t168))) = false := bne_eq_false_iff_eq.mpr c56
                  clear c56
                  have HC57 := Aside0.mk H
                  clear H
                  go_upto_region 10 with (first | ((with_reducible refine gate_callee (f := 7) rfl ?_); refine goesL_ (some 60) rfl rfl Tryd.func7 (by kernel_rfl) rfl #[.int .i64 a0, .int .u64 a1, .int .u64 a2] rfl (by (try simp only [List.map_toArray, List.map_cons, List.map_nil]); first | done | rfl | (simp only [List.length_drop, List.length_take]; rfl)) ?_; (with_reducible refine (prim_Compare.calls kj28 a0 a1 a2 t168 _ A52.out (by first | exact HT.out | exact tab_below HT.out (by repeat (first | (with_reducible first | exact HB.out | apply below_alloc | apply pw_below_drewN | apply below_drew1 | apply below_drew) | exact HB.out)) | exact tab_drawn HT.out (by repeat (first | exact Drawn0.refl _ | apply Drawn0.step)))).mono ?_); rintro e w58 ⟨rfl, hb⟩; refine ⟨_, rfl, ?_⟩; have n0_ := Aside0.mk (below_step (by repeat (first | (with_reducible first | exact HB.out | apply below_alloc | apply pw_below_drewN | apply below_drew1) | exact HB.out)) hb); clear HB; have HB := n0_; clear n0_; (try clear hb); (try clear hb2); (try clear hk); (try clear hi)) | ((with_reducible refine gate_callee (f := 7) rfl ?_); refine goesL_ (some 64) rfl rfl Tryd.func7 (by kernel_rfl) rfl #[.int .i64 a0, .int .u64 a2, .int .u64 a3] rfl (by (try simp only [List.map_toArray, List.map_cons, List.map_nil]); first | done | rfl | (simp only [List.length_drop, List.length_take]; rfl)) ?_; (with_reducible refine (prim_Compare.calls kj28 a0 a2 a3 t169 _ A53.out (by first | exact HT.out | exact tab_below HT.out (by repeat (first | (with_reducible first | exact HB.out | apply below_alloc | apply pw_below_drewN | apply below_drew1 | apply below_drew) | exact HB.out)) | exact tab_drawn HT.out (by repeat (first | exact Drawn0.refl _ | apply Drawn0.step)))).mono ?_); rintro e w59 ⟨rfl, hb⟩; refine ⟨_, rfl, ?_⟩; have n0_ := Aside0.mk (below_step (by repeat (first | (with_reducible first | exact HB.out | apply below_alloc | apply pw_below_drewN | apply below_drew1) | exact HB.out)) hb); clear HB; have HB := n0_; clear n0_; (try clear hb); (try clear hb2); (try clear hk); (try clear hi)) | ((with_reducible refine gate_callee (f := 7) rfl ?_); refine goesL_ (some 68) rfl rfl Tryd.func7 (by kernel_rfl) rfl #[.int .i64 a0, .int .u64 a1, .int .u64 a3] rfl (by (try simp only [List.map_toArray, List.map_cons, List.map_nil]); first | done | rfl | (simp only [List.length_drop, List.length_take]; rfl)) ?_; (with_reducible refine (prim_Compare.calls kj28 a0 a1 a3 t170 _ A54.out (by first | exact HT.out | exact tab_below HT.out (by repeat (first | (with_reducible first | exact HB.out | apply below_alloc | apply pw_below_drewN | apply below_drew1 | apply below_drew) | exact HB.out)) | exact tab_drawn HT.out (by repeat (first | exact Drawn0.refl _ | apply Drawn0.step)))).mono ?_); rintro e w60 ⟨rfl, hb⟩; refine ⟨_, rfl, ?_⟩; have n0_ := Aside0.mk (below_step (by repeat (first | (with_reducible first | exact HB.out | apply below_alloc | apply pw_below_drewN | apply below_drew1) | exact HB.out)) hb); clear HB; have HB := n0_; clear n0_; (try clear hb); (try clear hb2); (try clear hk); (try clear hi)) | ((with_reducible refine gate_callee (f := 7) rfl ?_); refine goesL_ (some 72) rfl rfl Tryd.func7 (by kernel_rfl) rfl #[.int .i64 a0, .int .u64 a2, .int .u64 a1] rfl (by (try simp only [List.map_toArray, List.map_cons, List.map_nil]); first | done | rfl | (simp only [List.length_drop, List.length_take]; rfl)) ?_; (with_reducible refine (prim_Compare.calls kj28 a0 a2 a1 t171 _ A55.out (by first | exact HT.out | exact tab_below HT.out (by repeat (first | (with_reducible first | exact HB.out | apply below_alloc | apply pw_below_drewN | apply below_drew1 | apply below_drew) | exact HB.out)) | exact tab_drawn HT.out (by repeat (first | exact Drawn0.refl _ | apply Drawn0.step)))).mono ?_); rintro e w61 ⟨rfl, hb⟩; refine ⟨_, rfl, ?_⟩; have n0_ := Aside0.mk (below_step (by repeat (first | (with_reducible first | exact HB.out | apply below_alloc | apply pw_below_drewN | apply below_drew1) | exact HB.out)) hb); clear HB; have HB := n0_; clear n0_; (try clear hb); (try clear hb2); (try clear hk); (try clear hi)))
                  (try simp only [Act.put, List.setIfInBounds_toArray, List.set_cons_zero, List.set_cons_succ])
                  go_cut [12] (fun v12 wc => ∃ (kq : Nat) (x12_56 : Bool), v12 = .bool x12_56 ∧ Aside0 (stencillaw01_PrimOrder.j2 kq a0 a1 a2 a3 t168 t169 t170 x12_56 = some r) ∧ Aside0 (kq ≤ kj28) ∧ Aside0 (Below w.heap.size w wc))
                  case first =>
                    have H := HC57.out
                    clear HC57
                    replace H := Option.bind_eq_some_iff.mp H
                    obtain ⟨t172, A620, H⟩ := H
                    replace H : (if t172 = true then ((prim_Fits.f a0 a2).bind fun t173 => (stencillaw01_PrimOrder.j2 kj28 a0 a1 a2 a3 t168 t169 t170 t173)) else (stencillaw01_PrimOrder.j2 kj28 a0 a1 a2 a3 t168 t169 t170 false)) = some r := H
                    have A62 := Aside0.mk A620
                    clear A620
                    by_cases c63 : t172 = true
                    · subst c63
                      have H1 : ((prim_Fits.f a0 a2).bind fun t173 => (stencillaw01_PrimOrder.j2 kj28 a0 a1 a2 a3 t168 t169 t170 t173)) = some r := by rw [if_pos rfl] at H; exact H
                      clear H
                      have H := H1
                      clear H1
                      replace H := Option.bind_eq_some_iff.mp H
                      obtain ⟨t173, A640, H⟩ := H
                      replace H : (stencillaw01_PrimOrder.j2 kj28 a0 a1 a2 a3 t168 t169 t170 t173) = some r := H
                      have A64 := Aside0.mk A640
                      clear A640
                      have H' := Aside0.mk H
                      clear H
                      go_wp2_with (first | ((with_reducible refine gate_callee (f := 8) rfl ?_); refine goesL_ (some 78) rfl rfl Tryd.func8 (by kernel_rfl) rfl #[.int .i64 a0, .int .u64 a1] rfl (by (try simp only [List.map_toArray, List.map_cons, List.map_nil]); first | done | rfl | (simp only [List.length_drop, List.length_take]; rfl)) ?_; (with_reducible refine (prim_Fits.calls a0 a1 true _ A62.out (by first | exact HT.out | exact tab_below HT.out (by repeat (first | (with_reducible first | exact HB.out | apply below_alloc | apply pw_below_drewN | apply below_drew1 | apply below_drew) | exact HB.out)) | exact tab_drawn HT.out (by repeat (first | exact Drawn0.refl _ | apply Drawn0.step)))).mono ?_); rintro e w65 ⟨rfl, hb⟩; refine ⟨_, rfl, ?_⟩; have n0_ := Aside0.mk (below_step (by repeat (first | (with_reducible first | exact HB.out | apply below_alloc | apply pw_below_drewN | apply below_drew1) | exact HB.out)) hb); clear HB; have HB := n0_; clear n0_; (try clear hb); (try clear hb2); (try clear hk); (try clear hi)) | (go_at_call 8; (with_reducible refine (prim_Fits.calls a0 a2 t173 _ A64.out (by first | exact HT.out | exact tab_below HT.out (by repeat (first | (with_reducible first | exact HB.out | apply below_alloc | apply pw_below_drewN | apply below_drew1 | apply below_drew) | exact HB.out)) | exact tab_drawn HT.out (by repeat (first | exact Drawn0.refl _ | apply Drawn0.step)))).mono ?_); rintro e w66 ⟨rfl, hb⟩; have n0_ := Aside0.mk (below_step (by repeat (first | (with_reducible first | exact HB.out | apply below_alloc | apply pw_below_drewN | apply below_drew1) | exact HB.out)) hb); clear HB; have HB := n0_; clear n0_; (try clear hb); (try clear hb2); (try clear hk); (try clear hi)))
                      go_meet
                      case rel => exact ⟨_, (t173), (by first | rfl | (simp; done) | (simp [*]; done)), H', ⟨by have := HJ4.out; have := HJ28.out; first | omega | exact Nat.le_refl _⟩, ⟨by repeat (first | (with_reducible first | exact HB.out | apply below_alloc | apply pw_below_drewN | apply below_drew1) | exact HB.out)⟩⟩
                    · replace c63 := Bool.eq_false_iff.mpr c63
                      subst c63
                      have H1 : (stencillaw01_PrimOrder.j2 kj28 a0 a1 a2 a3 t168 t169 t170 false) = some r := by rw [if_neg (show ¬ (false = true) by decide)] at H; exact H
                      clear H
                      have H := H1
                      clear H1
                      have H' := Aside0.mk H
                      clear H
                      go_wp2_with (first | ((with_reducible refine gate_callee (f := 8) rfl ?_); refine goesL_ (some 78) rfl rfl Tryd.func8 (by kernel_rfl) rfl #[.int .i64 a0, .int .u64 a1] rfl (by (try simp only [List.map_toArray, List.map_cons, List.map_nil]); first | done | rfl | (simp only [List.length_drop, List.length_take]; rfl)) ?_; (with_reducible refine (prim_Fits.calls a0 a1 false _ A62.out (by first | exact HT.out | exact tab_below HT.out (by repeat (first | (with_reducible first | exact HB.out | apply below_alloc | apply pw_below_drewN | apply below_drew1 | apply below_drew) | exact HB.out)) | exact tab_drawn HT.out (by repeat (first | exact Drawn0.refl _ | apply Drawn0.step)))).mono ?_); rintro e w67 ⟨rfl, hb⟩; refine ⟨_, rfl, ?_⟩; have n0_ := Aside0.mk (below_step (by repeat (first | (with_reducible first | exact HB.out | apply below_alloc | apply pw_below_drewN | apply below_drew1) | exact HB.out)) hb); clear HB; have HB := n0_; clear n0_; (try clear hb); (try clear hb2); (try clear hk); (try clear hi)))
                      go_meet
                      case rel => exact ⟨_, (false), (by first | rfl | (simp; done) | (simp [*]; done)), H', ⟨by have := HJ4.out; have := HJ28.out; first | omega | exact Nat.le_refl _⟩, ⟨by repeat (first | (with_reducible first | exact HB.out | apply below_alloc | apply pw_below_drewN | apply below_drew1) | exact HB.out)⟩⟩
                  case rest =>
                    clear HC57
                    try clear c1
                    try clear c2
                    try clear p2
                    try clear c3
                    try clear c5
                    try clear c6
                    try clear p6
                    try clear c7
                    try clear c7b0
                    try clear c7b1
                    try clear c8
                    try clear c9
                    try clear c10
                    try clear c12
                    try clear c14
                    try clear c14b0
                    try clear c14b1
                    try clear c16
                    try clear c20
                    try clear c20b0
                    try clear c20b1
                    try clear c33
                    try clear c36
                    try clear c51
                    try clear c56
                    try clear c56b0
                    try clear c56b1
                    try clear c63
                    try clear p64
                    try clear p2
                    obtain ⟨kq, x12_56, rfl, HA, HJ56, HB⟩ := hcut
                    cases kq with
                    | zero => exact absurd HA.out (by simp [stencillaw01_PrimOrder.j2])
                    | succ kj56 =>
                      have H := HA.out
                      clear HA
                      simp only [stencillaw01_PrimOrder.j2] at H
                      have HC68 := Aside0.mk H
                      clear H
                      go_upto_region 11 with (fail)
                      go_cut [93] (fun v93 wc => ∃ (kq : Nat) (x93_67 : Bool), v93 = .bool x93_67 ∧ Aside0 (stencillaw01_PrimOrder.j3 kq a0 a3 t168 t169 t170 x12_56 x93_67 = some r) ∧ Aside0 (kq ≤ kj56) ∧ Aside0 (Below w.heap.size w wc))
                      case first =>
                        have H := HC68.out
                        clear HC68
                        by_cases c69 : a1 = a2
                        · rw [if_pos c69] at H
                          have c69b0 : (a1 == a2) = true := beq_iff_eq.mpr c69
                          have c69b1 : (a1 != a2) = false := bne_eq_false_iff_eq.mpr c69
                          clear c69
                          (first | rw [c69b0] | (simp only [i64_w, i32_w]; rw [c69b0]) | skip)
                          have H' := Aside0.mk H
                          clear H
                          go_wp2
                          go_meet
                          case rel => exact ⟨_, (((t168 == 0) != true)), (by first | rfl | (simp; done) | (simp [*]; done)), H', ⟨by have := HJ4.out; have := HJ28.out; have := HJ56.out; first | omega | exact Nat.le_refl _⟩, ⟨by repeat (first | (with_reducible first | exact HB.out | apply below_alloc | apply pw_below_drewN | apply below_drew1) | exact HB.out)⟩⟩
                        · rw [if_neg c69] at H
                          have c69b0 : (a1 == a2) = false := beq_eq_false_iff_ne.mpr c69
                          have c69b1 : (a1 != a2) = true := bne_iff_ne.mpr c69
                          (first | rw [c69b0] | (simp only [i64_w, i32_w]; rw [c69b0]) | skip)
                          have H' := Aside0.mk H
                          clear H
                          go_wp2
                          go_meet
                          case rel => exact ⟨_, (((t168 == 0) != (!x12_56))), (by first | rfl | (simp; done) | (simp [*]; done)), H', ⟨by have := HJ4.out; have := HJ28.out; have := HJ56.out; first | omega | exact Nat.le_refl _⟩, ⟨by repeat (first | (with_reducible first | exact HB.out | apply below_alloc | apply pw_below_drewN | apply below_drew1) | exact HB.out)⟩⟩
                      case rest =>
                        clear HC68
                        try clear c1
                        try clear c2
                        try clear p2
                        try clear c3
                        try clear c5
                        try clear c6
                        try clear p6
                        try clear c7
                        try clear c7b0
                        try clear c7b1
                        try clear c8
                        try clear c9
                        try clear c10
                        try clear c12
                        try clear c14
                        try clear c14b0
                        try clear c14b1
                        try clear c16
                        try clear c20
                        try clear c20b0
                        try clear c20b1
                        try clear c33
                        try clear c36
                        try clear c51
                        try clear c56
                        try clear c56b0
                        try clear c56b1
                        try clear c63
                        try clear p64
                        try clear c69
                        try clear c69b0
                        try clear c69b1
                        try clear p2
                        try clear p6
                        try clear p64
                        obtain ⟨kq, x93_67, rfl, HA, HJ67, HB⟩ := hcut
                        cases kq with
                        | zero => exact absurd HA.out (by simp [stencillaw01_PrimOrder.j3])
                        | succ kj67 =>
                          have H := HA.out
                          clear HA
                          simp only [stencillaw01_PrimOrder.j3] at H
                          by_cases c70 : x93_67 = true
                          · subst c70
                            have H1 : (some false) = some r := by rw [if_pos rfl] at H; exact H
                            clear H
                            have H := H1
                            clear H1
                            obtain rfl := Option.some.inj H
                            go_wp2
                            go_ret
                            exact ⟨by first | rfl | (simp [errW_none, errW_some] <;> rfl) | (simp [*, errW_none, errW_some] <;> rfl), by repeat (first | (with_reducible first | exact HB.out | apply below_alloc | apply pw_below_drewN | apply below_drew1) | exact HB.out)⟩
                          · replace c70 := Bool.eq_false_iff.mpr c70
                            subst c70
                            have H1 : (if x12_56 = true then ((prim_Fits.f a0 a3).bind fun t174 => (if t174 = true then (if t168 < 0 then (if t169 < 0 then (if t170 ≥ 0 then (some false) else (if t168 = 0 then (some (!(t169 != t170))) else (some (!false)))) else (if t168 = 0 then (some (!(t169 != t170))) else (some (!false)))) else (if t168 = 0 then (some (!(t169 != t170))) else (some (!false)))) else (some true))) else (some true)) = some r := by rw [if_neg (show ¬ (false = true) by decide)] at H; exact H
                            clear H
                            have H := H1
                            clear H1
                            by_cases c71 : x12_56 = true
                            · subst c71
                              have H1 : ((prim_Fits.f a0 a3).bind fun t174 => (if t174 = true then (if t168 < 0 then (if t169 < 0 then (if t170 ≥ 0 then (some false) else (if t168 = 0 then (some (!(t169 != t170))) else (some (!false)))) else (if t168 = 0 then (some (!(t169 != t170))) else (some (!false)))) else (if t168 = 0 then (some (!(t169 != t170))) else (some (!false)))) else (some true))) = some r := by rw [if_pos rfl] at H; exact H
                              clear H
                              have H := H1
                              clear H1
                              replace H := Option.bind_eq_some_iff.mp H
                              obtain ⟨t174, A720, H⟩ := H
                              replace H : (if t174 = true then (if t168 < 0 then (if t169 < 0 then (if t170 ≥ 0 then (some false) else (if t168 = 0 then (some (!(t169 != t170))) else (some (!false)))) else (if t168 = 0 then (some (!(t169 != t170))) else (some (!false)))) else (if t168 = 0 then (some (!(t169 != t170))) else (some (!false)))) else (some true)) = some r := H
                              have A72 := Aside0.mk A720
                              clear A720
                              by_cases c73 : t174 = true
                              · subst c73
                                have H1 : (if t168 < 0 then (if t169 < 0 then (if t170 ≥ 0 then (some false) else (if t168 = 0 then (some (!(t169 != t170))) else (some (!false)))) else (if t168 = 0 then (some (!(t169 != t170))) else (some (!false)))) else (if t168 = 0 then (some (!(t169 != t170))) else (some (!false)))) = some r := by rw [if_pos rfl] at H; exact H
                                clear H
                                have H := H1
                                clear H1
                                by_cases c74 : t168 < 0
                                · rw [if_pos c74] at H
                                  have c74b0 : decide (t168 < 0) = true := decide_eq_true c74
                                  clear c74
                                  by_cases c75 : t169 < 0
                                  · rw [if_pos c75] at H
                                    have c75b0 : decide (t169 < 0) = true := decide_eq_true c75
                                    clear c75
                                    by_cases c76 : t170 ≥ 0
                                    · rw [if_pos c76] at H
                                      have c76b0 : decide (0 ≤ t170) = true := decide_eq_true c76
                                      clear c76
                                      obtain rfl := Option.some.inj H
                                      go_wp2_with (first | (go_at_call 8; (with_reducible refine (prim_Fits.calls a0 a3 true _ A72.out (by first | exact HT.out | exact tab_below HT.out (by repeat (first | (with_reducible first | exact HB.out | apply below_alloc | apply pw_below_drewN | apply below_drew1 | apply below_drew) | exact HB.out)) | exact tab_drawn HT.out (by repeat (first | exact Drawn0.refl _ | apply Drawn0.step)))).mono ?_); rintro e w77 ⟨rfl, hb⟩; have n0_ := Aside0.mk (below_step (by repeat (first | (with_reducible first | exact HB.out | apply below_alloc | apply pw_below_drewN | apply below_drew1) | exact HB.out)) hb); clear HB; have HB := n0_; clear n0_; (try clear hb); (try clear hb2); (try clear hk); (try clear hi)))
                                      go_ret
                                      exact ⟨by first | rfl | (simp [errW_none, errW_some] <;> rfl) | (simp [*, errW_none, errW_some] <;> rfl), by repeat (first | (with_reducible first | exact HB.out | apply below_alloc | apply pw_below_drewN | apply below_drew1) | exact HB.out)⟩
                                    · rw [if_neg c76] at H
                                      have c76b0 : decide (0 ≤ t170) = false := decide_eq_false c76
                                      clear c76
                                      by_cases c78 : t168 = 0
                                      · rw [if_pos c78] at H
                                        have c78b0 : (t168 == 0) = true := beq_iff_eq.mpr c78
                                        have c78b1 : (t168 != 0) = false := bne_eq_false_iff_eq.mpr c78
                                        clear c78
                                        obtain rfl := Option.some.inj H
                                        go_wp2_with (first | (go_at_call 8; (with_reducible refine (prim_Fits.calls a0 a3 true _ A72.out (by first | exact HT.out | exact tab_below HT.out (by repeat (first | (with_reducible first | exact HB.out | apply below_alloc | apply pw_below_drewN | apply below_drew1 | apply below_drew) | exact HB.out)) | exact tab_drawn HT.out (by repeat (first | exact Drawn0.refl _ | apply Drawn0.step)))).mono ?_); rintro e w79 ⟨rfl, hb⟩; have n0_ := Aside0.mk (below_step (by repeat (first | (with_reducible first | exact HB.out | apply below_alloc | apply pw_below_drewN | apply below_drew1) | exact HB.out)) hb); clear HB; have HB := n0_; clear n0_; (try clear hb); (try clear hb2); (try clear hk); (try clear hi)))
                                        go_ret
                                        exact ⟨by first | rfl | (simp [errW_none, errW_some] <;> rfl) | (simp [*, errW_none, errW_some] <;> rfl), by repeat (first | (with_reducible first | exact HB.out | apply below_alloc | apply pw_below_drewN | apply below_drew1) | exact HB.out)⟩
                                      · rw [if_neg c78] at H
                                        have c78b0 : (t168 == 0) = false := beq_eq_false_iff_ne.mpr c78
                                        have c78b1 : (t168 != 0) = true := bne_iff_ne.mpr c78
                                        obtain rfl := Option.some.inj H
                                        go_wp2_with (first | (go_at_call 8; (with_reducible refine (prim_Fits.calls a0 a3 true _ A72.out (by first | exact HT.out | exact tab_below HT.out (by repeat (first | (with_reducible first | exact HB.out | apply below_alloc | apply pw_below_drewN | apply below_drew1 | apply below_drew) | exact HB.out)) | exact tab_drawn HT.out (by repeat (first | exact Drawn0.refl _ | apply Drawn0.step)))).mono ?_); rintro e w80 ⟨rfl, hb⟩; have n0_ := Aside0.mk (below_step (by repeat (first | (with_reducible first | exact HB.out | apply below_alloc | apply pw_below_drewN | apply below_drew1) | exact HB.out)) hb); clear HB; have HB := n0_; clear n0_; (try clear hb); (try clear hb2); (try clear hk); (try clear hi)))
                                        go_ret
                                        exact ⟨by first | rfl | (simp [errW_none, errW_some] <;> rfl) | (simp [*, errW_none, errW_some] <;> rfl), by repeat (first | (with_reducible first | exact HB.out | apply below_alloc | apply pw_below_drewN | apply below_drew1) | exact HB.out)⟩
                                  · rw [if_neg c75] at H
                                    have c75b0 : decide (t169 < 0) = false := decide_eq_false c75
                                    clear c75
                                    by_cases c81 : t168 = 0
                                    · rw [if_pos c81] at H
                                      have c81b0 : (t168 == 0) = true := beq_iff_eq.mpr c81
                                      have c81b1 : (t168 != 0) = false := bne_eq_false_iff_eq.mpr c81
                                      clear c81
                                      obtain rfl := Option.some.inj H
                                      go_wp2_with (first | (go_at_call 8; (with_reducible refine (prim_Fits.calls a0 a3 true _ A72.out (by first | exact HT.out | exact tab_below HT.out (by repeat (first | (with_reducible first | exact HB.out | apply below_alloc | apply pw_below_drewN | apply below_drew1 | apply below_drew) | exact HB.out)) | exact tab_drawn HT.out (by repeat (first | exact Drawn0.refl _ | apply Drawn0.step)))).mono ?_); rintro e w82 ⟨rfl, hb⟩; have n0_ := Aside0.mk (below_step (by repeat (first | (with_reducible first | exact HB.out | apply below_alloc | apply pw_below_drewN | apply below_drew1) | exact HB.out)) hb); clear HB; have HB := n0_; clear n0_; (try clear hb); (try clear hb2); (try clear hk); (try clear hi)))
                                      go_ret
                                      exact ⟨by first | rfl | (simp [errW_none, errW_some] <;> rfl) | (simp [*, errW_none, errW_some] <;> rfl), by repeat (first | (with_reducible first | exact HB.out | apply below_alloc | apply pw_below_drewN | apply below_drew1) | exact HB.out)⟩
                                    · rw [if_neg c81] at H
                                      have c81b0 : (t168 == 0) = false := beq_eq_false_iff_ne.mpr c81
                                      have c81b1 : (t168 != 0) = true := bne_iff_ne.mpr c81
                                      obtain rfl := Option.some.inj H
                                      go_wp2_with (first | (go_at_call 8; (with_reducible refine (prim_Fits.calls a0 a3 true _ A72.out (by first | exact HT.out | exact tab_below HT.out (by repeat (first | (with_reducible first | exact HB.out | apply below_alloc | apply pw_below_drewN | apply below_drew1 | apply below_drew) | exact HB.out)) | exact tab_drawn HT.out (by repeat (first | exact Drawn0.refl _ | apply Drawn0.step)))).mono ?_); rintro e w83 ⟨rfl, hb⟩; have n0_ := Aside0.mk (below_step (by repeat (first | (with_reducible first | exact HB.out | apply below_alloc | apply pw_below_drewN | apply below_drew1) | exact HB.out)) hb); clear HB; have HB := n0_; clear n0_; (try clear hb); (try clear hb2); (try clear hk); (try clear hi)))
                                      go_ret
                                      exact ⟨by first | rfl | (simp [errW_none, errW_some] <;> rfl) | (simp [*, errW_none, errW_some] <;> rfl), by repeat (first | (with_reducible first | exact HB.out | apply below_alloc | apply pw_below_drewN | apply below_drew1) | exact HB.out)⟩
                                · rw [if_neg c74] at H
                                  have c74b0 : decide (t168 < 0) = false := decide_eq_false c74
                                  clear c74
                                  by_cases c84 : t168 = 0
                                  · rw [if_pos c84] at H
                                    have c84b0 : (t168 == 0) = true := beq_iff_eq.mpr c84
                                    have c84b1 : (t168 != 0) = false := bne_eq_false_iff_eq.mpr c84
                                    clear c84
                                    obtain rfl := Option.some.inj H
                                    go_wp2_with (first | (go_at_call 8; (with_reducible refine (prim_Fits.calls a0 a3 true _ A72.out (by first | exact HT.out | exact tab_below HT.out (by repeat (first | (with_reducible first | exact HB.out | apply below_alloc | apply pw_below_drewN | apply below_drew1 | apply below_drew) | exact HB.out)) | exact tab_drawn HT.out (by repeat (first | exact Drawn0.refl _ | apply Drawn0.step)))).mono ?_); rintro e w85 ⟨rfl, hb⟩; have n0_ := Aside0.mk (below_step (by repeat (first | (with_reducible first | exact HB.out | apply below_alloc | apply pw_below_drewN | apply below_drew1) | exact HB.out)) hb); clear HB; have HB := n0_; clear n0_; (try clear hb); (try clear hb2); (try clear hk); (try clear hi)))
                                    go_ret
                                    exact ⟨by first | rfl | (simp [errW_none, errW_some] <;> rfl) | (simp [*, errW_none, errW_some] <;> rfl), by repeat (first | (with_reducible first | exact HB.out | apply below_alloc | apply pw_below_drewN | apply below_drew1) | exact HB.out)⟩
                                  · rw [if_neg c84] at H
                                    have c84b0 : (t168 == 0) = false := beq_eq_false_iff_ne.mpr c84
                                    have c84b1 : (t168 != 0) = true := bne_iff_ne.mpr c84
                                    obtain rfl := Option.some.inj H
                                    go_wp2_with (first | (go_at_call 8; (with_reducible refine (prim_Fits.calls a0 a3 true _ A72.out (by first | exact HT.out | exact tab_below HT.out (by repeat (first | (with_reducible first | exact HB.out | apply below_alloc | apply pw_below_drewN | apply below_drew1 | apply below_drew) | exact HB.out)) | exact tab_drawn HT.out (by repeat (first | exact Drawn0.refl _ | apply Drawn0.step)))).mono ?_); rintro e w86 ⟨rfl, hb⟩; have n0_ := Aside0.mk (below_step (by repeat (first | (with_reducible first | exact HB.out | apply below_alloc | apply pw_below_drewN | apply below_drew1) | exact HB.out)) hb); clear HB; have HB := n0_; clear n0_; (try clear hb); (try clear hb2); (try clear hk); (try clear hi)))
                                    go_ret
                                    exact ⟨by first | rfl | (simp [errW_none, errW_some] <;> rfl) | (simp [*, errW_none, errW_some] <;> rfl), by repeat (first | (with_reducible first | exact HB.out | apply below_alloc | apply pw_below_drewN | apply below_drew1) | exact HB.out)⟩
                              · replace c73 := Bool.eq_false_iff.mpr c73
                                subst c73
                                have H1 : (some true) = some r := by rw [if_neg (show ¬ (false = true) by decide)] at H; exact H
                                clear H
                                have H := H1
                                clear H1
                                obtain rfl := Option.some.inj H
                                go_wp2_with (first | (go_at_call 8; (with_reducible refine (prim_Fits.calls a0 a3 false _ A72.out (by first | exact HT.out | exact tab_below HT.out (by repeat (first | (with_reducible first | exact HB.out | apply below_alloc | apply pw_below_drewN | apply below_drew1 | apply below_drew) | exact HB.out)) | exact tab_drawn HT.out (by repeat (first | exact Drawn0.refl _ | apply Drawn0.step)))).mono ?_); rintro e w87 ⟨rfl, hb⟩; have n0_ := Aside0.mk (below_step (by repeat (first | (with_reducible first | exact HB.out | apply below_alloc | apply pw_below_drewN | apply below_drew1) | exact HB.out)) hb); clear HB; have HB := n0_; clear n0_; (try clear hb); (try clear hb2); (try clear hk); (try clear hi)))
                                go_ret
                                exact ⟨by first | rfl | (simp [errW_none, errW_some] <;> rfl) | (simp [*, errW_none, errW_some] <;> rfl), by repeat (first | (with_reducible first | exact HB.out | apply below_alloc | apply pw_below_drewN | apply below_drew1) | exact HB.out)⟩
                            · replace c71 := Bool.eq_false_iff.mpr c71
                              subst c71
                              have H1 : (some true) = some r := by rw [if_neg (show ¬ (false = true) by decide)] at H; exact H
                              clear H
                              have H := H1
                              clear H1
                              obtain rfl := Option.some.inj H
                              go_wp2
                              go_ret
                              exact ⟨by first | rfl | (simp [errW_none, errW_some] <;> rfl) | (simp [*, errW_none, errW_some] <;> rfl), by repeat (first | (with_reducible first | exact HB.out | apply below_alloc | apply pw_below_drewN | apply below_drew1) | exact HB.out)⟩
                · rw [if_neg c56] at H
                  have c56b0 : (t171 == (wrap64 (-t168))) = false := beq_eq_false_iff_ne.mpr c56
                  have c56b1 : (t171 != (wrap64 (-t168))) = true := bne_iff_ne.mpr c56
                  obtain rfl := Option.some.inj H
                  go_wp2_with (first | ((with_reducible refine gate_callee (f := 7) rfl ?_); refine goesL_ (some 60) rfl rfl Tryd.func7 (by kernel_rfl) rfl #[.int .i64 a0, .int .u64 a1, .int .u64 a2] rfl (by (try simp only [List.map_toArray, List.map_cons, List.map_nil]); first | done | rfl | (simp only [List.length_drop, List.length_take]; rfl)) ?_; (with_reducible refine (prim_Compare.calls kj28 a0 a1 a2 t168 _ A52.out (by first | exact HT.out | exact tab_below HT.out (by repeat (first | (with_reducible first | exact HB.out | apply below_alloc | apply pw_below_drewN | apply below_drew1 | apply below_drew) | exact HB.out)) | exact tab_drawn HT.out (by repeat (first | exact Drawn0.refl _ | apply Drawn0.step)))).mono ?_); rintro e w88 ⟨rfl, hb⟩; refine ⟨_, rfl, ?_⟩; have n0_ := Aside0.mk (below_step (by repeat (first | (with_reducible first | exact HB.out | apply below_alloc | apply pw_below_drewN | apply below_drew1) | exact HB.out)) hb); clear HB; have HB := n0_; clear n0_; (try clear hb); (try clear hb2); (try clear hk); (try clear hi)) | ((with_reducible refine gate_callee (f := 7) rfl ?_); refine goesL_ (some 64) rfl rfl Tryd.func7 (by kernel_rfl) rfl #[.int .i64 a0, .int .u64 a2, .int .u64 a3] rfl (by (try simp only [List.map_toArray, List.map_cons, List.map_nil]); first | done | rfl | (simp only [List.length_drop, List.length_take]; rfl)) ?_; (with_reducible refine (prim_Compare.calls kj28 a0 a2 a3 t169 _ A53.out (by first | exact HT.out | exact tab_below HT.out (by repeat (first | (with_reducible first | exact HB.out | apply below_alloc | apply pw_below_drewN | apply below_drew1 | apply below_drew) | exact HB.out)) | exact tab_drawn HT.out (by repeat (first | exact Drawn0.refl _ | apply Drawn0.step)))).mono ?_); rintro e w89 ⟨rfl, hb⟩; refine ⟨_, rfl, ?_⟩; have n0_ := Aside0.mk (below_step (by repeat (first | (with_reducible first | exact HB.out | apply below_alloc | apply pw_below_drewN | apply below_drew1) | exact HB.out)) hb); clear HB; have HB := n0_; clear n0_; (try clear hb); (try clear hb2); (try clear hk); (try clear hi)) | ((with_reducible refine gate_callee (f := 7) rfl ?_); refine goesL_ (some 68) rfl rfl Tryd.func7 (by kernel_rfl) rfl #[.int .i64 a0, .int .u64 a1, .int .u64 a3] rfl (by (try simp only [List.map_toArray, List.map_cons, List.map_nil]); first | done | rfl | (simp only [List.length_drop, List.length_take]; rfl)) ?_; (with_reducible refine (prim_Compare.calls kj28 a0 a1 a3 t170 _ A54.out (by first | exact HT.out | exact tab_below HT.out (by repeat (first | (with_reducible first | exact HB.out | apply below_alloc | apply pw_below_drewN | apply below_drew1 | apply below_drew) | exact HB.out)) | exact tab_drawn HT.out (by repeat (first | exact Drawn0.refl _ | apply Drawn0.step)))).mono ?_); rintro e w90 ⟨rfl, hb⟩; refine ⟨_, rfl, ?_⟩; have n0_ := Aside0.mk (below_step (by repeat (first | (with_reducible first | exact HB.out | apply below_alloc | apply pw_below_drewN | apply below_drew1) | exact HB.out)) hb); clear HB; have HB := n0_; clear n0_; (try clear hb); (try clear hb2); (try clear hk); (try clear hi)) | ((with_reducible refine gate_callee (f := 7) rfl ?_); refine goesL_ (some 72) rfl rfl Tryd.func7 (by kernel_rfl) rfl #[.int .i64 a0, .int .u64 a2, .int .u64 a1] rfl (by (try simp only [List.map_toArray, List.map_cons, List.map_nil]); first | done | rfl | (simp only [List.length_drop, List.length_take]; rfl)) ?_; (with_reducible refine (prim_Compare.calls kj28 a0 a2 a1 t171 _ A55.out (by first | exact HT.out | exact tab_below HT.out (by repeat (first | (with_reducible first | exact HB.out | apply below_alloc | apply pw_below_drewN | apply below_drew1 | apply below_drew) | exact HB.out)) | exact tab_drawn HT.out (by repeat (first | exact Drawn0.refl _ | apply Drawn0.step)))).mono ?_); rintro e w91 ⟨rfl, hb⟩; refine ⟨_, rfl, ?_⟩; have n0_ := Aside0.mk (below_step (by repeat (first | (with_reducible first | exact HB.out | apply below_alloc | apply pw_below_drewN | apply below_drew1) | exact HB.out)) hb); clear HB; have HB := n0_; clear n0_; (try clear hb); (try clear hb2); (try clear hk); (try clear hi)))
                  go_ret
                  exact ⟨by first | rfl | (simp [errW_none, errW_some] <;> rfl) | (simp [*, errW_none, errW_some] <;> rfl), by repeat (first | (with_reducible first | exact HB.out | apply below_alloc | apply pw_below_drewN | apply below_drew1) | exact HB.out)⟩

/-- THE ONE PURE STATEMENT of stencillaw01_PrimOrder: yours. -/
def stencillaw01_PrimOrder.Pure : Prop := ∀ (a0 : Int) (a1 : Int) (a2 : Int) (a3 : Int), (Lit.int .i64 a0).wf = true → (Lit.int .u64 a1).wf = true → (Lit.int .u64 a2).wf = true → (Lit.int .u64 a3).wf = true → ∃ k, stencillaw01_PrimOrder.f k a0 a1 a2 a3 = some true
theorem stencillaw01_PrimOrder.walk (P : stencillaw01_PrimOrder.Pure) (a0 : Int) (a1 : Int) (a2 : Int) (a3 : Int) (w : World) (w0 : (Lit.int .i64 a0).wf = true) (w1 : (Lit.int .u64 a1).wf = true) (w2 : (Lit.int .u64 a2).wf = true) (w3 : (Lit.int .u64 a3).wf = true) (hT0 : Tab w) :
    Calls Tryd.prog 3 #[.int .i64 a0, .int .u64 a1, .int .u64 a2, .int .u64 a3] w fun e w' => e = .returned (.bool true) ∧ Below w.heap.size w w' := by
  have HT := Aside0.mk hT0
  clear hT0
  obtain ⟨k, h⟩ := P a0 a1 a2 a3 w0 w1 w2 w3
  refine (stencillaw01_PrimOrder.calls k a0 a1 a2 a3 true w h (by first | exact HT.out | exact tab_below HT.out (by repeat (first | (with_reducible first | exact HB.out | apply below_alloc | apply pw_below_drewN | apply below_drew1 | apply below_drew) | exact HB.out)) | exact tab_drawn HT.out (by repeat (first | exact Drawn0.refl _ | apply Drawn0.step)))).mono ?_
  rintro e w' ⟨rfl, hd⟩
  exact ⟨rfl, hd⟩

end Go.Proofs.YtgackepigegbkaaDoor.Q
