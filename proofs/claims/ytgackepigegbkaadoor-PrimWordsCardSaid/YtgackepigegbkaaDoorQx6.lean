-- Made by a wrapper of this project over the kit's print.py, with contracts by hand beside it. Not trusted: Lean checks it.
import Derived.Test.YtgackepigegbkaaDoorQx0
import Derived.Test.YtgackepigegbkaaDoorQx2
import Derived.Test.YtgackepigegbkaaDoorQx4
import Derived.Test.YtgackepigegbkaaDoorQx5
import Derived.Test.YtgackepigegbkaaDoorHOf
namespace Go.Proofs.YtgackepigegbkaaDoor.Q
open Go.RowKit Go.Proofs.YtgackepigegbkaaDoorW.PrintWords Go.Proofs.YtgackepigegbkaaDoorW.PrintLast Go.Proofs.YtgackepigegbkaaDoorW.PrintMore
attribute [local go_sem] max2_int min2_int max_two min_two max_three min_three max_four min_four   -- for this text's walks alone
set_option linter.unusedVariables false
set_option linter.unusedSimpArgs false

/-! ### stencillaw01_PrimWords: function 4 -/
def stencillaw01_PrimWords.j0 : Nat → Int → Int → Int → Bool → Option (Bool)
  | 0, _, _, _, _ => none
  | k + 1, x0, x1, x2, x39 => if x39 = true then (some false) else ((prim_Size.f 3).bind fun t221 => (if t221 = 4 then ((prim_Fits.f x0 x1).bind fun t222 => ((stencilref01_Fits.f k x0 x1).bind fun t223 => (if (t222 == t223) = true then ((prim_Compare.f k x0 x1 x2).bind fun t224 => ((stencilref01_Compare.f k x0 x1 x2).bind fun t225 => (some (t224 == t225)))) else (some false)))) else (some false)))
def stencillaw01_PrimWords.f (k : Nat) (a0 : Int) (a1 : Int) (a2 : Int) : Option (Bool) := (prim_Size.f a0).bind fun t211 => ((stencilref01_Size.f k a0).bind fun t212 => (if t211 = t212 then ((prim_Signed.f a0).bind fun t213 => ((stencilref01_Signed.f a0).bind fun t214 => (if (t213 != t214) = true then (stencillaw01_PrimWords.j0 k a0 a1 a2 true) else ((prim_Null.f a0).bind fun t215 => ((stencilref01_Null.f k a0).bind fun t216 => (if t215 = t216 then ((prim_Min.f a0).bind fun t217 => ((stencilref01_Min.f k a0).bind fun t218 => (if t217 = t218 then ((prim_Max.f a0).bind fun t219 => ((stencilref01_Max.f k a0).bind fun t220 => (stencillaw01_PrimWords.j0 k a0 a1 a2 (t219 != t220)))) else (stencillaw01_PrimWords.j0 k a0 a1 a2 true)))) else (stencillaw01_PrimWords.j0 k a0 a1 a2 true))))))) else (stencillaw01_PrimWords.j0 k a0 a1 a2 true)))
theorem stencillaw01_PrimWords.mono_l : ∀ k, (∀ y0 y1 y2 y3, LeO (stencillaw01_PrimWords.j0 k y0 y1 y2 y3) (stencillaw01_PrimWords.j0 (k + 1) y0 y1 y2 y3))
  | 0 => fun _ _ _ _ r h => by simp [stencillaw01_PrimWords.j0] at h
  | k + 1 => by
    have ih0 := stencillaw01_PrimWords.mono_l k
    · intro y0 y1 y2 y3
      unfold stencillaw01_PrimWords.j0
      repeat' first
      | (with_reducible exact ih0 _ _ _ _)
      | (with_reducible exact prim_Compare.mono _ _ _ _)
      | (with_reducible exact stencilref01_Compare.mono _ _ _ _)
      | (with_reducible exact stencilref01_Fits.mono _ _ _)
      | (with_reducible exact stencilref01_Max.mono _ _)
      | (with_reducible exact stencilref01_Min.mono _ _)
      | (with_reducible exact stencilref01_Null.mono _ _)
      | (with_reducible exact stencilref01_Size.mono _ _)
      | (with_reducible exact LeO.refl _)
      | (with_reducible exact LeO.none _)
      | (with_reducible refine LeO.ite ?_ ?_)
      | (with_reducible refine LeO.bind ?_ (fun _ => ?_))
      | exact ih0 _ _ _ _
      | exact prim_Compare.mono _ _ _ _
      | exact stencilref01_Compare.mono _ _ _ _
      | exact stencilref01_Fits.mono _ _ _
      | exact stencilref01_Max.mono _ _
      | exact stencilref01_Min.mono _ _
      | exact stencilref01_Null.mono _ _
      | exact stencilref01_Size.mono _ _
      | exact LeO.none _
      | refine LeO.ite ?_ ?_
      | refine LeO.bind ?_ (fun _ => ?_)
theorem stencillaw01_PrimWords.mono : ∀ a0 a1 a2 k, LeO (stencillaw01_PrimWords.f k a0 a1 a2) (stencillaw01_PrimWords.f (k + 1) a0 a1 a2) := by
  intro a0 a1 a2 k
  have ih0 := stencillaw01_PrimWords.mono_l k
  unfold stencillaw01_PrimWords.f
  repeat' first
      | (with_reducible exact ih0 _ _ _ _)
      | (with_reducible exact prim_Compare.mono _ _ _ _)
      | (with_reducible exact stencilref01_Compare.mono _ _ _ _)
      | (with_reducible exact stencilref01_Fits.mono _ _ _)
      | (with_reducible exact stencilref01_Max.mono _ _)
      | (with_reducible exact stencilref01_Min.mono _ _)
      | (with_reducible exact stencilref01_Null.mono _ _)
      | (with_reducible exact stencilref01_Size.mono _ _)
      | (with_reducible exact LeO.refl _)
      | (with_reducible exact LeO.none _)
      | (with_reducible refine LeO.ite ?_ ?_)
      | (with_reducible refine LeO.bind ?_ (fun _ => ?_))
      | exact ih0 _ _ _ _
      | exact prim_Compare.mono _ _ _ _
      | exact stencilref01_Compare.mono _ _ _ _
      | exact stencilref01_Fits.mono _ _ _
      | exact stencilref01_Max.mono _ _
      | exact stencilref01_Min.mono _ _
      | exact stencilref01_Null.mono _ _
      | exact stencilref01_Size.mono _ _
      | exact LeO.none _
      | refine LeO.ite ?_ ?_
      | refine LeO.bind ?_ (fun _ => ?_)
set_option maxHeartbeats 8000000 in
set_option maxRecDepth 100000 in
theorem stencillaw01_PrimWords.calls (k : Nat) (a0 : Int) (a1 : Int) (a2 : Int) (r : Bool) (w : World) (h : stencillaw01_PrimWords.f k a0 a1 a2 = some r) (hT0 : Tab w) :
    Calls Tryd.prog 4 #[.int .i64 a0, .int .u64 a1, .int .u64 a2] w fun e w' => e = .returned (.bool r) ∧ Below w.heap.size w w' := by
  have HT := Aside0.mk hT0
  clear hT0
  have HB := Aside0.mk (Below.refl w.heap.size w)
  have H : ((prim_Size.f a0).bind fun t211 => ((stencilref01_Size.f k a0).bind fun t212 => (if t211 = t212 then ((prim_Signed.f a0).bind fun t213 => ((stencilref01_Signed.f a0).bind fun t214 => (if (t213 != t214) = true then (stencillaw01_PrimWords.j0 k a0 a1 a2 true) else ((prim_Null.f a0).bind fun t215 => ((stencilref01_Null.f k a0).bind fun t216 => (if t215 = t216 then ((prim_Min.f a0).bind fun t217 => ((stencilref01_Min.f k a0).bind fun t218 => (if t217 = t218 then ((prim_Max.f a0).bind fun t219 => ((stencilref01_Max.f k a0).bind fun t220 => (stencillaw01_PrimWords.j0 k a0 a1 a2 (t219 != t220)))) else (stencillaw01_PrimWords.j0 k a0 a1 a2 true)))) else (stencillaw01_PrimWords.j0 k a0 a1 a2 true))))))) else (stencillaw01_PrimWords.j0 k a0 a1 a2 true)))) = some r := h
  clear h
  have HC4 := Aside0.mk H
  clear H
  go_enter Tryd.func4, Tryd.ntmps4
  go_upto_region 1 with (fail)
  go_cut [39] (fun v39 wc => ∃ (kq : Nat) (x39_3 : Bool), v39 = .bool x39_3 ∧ Aside0 (stencillaw01_PrimWords.j0 kq a0 a1 a2 x39_3 = some r) ∧ Aside0 (kq ≤ k) ∧ Aside0 (Below w.heap.size w wc))
  case first =>
    have H := HC4.out
    clear HC4
    replace H := Option.bind_eq_some_iff.mp H
    obtain ⟨t211, A50, H⟩ := H
    replace H : ((stencilref01_Size.f k a0).bind fun t212 => (if t211 = t212 then ((prim_Signed.f a0).bind fun t213 => ((stencilref01_Signed.f a0).bind fun t214 => (if (t213 != t214) = true then (stencillaw01_PrimWords.j0 k a0 a1 a2 true) else ((prim_Null.f a0).bind fun t215 => ((stencilref01_Null.f k a0).bind fun t216 => (if t215 = t216 then ((prim_Min.f a0).bind fun t217 => ((stencilref01_Min.f k a0).bind fun t218 => (if t217 = t218 then ((prim_Max.f a0).bind fun t219 => ((stencilref01_Max.f k a0).bind fun t220 => (stencillaw01_PrimWords.j0 k a0 a1 a2 (t219 != t220)))) else (stencillaw01_PrimWords.j0 k a0 a1 a2 true)))) else (stencillaw01_PrimWords.j0 k a0 a1 a2 true))))))) else (stencillaw01_PrimWords.j0 k a0 a1 a2 true))) = some r := H
    have A5 := Aside0.mk A50
    clear A50
    replace H := Option.bind_eq_some_iff.mp H
    obtain ⟨t212, A60, H⟩ := H
    replace H : (if t211 = t212 then ((prim_Signed.f a0).bind fun t213 => ((stencilref01_Signed.f a0).bind fun t214 => (if (t213 != t214) = true then (stencillaw01_PrimWords.j0 k a0 a1 a2 true) else ((prim_Null.f a0).bind fun t215 => ((stencilref01_Null.f k a0).bind fun t216 => (if t215 = t216 then ((prim_Min.f a0).bind fun t217 => ((stencilref01_Min.f k a0).bind fun t218 => (if t217 = t218 then ((prim_Max.f a0).bind fun t219 => ((stencilref01_Max.f k a0).bind fun t220 => (stencillaw01_PrimWords.j0 k a0 a1 a2 (t219 != t220)))) else (stencillaw01_PrimWords.j0 k a0 a1 a2 true)))) else (stencillaw01_PrimWords.j0 k a0 a1 a2 true))))))) else (stencillaw01_PrimWords.j0 k a0 a1 a2 true)) = some r := H
    have A6 := Aside0.mk A60
    clear A60
    by_cases c7 : t211 = t212
    · rw [if_pos c7] at H
      have c7b0 : (t211 == t212) = true := beq_iff_eq.mpr c7
      have c7b1 : (t211 != t212) = false := bne_eq_false_iff_eq.mpr c7
      clear c7
      (first | rw [c7b0] | (simp only [i64_w, i32_w]; rw [c7b0]) | skip)
      replace H := Option.bind_eq_some_iff.mp H
      obtain ⟨t213, A80, H⟩ := H
      replace H : ((stencilref01_Signed.f a0).bind fun t214 => (if (t213 != t214) = true then (stencillaw01_PrimWords.j0 k a0 a1 a2 true) else ((prim_Null.f a0).bind fun t215 => ((stencilref01_Null.f k a0).bind fun t216 => (if t215 = t216 then ((prim_Min.f a0).bind fun t217 => ((stencilref01_Min.f k a0).bind fun t218 => (if t217 = t218 then ((prim_Max.f a0).bind fun t219 => ((stencilref01_Max.f k a0).bind fun t220 => (stencillaw01_PrimWords.j0 k a0 a1 a2 (t219 != t220)))) else (stencillaw01_PrimWords.j0 k a0 a1 a2 true)))) else (stencillaw01_PrimWords.j0 k a0 a1 a2 true)))))) = some r := H
      have A8 := Aside0.mk A80
      clear A80
      replace H := Option.bind_eq_some_iff.mp H
      obtain ⟨t214, A90, H⟩ := H
      replace H : (if (t213 != t214) = true then (stencillaw01_PrimWords.j0 k a0 a1 a2 true) else ((prim_Null.f a0).bind fun t215 => ((stencilref01_Null.f k a0).bind fun t216 => (if t215 = t216 then ((prim_Min.f a0).bind fun t217 => ((stencilref01_Min.f k a0).bind fun t218 => (if t217 = t218 then ((prim_Max.f a0).bind fun t219 => ((stencilref01_Max.f k a0).bind fun t220 => (stencillaw01_PrimWords.j0 k a0 a1 a2 (t219 != t220)))) else (stencillaw01_PrimWords.j0 k a0 a1 a2 true)))) else (stencillaw01_PrimWords.j0 k a0 a1 a2 true))))) = some r := H
      have A9 := Aside0.mk A90
      clear A90
      by_cases c10 : (t213 != t214) = true
      · rw [if_pos c10] at H
        have c10b0 : (t213 != t214) = true := c10
        (try (have c10b1 : decide (t213 = t214) = false := by simpa using c10))
        (try (have c10b2 : (t213 == t214) = false := by simpa using c10))
        (try (have c10b3 : ¬ (t213 = t214) := by simpa using c10))
        clear c10
        have H' := Aside0.mk H
        clear H
        go_wp2_with (first | ((with_reducible refine gate_callee (f := 9) rfl ?_); refine goesL_ (some 8) rfl rfl Tryd.func9 (by kernel_rfl) rfl #[.int .i64 a0] rfl (by (try simp only [List.map_toArray, List.map_cons, List.map_nil]); first | done | rfl | (simp only [List.length_drop, List.length_take]; rfl)) ?_; (with_reducible refine (prim_Size.calls a0 t211 _ A5.out (by first | exact HT.out | exact tab_below HT.out (by repeat (first | (with_reducible first | exact HB.out | apply below_alloc | apply pw_below_drewN | apply below_drew1 | apply below_drew) | exact HB.out)) | exact tab_drawn HT.out (by repeat (first | exact Drawn0.refl _ | apply Drawn0.step)))).mono ?_); rintro e w11 ⟨rfl, hb⟩; refine ⟨_, rfl, ?_⟩; have n0_ := Aside0.mk (below_step (by repeat (first | (with_reducible first | exact HB.out | apply below_alloc | apply pw_below_drewN | apply below_drew1) | exact HB.out)) hb); clear HB; have HB := n0_; clear n0_; (try clear hb); (try clear hb2); (try clear hk); (try clear hi)) | ((with_reducible refine gate_callee (f := 13) rfl ?_); refine goesL_ (some 10) rfl rfl Tryd.func13 (by kernel_rfl) rfl #[.int .i64 a0] rfl (by (try simp only [List.map_toArray, List.map_cons, List.map_nil]); first | done | rfl | (simp only [List.length_drop, List.length_take]; rfl)) ?_; (with_reducible refine (stencilref01_Size.calls k a0 t212 _ A6.out).mono ?_); rintro e w' ⟨rfl, ⟨nd, rfl⟩⟩; refine ⟨_, rfl, ?_⟩) | (go_at_call 14; (with_reducible refine (prim_Signed.calls a0 t213 _ A8.out (by first | exact HT.out | exact tab_below HT.out (by repeat (first | (with_reducible first | exact HB.out | apply below_alloc | apply pw_below_drewN | apply below_drew1 | apply below_drew) | exact HB.out)) | exact tab_drawn HT.out (by repeat (first | exact Drawn0.refl _ | apply Drawn0.step)))).mono ?_); rintro e w12 ⟨rfl, hb⟩; have n0_ := Aside0.mk (below_step (by repeat (first | (with_reducible first | exact HB.out | apply below_alloc | apply pw_below_drewN | apply below_drew1) | exact HB.out)) hb); clear HB; have HB := n0_; clear n0_; (try clear hb); (try clear hb2); (try clear hk); (try clear hi)) | (go_at_call 15; (with_reducible refine (stencilref01_Signed.calls a0 t214 _ A9.out).mono ?_); rintro e w' ⟨rfl, ⟨nd, rfl⟩⟩))
        go_meet
        case rel => exact ⟨_, (true), (by first | rfl | (simp; done) | (simp [*]; done)), H', ⟨by first | omega | exact Nat.le_refl _⟩, ⟨by repeat (first | (with_reducible first | exact HB.out | apply below_alloc | apply pw_below_drewN | apply below_drew1) | exact HB.out)⟩⟩
      · rw [if_neg c10] at H
        have c10b0 : (t213 != t214) = false := by simpa using c10
        (try (have c10b1 : decide (t213 = t214) = true := by simpa using c10))
        (try (have c10b2 : (t213 == t214) = true := by simpa using c10))
        clear c10
        replace H := Option.bind_eq_some_iff.mp H
        obtain ⟨t215, A130, H⟩ := H
        replace H : ((stencilref01_Null.f k a0).bind fun t216 => (if t215 = t216 then ((prim_Min.f a0).bind fun t217 => ((stencilref01_Min.f k a0).bind fun t218 => (if t217 = t218 then ((prim_Max.f a0).bind fun t219 => ((stencilref01_Max.f k a0).bind fun t220 => (stencillaw01_PrimWords.j0 k a0 a1 a2 (t219 != t220)))) else (stencillaw01_PrimWords.j0 k a0 a1 a2 true)))) else (stencillaw01_PrimWords.j0 k a0 a1 a2 true))) = some r := H
        have A13 := Aside0.mk A130
        clear A130
        replace H := Option.bind_eq_some_iff.mp H
        obtain ⟨t216, A140, H⟩ := H
        replace H : (if t215 = t216 then ((prim_Min.f a0).bind fun t217 => ((stencilref01_Min.f k a0).bind fun t218 => (if t217 = t218 then ((prim_Max.f a0).bind fun t219 => ((stencilref01_Max.f k a0).bind fun t220 => (stencillaw01_PrimWords.j0 k a0 a1 a2 (t219 != t220)))) else (stencillaw01_PrimWords.j0 k a0 a1 a2 true)))) else (stencillaw01_PrimWords.j0 k a0 a1 a2 true)) = some r := H
        have A14 := Aside0.mk A140
        clear A140
        by_cases c15 : t215 = t216
        · rw [if_pos c15] at H
          have c15b0 : (t215 == t216) = true := beq_iff_eq.mpr c15
          have c15b1 : (t215 != t216) = false := bne_eq_false_iff_eq.mpr c15
          clear c15
          replace H := Option.bind_eq_some_iff.mp H
          obtain ⟨t217, A160, H⟩ := H
          replace H : ((stencilref01_Min.f k a0).bind fun t218 => (if t217 = t218 then ((prim_Max.f a0).bind fun t219 => ((stencilref01_Max.f k a0).bind fun t220 => (stencillaw01_PrimWords.j0 k a0 a1 a2 (t219 != t220)))) else (stencillaw01_PrimWords.j0 k a0 a1 a2 true))) = some r := H
          have A16 := Aside0.mk A160
          clear A160
          replace H := Option.bind_eq_some_iff.mp H
          obtain ⟨t218, A170, H⟩ := H
          replace H : (if t217 = t218 then ((prim_Max.f a0).bind fun t219 => ((stencilref01_Max.f k a0).bind fun t220 => (stencillaw01_PrimWords.j0 k a0 a1 a2 (t219 != t220)))) else (stencillaw01_PrimWords.j0 k a0 a1 a2 true)) = some r := H
          have A17 := Aside0.mk A170
          clear A170
          by_cases c18 : t217 = t218
          · rw [if_pos c18] at H
            have c18b0 : (t217 == t218) = true := beq_iff_eq.mpr c18
            have c18b1 : (t217 != t218) = false := bne_eq_false_iff_eq.mpr c18
            clear c18
            replace H := Option.bind_eq_some_iff.mp H
            obtain ⟨t219, A190, H⟩ := H
            replace H : ((stencilref01_Max.f k a0).bind fun t220 => (stencillaw01_PrimWords.j0 k a0 a1 a2 (t219 != t220))) = some r := H
            have A19 := Aside0.mk A190
            clear A190
            replace H := Option.bind_eq_some_iff.mp H
            obtain ⟨t220, A200, H⟩ := H
            replace H : (stencillaw01_PrimWords.j0 k a0 a1 a2 (t219 != t220)) = some r := H
            have A20 := Aside0.mk A200
            clear A200
            have H' := Aside0.mk H
            clear H
            go_wp2_with (first | ((with_reducible refine gate_callee (f := 9) rfl ?_); refine goesL_ (some 8) rfl rfl Tryd.func9 (by kernel_rfl) rfl #[.int .i64 a0] rfl (by (try simp only [List.map_toArray, List.map_cons, List.map_nil]); first | done | rfl | (simp only [List.length_drop, List.length_take]; rfl)) ?_; (with_reducible refine (prim_Size.calls a0 t211 _ A5.out (by first | exact HT.out | exact tab_below HT.out (by repeat (first | (with_reducible first | exact HB.out | apply below_alloc | apply pw_below_drewN | apply below_drew1 | apply below_drew) | exact HB.out)) | exact tab_drawn HT.out (by repeat (first | exact Drawn0.refl _ | apply Drawn0.step)))).mono ?_); rintro e w21 ⟨rfl, hb⟩; refine ⟨_, rfl, ?_⟩; have n0_ := Aside0.mk (below_step (by repeat (first | (with_reducible first | exact HB.out | apply below_alloc | apply pw_below_drewN | apply below_drew1) | exact HB.out)) hb); clear HB; have HB := n0_; clear n0_; (try clear hb); (try clear hb2); (try clear hk); (try clear hi)) | ((with_reducible refine gate_callee (f := 13) rfl ?_); refine goesL_ (some 10) rfl rfl Tryd.func13 (by kernel_rfl) rfl #[.int .i64 a0] rfl (by (try simp only [List.map_toArray, List.map_cons, List.map_nil]); first | done | rfl | (simp only [List.length_drop, List.length_take]; rfl)) ?_; (with_reducible refine (stencilref01_Size.calls k a0 t212 _ A6.out).mono ?_); rintro e w' ⟨rfl, ⟨nd, rfl⟩⟩; refine ⟨_, rfl, ?_⟩) | (go_at_call 14; (with_reducible refine (prim_Signed.calls a0 t213 _ A8.out (by first | exact HT.out | exact tab_below HT.out (by repeat (first | (with_reducible first | exact HB.out | apply below_alloc | apply pw_below_drewN | apply below_drew1 | apply below_drew) | exact HB.out)) | exact tab_drawn HT.out (by repeat (first | exact Drawn0.refl _ | apply Drawn0.step)))).mono ?_); rintro e w22 ⟨rfl, hb⟩; have n0_ := Aside0.mk (below_step (by repeat (first | (with_reducible first | exact HB.out | apply below_alloc | apply pw_below_drewN | apply below_drew1) | exact HB.out)) hb); clear HB; have HB := n0_; clear n0_; (try clear hb); (try clear hb2); (try clear hk); (try clear hi)) | (go_at_call 15; (with_reducible refine (stencilref01_Signed.calls a0 t214 _ A9.out).mono ?_); rintro e w' ⟨rfl, ⟨nd, rfl⟩⟩) | (go_at_call 10; (with_reducible refine (prim_Null.calls a0 t215 _ A13.out (by first | exact HT.out | exact tab_below HT.out (by repeat (first | (with_reducible first | exact HB.out | apply below_alloc | apply pw_below_drewN | apply below_drew1 | apply below_drew) | exact HB.out)) | exact tab_drawn HT.out (by repeat (first | exact Drawn0.refl _ | apply Drawn0.step)))).mono ?_); rintro e w23 ⟨rfl, hb⟩; have n0_ := Aside0.mk (below_step (by repeat (first | (with_reducible first | exact HB.out | apply below_alloc | apply pw_below_drewN | apply below_drew1) | exact HB.out)) hb); clear HB; have HB := n0_; clear n0_; (try clear hb); (try clear hb2); (try clear hk); (try clear hi)) | (go_at_call 16; (with_reducible refine (stencilref01_Null.calls k a0 t216 _ A14.out).mono ?_); rintro e w' ⟨rfl, ⟨nd, rfl⟩⟩) | (go_at_call 11; (with_reducible refine (prim_Min.calls a0 t217 _ A16.out (by first | exact HT.out | exact tab_below HT.out (by repeat (first | (with_reducible first | exact HB.out | apply below_alloc | apply pw_below_drewN | apply below_drew1 | apply below_drew) | exact HB.out)) | exact tab_drawn HT.out (by repeat (first | exact Drawn0.refl _ | apply Drawn0.step)))).mono ?_); rintro e w24 ⟨rfl, hb⟩; have n0_ := Aside0.mk (below_step (by repeat (first | (with_reducible first | exact HB.out | apply below_alloc | apply pw_below_drewN | apply below_drew1) | exact HB.out)) hb); clear HB; have HB := n0_; clear n0_; (try clear hb); (try clear hb2); (try clear hk); (try clear hi)) | (go_at_call 17; (with_reducible refine (stencilref01_Min.calls k a0 t218 _ A17.out).mono ?_); rintro e w' ⟨rfl, ⟨nd, rfl⟩⟩) | (go_at_call 12; (with_reducible refine (prim_Max.calls a0 t219 _ A19.out (by first | exact HT.out | exact tab_below HT.out (by repeat (first | (with_reducible first | exact HB.out | apply below_alloc | apply pw_below_drewN | apply below_drew1 | apply below_drew) | exact HB.out)) | exact tab_drawn HT.out (by repeat (first | exact Drawn0.refl _ | apply Drawn0.step)))).mono ?_); rintro e w25 ⟨rfl, hb⟩; have n0_ := Aside0.mk (below_step (by repeat (first | (with_reducible first | exact HB.out | apply below_alloc | apply pw_below_drewN | apply below_drew1) | exact HB.out)) hb); clear HB; have HB := n0_; clear n0_; (try clear hb); (try clear hb2); (try clear hk); (try clear hi)) | (go_at_call 18; (with_reducible refine (stencilref01_Max.calls k a0 t220 _ A20.out).mono ?_); rintro e w' ⟨rfl, ⟨nd, rfl⟩⟩))
            go_meet
            case rel => exact ⟨_, ((t219 != t220)), (by first | rfl | (simp; done) | (simp [*]; done)), H', ⟨by first | omega | exact Nat.le_refl _⟩, ⟨by repeat (first | (with_reducible first | exact HB.out | apply below_alloc | apply pw_below_drewN | apply below_drew1) | exact HB.out)⟩⟩
          · rw [if_neg c18] at H
            have c18b0 : (t217 == t218) = false := beq_eq_false_iff_ne.mpr c18
            have c18b1 : (t217 != t218) = true := bne_iff_ne.mpr c18
            have H' := Aside0.mk H
            clear H
            go_wp2_with (first | ((with_reducible refine gate_callee (f := 9) rfl ?_); refine goesL_ (some 8) rfl rfl Tryd.func9 (by kernel_rfl) rfl #[.int .i64 a0] rfl (by (try simp only [List.map_toArray, List.map_cons, List.map_nil]); first | done | rfl | (simp only [List.length_drop, List.length_take]; rfl)) ?_; (with_reducible refine (prim_Size.calls a0 t211 _ A5.out (by first | exact HT.out | exact tab_below HT.out (by repeat (first | (with_reducible first | exact HB.out | apply below_alloc | apply pw_below_drewN | apply below_drew1 | apply below_drew) | exact HB.out)) | exact tab_drawn HT.out (by repeat (first | exact Drawn0.refl _ | apply Drawn0.step)))).mono ?_); rintro e w26 ⟨rfl, hb⟩; refine ⟨_, rfl, ?_⟩; have n0_ := Aside0.mk (below_step (by repeat (first | (with_reducible first | exact HB.out | apply below_alloc | apply pw_below_drewN | apply below_drew1) | exact HB.out)) hb); clear HB; have HB := n0_; clear n0_; (try clear hb); (try clear hb2); (try clear hk); (try clear hi)) | ((with_reducible refine gate_callee (f := 13) rfl ?_); refine goesL_ (some 10) rfl rfl Tryd.func13 (by kernel_rfl) rfl #[.int .i64 a0] rfl (by (try simp only [List.map_toArray, List.map_cons, List.map_nil]); first | done | rfl | (simp only [List.length_drop, List.length_take]; rfl)) ?_; (with_reducible refine (stencilref01_Size.calls k a0 t212 _ A6.out).mono ?_); rintro e w' ⟨rfl, ⟨nd, rfl⟩⟩; refine ⟨_, rfl, ?_⟩) | (go_at_call 14; (with_reducible refine (prim_Signed.calls a0 t213 _ A8.out (by first | exact HT.out | exact tab_below HT.out (by repeat (first | (with_reducible first | exact HB.out | apply below_alloc | apply pw_below_drewN | apply below_drew1 | apply below_drew) | exact HB.out)) | exact tab_drawn HT.out (by repeat (first | exact Drawn0.refl _ | apply Drawn0.step)))).mono ?_); rintro e w27 ⟨rfl, hb⟩; have n0_ := Aside0.mk (below_step (by repeat (first | (with_reducible first | exact HB.out | apply below_alloc | apply pw_below_drewN | apply below_drew1) | exact HB.out)) hb); clear HB; have HB := n0_; clear n0_; (try clear hb); (try clear hb2); (try clear hk); (try clear hi)) | (go_at_call 15; (with_reducible refine (stencilref01_Signed.calls a0 t214 _ A9.out).mono ?_); rintro e w' ⟨rfl, ⟨nd, rfl⟩⟩) | (go_at_call 10; (with_reducible refine (prim_Null.calls a0 t215 _ A13.out (by first | exact HT.out | exact tab_below HT.out (by repeat (first | (with_reducible first | exact HB.out | apply below_alloc | apply pw_below_drewN | apply below_drew1 | apply below_drew) | exact HB.out)) | exact tab_drawn HT.out (by repeat (first | exact Drawn0.refl _ | apply Drawn0.step)))).mono ?_); rintro e w28 ⟨rfl, hb⟩; have n0_ := Aside0.mk (below_step (by repeat (first | (with_reducible first | exact HB.out | apply below_alloc | apply pw_below_drewN | apply below_drew1) | exact HB.out)) hb); clear HB; have HB := n0_; clear n0_; (try clear hb); (try clear hb2); (try clear hk); (try clear hi)) | (go_at_call 16; (with_reducible refine (stencilref01_Null.calls k a0 t216 _ A14.out).mono ?_); rintro e w' ⟨rfl, ⟨nd, rfl⟩⟩) | (go_at_call 11; (with_reducible refine (prim_Min.calls a0 t217 _ A16.out (by first | exact HT.out | exact tab_below HT.out (by repeat (first | (with_reducible first | exact HB.out | apply below_alloc | apply pw_below_drewN | apply below_drew1 | apply below_drew) | exact HB.out)) | exact tab_drawn HT.out (by repeat (first | exact Drawn0.refl _ | apply Drawn0.step)))).mono ?_); rintro e w29 ⟨rfl, hb⟩; have n0_ := Aside0.mk (below_step (by repeat (first | (with_reducible first | exact HB.out | apply below_alloc | apply pw_below_drewN | apply below_drew1) | exact HB.out)) hb); clear HB; have HB := n0_; clear n0_; (try clear hb); (try clear hb2); (try clear hk); (try clear hi)) | (go_at_call 17; (with_reducible refine (stencilref01_Min.calls k a0 t218 _ A17.out).mono ?_); rintro e w' ⟨rfl, ⟨nd, rfl⟩⟩))
            go_meet
            case rel => exact ⟨_, (true), (by first | rfl | (simp; done) | (simp [*]; done)), H', ⟨by first | omega | exact Nat.le_refl _⟩, ⟨by repeat (first | (with_reducible first | exact HB.out | apply below_alloc | apply pw_below_drewN | apply below_drew1) | exact HB.out)⟩⟩
        · rw [if_neg c15] at H
          have c15b0 : (t215 == t216) = false := beq_eq_false_iff_ne.mpr c15
          have c15b1 : (t215 != t216) = true := bne_iff_ne.mpr c15
          have H' := Aside0.mk H
          clear H
          go_wp2_with (first | ((with_reducible refine gate_callee (f := 9) rfl ?_); refine goesL_ (some 8) rfl rfl Tryd.func9 (by kernel_rfl) rfl #[.int .i64 a0] rfl (by (try simp only [List.map_toArray, List.map_cons, List.map_nil]); first | done | rfl | (simp only [List.length_drop, List.length_take]; rfl)) ?_; (with_reducible refine (prim_Size.calls a0 t211 _ A5.out (by first | exact HT.out | exact tab_below HT.out (by repeat (first | (with_reducible first | exact HB.out | apply below_alloc | apply pw_below_drewN | apply below_drew1 | apply below_drew) | exact HB.out)) | exact tab_drawn HT.out (by repeat (first | exact Drawn0.refl _ | apply Drawn0.step)))).mono ?_); rintro e w30 ⟨rfl, hb⟩; refine ⟨_, rfl, ?_⟩; have n0_ := Aside0.mk (below_step (by repeat (first | (with_reducible first | exact HB.out | apply below_alloc | apply pw_below_drewN | apply below_drew1) | exact HB.out)) hb); clear HB; have HB := n0_; clear n0_; (try clear hb); (try clear hb2); (try clear hk); (try clear hi)) | ((with_reducible refine gate_callee (f := 13) rfl ?_); refine goesL_ (some 10) rfl rfl Tryd.func13 (by kernel_rfl) rfl #[.int .i64 a0] rfl (by (try simp only [List.map_toArray, List.map_cons, List.map_nil]); first | done | rfl | (simp only [List.length_drop, List.length_take]; rfl)) ?_; (with_reducible refine (stencilref01_Size.calls k a0 t212 _ A6.out).mono ?_); rintro e w' ⟨rfl, ⟨nd, rfl⟩⟩; refine ⟨_, rfl, ?_⟩) | (go_at_call 14; (with_reducible refine (prim_Signed.calls a0 t213 _ A8.out (by first | exact HT.out | exact tab_below HT.out (by repeat (first | (with_reducible first | exact HB.out | apply below_alloc | apply pw_below_drewN | apply below_drew1 | apply below_drew) | exact HB.out)) | exact tab_drawn HT.out (by repeat (first | exact Drawn0.refl _ | apply Drawn0.step)))).mono ?_); rintro e w31 ⟨rfl, hb⟩; have n0_ := Aside0.mk (below_step (by repeat (first | (with_reducible first | exact HB.out | apply below_alloc | apply pw_below_drewN | apply below_drew1) | exact HB.out)) hb); clear HB; have HB := n0_; clear n0_; (try clear hb); (try clear hb2); (try clear hk); (try clear hi)) | (go_at_call 15; (with_reducible refine (stencilref01_Signed.calls a0 t214 _ A9.out).mono ?_); rintro e w' ⟨rfl, ⟨nd, rfl⟩⟩) | (go_at_call 10; (with_reducible refine (prim_Null.calls a0 t215 _ A13.out (by first | exact HT.out | exact tab_below HT.out (by repeat (first | (with_reducible first | exact HB.out | apply below_alloc | apply pw_below_drewN | apply below_drew1 | apply below_drew) | exact HB.out)) | exact tab_drawn HT.out (by repeat (first | exact Drawn0.refl _ | apply Drawn0.step)))).mono ?_); rintro e w32 ⟨rfl, hb⟩; have n0_ := Aside0.mk (below_step (by repeat (first | (with_reducible first | exact HB.out | apply below_alloc | apply pw_below_drewN | apply below_drew1) | exact HB.out)) hb); clear HB; have HB := n0_; clear n0_; (try clear hb); (try clear hb2); (try clear hk); (try clear hi)) | (go_at_call 16; (with_reducible refine (stencilref01_Null.calls k a0 t216 _ A14.out).mono ?_); rintro e w' ⟨rfl, ⟨nd, rfl⟩⟩))
          go_meet
          case rel => exact ⟨_, (true), (by first | rfl | (simp; done) | (simp [*]; done)), H', ⟨by first | omega | exact Nat.le_refl _⟩, ⟨by repeat (first | (with_reducible first | exact HB.out | apply below_alloc | apply pw_below_drewN | apply below_drew1) | exact HB.out)⟩⟩
    · rw [if_neg c7] at H
      have c7b0 : (t211 == t212) = false := beq_eq_false_iff_ne.mpr c7
      have c7b1 : (t211 != t212) = true := bne_iff_ne.mpr c7
      (first | rw [c7b0] | (simp only [i64_w, i32_w]; rw [c7b0]) | skip)
      have H' := Aside0.mk H
      clear H
      go_wp2_with (first | ((with_reducible refine gate_callee (f := 9) rfl ?_); refine goesL_ (some 8) rfl rfl Tryd.func9 (by kernel_rfl) rfl #[.int .i64 a0] rfl (by (try simp only [List.map_toArray, List.map_cons, List.map_nil]); first | done | rfl | (simp only [List.length_drop, List.length_take]; rfl)) ?_; (with_reducible refine (prim_Size.calls a0 t211 _ A5.out (by first | exact HT.out | exact tab_below HT.out (by repeat (first | (with_reducible first | exact HB.out | apply below_alloc | apply pw_below_drewN | apply below_drew1 | apply below_drew) | exact HB.out)) | exact tab_drawn HT.out (by repeat (first | exact Drawn0.refl _ | apply Drawn0.step)))).mono ?_); rintro e w33 ⟨rfl, hb⟩; refine ⟨_, rfl, ?_⟩; have n0_ := Aside0.mk (below_step (by repeat (first | (with_reducible first | exact HB.out | apply below_alloc | apply pw_below_drewN | apply below_drew1) | exact HB.out)) hb); clear HB; have HB := n0_; clear n0_; (try clear hb); (try clear hb2); (try clear hk); (try clear hi)) | ((with_reducible refine gate_callee (f := 13) rfl ?_); refine goesL_ (some 10) rfl rfl Tryd.func13 (by kernel_rfl) rfl #[.int .i64 a0] rfl (by (try simp only [List.map_toArray, List.map_cons, List.map_nil]); first | done | rfl | (simp only [List.length_drop, List.length_take]; rfl)) ?_; (with_reducible refine (stencilref01_Size.calls k a0 t212 _ A6.out).mono ?_); rintro e w' ⟨rfl, ⟨nd, rfl⟩⟩; refine ⟨_, rfl, ?_⟩))
      go_meet
      case rel => exact ⟨_, (true), (by first | rfl | (simp; done) | (simp [*]; done)), H', ⟨by first | omega | exact Nat.le_refl _⟩, ⟨by repeat (first | (with_reducible first | exact HB.out | apply below_alloc | apply pw_below_drewN | apply below_drew1) | exact HB.out)⟩⟩
  case rest =>
    clear HC4
    try clear c1
    try clear p2
    try clear c4
    try clear c7
    try clear c7b0
    try clear c7b1
    try clear c9
    try clear c10
    try clear c10b0
    try clear c10b1
    try clear c10b2
    try clear c13
    try clear c15
    try clear c15b0
    try clear c15b1
    try clear c18
    try clear c18b0
    try clear c18b1
    obtain ⟨kq, x39_3, rfl, HA, HJ3, HB⟩ := hcut
    cases kq with
    | zero => exact absurd HA.out (by simp [stencillaw01_PrimWords.j0])
    | succ kj3 =>
      have H := HA.out
      clear HA
      simp only [stencillaw01_PrimWords.j0] at H
      by_cases c34 : x39_3 = true
      · subst c34
        have H1 : (some false) = some r := by rw [if_pos rfl] at H; exact H
        clear H
        have H := H1
        clear H1
        obtain rfl := Option.some.inj H
        go_wp2
        go_ret
        exact ⟨by first | rfl | (simp [errW_none, errW_some] <;> rfl) | (simp [*, errW_none, errW_some] <;> rfl), by repeat (first | (with_reducible first | exact HB.out | apply below_alloc | apply pw_below_drewN | apply below_drew1) | exact HB.out)⟩
      · replace c34 := Bool.eq_false_iff.mpr c34
        subst c34
        have H1 : ((prim_Size.f 3).bind fun t221 => (if t221 = 4 then ((prim_Fits.f a0 a1).bind fun t222 => ((stencilref01_Fits.f kj3 a0 a1).bind fun t223 => (if (t222 == t223) = true then ((prim_Compare.f kj3 a0 a1 a2).bind fun t224 => ((stencilref01_Compare.f kj3 a0 a1 a2).bind fun t225 => (some (t224 == t225)))) else (some false)))) else (some false))) = some r := by rw [if_neg (show ¬ (false = true) by decide)] at H; exact H
        clear H
        have H := H1
        clear H1
        replace H := Option.bind_eq_some_iff.mp H
        obtain ⟨t221, A350, H⟩ := H
        replace H : (if t221 = 4 then ((prim_Fits.f a0 a1).bind fun t222 => ((stencilref01_Fits.f kj3 a0 a1).bind fun t223 => (if (t222 == t223) = true then ((prim_Compare.f kj3 a0 a1 a2).bind fun t224 => ((stencilref01_Compare.f kj3 a0 a1 a2).bind fun t225 => (some (t224 == t225)))) else (some false)))) else (some false)) = some r := H
        have A35 := Aside0.mk A350
        clear A350
        by_cases c36 : t221 = 4
        · rw [if_pos c36] at H
          have c36b0 : (t221 == 4) = true := beq_iff_eq.mpr c36
          have c36b1 : (t221 != 4) = false := bne_eq_false_iff_eq.mpr c36
          clear c36
          replace H := Option.bind_eq_some_iff.mp H
          obtain ⟨t222, A370, H⟩ := H
          replace H : ((stencilref01_Fits.f kj3 a0 a1).bind fun t223 => (if (t222 == t223) = true then ((prim_Compare.f kj3 a0 a1 a2).bind fun t224 => ((stencilref01_Compare.f kj3 a0 a1 a2).bind fun t225 => (some (t224 == t225)))) else (some false))) = some r := H
          have A37 := Aside0.mk A370
          clear A370
          replace H := Option.bind_eq_some_iff.mp H
          obtain ⟨t223, A380, H⟩ := H
          replace H : (if (t222 == t223) = true then ((prim_Compare.f kj3 a0 a1 a2).bind fun t224 => ((stencilref01_Compare.f kj3 a0 a1 a2).bind fun t225 => (some (t224 == t225)))) else (some false)) = some r := H
          have A38 := Aside0.mk A380
          clear A380
          by_cases c39 : (t222 == t223) = true
          · rw [if_pos c39] at H
            have c39b0 : (t222 == t223) = true := c39
            (try (have c39b1 : decide (t222 = t223) = true := by simpa using c39))
            (try (have c39b2 : (t222 == t223) = true := by simpa using c39))
            clear c39
            replace H := Option.bind_eq_some_iff.mp H
            obtain ⟨t224, A400, H⟩ := H
            replace H : ((stencilref01_Compare.f kj3 a0 a1 a2).bind fun t225 => (some (t224 == t225))) = some r := H
            have A40 := Aside0.mk A400
            clear A400
            replace H := Option.bind_eq_some_iff.mp H
            obtain ⟨t225, A410, H⟩ := H
            replace H : (some (t224 == t225)) = some r := H
            have A41 := Aside0.mk A410
            clear A410
            obtain rfl := Option.some.inj H
            go_wp2_with (first | ((with_reducible refine gate_callee (f := 9) rfl ?_); refine goesL_ (some 40) rfl rfl Tryd.func9 (by kernel_rfl) rfl #[.int .i64 3] rfl (by (try simp only [List.map_toArray, List.map_cons, List.map_nil]); first | done | rfl | (simp only [List.length_drop, List.length_take]; rfl)) ?_; (with_reducible refine (prim_Size.calls 3 t221 _ A35.out (by first | exact HT.out | exact tab_below HT.out (by repeat (first | (with_reducible first | exact HB.out | apply below_alloc | apply pw_below_drewN | apply below_drew1 | apply below_drew) | exact HB.out)) | exact tab_drawn HT.out (by repeat (first | exact Drawn0.refl _ | apply Drawn0.step)))).mono ?_); rintro e w42 ⟨rfl, hb⟩; refine ⟨_, rfl, ?_⟩; have n0_ := Aside0.mk (below_step (by repeat (first | (with_reducible first | exact HB.out | apply below_alloc | apply pw_below_drewN | apply below_drew1) | exact HB.out)) hb); clear HB; have HB := n0_; clear n0_; (try clear hb); (try clear hb2); (try clear hk); (try clear hi)) | (go_at_call 8; (with_reducible refine (prim_Fits.calls a0 a1 t222 _ A37.out (by first | exact HT.out | exact tab_below HT.out (by repeat (first | (with_reducible first | exact HB.out | apply below_alloc | apply pw_below_drewN | apply below_drew1 | apply below_drew) | exact HB.out)) | exact tab_drawn HT.out (by repeat (first | exact Drawn0.refl _ | apply Drawn0.step)))).mono ?_); rintro e w43 ⟨rfl, hb⟩; have n0_ := Aside0.mk (below_step (by repeat (first | (with_reducible first | exact HB.out | apply below_alloc | apply pw_below_drewN | apply below_drew1) | exact HB.out)) hb); clear HB; have HB := n0_; clear n0_; (try clear hb); (try clear hb2); (try clear hk); (try clear hi)) | (go_at_call 19; (with_reducible refine (stencilref01_Fits.calls kj3 a0 a1 t223 _ A38.out).mono ?_); rintro e w' ⟨rfl, ⟨nd, rfl⟩⟩) | (go_at_call 7; (with_reducible refine (prim_Compare.calls kj3 a0 a1 a2 t224 _ A40.out (by first | exact HT.out | exact tab_below HT.out (by repeat (first | (with_reducible first | exact HB.out | apply below_alloc | apply pw_below_drewN | apply below_drew1 | apply below_drew) | exact HB.out)) | exact tab_drawn HT.out (by repeat (first | exact Drawn0.refl _ | apply Drawn0.step)))).mono ?_); rintro e w44 ⟨rfl, hb⟩; have n0_ := Aside0.mk (below_step (by repeat (first | (with_reducible first | exact HB.out | apply below_alloc | apply pw_below_drewN | apply below_drew1) | exact HB.out)) hb); clear HB; have HB := n0_; clear n0_; (try clear hb); (try clear hb2); (try clear hk); (try clear hi)) | (go_at_call 20; (with_reducible refine (stencilref01_Compare.calls kj3 a0 a1 a2 t225 _ A41.out).mono ?_); rintro e w' ⟨rfl, ⟨nd, rfl⟩⟩))
            go_ret
            exact ⟨by first | rfl | (simp [errW_none, errW_some] <;> rfl) | (simp [*, errW_none, errW_some] <;> rfl), by repeat (first | (with_reducible first | exact HB.out | apply below_alloc | apply pw_below_drewN | apply below_drew1) | exact HB.out)⟩
          · rw [if_neg c39] at H
            have c39b0 : (t222 == t223) = false := by simpa using c39
            (try (have c39b1 : decide (t222 = t223) = false := by simpa using c39))
            (try (have c39b2 : (t222 == t223) = false := by simpa using c39))
            (try (have c39b3 : ¬ (t222 = t223) := by simpa using c39))
            clear c39
            obtain rfl := Option.some.inj H
            go_wp2_with (first | ((with_reducible refine gate_callee (f := 9) rfl ?_); refine goesL_ (some 40) rfl rfl Tryd.func9 (by kernel_rfl) rfl #[.int .i64 3] rfl (by (try simp only [List.map_toArray, List.map_cons, List.map_nil]); first | done | rfl | (simp only [List.length_drop, List.length_take]; rfl)) ?_; (with_reducible refine (prim_Size.calls 3 t221 _ A35.out (by first | exact HT.out | exact tab_below HT.out (by repeat (first | (with_reducible first | exact HB.out | apply below_alloc | apply pw_below_drewN | apply below_drew1 | apply below_drew) | exact HB.out)) | exact tab_drawn HT.out (by repeat (first | exact Drawn0.refl _ | apply Drawn0.step)))).mono ?_); rintro e w45 ⟨rfl, hb⟩; refine ⟨_, rfl, ?_⟩; have n0_ := Aside0.mk (below_step (by repeat (first | (with_reducible first | exact HB.out | apply below_alloc | apply pw_below_drewN | apply below_drew1) | exact HB.out)) hb); clear HB; have HB := n0_; clear n0_; (try clear hb); (try clear hb2); (try clear hk); (try clear hi)) | (go_at_call 8; (with_reducible refine (prim_Fits.calls a0 a1 t222 _ A37.out (by first | exact HT.out | exact tab_below HT.out (by repeat (first | (with_reducible first | exact HB.out | apply below_alloc | apply pw_below_drewN | apply below_drew1 | apply below_drew) | exact HB.out)) | exact tab_drawn HT.out (by repeat (first | exact Drawn0.refl _ | apply Drawn0.step)))).mono ?_); rintro e w46 ⟨rfl, hb⟩; have n0_ := Aside0.mk (below_step (by repeat (first | (with_reducible first | exact HB.out | apply below_alloc | apply pw_below_drewN | apply below_drew1) | exact HB.out)) hb); clear HB; have HB := n0_; clear n0_; (try clear hb); (try clear hb2); (try clear hk); (try clear hi)) | (go_at_call 19; (with_reducible refine (stencilref01_Fits.calls kj3 a0 a1 t223 _ A38.out).mono ?_); rintro e w' ⟨rfl, ⟨nd, rfl⟩⟩))
            go_ret
            exact ⟨by first | rfl | (simp [errW_none, errW_some] <;> rfl) | (simp [*, errW_none, errW_some] <;> rfl), by repeat (first | (with_reducible first | exact HB.out | apply below_alloc | apply pw_below_drewN | apply below_drew1) | exact HB.out)⟩
        · rw [if_neg c36] at H
          have c36b0 : (t221 == 4) = false := beq_eq_false_iff_ne.mpr c36
          have c36b1 : (t221 != 4) = true := bne_iff_ne.mpr c36
          obtain rfl := Option.some.inj H
          go_wp2_with (first | ((with_reducible refine gate_callee (f := 9) rfl ?_); refine goesL_ (some 40) rfl rfl Tryd.func9 (by kernel_rfl) rfl #[.int .i64 3] rfl (by (try simp only [List.map_toArray, List.map_cons, List.map_nil]); first | done | rfl | (simp only [List.length_drop, List.length_take]; rfl)) ?_; (with_reducible refine (prim_Size.calls 3 t221 _ A35.out (by first | exact HT.out | exact tab_below HT.out (by repeat (first | (with_reducible first | exact HB.out | apply below_alloc | apply pw_below_drewN | apply below_drew1 | apply below_drew) | exact HB.out)) | exact tab_drawn HT.out (by repeat (first | exact Drawn0.refl _ | apply Drawn0.step)))).mono ?_); rintro e w47 ⟨rfl, hb⟩; refine ⟨_, rfl, ?_⟩; have n0_ := Aside0.mk (below_step (by repeat (first | (with_reducible first | exact HB.out | apply below_alloc | apply pw_below_drewN | apply below_drew1) | exact HB.out)) hb); clear HB; have HB := n0_; clear n0_; (try clear hb); (try clear hb2); (try clear hk); (try clear hi)))
          go_ret
          exact ⟨by first | rfl | (simp [errW_none, errW_some] <;> rfl) | (simp [*, errW_none, errW_some] <;> rfl), by repeat (first | (with_reducible first | exact HB.out | apply below_alloc | apply pw_below_drewN | apply below_drew1) | exact HB.out)⟩

/-- THE ONE PURE STATEMENT of stencillaw01_PrimWords: yours. -/
def stencillaw01_PrimWords.Pure : Prop := ∀ (a0 : Int) (a1 : Int) (a2 : Int), (Lit.int .i64 a0).wf = true → (Lit.int .u64 a1).wf = true → (Lit.int .u64 a2).wf = true → ∃ k, stencillaw01_PrimWords.f k a0 a1 a2 = some true
theorem stencillaw01_PrimWords.walk (P : stencillaw01_PrimWords.Pure) (a0 : Int) (a1 : Int) (a2 : Int) (w : World) (w0 : (Lit.int .i64 a0).wf = true) (w1 : (Lit.int .u64 a1).wf = true) (w2 : (Lit.int .u64 a2).wf = true) (hT0 : Tab w) :
    Calls Tryd.prog 4 #[.int .i64 a0, .int .u64 a1, .int .u64 a2] w fun e w' => e = .returned (.bool true) ∧ Below w.heap.size w w' := by
  have HT := Aside0.mk hT0
  clear hT0
  obtain ⟨k, h⟩ := P a0 a1 a2 w0 w1 w2
  refine (stencillaw01_PrimWords.calls k a0 a1 a2 true w h (by first | exact HT.out | exact tab_below HT.out (by repeat (first | (with_reducible first | exact HB.out | apply below_alloc | apply pw_below_drewN | apply below_drew1 | apply below_drew) | exact HB.out)) | exact tab_drawn HT.out (by repeat (first | exact Drawn0.refl _ | apply Drawn0.step)))).mono ?_
  rintro e w' ⟨rfl, hd⟩
  exact ⟨rfl, hd⟩

/-! ### prim_isOrder: function 36 -/
def prim_isOrder.f (a0 : Int) : Option (Bool) := if a0 = 0 then (some true) else (some (a0 == 1))
set_option maxHeartbeats 8000000 in
set_option maxRecDepth 100000 in
theorem prim_isOrder.calls (a0 : Int) (r : Bool) (w : World) (h : prim_isOrder.f a0 = some r) :
    Calls Tryd.prog 36 #[.int .i64 a0] w fun e w' => e = .returned (.bool r) ∧ Drawn0 w w' := by
  have H : (if a0 = 0 then (some true) else (some (a0 == 1))) = some r := h
  clear h
  by_cases c2 : a0 = 0
  · rw [if_pos c2] at H
    have c2b0 : (a0 == 0) = true := beq_iff_eq.mpr c2
    have c2b1 : (a0 != 0) = false := bne_eq_false_iff_eq.mpr c2
    clear c2
    obtain rfl := Option.some.inj H
    go_enter Tryd.func36, Tryd.ntmps36
    go_wp2
    go_ret
    exact ⟨by first | rfl | (simp; done) | (simp [*]; done) | (refine congrArg (fun b_ => Ending.returned (Value.bool b_)) ?_; rw [Bool.eq_iff_iff]; simp; done), by repeat (first | exact Drawn0.refl _ | apply Drawn0.step)⟩
  · rw [if_neg c2] at H
    have c2b0 : (a0 == 0) = false := beq_eq_false_iff_ne.mpr c2
    have c2b1 : (a0 != 0) = true := bne_iff_ne.mpr c2
    obtain rfl := Option.some.inj H
    go_enter Tryd.func36, Tryd.ntmps36
    go_wp2
    go_ret
    exact ⟨by first | rfl | (simp; done) | (simp [*]; done) | (refine congrArg (fun b_ => Ending.returned (Value.bool b_)) ?_; rw [Bool.eq_iff_iff]; simp; done), by repeat (first | exact Drawn0.refl _ | apply Drawn0.step)⟩

/-! ### prim_within: function 37 -/
def prim_within.f (l0 : List Int) (a1 : Int) (a2 : Int) : Option (Bool) := if a1 ≥ 0 then (if a2 ≥ 0 then (if a1 ≤ (l0.length : Int) then (some (decide (a2 ≤ (wrap64 ((l0.length : Int) - a1))))) else (some false)) else (some false)) else (some false)
set_option maxHeartbeats 8000000 in
set_option maxRecDepth 100000 in
theorem prim_within.calls (A0 : Option Addr) (c0 : Nat) (l0 : List Int) (a1 : Int) (a2 : Int) (r : Bool) (w : World) (hr0 : Kd.C (Kd.int .u8) w A0 l0.length l0) (hc0 : l0.length ≤ c0) (h : prim_within.f l0 a1 a2 = some r) :
    Calls Tryd.prog 37 #[.slice A0 l0.length c0, .int .i64 a1, .int .i64 a2] w fun e w' => e = .returned (.bool r) ∧ Drawn0 w w' := by
  have HR0 := Aside0.mk hr0
  have HC0 := Aside0.mk hc0
  clear hr0 hc0
  have H : (if a1 ≥ 0 then (if a2 ≥ 0 then (if a1 ≤ (l0.length : Int) then (some (decide (a2 ≤ (wrap64 ((l0.length : Int) - a1))))) else (some false)) else (some false)) else (some false)) = some r := h
  clear h
  by_cases c4 : a1 ≥ 0
  · rw [if_pos c4] at H
    have c4b0 : decide (0 ≤ a1) = true := decide_eq_true c4
    clear c4
    by_cases c5 : a2 ≥ 0
    · rw [if_pos c5] at H
      have c5b0 : decide (0 ≤ a2) = true := decide_eq_true c5
      clear c5
      by_cases c6 : a1 ≤ (l0.length : Int)
      · rw [if_pos c6] at H
        have c6b0 : decide (a1 ≤ (l0.length : Int)) = true := decide_eq_true c6
        clear c6
        obtain rfl := Option.some.inj H
        go_enter Tryd.func37, Tryd.ntmps37
        go_wp2
        go_ret
        exact ⟨by first | rfl | (simp; done) | (simp [*]; done) | (refine congrArg (fun b_ => Ending.returned (Value.bool b_)) ?_; rw [Bool.eq_iff_iff]; simp; done), by repeat (first | exact Drawn0.refl _ | apply Drawn0.step)⟩
      · rw [if_neg c6] at H
        have c6b0 : decide (a1 ≤ (l0.length : Int)) = false := decide_eq_false c6
        clear c6
        obtain rfl := Option.some.inj H
        go_enter Tryd.func37, Tryd.ntmps37
        go_wp2
        go_ret
        exact ⟨by first | rfl | (simp; done) | (simp [*]; done) | (refine congrArg (fun b_ => Ending.returned (Value.bool b_)) ?_; rw [Bool.eq_iff_iff]; simp; done), by repeat (first | exact Drawn0.refl _ | apply Drawn0.step)⟩
    · rw [if_neg c5] at H
      have c5b0 : decide (0 ≤ a2) = false := decide_eq_false c5
      clear c5
      obtain rfl := Option.some.inj H
      go_enter Tryd.func37, Tryd.ntmps37
      go_wp2
      go_ret
      exact ⟨by first | rfl | (simp; done) | (simp [*]; done) | (refine congrArg (fun b_ => Ending.returned (Value.bool b_)) ?_; rw [Bool.eq_iff_iff]; simp; done), by repeat (first | exact Drawn0.refl _ | apply Drawn0.step)⟩
  · rw [if_neg c4] at H
    have c4b0 : decide (0 ≤ a1) = false := decide_eq_false c4
    clear c4
    obtain rfl := Option.some.inj H
    go_enter Tryd.func37, Tryd.ntmps37
    go_wp2
    go_ret
    exact ⟨by first | rfl | (simp; done) | (simp [*]; done) | (refine congrArg (fun b_ => Ending.returned (Value.bool b_)) ?_; rw [Bool.eq_iff_iff]; simp; done), by repeat (first | exact Drawn0.refl _ | apply Drawn0.step)⟩

-- NOT PRINTED: function 21 (prim_Get)

/-! ### stencilref01_order: function 39 -/
def stencilref01_order.f (a0 : Int) : Option (Bool) := if a0 = 0 then (some true) else (some (a0 == 1))
set_option maxHeartbeats 8000000 in
set_option maxRecDepth 100000 in
theorem stencilref01_order.calls (a0 : Int) (r : Bool) (w : World) (h : stencilref01_order.f a0 = some r) :
    Calls Tryd.prog 39 #[.int .i64 a0] w fun e w' => e = .returned (.bool r) ∧ Drawn0 w w' := by
  have H : (if a0 = 0 then (some true) else (some (a0 == 1))) = some r := h
  clear h
  by_cases c2 : a0 = 0
  · rw [if_pos c2] at H
    have c2b0 : (a0 == 0) = true := beq_iff_eq.mpr c2
    have c2b1 : (a0 != 0) = false := bne_eq_false_iff_eq.mpr c2
    clear c2
    obtain rfl := Option.some.inj H
    go_enter Tryd.func39, Tryd.ntmps39
    go_wp2
    go_ret
    exact ⟨by first | rfl | (simp; done) | (simp [*]; done) | (refine congrArg (fun b_ => Ending.returned (Value.bool b_)) ?_; rw [Bool.eq_iff_iff]; simp; done), by repeat (first | exact Drawn0.refl _ | apply Drawn0.step)⟩
  · rw [if_neg c2] at H
    have c2b0 : (a0 == 0) = false := beq_eq_false_iff_ne.mpr c2
    have c2b1 : (a0 != 0) = true := bne_iff_ne.mpr c2
    obtain rfl := Option.some.inj H
    go_enter Tryd.func39, Tryd.ntmps39
    go_wp2
    go_ret
    exact ⟨by first | rfl | (simp; done) | (simp [*]; done) | (refine congrArg (fun b_ => Ending.returned (Value.bool b_)) ?_; rw [Bool.eq_iff_iff]; simp; done), by repeat (first | exact Drawn0.refl _ | apply Drawn0.step)⟩

/-! ### stencilref01_lies: function 40 -/
def stencilref01_lies.f (a0 : Int) (a1 : Int) (a2 : Int) : Option (Bool) := if a1 ≥ 0 then (if a2 ≥ 0 then (if a1 ≤ a0 then (some (decide (a2 ≤ (wrap64 (a0 - a1))))) else (some false)) else (some false)) else (some false)
set_option maxHeartbeats 8000000 in
set_option maxRecDepth 100000 in
theorem stencilref01_lies.calls (a0 : Int) (a1 : Int) (a2 : Int) (r : Bool) (w : World) (h : stencilref01_lies.f a0 a1 a2 = some r) :
    Calls Tryd.prog 40 #[.int .i64 a0, .int .i64 a1, .int .i64 a2] w fun e w' => e = .returned (.bool r) ∧ Drawn0 w w' := by
  have H : (if a1 ≥ 0 then (if a2 ≥ 0 then (if a1 ≤ a0 then (some (decide (a2 ≤ (wrap64 (a0 - a1))))) else (some false)) else (some false)) else (some false)) = some r := h
  clear h
  by_cases c4 : a1 ≥ 0
  · rw [if_pos c4] at H
    have c4b0 : decide (0 ≤ a1) = true := decide_eq_true c4
    clear c4
    by_cases c5 : a2 ≥ 0
    · rw [if_pos c5] at H
      have c5b0 : decide (0 ≤ a2) = true := decide_eq_true c5
      clear c5
      by_cases c6 : a1 ≤ a0
      · rw [if_pos c6] at H
        have c6b0 : decide (a1 ≤ a0) = true := decide_eq_true c6
        clear c6
        obtain rfl := Option.some.inj H
        go_enter Tryd.func40, Tryd.ntmps40
        go_wp2
        go_ret
        exact ⟨by first | rfl | (simp; done) | (simp [*]; done) | (refine congrArg (fun b_ => Ending.returned (Value.bool b_)) ?_; rw [Bool.eq_iff_iff]; simp; done), by repeat (first | exact Drawn0.refl _ | apply Drawn0.step)⟩
      · rw [if_neg c6] at H
        have c6b0 : decide (a1 ≤ a0) = false := decide_eq_false c6
        clear c6
        obtain rfl := Option.some.inj H
        go_enter Tryd.func40, Tryd.ntmps40
        go_wp2
        go_ret
        exact ⟨by first | rfl | (simp; done) | (simp [*]; done) | (refine congrArg (fun b_ => Ending.returned (Value.bool b_)) ?_; rw [Bool.eq_iff_iff]; simp; done), by repeat (first | exact Drawn0.refl _ | apply Drawn0.step)⟩
    · rw [if_neg c5] at H
      have c5b0 : decide (0 ≤ a2) = false := decide_eq_false c5
      clear c5
      obtain rfl := Option.some.inj H
      go_enter Tryd.func40, Tryd.ntmps40
      go_wp2
      go_ret
      exact ⟨by first | rfl | (simp; done) | (simp [*]; done) | (refine congrArg (fun b_ => Ending.returned (Value.bool b_)) ?_; rw [Bool.eq_iff_iff]; simp; done), by repeat (first | exact Drawn0.refl _ | apply Drawn0.step)⟩
  · rw [if_neg c4] at H
    have c4b0 : decide (0 ≤ a1) = false := decide_eq_false c4
    clear c4
    obtain rfl := Option.some.inj H
    go_enter Tryd.func40, Tryd.ntmps40
    go_wp2
    go_ret
    exact ⟨by first | rfl | (simp; done) | (simp [*]; done) | (refine congrArg (fun b_ => Ending.returned (Value.bool b_)) ?_; rw [Bool.eq_iff_iff]; simp; done), by repeat (first | exact Drawn0.refl _ | apply Drawn0.step)⟩

/-! ### stencilref01_place: function 41 -/
def stencilref01_place.f (a0 : Int) (a1 : Int) (a2 : Int) (a3 : Int) : Option (Int) := if a3 = 0 then (some (wrap64 (a0 + a2))) else (some (wrap64 ((wrap64 ((wrap64 (a0 + a1)) - 1)) - a2)))
set_option maxHeartbeats 8000000 in
set_option maxRecDepth 100000 in
theorem stencilref01_place.calls (a0 : Int) (a1 : Int) (a2 : Int) (a3 : Int) (r : Int) (w : World) (h : stencilref01_place.f a0 a1 a2 a3 = some r) :
    Calls Tryd.prog 41 #[.int .i64 a0, .int .i64 a1, .int .i64 a2, .int .i64 a3] w fun e w' => e = .returned (.int .i64 r) ∧ Drawn0 w w' := by
  have H : (if a3 = 0 then (some (wrap64 (a0 + a2))) else (some (wrap64 ((wrap64 ((wrap64 (a0 + a1)) - 1)) - a2)))) = some r := h
  clear h
  by_cases c5 : a3 = 0
  · rw [if_pos c5] at H
    have c5b0 : (a3 == 0) = true := beq_iff_eq.mpr c5
    have c5b1 : (a3 != 0) = false := bne_eq_false_iff_eq.mpr c5
    clear c5
    obtain rfl := Option.some.inj H
    go_enter Tryd.func41, Tryd.ntmps41
    go_wp2
    go_ret
    exact ⟨by first | rfl | (simp; done) | (simp [*]; done) | (refine congrArg (fun b_ => Ending.returned (Value.bool b_)) ?_; rw [Bool.eq_iff_iff]; simp; done), by repeat (first | exact Drawn0.refl _ | apply Drawn0.step)⟩
  · rw [if_neg c5] at H
    have c5b0 : (a3 == 0) = false := beq_eq_false_iff_ne.mpr c5
    have c5b1 : (a3 != 0) = true := bne_iff_ne.mpr c5
    obtain rfl := Option.some.inj H
    go_enter Tryd.func41, Tryd.ntmps41
    go_wp2
    go_ret
    exact ⟨by first | rfl | (simp; done) | (simp [*]; done) | (refine congrArg (fun b_ => Ending.returned (Value.bool b_)) ?_; rw [Bool.eq_iff_iff]; simp; done), by repeat (first | exact Drawn0.refl _ | apply Drawn0.step)⟩

/-! ### stencilref01_Get: function 22 -/
mutual
def stencilref01_Get.j0 : Nat → List Int → Int → Int → Int → Int → Bool → Option (Int × Int)
  | 0, _, _, _, _, _, _ => none
  | k + 1, x0, x1, x2, x3, x10, x21 => if x21 = true then (some (0, 10)) else ((stencilref01_lies.f (x0.length : Int) x1 x10).bind fun t237 => (if t237 = true then (stencilref01_Get.l0 k x0 x1 x2 x3 x10 0 (wrap64 (x10 - 1))) else (some (0, 11))))
def stencilref01_Get.l0 : Nat → List Int → Int → Int → Int → Int → Int → Int → Option (Int × Int)
  | 0, _, _, _, _, _, _, _ => none
  | k + 1, x0, x1, x2, x3, x10, x11, x12 => if x12 ≥ 0 then ((stencilref01_place.f x1 x10 x12 x3).bind fun t238 => (if 0 ≤ t238 then (if t238 < (x0.length : Int) then (stencilref01_Get.l0 k x0 x1 x2 x3 x10 (IntKind.u64.wrap ((IntKind.u64.wrap (256 * x11)) + (IntKind.u64.wrap (rd x0 t238)))) (wrap64 (x12 - 1))) else (none)) else (none))) else ((stencilref01_Signed.f x2).bind fun t240 => (if t240 = true then ((stencilref01_high.f k x2).bind fun t241 => (stencilref01_Get.j2 k x10 x11 (decide (x11 ≥ t241)))) else (stencilref01_Get.j2 k x10 x11 false)))
def stencilref01_Get.j2 : Nat → Int → Int → Bool → Option (Int × Int)
  | 0, _, _, _ => none
  | k + 1, x10, x11, x53 => if x53 = true then ((stencilref01_bits.f k 64).bind fun t242 => ((stencilref01_bits.f k (wrap64 (8 * x10))).bind fun t243 => (some (IntKind.u64.wrap ((IntKind.u64.wrap (x11 + t242)) - t243), 0)))) else (some (x11, 0))
end
def stencilref01_Get.f (k : Nat) (l0 : List Int) (a1 : Int) (a2 : Int) (a3 : Int) : Option (Int × Int) := (stencilref01_Size.f k a2).bind fun t235 => (if t235 = 0 then (stencilref01_Get.j0 k l0 a1 a2 a3 t235 true) else ((stencilref01_order.f a3).bind fun t236 => (stencilref01_Get.j0 k l0 a1 a2 a3 t235 (!t236))))
theorem stencilref01_Get.mono_l : ∀ k, (∀ y0 y1 y2 y3 y4 y5, LeO (stencilref01_Get.j0 k y0 y1 y2 y3 y4 y5) (stencilref01_Get.j0 (k + 1) y0 y1 y2 y3 y4 y5)) ∧ (∀ y0 y1 y2 y3 y4 y5 y6, LeO (stencilref01_Get.l0 k y0 y1 y2 y3 y4 y5 y6) (stencilref01_Get.l0 (k + 1) y0 y1 y2 y3 y4 y5 y6)) ∧ (∀ y0 y1 y2, LeO (stencilref01_Get.j2 k y0 y1 y2) (stencilref01_Get.j2 (k + 1) y0 y1 y2))
  | 0 => ⟨fun _ _ _ _ _ _ r h => by simp [stencilref01_Get.j0] at h, fun _ _ _ _ _ _ _ r h => by simp [stencilref01_Get.l0] at h, fun _ _ _ r h => by simp [stencilref01_Get.j2] at h⟩
  | k + 1 => by
    obtain ⟨ih0, ih1, ih2⟩ := stencilref01_Get.mono_l k
    refine ⟨?_, ?_, ?_⟩
    · intro y0 y1 y2 y3 y4 y5
      unfold stencilref01_Get.j0
      repeat' first
      | (with_reducible exact ih0 _ _ _ _ _ _)
      | (with_reducible exact ih1 _ _ _ _ _ _ _)
      | (with_reducible exact ih2 _ _ _)
      | (with_reducible exact stencilref01_Size.mono _ _)
      | (with_reducible exact stencilref01_bits.mono _ _)
      | (with_reducible exact stencilref01_high.mono _ _)
      | (with_reducible exact LeO.refl _)
      | (with_reducible exact LeO.none _)
      | (with_reducible refine LeO.ite ?_ ?_)
      | (with_reducible refine LeO.bind ?_ (fun _ => ?_))
      | exact ih0 _ _ _ _ _ _
      | exact ih1 _ _ _ _ _ _ _
      | exact ih2 _ _ _
      | exact stencilref01_Size.mono _ _
      | exact stencilref01_bits.mono _ _
      | exact stencilref01_high.mono _ _
      | exact LeO.none _
      | refine LeO.ite ?_ ?_
      | refine LeO.bind ?_ (fun _ => ?_)
    · intro y0 y1 y2 y3 y4 y5 y6
      unfold stencilref01_Get.l0
      repeat' first
      | (with_reducible exact ih0 _ _ _ _ _ _)
      | (with_reducible exact ih1 _ _ _ _ _ _ _)
      | (with_reducible exact ih2 _ _ _)
      | (with_reducible exact stencilref01_Size.mono _ _)
      | (with_reducible exact stencilref01_bits.mono _ _)
      | (with_reducible exact stencilref01_high.mono _ _)
      | (with_reducible exact LeO.refl _)
      | (with_reducible exact LeO.none _)
      | (with_reducible refine LeO.ite ?_ ?_)
      | (with_reducible refine LeO.bind ?_ (fun _ => ?_))
      | exact ih0 _ _ _ _ _ _
      | exact ih1 _ _ _ _ _ _ _
      | exact ih2 _ _ _
      | exact stencilref01_Size.mono _ _
      | exact stencilref01_bits.mono _ _
      | exact stencilref01_high.mono _ _
      | exact LeO.none _
      | refine LeO.ite ?_ ?_
      | refine LeO.bind ?_ (fun _ => ?_)
    · intro y0 y1 y2
      unfold stencilref01_Get.j2
      repeat' first
      | (with_reducible exact ih0 _ _ _ _ _ _)
      | (with_reducible exact ih1 _ _ _ _ _ _ _)
      | (with_reducible exact ih2 _ _ _)
      | (with_reducible exact stencilref01_Size.mono _ _)
      | (with_reducible exact stencilref01_bits.mono _ _)
      | (with_reducible exact stencilref01_high.mono _ _)
      | (with_reducible exact LeO.refl _)
      | (with_reducible exact LeO.none _)
      | (with_reducible refine LeO.ite ?_ ?_)
      | (with_reducible refine LeO.bind ?_ (fun _ => ?_))
      | exact ih0 _ _ _ _ _ _
      | exact ih1 _ _ _ _ _ _ _
      | exact ih2 _ _ _
      | exact stencilref01_Size.mono _ _
      | exact stencilref01_bits.mono _ _
      | exact stencilref01_high.mono _ _
      | exact LeO.none _
      | refine LeO.ite ?_ ?_
      | refine LeO.bind ?_ (fun _ => ?_)
theorem stencilref01_Get.mono : ∀ a0 a1 a2 a3 k, LeO (stencilref01_Get.f k a0 a1 a2 a3) (stencilref01_Get.f (k + 1) a0 a1 a2 a3) := by
  intro a0 a1 a2 a3 k
  obtain ⟨ih0, ih1, ih2⟩ := stencilref01_Get.mono_l k
  unfold stencilref01_Get.f
  repeat' first
      | (with_reducible exact ih0 _ _ _ _ _ _)
      | (with_reducible exact ih1 _ _ _ _ _ _ _)
      | (with_reducible exact ih2 _ _ _)
      | (with_reducible exact stencilref01_Size.mono _ _)
      | (with_reducible exact stencilref01_bits.mono _ _)
      | (with_reducible exact stencilref01_high.mono _ _)
      | (with_reducible exact LeO.refl _)
      | (with_reducible exact LeO.none _)
      | (with_reducible refine LeO.ite ?_ ?_)
      | (with_reducible refine LeO.bind ?_ (fun _ => ?_))
      | exact ih0 _ _ _ _ _ _
      | exact ih1 _ _ _ _ _ _ _
      | exact ih2 _ _ _
      | exact stencilref01_Size.mono _ _
      | exact stencilref01_bits.mono _ _
      | exact stencilref01_high.mono _ _
      | exact LeO.none _
      | refine LeO.ite ?_ ?_
      | refine LeO.bind ?_ (fun _ => ?_)
set_option maxHeartbeats 8000000 in
set_option maxRecDepth 100000 in
theorem stencilref01_Get.calls (k : Nat) (A0 : Option Addr) (c0 : Nat) (l0 : List Int) (a1 : Int) (a2 : Int) (a3 : Int) (r1 : Int) (r2 : Int) (w : World) (hr0 : Kd.C (Kd.int .u8) w A0 l0.length l0) (hc0 : l0.length ≤ c0) (h : stencilref01_Get.f k l0 a1 a2 a3 = some (r1, r2)) :
    Calls Tryd.prog 22 #[.slice A0 l0.length c0, .int .i64 a1, .int .i64 a2, .int .i64 a3] w fun e w' => e = .returned (.tuple #[.int .u64 r1, .int .i64 r2]) ∧ Drawn0 w w' := by
  have HR0 := Aside0.mk hr0
  have HC0 := Aside0.mk hc0
  clear hr0 hc0
  have H : ((stencilref01_Size.f k a2).bind fun t235 => (if t235 = 0 then (stencilref01_Get.j0 k l0 a1 a2 a3 t235 true) else ((stencilref01_order.f a3).bind fun t236 => (stencilref01_Get.j0 k l0 a1 a2 a3 t235 (!t236))))) = some (r1, r2) := h
  clear h
  replace H := Option.bind_eq_some_iff.mp H
  obtain ⟨t235, A50, H⟩ := H
  replace H : (if t235 = 0 then (stencilref01_Get.j0 k l0 a1 a2 a3 t235 true) else ((stencilref01_order.f a3).bind fun t236 => (stencilref01_Get.j0 k l0 a1 a2 a3 t235 (!t236)))) = some (r1, r2) := H
  have A5 := Aside0.mk A50
  clear A50
  have HC6 := Aside0.mk H
  clear H
  go_enter Tryd.func22, Tryd.ntmps22
  go_upto_region 2 with (first | ((with_reducible refine gate_callee (f := 13) rfl ?_); refine goesL_ (some 14) rfl rfl Tryd.func13 (by kernel_rfl) rfl #[.int .i64 a2] rfl (by (try simp only [List.map_toArray, List.map_cons, List.map_nil]); first | done | rfl | (simp only [List.length_drop, List.length_take]; rfl)) ?_; (with_reducible refine (stencilref01_Size.calls k a2 t235 _ A5.out).mono ?_); rintro e w' ⟨rfl, ⟨nd, rfl⟩⟩; refine ⟨_, rfl, ?_⟩))
  (try simp only [Act.put, List.setIfInBounds_toArray, List.set_cons_zero, List.set_cons_succ])
  go_cut [21] (fun v21 wc => ∃ (kq : Nat) (x21_5 : Bool), v21 = .bool x21_5 ∧ Aside0 (stencilref01_Get.j0 kq l0 a1 a2 a3 t235 x21_5 = some (r1, r2)) ∧ Aside0 (kq ≤ k) ∧ Drawn0 w wc)
  case first =>
    have H := HC6.out
    clear HC6
    by_cases c7 : t235 = 0
    · rw [if_pos c7] at H
      have c7b0 : (t235 == 0) = true := beq_iff_eq.mpr c7
      have c7b1 : (t235 != 0) = false := bne_eq_false_iff_eq.mpr c7
      clear c7
      (first | rw [c7b0] | (simp only [i64_w, i32_w]; rw [c7b0]) | skip)
      have H' := Aside0.mk H
      clear H
      go_wp2
      go_meet
      case rel => exact ⟨_, (true), (by first | rfl | (simp; done) | (simp [*]; done)), H', ⟨by first | omega | exact Nat.le_refl _⟩, by repeat (first | exact Drawn0.refl _ | apply Drawn0.step)⟩
    · rw [if_neg c7] at H
      have c7b0 : (t235 == 0) = false := beq_eq_false_iff_ne.mpr c7
      have c7b1 : (t235 != 0) = true := bne_iff_ne.mpr c7
      (first | rw [c7b0] | (simp only [i64_w, i32_w]; rw [c7b0]) | skip)
      replace H := Option.bind_eq_some_iff.mp H
      obtain ⟨t236, A80, H⟩ := H
      replace H : (stencilref01_Get.j0 k l0 a1 a2 a3 t235 (!t236)) = some (r1, r2) := H
      have A8 := Aside0.mk A80
      clear A80
      have H' := Aside0.mk H
      clear H
      go_wp2_with (first | (go_at_call 39; (with_reducible refine (stencilref01_order.calls a3 t236 _ A8.out).mono ?_); rintro e w' ⟨rfl, ⟨nd, rfl⟩⟩))
      go_meet
      case rel => exact ⟨_, (!t236), (by first | rfl | (simp; done) | (simp [*]; done)), H', ⟨by first | omega | exact Nat.le_refl _⟩, by repeat (first | exact Drawn0.refl _ | apply Drawn0.step)⟩
  case rest =>
    clear HC6
    try clear c1
    try clear c2
    try clear p2
    try clear c7
    try clear c7b0
    try clear c7b1
    obtain ⟨kq, x21_5, rfl, HA, HJ5, ⟨mc5, rfl⟩⟩ := hcut
    cases kq with
    | zero => exact absurd HA.out (by simp [stencilref01_Get.j0])
    | succ kj5 =>
      have H := HA.out
      clear HA
      simp only [stencilref01_Get.j0] at H
      by_cases c9 : x21_5 = true
      · subst c9
        have H1 : (some (0, 10)) = some (r1, r2) := by rw [if_pos rfl] at H; exact H
        clear H
        have H := H1
        clear H1
        simp only [Option.some.injEq, Prod.mk.injEq] at H
        obtain ⟨rfl, rfl⟩ := H
        go_wp2
        go_ret2
        exact ⟨by first | rfl | (simp; done) | (simp [*]; done) | (refine congrArg (fun b_ => Ending.returned (Value.bool b_)) ?_; rw [Bool.eq_iff_iff]; simp; done), by repeat (first | exact Drawn0.refl _ | apply Drawn0.step)⟩
      · replace c9 := Bool.eq_false_iff.mpr c9
        subst c9
        have H1 : ((stencilref01_lies.f (l0.length : Int) a1 t235).bind fun t237 => (if t237 = true then (stencilref01_Get.l0 kj5 l0 a1 a2 a3 t235 0 (wrap64 (t235 - 1))) else (some (0, 11)))) = some (r1, r2) := by rw [if_neg (show ¬ (false = true) by decide)] at H; exact H
        clear H
        have H := H1
        clear H1
        replace H := Option.bind_eq_some_iff.mp H
        obtain ⟨t237, A100, H⟩ := H
        replace H : (if t237 = true then (stencilref01_Get.l0 kj5 l0 a1 a2 a3 t235 0 (wrap64 (t235 - 1))) else (some (0, 11))) = some (r1, r2) := H
        have A10 := Aside0.mk A100
        clear A100
        by_cases c11 : t237 = true
        · subst c11
          have H1 : (stencilref01_Get.l0 kj5 l0 a1 a2 a3 t235 0 (wrap64 (t235 - 1))) = some (r1, r2) := by rw [if_pos rfl] at H; exact H
          clear H
          have H := H1
          clear H1
          have H' := Aside0.mk H
          clear H
          go_wp2_with (first | ((with_reducible refine gate_callee (f := 40) rfl ?_); refine goesL_ (some 26) rfl rfl Tryd.func40 (by kernel_rfl) rfl #[.int .i64 (l0.length : Int), .int .i64 a1, .int .i64 t235] rfl (by (try simp only [List.map_toArray, List.map_cons, List.map_nil]); first | done | rfl | (simp only [List.length_drop, List.length_take]; rfl)) ?_; (with_reducible refine (stencilref01_lies.calls (l0.length : Int) a1 t235 true _ A10.out).mono ?_); rintro e w' ⟨rfl, ⟨nd, rfl⟩⟩; refine ⟨_, rfl, ?_⟩))
          go_loopg [11, 12] kj5 (fun kq v11 v12 w' => ∃ (x11_2 : Int) (x12_2 : Int), v11 = .int .u64 x11_2 ∧ v12 = .int .i64 x12_2 ∧ Aside0 (stencilref01_Get.l0 kq l0 a1 a2 a3 t235 x11_2 x12_2 = some (r1, r2)) ∧ Aside0 (kq ≤ kj5) ∧ Drawn0 w w')
          case atStart => exact ⟨(0), (wrap64 (t235 - 1)), (by first | rfl | (simp; done) | (simp [*]; done)), (by first | rfl | (simp; done) | (simp [*]; done)), H', ⟨Nat.le_refl _⟩, by repeat (first | exact Drawn0.refl _ | apply Drawn0.step)⟩
          case round =>
            clear H'
            try clear c1
            try clear c2
            try clear p2
            try clear c4
            try clear c5
            try clear p6
            try clear c7
            try clear c7b0
            try clear c7b1
            try clear c9
            try clear c11
            try clear p2
            obtain ⟨x11_2, x12_2, rfl, rfl, HA, HK2, ⟨m2, rfl⟩⟩ := hrel
            cases gk with
            | zero => exact absurd HA.out (by simp [stencilref01_Get.l0])
            | succ k2 =>
              have H := HA.out
              clear HA
              simp only [stencilref01_Get.l0] at H
              by_cases c12 : x12_2 ≥ 0
              · rw [if_pos c12] at H
                have c12b0 : decide (0 ≤ x12_2) = true := decide_eq_true c12
                clear c12
                replace H := Option.bind_eq_some_iff.mp H
                obtain ⟨t238, A130, H⟩ := H
                replace H : (if 0 ≤ t238 then (if t238 < (l0.length : Int) then (stencilref01_Get.l0 k2 l0 a1 a2 a3 t235 (IntKind.u64.wrap ((IntKind.u64.wrap (256 * x11_2)) + (IntKind.u64.wrap (rd l0 t238)))) (wrap64 (x12_2 - 1))) else (none)) else (none)) = some (r1, r2) := H
                have A13 := Aside0.mk A130
                clear A130
                by_cases c14 : 0 ≤ t238
                · rw [if_pos c14] at H
                  have c14b0 : decide (0 ≤ t238) = true := decide_eq_true c14
                  clear c14
                  by_cases c15 : t238 < (l0.length : Int)
                  · rw [if_pos c15] at H
                    have c15b0 : decide (t238 < (l0.length : Int)) = true := decide_eq_true c15
                    clear c15
                    have H' := Aside0.mk H
                    clear H
                    go_wp2_with (first | ((with_reducible refine gate_callee (f := 41) rfl ?_); refine goesL_ (some 41) rfl rfl Tryd.func41 (by kernel_rfl) rfl #[.int .i64 a1, .int .i64 t235, .int .i64 x12_2, .int .i64 a3] rfl (by (try simp only [List.map_toArray, List.map_cons, List.map_nil]); first | done | rfl | (simp only [List.length_drop, List.length_take]; rfl)) ?_; (with_reducible refine (stencilref01_place.calls a1 t235 x12_2 a3 t238 _ A13.out).mono ?_); rintro e w' ⟨rfl, ⟨nd, rfl⟩⟩; refine ⟨_, rfl, ?_⟩; have p239 : 0 ≤ (t238 : Int) := of_decide_eq_true (by first | (with_reducible assumption) | assumption); have q239 : t238 < (l0.length : Int) := of_decide_eq_true (by first | (with_reducible assumption) | assumption); obtain ⟨ad239, e239, hx239_0⟩ := Kd.at_int HR0.out t238 p239 q239; cases e239; replace p239 := eq_true p239; replace q239 := eq_true q239))
                    go_roundg k2
                    case measure => have := HJ5.out; have := HK2.out; omega
                    case rel => exact ⟨(IntKind.u64.wrap ((IntKind.u64.wrap (256 * x11_2)) + (IntKind.u64.wrap (rd l0 t238)))), (wrap64 (x12_2 - 1)), (by first | rfl | (simp; done) | (simp [*]; done)), (by first | rfl | (simp; done) | (simp [*]; done)), H', ⟨by have := HJ5.out; have := HK2.out; omega⟩, by repeat (first | exact Drawn0.refl _ | apply Drawn0.step)⟩
                  · rw [if_neg c15] at H
                    exact absurd H (by simp)
                · rw [if_neg c14] at H
                  exact absurd H (by simp)
              · rw [if_neg c12] at H
                have c12b0 : decide (0 ≤ x12_2) = false := decide_eq_false c12
                clear c12
                have HC16 := Aside0.mk H
                clear H
                go_upto_region 11 with (fail)
                go_cut [53] (fun v53 wc => ∃ (kq : Nat) (x53_15 : Bool), v53 = .bool x53_15 ∧ Aside0 (stencilref01_Get.j2 kq t235 x11_2 x53_15 = some (r1, r2)) ∧ Aside0 (kq ≤ k2) ∧ Drawn0 w wc)
                case first =>
                  have H := HC16.out
                  clear HC16
                  replace H := Option.bind_eq_some_iff.mp H
                  obtain ⟨t240, A170, H⟩ := H
                  replace H : (if t240 = true then ((stencilref01_high.f k2 a2).bind fun t241 => (stencilref01_Get.j2 k2 t235 x11_2 (decide (x11_2 ≥ t241)))) else (stencilref01_Get.j2 k2 t235 x11_2 false)) = some (r1, r2) := H
                  have A17 := Aside0.mk A170
                  clear A170
                  by_cases c18 : t240 = true
                  · subst c18
                    have H1 : ((stencilref01_high.f k2 a2).bind fun t241 => (stencilref01_Get.j2 k2 t235 x11_2 (decide (x11_2 ≥ t241)))) = some (r1, r2) := by rw [if_pos rfl] at H; exact H
                    clear H
                    have H := H1
                    clear H1
                    replace H := Option.bind_eq_some_iff.mp H
                    obtain ⟨t241, A190, H⟩ := H
                    replace H : (stencilref01_Get.j2 k2 t235 x11_2 (decide (x11_2 ≥ t241))) = some (r1, r2) := H
                    have A19 := Aside0.mk A190
                    clear A190
                    have H' := Aside0.mk H
                    clear H
                    go_wp2_with (first | ((with_reducible refine gate_callee (f := 15) rfl ?_); refine goesL_ (some 47) rfl rfl Tryd.func15 (by kernel_rfl) rfl #[.int .i64 a2] rfl (by (try simp only [List.map_toArray, List.map_cons, List.map_nil]); first | done | rfl | (simp only [List.length_drop, List.length_take]; rfl)) ?_; (with_reducible refine (stencilref01_Signed.calls a2 true _ A17.out).mono ?_); rintro e w' ⟨rfl, ⟨nd, rfl⟩⟩; refine ⟨_, rfl, ?_⟩) | (go_at_call 34; (with_reducible refine (stencilref01_high.calls k2 a2 t241 _ A19.out).mono ?_); rintro e w' ⟨rfl, ⟨nd, rfl⟩⟩))
                    go_meet
                    case rel => exact ⟨_, (decide (x11_2 ≥ t241)), (by first | rfl | (simp; done) | (simp [*]; done)), H', ⟨by have := HJ5.out; have := HK2.out; first | omega | exact Nat.le_refl _⟩, by repeat (first | exact Drawn0.refl _ | apply Drawn0.step)⟩
                  · replace c18 := Bool.eq_false_iff.mpr c18
                    subst c18
                    have H1 : (stencilref01_Get.j2 k2 t235 x11_2 false) = some (r1, r2) := by rw [if_neg (show ¬ (false = true) by decide)] at H; exact H
                    clear H
                    have H := H1
                    clear H1
                    have H' := Aside0.mk H
                    clear H
                    go_wp2_with (first | ((with_reducible refine gate_callee (f := 15) rfl ?_); refine goesL_ (some 47) rfl rfl Tryd.func15 (by kernel_rfl) rfl #[.int .i64 a2] rfl (by (try simp only [List.map_toArray, List.map_cons, List.map_nil]); first | done | rfl | (simp only [List.length_drop, List.length_take]; rfl)) ?_; (with_reducible refine (stencilref01_Signed.calls a2 false _ A17.out).mono ?_); rintro e w' ⟨rfl, ⟨nd, rfl⟩⟩; refine ⟨_, rfl, ?_⟩))
                    go_meet
                    case rel => exact ⟨_, (false), (by first | rfl | (simp; done) | (simp [*]; done)), H', ⟨by have := HJ5.out; have := HK2.out; first | omega | exact Nat.le_refl _⟩, by repeat (first | exact Drawn0.refl _ | apply Drawn0.step)⟩
                case rest =>
                  clear HC16
                  try clear c1
                  try clear c2
                  try clear p2
                  try clear q2
                  try clear hx2
                  try clear c4
                  try clear c5
                  try clear p6
                  try clear c7
                  try clear c7b0
                  try clear c7b1
                  try clear c9
                  try clear c11
                  try clear c12
                  try clear c12b0
                  try clear c13
                  try clear c14
                  try clear c14b0
                  try clear c15
                  try clear c15b0
                  try clear c18
                  try clear hx239_0
                  try clear p2
                  try clear p239
                  try clear p6
                  try clear q239
                  obtain ⟨kq, x53_15, rfl, HA, HJ15, ⟨mc15, rfl⟩⟩ := hcut
                  cases kq with
                  | zero => exact absurd HA.out (by simp [stencilref01_Get.j2])
                  | succ kj15 =>
                    have H := HA.out
                    clear HA
                    simp only [stencilref01_Get.j2] at H
                    by_cases c20 : x53_15 = true
                    · subst c20
                      have H1 : ((stencilref01_bits.f kj15 64).bind fun t242 => ((stencilref01_bits.f kj15 (wrap64 (8 * t235))).bind fun t243 => (some (IntKind.u64.wrap ((IntKind.u64.wrap (x11_2 + t242)) - t243), 0)))) = some (r1, r2) := by rw [if_pos rfl] at H; exact H
                      clear H
                      have H := H1
                      clear H1
                      replace H := Option.bind_eq_some_iff.mp H
                      obtain ⟨t242, A210, H⟩ := H
                      replace H : ((stencilref01_bits.f kj15 (wrap64 (8 * t235))).bind fun t243 => (some (IntKind.u64.wrap ((IntKind.u64.wrap (x11_2 + t242)) - t243), 0))) = some (r1, r2) := H
                      have A21 := Aside0.mk A210
                      clear A210
                      replace H := Option.bind_eq_some_iff.mp H
                      obtain ⟨t243, A220, H⟩ := H
                      replace H : (some (IntKind.u64.wrap ((IntKind.u64.wrap (x11_2 + t242)) - t243), 0)) = some (r1, r2) := H
                      have A22 := Aside0.mk A220
                      clear A220
                      simp only [Option.some.injEq, Prod.mk.injEq] at H
                      obtain ⟨rfl, rfl⟩ := H
                      go_wp2_with (first | ((with_reducible refine gate_callee (f := 33) rfl ?_); refine goesL_ (some 55) rfl rfl Tryd.func33 (by kernel_rfl) rfl #[.int .i64 64] rfl (by (try simp only [List.map_toArray, List.map_cons, List.map_nil]); first | done | rfl | (simp only [List.length_drop, List.length_take]; rfl)) ?_; (with_reducible refine (stencilref01_bits.calls kj15 64 t242 _ A21.out).mono ?_); rintro e w' ⟨rfl, ⟨nd, rfl⟩⟩; refine ⟨_, rfl, ?_⟩) | ((with_reducible refine gate_callee (f := 33) rfl ?_); refine goesL_ (some 59) rfl rfl Tryd.func33 (by kernel_rfl) rfl #[.int .i64 (wrap64 (8 * t235))] rfl (by (try simp only [List.map_toArray, List.map_cons, List.map_nil]); first | done | rfl | (simp only [List.length_drop, List.length_take]; rfl)) ?_; (with_reducible refine (stencilref01_bits.calls kj15 (wrap64 (8 * t235)) t243 _ A22.out).mono ?_); rintro e w' ⟨rfl, ⟨nd, rfl⟩⟩; refine ⟨_, rfl, ?_⟩))
                      go_ret2
                      exact ⟨by first | rfl | (simp; done) | (simp [*]; done) | (refine congrArg (fun b_ => Ending.returned (Value.bool b_)) ?_; rw [Bool.eq_iff_iff]; simp; done), by repeat (first | exact Drawn0.refl _ | apply Drawn0.step)⟩
                    · replace c20 := Bool.eq_false_iff.mpr c20
                      subst c20
                      have H1 : (some (x11_2, 0)) = some (r1, r2) := by rw [if_neg (show ¬ (false = true) by decide)] at H; exact H
                      clear H
                      have H := H1
                      clear H1
                      simp only [Option.some.injEq, Prod.mk.injEq] at H
                      obtain ⟨rfl, rfl⟩ := H
                      go_wp2
                      go_ret2
                      exact ⟨by first | rfl | (simp; done) | (simp [*]; done) | (refine congrArg (fun b_ => Ending.returned (Value.bool b_)) ?_; rw [Bool.eq_iff_iff]; simp; done), by repeat (first | exact Drawn0.refl _ | apply Drawn0.step)⟩
        · replace c11 := Bool.eq_false_iff.mpr c11
          subst c11
          have H1 : (some (0, 11)) = some (r1, r2) := by rw [if_neg (show ¬ (false = true) by decide)] at H; exact H
          clear H
          have H := H1
          clear H1
          simp only [Option.some.injEq, Prod.mk.injEq] at H
          obtain ⟨rfl, rfl⟩ := H
          go_wp2_with (first | ((with_reducible refine gate_callee (f := 40) rfl ?_); refine goesL_ (some 26) rfl rfl Tryd.func40 (by kernel_rfl) rfl #[.int .i64 (l0.length : Int), .int .i64 a1, .int .i64 t235] rfl (by (try simp only [List.map_toArray, List.map_cons, List.map_nil]); first | done | rfl | (simp only [List.length_drop, List.length_take]; rfl)) ?_; (with_reducible refine (stencilref01_lies.calls (l0.length : Int) a1 t235 false _ A10.out).mono ?_); rintro e w' ⟨rfl, ⟨nd, rfl⟩⟩; refine ⟨_, rfl, ?_⟩))
          go_ret2
          exact ⟨by first | rfl | (simp; done) | (simp [*]; done) | (refine congrArg (fun b_ => Ending.returned (Value.bool b_)) ?_; rw [Bool.eq_iff_iff]; simp; done), by repeat (first | exact Drawn0.refl _ | apply Drawn0.step)⟩

end Go.Proofs.YtgackepigegbkaaDoor.Q
