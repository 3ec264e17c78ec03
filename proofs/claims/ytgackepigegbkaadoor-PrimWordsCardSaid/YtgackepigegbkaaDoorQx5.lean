-- Made by a wrapper of this project over the kit's print.py, with contracts by hand beside it. Not trusted: Lean checks it.
import Derived.Test.YtgackepigegbkaaDoorQx0
import Derived.Test.YtgackepigegbkaaDoorQx4
namespace Go.Proofs.YtgackepigegbkaaDoor.Q
open Go.RowKit Go.Proofs.YtgackepigegbkaaDoorW.PrintWords Go.Proofs.YtgackepigegbkaaDoorW.PrintLast Go.Proofs.YtgackepigegbkaaDoorW.PrintMore
attribute [local go_sem] max2_int min2_int max_two min_two max_three min_three max_four min_four   -- for this text's walks alone
set_option linter.unusedVariables false
set_option linter.unusedSimpArgs false

/-! ### stencilref01_Max: function 18 -/
def stencilref01_Max.j0 : Nat → Int → Bool → Option (Int)
  | 0, _, _ => none
  | k + 1, x0, x12 => if x12 = true then ((stencilref01_Size.f k x0).bind fun t195 => ((stencilref01_bits.f k (wrap64 (8 * t195))).bind fun t196 => (some t196))) else ((stencilref01_Size.f k x0).bind fun t197 => (if t197 = 0 then (some 0) else ((stencilref01_Size.f k x0).bind fun t198 => ((stencilref01_bits.f k (wrap64 (8 * t198))).bind fun t199 => (some (IntKind.u64.wrap (t199 - 1)))))))
def stencilref01_Max.f (k : Nat) (a0 : Int) : Option (Int) := if a0 = 0 then (some 126) else ((stencilref01_Signed.f a0).bind fun t193 => (if t193 = true then ((stencilref01_high.f k a0).bind fun t194 => (some (IntKind.u64.wrap (t194 - 1)))) else (if a0 = 9 then (stencilref01_Max.j0 k a0 true) else (stencilref01_Max.j0 k a0 (a0 == 10)))))
theorem stencilref01_Max.mono_l : ∀ k, (∀ y0 y1, LeO (stencilref01_Max.j0 k y0 y1) (stencilref01_Max.j0 (k + 1) y0 y1))
  | 0 => fun _ _ r h => by simp [stencilref01_Max.j0] at h
  | k + 1 => by
    have ih0 := stencilref01_Max.mono_l k
    · intro y0 y1
      unfold stencilref01_Max.j0
      repeat' first
      | (with_reducible exact ih0 _ _)
      | (with_reducible exact stencilref01_Size.mono _ _)
      | (with_reducible exact stencilref01_bits.mono _ _)
      | (with_reducible exact stencilref01_high.mono _ _)
      | (with_reducible exact LeO.refl _)
      | (with_reducible exact LeO.none _)
      | (with_reducible refine LeO.ite ?_ ?_)
      | (with_reducible refine LeO.bind ?_ (fun _ => ?_))
      | exact ih0 _ _
      | exact stencilref01_Size.mono _ _
      | exact stencilref01_bits.mono _ _
      | exact stencilref01_high.mono _ _
      | exact LeO.none _
      | refine LeO.ite ?_ ?_
      | refine LeO.bind ?_ (fun _ => ?_)
theorem stencilref01_Max.mono : ∀ a0 k, LeO (stencilref01_Max.f k a0) (stencilref01_Max.f (k + 1) a0) := by
  intro a0 k
  have ih0 := stencilref01_Max.mono_l k
  unfold stencilref01_Max.f
  repeat' first
      | (with_reducible exact ih0 _ _)
      | (with_reducible exact stencilref01_Size.mono _ _)
      | (with_reducible exact stencilref01_bits.mono _ _)
      | (with_reducible exact stencilref01_high.mono _ _)
      | (with_reducible exact LeO.refl _)
      | (with_reducible exact LeO.none _)
      | (with_reducible refine LeO.ite ?_ ?_)
      | (with_reducible refine LeO.bind ?_ (fun _ => ?_))
      | exact ih0 _ _
      | exact stencilref01_Size.mono _ _
      | exact stencilref01_bits.mono _ _
      | exact stencilref01_high.mono _ _
      | exact LeO.none _
      | refine LeO.ite ?_ ?_
      | refine LeO.bind ?_ (fun _ => ?_)
set_option maxHeartbeats 8000000 in
set_option maxRecDepth 100000 in
theorem stencilref01_Max.calls (k : Nat) (a0 : Int) (r : Int) (w : World) (h : stencilref01_Max.f k a0 = some r) :
    Calls Tryd.prog 18 #[.int .i64 a0] w fun e w' => e = .returned (.int .u64 r) ∧ Drawn0 w w' := by
  have H : (if a0 = 0 then (some 126) else ((stencilref01_Signed.f a0).bind fun t193 => (if t193 = true then ((stencilref01_high.f k a0).bind fun t194 => (some (IntKind.u64.wrap (t194 - 1)))) else (if a0 = 9 then (stencilref01_Max.j0 k a0 true) else (stencilref01_Max.j0 k a0 (a0 == 10)))))) = some r := h
  clear h
  by_cases c2 : a0 = 0
  · rw [if_pos c2] at H
    have c2b0 : (a0 == 0) = true := beq_iff_eq.mpr c2
    have c2b1 : (a0 != 0) = false := bne_eq_false_iff_eq.mpr c2
    clear c2
    obtain rfl := Option.some.inj H
    go_enter Tryd.func18, Tryd.ntmps18
    go_wp2
    go_ret
    exact ⟨by first | rfl | (simp; done) | (simp [*]; done) | (refine congrArg (fun b_ => Ending.returned (Value.bool b_)) ?_; rw [Bool.eq_iff_iff]; simp; done), by repeat (first | exact Drawn0.refl _ | apply Drawn0.step)⟩
  · rw [if_neg c2] at H
    have c2b0 : (a0 == 0) = false := beq_eq_false_iff_ne.mpr c2
    have c2b1 : (a0 != 0) = true := bne_iff_ne.mpr c2
    replace H := Option.bind_eq_some_iff.mp H
    obtain ⟨t193, A30, H⟩ := H
    replace H : (if t193 = true then ((stencilref01_high.f k a0).bind fun t194 => (some (IntKind.u64.wrap (t194 - 1)))) else (if a0 = 9 then (stencilref01_Max.j0 k a0 true) else (stencilref01_Max.j0 k a0 (a0 == 10)))) = some r := H
    have A3 := Aside0.mk A30
    clear A30
    by_cases c4 : t193 = true
    · subst c4
      have H1 : ((stencilref01_high.f k a0).bind fun t194 => (some (IntKind.u64.wrap (t194 - 1)))) = some r := by rw [if_pos rfl] at H; exact H
      clear H
      have H := H1
      clear H1
      replace H := Option.bind_eq_some_iff.mp H
      obtain ⟨t194, A50, H⟩ := H
      replace H : (some (IntKind.u64.wrap (t194 - 1))) = some r := H
      have A5 := Aside0.mk A50
      clear A50
      obtain rfl := Option.some.inj H
      go_enter Tryd.func18, Tryd.ntmps18
      go_wp2_with (first | ((with_reducible refine gate_callee (f := 15) rfl ?_); refine goesL_ (some 8) rfl rfl Tryd.func15 (by kernel_rfl) rfl #[.int .i64 a0] rfl (by (try simp only [List.map_toArray, List.map_cons, List.map_nil]); first | done | rfl | (simp only [List.length_drop, List.length_take]; rfl)) ?_; (with_reducible refine (stencilref01_Signed.calls a0 true _ A3.out).mono ?_); rintro e w' ⟨rfl, ⟨nd, rfl⟩⟩; refine ⟨_, rfl, ?_⟩) | ((with_reducible refine gate_callee (f := 34) rfl ?_); refine goesL_ (some 10) rfl rfl Tryd.func34 (by kernel_rfl) rfl #[.int .i64 a0] rfl (by (try simp only [List.map_toArray, List.map_cons, List.map_nil]); first | done | rfl | (simp only [List.length_drop, List.length_take]; rfl)) ?_; (with_reducible refine (stencilref01_high.calls k a0 t194 _ A5.out).mono ?_); rintro e w' ⟨rfl, ⟨nd, rfl⟩⟩; refine ⟨_, rfl, ?_⟩))
      go_ret
      exact ⟨by first | rfl | (simp; done) | (simp [*]; done) | (refine congrArg (fun b_ => Ending.returned (Value.bool b_)) ?_; rw [Bool.eq_iff_iff]; simp; done), by repeat (first | exact Drawn0.refl _ | apply Drawn0.step)⟩
    · replace c4 := Bool.eq_false_iff.mpr c4
      subst c4
      have H1 : (if a0 = 9 then (stencilref01_Max.j0 k a0 true) else (stencilref01_Max.j0 k a0 (a0 == 10))) = some r := by rw [if_neg (show ¬ (false = true) by decide)] at H; exact H
      clear H
      have H := H1
      clear H1
      have HC6 := Aside0.mk H
      clear H
      go_enter Tryd.func18, Tryd.ntmps18
      go_upto_region 5 with (first | ((with_reducible refine gate_callee (f := 15) rfl ?_); refine goesL_ (some 8) rfl rfl Tryd.func15 (by kernel_rfl) rfl #[.int .i64 a0] rfl (by (try simp only [List.map_toArray, List.map_cons, List.map_nil]); first | done | rfl | (simp only [List.length_drop, List.length_take]; rfl)) ?_; (with_reducible refine (stencilref01_Signed.calls a0 false _ A3.out).mono ?_); rintro e w' ⟨rfl, ⟨nd, rfl⟩⟩; refine ⟨_, rfl, ?_⟩))
      (try simp only [Act.put, List.setIfInBounds_toArray, List.set_cons_zero, List.set_cons_succ])
      go_cut [12] (fun v12 wc => ∃ (kq : Nat) (x12_5 : Bool), v12 = .bool x12_5 ∧ Aside0 (stencilref01_Max.j0 kq a0 x12_5 = some r) ∧ Aside0 (kq ≤ k) ∧ Drawn0 w wc)
      case first =>
        have H := HC6.out
        clear HC6
        by_cases c7 : a0 = 9
        · rw [if_pos c7] at H
          have c7b0 : (a0 == 9) = true := beq_iff_eq.mpr c7
          have c7b1 : (a0 != 9) = false := bne_eq_false_iff_eq.mpr c7
          clear c7
          (first | rw [c7b0] | (simp only [i64_w, i32_w]; rw [c7b0]) | skip)
          have H' := Aside0.mk H
          clear H
          go_wp2
          go_meet
          case rel => exact ⟨_, (true), (by first | rfl | (simp; done) | (simp [*]; done)), H', ⟨by first | omega | exact Nat.le_refl _⟩, by repeat (first | exact Drawn0.refl _ | apply Drawn0.step)⟩
        · rw [if_neg c7] at H
          have c7b0 : (a0 == 9) = false := beq_eq_false_iff_ne.mpr c7
          have c7b1 : (a0 != 9) = true := bne_iff_ne.mpr c7
          (first | rw [c7b0] | (simp only [i64_w, i32_w]; rw [c7b0]) | skip)
          have H' := Aside0.mk H
          clear H
          go_wp2
          go_meet
          case rel => exact ⟨_, ((a0 == 10)), (by first | rfl | (simp; done) | (simp [*]; done)), H', ⟨by first | omega | exact Nat.le_refl _⟩, by repeat (first | exact Drawn0.refl _ | apply Drawn0.step)⟩
      case rest =>
        clear HC6
        try clear c1
        try clear c2
        try clear c2b0
        try clear c2b1
        try clear p2
        try clear c3
        try clear c4
        try clear c7
        try clear c7b0
        try clear c7b1
        obtain ⟨kq, x12_5, rfl, HA, HJ5, ⟨mc5, rfl⟩⟩ := hcut
        cases kq with
        | zero => exact absurd HA.out (by simp [stencilref01_Max.j0])
        | succ kj5 =>
          have H := HA.out
          clear HA
          simp only [stencilref01_Max.j0] at H
          by_cases c8 : x12_5 = true
          · subst c8
            have H1 : ((stencilref01_Size.f kj5 a0).bind fun t195 => ((stencilref01_bits.f kj5 (wrap64 (8 * t195))).bind fun t196 => (some t196))) = some r := by rw [if_pos rfl] at H; exact H
            clear H
            have H := H1
            clear H1
            replace H := Option.bind_eq_some_iff.mp H
            obtain ⟨t195, A90, H⟩ := H
            replace H : ((stencilref01_bits.f kj5 (wrap64 (8 * t195))).bind fun t196 => (some t196)) = some r := H
            have A9 := Aside0.mk A90
            clear A90
            replace H := Option.bind_eq_some_iff.mp H
            obtain ⟨t196, A100, H⟩ := H
            replace H : (some t196) = some r := H
            have A10 := Aside0.mk A100
            clear A100
            obtain rfl := Option.some.inj H
            go_wp2_with (first | ((with_reducible refine gate_callee (f := 13) rfl ?_); refine goesL_ (some 20) rfl rfl Tryd.func13 (by kernel_rfl) rfl #[.int .i64 a0] rfl (by (try simp only [List.map_toArray, List.map_cons, List.map_nil]); first | done | rfl | (simp only [List.length_drop, List.length_take]; rfl)) ?_; (with_reducible refine (stencilref01_Size.calls kj5 a0 t195 _ A9.out).mono ?_); rintro e w' ⟨rfl, ⟨nd, rfl⟩⟩; refine ⟨_, rfl, ?_⟩) | ((with_reducible refine gate_callee (f := 33) rfl ?_); refine goesL_ (some 22) rfl rfl Tryd.func33 (by kernel_rfl) rfl #[.int .i64 (wrap64 (8 * t195))] rfl (by (try simp only [List.map_toArray, List.map_cons, List.map_nil]); first | done | rfl | (simp only [List.length_drop, List.length_take]; rfl)) ?_; (with_reducible refine (stencilref01_bits.calls kj5 (wrap64 (8 * t195)) t196 _ A10.out).mono ?_); rintro e w' ⟨rfl, ⟨nd, rfl⟩⟩; refine ⟨_, rfl, ?_⟩))
            go_ret
            exact ⟨by first | rfl | (simp; done) | (simp [*]; done) | (refine congrArg (fun b_ => Ending.returned (Value.bool b_)) ?_; rw [Bool.eq_iff_iff]; simp; done), by repeat (first | exact Drawn0.refl _ | apply Drawn0.step)⟩
          · replace c8 := Bool.eq_false_iff.mpr c8
            subst c8
            have H1 : ((stencilref01_Size.f kj5 a0).bind fun t197 => (if t197 = 0 then (some 0) else ((stencilref01_Size.f kj5 a0).bind fun t198 => ((stencilref01_bits.f kj5 (wrap64 (8 * t198))).bind fun t199 => (some (IntKind.u64.wrap (t199 - 1))))))) = some r := by rw [if_neg (show ¬ (false = true) by decide)] at H; exact H
            clear H
            have H := H1
            clear H1
            replace H := Option.bind_eq_some_iff.mp H
            obtain ⟨t197, A110, H⟩ := H
            replace H : (if t197 = 0 then (some 0) else ((stencilref01_Size.f kj5 a0).bind fun t198 => ((stencilref01_bits.f kj5 (wrap64 (8 * t198))).bind fun t199 => (some (IntKind.u64.wrap (t199 - 1)))))) = some r := H
            have A11 := Aside0.mk A110
            clear A110
            by_cases c12 : t197 = 0
            · rw [if_pos c12] at H
              have c12b0 : (t197 == 0) = true := beq_iff_eq.mpr c12
              have c12b1 : (t197 != 0) = false := bne_eq_false_iff_eq.mpr c12
              clear c12
              obtain rfl := Option.some.inj H
              go_wp2_with (first | ((with_reducible refine gate_callee (f := 13) rfl ?_); refine goesL_ (some 25) rfl rfl Tryd.func13 (by kernel_rfl) rfl #[.int .i64 a0] rfl (by (try simp only [List.map_toArray, List.map_cons, List.map_nil]); first | done | rfl | (simp only [List.length_drop, List.length_take]; rfl)) ?_; (with_reducible refine (stencilref01_Size.calls kj5 a0 t197 _ A11.out).mono ?_); rintro e w' ⟨rfl, ⟨nd, rfl⟩⟩; refine ⟨_, rfl, ?_⟩))
              go_ret
              exact ⟨by first | rfl | (simp; done) | (simp [*]; done) | (refine congrArg (fun b_ => Ending.returned (Value.bool b_)) ?_; rw [Bool.eq_iff_iff]; simp; done), by repeat (first | exact Drawn0.refl _ | apply Drawn0.step)⟩
            · rw [if_neg c12] at H
              have c12b0 : (t197 == 0) = false := beq_eq_false_iff_ne.mpr c12
              have c12b1 : (t197 != 0) = true := bne_iff_ne.mpr c12
              replace H := Option.bind_eq_some_iff.mp H
              obtain ⟨t198, A130, H⟩ := H
              replace H : ((stencilref01_bits.f kj5 (wrap64 (8 * t198))).bind fun t199 => (some (IntKind.u64.wrap (t199 - 1)))) = some r := H
              have A13 := Aside0.mk A130
              clear A130
              replace H := Option.bind_eq_some_iff.mp H
              obtain ⟨t199, A140, H⟩ := H
              replace H : (some (IntKind.u64.wrap (t199 - 1))) = some r := H
              have A14 := Aside0.mk A140
              clear A140
              obtain rfl := Option.some.inj H
              go_wp2_with (first | ((with_reducible refine gate_callee (f := 13) rfl ?_); refine goesL_ (some 25) rfl rfl Tryd.func13 (by kernel_rfl) rfl #[.int .i64 a0] rfl (by (try simp only [List.map_toArray, List.map_cons, List.map_nil]); first | done | rfl | (simp only [List.length_drop, List.length_take]; rfl)) ?_; (with_reducible refine (stencilref01_Size.calls kj5 a0 t197 _ A11.out).mono ?_); rintro e w' ⟨rfl, ⟨nd, rfl⟩⟩; refine ⟨_, rfl, ?_⟩) | ((with_reducible refine gate_callee (f := 13) rfl ?_); refine goesL_ (some 28) rfl rfl Tryd.func13 (by kernel_rfl) rfl #[.int .i64 a0] rfl (by (try simp only [List.map_toArray, List.map_cons, List.map_nil]); first | done | rfl | (simp only [List.length_drop, List.length_take]; rfl)) ?_; (with_reducible refine (stencilref01_Size.calls kj5 a0 t198 _ A13.out).mono ?_); rintro e w' ⟨rfl, ⟨nd, rfl⟩⟩; refine ⟨_, rfl, ?_⟩) | ((with_reducible refine gate_callee (f := 33) rfl ?_); refine goesL_ (some 30) rfl rfl Tryd.func33 (by kernel_rfl) rfl #[.int .i64 (wrap64 (8 * t198))] rfl (by (try simp only [List.map_toArray, List.map_cons, List.map_nil]); first | done | rfl | (simp only [List.length_drop, List.length_take]; rfl)) ?_; (with_reducible refine (stencilref01_bits.calls kj5 (wrap64 (8 * t198)) t199 _ A14.out).mono ?_); rintro e w' ⟨rfl, ⟨nd, rfl⟩⟩; refine ⟨_, rfl, ?_⟩))
              go_ret
              exact ⟨by first | rfl | (simp; done) | (simp [*]; done) | (refine congrArg (fun b_ => Ending.returned (Value.bool b_)) ?_; rw [Bool.eq_iff_iff]; simp; done), by repeat (first | exact Drawn0.refl _ | apply Drawn0.step)⟩

/-! ### stencilref01_Fits: function 19 -/
def stencilref01_Fits.f (k : Nat) (a0 : Int) (a1 : Int) : Option (Bool) := (stencilref01_Size.f k a0).bind fun t200 => (if t200 = 0 then (some false) else ((stencilref01_Signed.f a0).bind fun t201 => (if t201 = true then ((stencilref01_high.f k a0).bind fun t202 => (if a1 < t202 then (some true) else ((stencilref01_Null.f k a0).bind fun t203 => (some (decide (a1 ≥ t203)))))) else ((stencilref01_Size.f k a0).bind fun t204 => ((stencilref01_bits.f k (wrap64 (8 * t204))).bind fun t205 => (some (decide (a1 ≤ t205))))))))
theorem stencilref01_Fits.mono : ∀ a0 a1 k, LeO (stencilref01_Fits.f k a0 a1) (stencilref01_Fits.f (k + 1) a0 a1) := by
  intro a0 a1 k
  unfold stencilref01_Fits.f
  repeat' first
      | (with_reducible exact stencilref01_Null.mono _ _)
      | (with_reducible exact stencilref01_Size.mono _ _)
      | (with_reducible exact stencilref01_bits.mono _ _)
      | (with_reducible exact stencilref01_high.mono _ _)
      | (with_reducible exact LeO.refl _)
      | (with_reducible exact LeO.none _)
      | (with_reducible refine LeO.ite ?_ ?_)
      | (with_reducible refine LeO.bind ?_ (fun _ => ?_))
      | exact stencilref01_Null.mono _ _
      | exact stencilref01_Size.mono _ _
      | exact stencilref01_bits.mono _ _
      | exact stencilref01_high.mono _ _
      | exact LeO.none _
      | refine LeO.ite ?_ ?_
      | refine LeO.bind ?_ (fun _ => ?_)
set_option maxHeartbeats 8000000 in
set_option maxRecDepth 100000 in
theorem stencilref01_Fits.calls (k : Nat) (a0 : Int) (a1 : Int) (r : Bool) (w : World) (h : stencilref01_Fits.f k a0 a1 = some r) :
    Calls Tryd.prog 19 #[.int .i64 a0, .int .u64 a1] w fun e w' => e = .returned (.bool r) ∧ Drawn0 w w' := by
  have H : ((stencilref01_Size.f k a0).bind fun t200 => (if t200 = 0 then (some false) else ((stencilref01_Signed.f a0).bind fun t201 => (if t201 = true then ((stencilref01_high.f k a0).bind fun t202 => (if a1 < t202 then (some true) else ((stencilref01_Null.f k a0).bind fun t203 => (some (decide (a1 ≥ t203)))))) else ((stencilref01_Size.f k a0).bind fun t204 => ((stencilref01_bits.f k (wrap64 (8 * t204))).bind fun t205 => (some (decide (a1 ≤ t205))))))))) = some r := h
  clear h
  replace H := Option.bind_eq_some_iff.mp H
  obtain ⟨t200, A30, H⟩ := H
  replace H : (if t200 = 0 then (some false) else ((stencilref01_Signed.f a0).bind fun t201 => (if t201 = true then ((stencilref01_high.f k a0).bind fun t202 => (if a1 < t202 then (some true) else ((stencilref01_Null.f k a0).bind fun t203 => (some (decide (a1 ≥ t203)))))) else ((stencilref01_Size.f k a0).bind fun t204 => ((stencilref01_bits.f k (wrap64 (8 * t204))).bind fun t205 => (some (decide (a1 ≤ t205)))))))) = some r := H
  have A3 := Aside0.mk A30
  clear A30
  by_cases c4 : t200 = 0
  · rw [if_pos c4] at H
    have c4b0 : (t200 == 0) = true := beq_iff_eq.mpr c4
    have c4b1 : (t200 != 0) = false := bne_eq_false_iff_eq.mpr c4
    clear c4
    obtain rfl := Option.some.inj H
    go_enter Tryd.func19, Tryd.ntmps19
    go_wp2_with (first | ((with_reducible refine gate_callee (f := 13) rfl ?_); refine goesL_ (some 6) rfl rfl Tryd.func13 (by kernel_rfl) rfl #[.int .i64 a0] rfl (by (try simp only [List.map_toArray, List.map_cons, List.map_nil]); first | done | rfl | (simp only [List.length_drop, List.length_take]; rfl)) ?_; (with_reducible refine (stencilref01_Size.calls k a0 t200 _ A3.out).mono ?_); rintro e w' ⟨rfl, ⟨nd, rfl⟩⟩; refine ⟨_, rfl, ?_⟩))
    go_ret
    exact ⟨by first | rfl | (simp; done) | (simp [*]; done) | (refine congrArg (fun b_ => Ending.returned (Value.bool b_)) ?_; rw [Bool.eq_iff_iff]; simp; done), by repeat (first | exact Drawn0.refl _ | apply Drawn0.step)⟩
  · rw [if_neg c4] at H
    have c4b0 : (t200 == 0) = false := beq_eq_false_iff_ne.mpr c4
    have c4b1 : (t200 != 0) = true := bne_iff_ne.mpr c4
    replace H := Option.bind_eq_some_iff.mp H
    obtain ⟨t201, A50, H⟩ := H
    replace H : (if t201 = true then ((stencilref01_high.f k a0).bind fun t202 => (if a1 < t202 then (some true) else ((stencilref01_Null.f k a0).bind fun t203 => (some (decide (a1 ≥ t203)))))) else ((stencilref01_Size.f k a0).bind fun t204 => ((stencilref01_bits.f k (wrap64 (8 * t204))).bind fun t205 => (some (decide (a1 ≤ t205)))))) = some r := H
    have A5 := Aside0.mk A50
    clear A50
    by_cases c6 : t201 = true
    · subst c6
      have H1 : ((stencilref01_high.f k a0).bind fun t202 => (if a1 < t202 then (some true) else ((stencilref01_Null.f k a0).bind fun t203 => (some (decide (a1 ≥ t203)))))) = some r := by rw [if_pos rfl] at H; exact H
      clear H
      have H := H1
      clear H1
      replace H := Option.bind_eq_some_iff.mp H
      obtain ⟨t202, A70, H⟩ := H
      replace H : (if a1 < t202 then (some true) else ((stencilref01_Null.f k a0).bind fun t203 => (some (decide (a1 ≥ t203))))) = some r := H
      have A7 := Aside0.mk A70
      clear A70
      by_cases c8 : a1 < t202
      · rw [if_pos c8] at H
        have c8b0 : decide (a1 < t202) = true := decide_eq_true c8
        clear c8
        obtain rfl := Option.some.inj H
        go_enter Tryd.func19, Tryd.ntmps19
        go_wp2_with (first | ((with_reducible refine gate_callee (f := 13) rfl ?_); refine goesL_ (some 6) rfl rfl Tryd.func13 (by kernel_rfl) rfl #[.int .i64 a0] rfl (by (try simp only [List.map_toArray, List.map_cons, List.map_nil]); first | done | rfl | (simp only [List.length_drop, List.length_take]; rfl)) ?_; (with_reducible refine (stencilref01_Size.calls k a0 t200 _ A3.out).mono ?_); rintro e w' ⟨rfl, ⟨nd, rfl⟩⟩; refine ⟨_, rfl, ?_⟩) | ((with_reducible refine gate_callee (f := 15) rfl ?_); refine goesL_ (some 9) rfl rfl Tryd.func15 (by kernel_rfl) rfl #[.int .i64 a0] rfl (by (try simp only [List.map_toArray, List.map_cons, List.map_nil]); first | done | rfl | (simp only [List.length_drop, List.length_take]; rfl)) ?_; (with_reducible refine (stencilref01_Signed.calls a0 true _ A5.out).mono ?_); rintro e w' ⟨rfl, ⟨nd, rfl⟩⟩; refine ⟨_, rfl, ?_⟩) | ((with_reducible refine gate_callee (f := 34) rfl ?_); refine goesL_ (some 12) rfl rfl Tryd.func34 (by kernel_rfl) rfl #[.int .i64 a0] rfl (by (try simp only [List.map_toArray, List.map_cons, List.map_nil]); first | done | rfl | (simp only [List.length_drop, List.length_take]; rfl)) ?_; (with_reducible refine (stencilref01_high.calls k a0 t202 _ A7.out).mono ?_); rintro e w' ⟨rfl, ⟨nd, rfl⟩⟩; refine ⟨_, rfl, ?_⟩))
        go_ret
        exact ⟨by first | rfl | (simp; done) | (simp [*]; done) | (refine congrArg (fun b_ => Ending.returned (Value.bool b_)) ?_; rw [Bool.eq_iff_iff]; simp; done), by repeat (first | exact Drawn0.refl _ | apply Drawn0.step)⟩
      · rw [if_neg c8] at H
        have c8b0 : decide (a1 < t202) = false := decide_eq_false c8
        clear c8
        replace H := Option.bind_eq_some_iff.mp H
        obtain ⟨t203, A90, H⟩ := H
        replace H : (some (decide (a1 ≥ t203))) = some r := H
        have A9 := Aside0.mk A90
        clear A90
        obtain rfl := Option.some.inj H
        go_enter Tryd.func19, Tryd.ntmps19
        go_wp2_with (first | ((with_reducible refine gate_callee (f := 13) rfl ?_); refine goesL_ (some 6) rfl rfl Tryd.func13 (by kernel_rfl) rfl #[.int .i64 a0] rfl (by (try simp only [List.map_toArray, List.map_cons, List.map_nil]); first | done | rfl | (simp only [List.length_drop, List.length_take]; rfl)) ?_; (with_reducible refine (stencilref01_Size.calls k a0 t200 _ A3.out).mono ?_); rintro e w' ⟨rfl, ⟨nd, rfl⟩⟩; refine ⟨_, rfl, ?_⟩) | ((with_reducible refine gate_callee (f := 15) rfl ?_); refine goesL_ (some 9) rfl rfl Tryd.func15 (by kernel_rfl) rfl #[.int .i64 a0] rfl (by (try simp only [List.map_toArray, List.map_cons, List.map_nil]); first | done | rfl | (simp only [List.length_drop, List.length_take]; rfl)) ?_; (with_reducible refine (stencilref01_Signed.calls a0 true _ A5.out).mono ?_); rintro e w' ⟨rfl, ⟨nd, rfl⟩⟩; refine ⟨_, rfl, ?_⟩) | ((with_reducible refine gate_callee (f := 34) rfl ?_); refine goesL_ (some 12) rfl rfl Tryd.func34 (by kernel_rfl) rfl #[.int .i64 a0] rfl (by (try simp only [List.map_toArray, List.map_cons, List.map_nil]); first | done | rfl | (simp only [List.length_drop, List.length_take]; rfl)) ?_; (with_reducible refine (stencilref01_high.calls k a0 t202 _ A7.out).mono ?_); rintro e w' ⟨rfl, ⟨nd, rfl⟩⟩; refine ⟨_, rfl, ?_⟩) | (go_at_call 16; (with_reducible refine (stencilref01_Null.calls k a0 t203 _ A9.out).mono ?_); rintro e w' ⟨rfl, ⟨nd, rfl⟩⟩))
        go_ret
        exact ⟨by first | rfl | (simp; done) | (simp [*]; done) | (refine congrArg (fun b_ => Ending.returned (Value.bool b_)) ?_; rw [Bool.eq_iff_iff]; simp; done), by repeat (first | exact Drawn0.refl _ | apply Drawn0.step)⟩
    · replace c6 := Bool.eq_false_iff.mpr c6
      subst c6
      have H1 : ((stencilref01_Size.f k a0).bind fun t204 => ((stencilref01_bits.f k (wrap64 (8 * t204))).bind fun t205 => (some (decide (a1 ≤ t205))))) = some r := by rw [if_neg (show ¬ (false = true) by decide)] at H; exact H
      clear H
      have H := H1
      clear H1
      replace H := Option.bind_eq_some_iff.mp H
      obtain ⟨t204, A100, H⟩ := H
      replace H : ((stencilref01_bits.f k (wrap64 (8 * t204))).bind fun t205 => (some (decide (a1 ≤ t205)))) = some r := H
      have A10 := Aside0.mk A100
      clear A100
      replace H := Option.bind_eq_some_iff.mp H
      obtain ⟨t205, A110, H⟩ := H
      replace H : (some (decide (a1 ≤ t205))) = some r := H
      have A11 := Aside0.mk A110
      clear A110
      obtain rfl := Option.some.inj H
      go_enter Tryd.func19, Tryd.ntmps19
      go_wp2_with (first | ((with_reducible refine gate_callee (f := 13) rfl ?_); refine goesL_ (some 6) rfl rfl Tryd.func13 (by kernel_rfl) rfl #[.int .i64 a0] rfl (by (try simp only [List.map_toArray, List.map_cons, List.map_nil]); first | done | rfl | (simp only [List.length_drop, List.length_take]; rfl)) ?_; (with_reducible refine (stencilref01_Size.calls k a0 t200 _ A3.out).mono ?_); rintro e w' ⟨rfl, ⟨nd, rfl⟩⟩; refine ⟨_, rfl, ?_⟩) | ((with_reducible refine gate_callee (f := 15) rfl ?_); refine goesL_ (some 9) rfl rfl Tryd.func15 (by kernel_rfl) rfl #[.int .i64 a0] rfl (by (try simp only [List.map_toArray, List.map_cons, List.map_nil]); first | done | rfl | (simp only [List.length_drop, List.length_take]; rfl)) ?_; (with_reducible refine (stencilref01_Signed.calls a0 false _ A5.out).mono ?_); rintro e w' ⟨rfl, ⟨nd, rfl⟩⟩; refine ⟨_, rfl, ?_⟩) | ((with_reducible refine gate_callee (f := 13) rfl ?_); refine goesL_ (some 22) rfl rfl Tryd.func13 (by kernel_rfl) rfl #[.int .i64 a0] rfl (by (try simp only [List.map_toArray, List.map_cons, List.map_nil]); first | done | rfl | (simp only [List.length_drop, List.length_take]; rfl)) ?_; (with_reducible refine (stencilref01_Size.calls k a0 t204 _ A10.out).mono ?_); rintro e w' ⟨rfl, ⟨nd, rfl⟩⟩; refine ⟨_, rfl, ?_⟩) | ((with_reducible refine gate_callee (f := 33) rfl ?_); refine goesL_ (some 24) rfl rfl Tryd.func33 (by kernel_rfl) rfl #[.int .i64 (wrap64 (8 * t204))] rfl (by (try simp only [List.map_toArray, List.map_cons, List.map_nil]); first | done | rfl | (simp only [List.length_drop, List.length_take]; rfl)) ?_; (with_reducible refine (stencilref01_bits.calls k (wrap64 (8 * t204)) t205 _ A11.out).mono ?_); rintro e w' ⟨rfl, ⟨nd, rfl⟩⟩; refine ⟨_, rfl, ?_⟩))
      go_ret
      exact ⟨by first | rfl | (simp; done) | (simp [*]; done) | (refine congrArg (fun b_ => Ending.returned (Value.bool b_)) ?_; rw [Bool.eq_iff_iff]; simp; done), by repeat (first | exact Drawn0.refl _ | apply Drawn0.step)⟩

/-! ### stencilref01_below: function 35 -/
def stencilref01_below.j0 : Nat → Int → Int → Int → Bool → Option (Bool)
  | 0, _, _, _, _ => none
  | k + 1, x1, x2, x7, x18 => if x18 = true then (if ((decide (x1 ≥ x7)) != (decide (x2 ≥ x7))) = true then (some (decide (x1 ≥ x7))) else (if x1 ≥ x7 then (some (decide (x1 > x2))) else (some (decide (x1 < x2))))) else (some (decide (x1 < x2)))
def stencilref01_below.f (k : Nat) (a0 : Int) (a1 : Int) (a2 : Int) : Option (Bool) := (stencilref01_high.f k a0).bind fun t206 => ((stencilref01_Signed.f a0).bind fun t207 => (if t207 = true then (some (decide ((wrap64 (a1)) < (wrap64 (a2))))) else (if a0 = 9 then (stencilref01_below.j0 k a1 a2 t206 true) else (stencilref01_below.j0 k a1 a2 t206 (a0 == 10)))))
theorem stencilref01_below.mono_l : ∀ k, (∀ y0 y1 y2 y3, LeO (stencilref01_below.j0 k y0 y1 y2 y3) (stencilref01_below.j0 (k + 1) y0 y1 y2 y3))
  | 0 => fun _ _ _ _ r h => by simp [stencilref01_below.j0] at h
  | k + 1 => by
    have ih0 := stencilref01_below.mono_l k
    · intro y0 y1 y2 y3
      unfold stencilref01_below.j0
      repeat' first
      | (with_reducible exact ih0 _ _ _ _)
      | (with_reducible exact stencilref01_high.mono _ _)
      | (with_reducible exact LeO.refl _)
      | (with_reducible exact LeO.none _)
      | (with_reducible refine LeO.ite ?_ ?_)
      | (with_reducible refine LeO.bind ?_ (fun _ => ?_))
      | exact ih0 _ _ _ _
      | exact stencilref01_high.mono _ _
      | exact LeO.none _
      | refine LeO.ite ?_ ?_
      | refine LeO.bind ?_ (fun _ => ?_)
theorem stencilref01_below.mono : ∀ a0 a1 a2 k, LeO (stencilref01_below.f k a0 a1 a2) (stencilref01_below.f (k + 1) a0 a1 a2) := by
  intro a0 a1 a2 k
  have ih0 := stencilref01_below.mono_l k
  unfold stencilref01_below.f
  repeat' first
      | (with_reducible exact ih0 _ _ _ _)
      | (with_reducible exact stencilref01_high.mono _ _)
      | (with_reducible exact LeO.refl _)
      | (with_reducible exact LeO.none _)
      | (with_reducible refine LeO.ite ?_ ?_)
      | (with_reducible refine LeO.bind ?_ (fun _ => ?_))
      | exact ih0 _ _ _ _
      | exact stencilref01_high.mono _ _
      | exact LeO.none _
      | refine LeO.ite ?_ ?_
      | refine LeO.bind ?_ (fun _ => ?_)
set_option maxHeartbeats 8000000 in
set_option maxRecDepth 100000 in
theorem stencilref01_below.calls (k : Nat) (a0 : Int) (a1 : Int) (a2 : Int) (r : Bool) (w : World) (h : stencilref01_below.f k a0 a1 a2 = some r) :
    Calls Tryd.prog 35 #[.int .i64 a0, .int .u64 a1, .int .u64 a2] w fun e w' => e = .returned (.bool r) ∧ Drawn0 w w' := by
  have H : ((stencilref01_high.f k a0).bind fun t206 => ((stencilref01_Signed.f a0).bind fun t207 => (if t207 = true then (some (decide ((wrap64 (a1)) < (wrap64 (a2))))) else (if a0 = 9 then (stencilref01_below.j0 k a1 a2 t206 true) else (stencilref01_below.j0 k a1 a2 t206 (a0 == 10)))))) = some r := h
  clear h
  replace H := Option.bind_eq_some_iff.mp H
  obtain ⟨t206, A40, H⟩ := H
  replace H : ((stencilref01_Signed.f a0).bind fun t207 => (if t207 = true then (some (decide ((wrap64 (a1)) < (wrap64 (a2))))) else (if a0 = 9 then (stencilref01_below.j0 k a1 a2 t206 true) else (stencilref01_below.j0 k a1 a2 t206 (a0 == 10))))) = some r := H
  have A4 := Aside0.mk A40
  clear A40
  replace H := Option.bind_eq_some_iff.mp H
  obtain ⟨t207, A50, H⟩ := H
  replace H : (if t207 = true then (some (decide ((wrap64 (a1)) < (wrap64 (a2))))) else (if a0 = 9 then (stencilref01_below.j0 k a1 a2 t206 true) else (stencilref01_below.j0 k a1 a2 t206 (a0 == 10)))) = some r := H
  have A5 := Aside0.mk A50
  clear A50
  by_cases c6 : t207 = true
  · subst c6
    have H1 : (some (decide ((wrap64 (a1)) < (wrap64 (a2))))) = some r := by rw [if_pos rfl] at H; exact H
    clear H
    have H := H1
    clear H1
    obtain rfl := Option.some.inj H
    go_enter Tryd.func35, Tryd.ntmps35
    go_wp2_with (first | ((with_reducible refine gate_callee (f := 34) rfl ?_); refine goesL_ (some 9) rfl rfl Tryd.func34 (by kernel_rfl) rfl #[.int .i64 a0] rfl (by (try simp only [List.map_toArray, List.map_cons, List.map_nil]); first | done | rfl | (simp only [List.length_drop, List.length_take]; rfl)) ?_; (with_reducible refine (stencilref01_high.calls k a0 t206 _ A4.out).mono ?_); rintro e w' ⟨rfl, ⟨nd, rfl⟩⟩; refine ⟨_, rfl, ?_⟩) | ((with_reducible refine gate_callee (f := 15) rfl ?_); refine goesL_ (some 12) rfl rfl Tryd.func15 (by kernel_rfl) rfl #[.int .i64 a0] rfl (by (try simp only [List.map_toArray, List.map_cons, List.map_nil]); first | done | rfl | (simp only [List.length_drop, List.length_take]; rfl)) ?_; (with_reducible refine (stencilref01_Signed.calls a0 true _ A5.out).mono ?_); rintro e w' ⟨rfl, ⟨nd, rfl⟩⟩; refine ⟨_, rfl, ?_⟩))
    go_ret
    exact ⟨by first | rfl | (simp; done) | (simp [*]; done) | (refine congrArg (fun b_ => Ending.returned (Value.bool b_)) ?_; rw [Bool.eq_iff_iff]; simp; done), by repeat (first | exact Drawn0.refl _ | apply Drawn0.step)⟩
  · replace c6 := Bool.eq_false_iff.mpr c6
    subst c6
    have H1 : (if a0 = 9 then (stencilref01_below.j0 k a1 a2 t206 true) else (stencilref01_below.j0 k a1 a2 t206 (a0 == 10))) = some r := by rw [if_neg (show ¬ (false = true) by decide)] at H; exact H
    clear H
    have H := H1
    clear H1
    have HC7 := Aside0.mk H
    clear H
    go_enter Tryd.func35, Tryd.ntmps35
    go_upto_region 4 with (first | ((with_reducible refine gate_callee (f := 34) rfl ?_); refine goesL_ (some 9) rfl rfl Tryd.func34 (by kernel_rfl) rfl #[.int .i64 a0] rfl (by (try simp only [List.map_toArray, List.map_cons, List.map_nil]); first | done | rfl | (simp only [List.length_drop, List.length_take]; rfl)) ?_; (with_reducible refine (stencilref01_high.calls k a0 t206 _ A4.out).mono ?_); rintro e w' ⟨rfl, ⟨nd, rfl⟩⟩; refine ⟨_, rfl, ?_⟩) | ((with_reducible refine gate_callee (f := 15) rfl ?_); refine goesL_ (some 12) rfl rfl Tryd.func15 (by kernel_rfl) rfl #[.int .i64 a0] rfl (by (try simp only [List.map_toArray, List.map_cons, List.map_nil]); first | done | rfl | (simp only [List.length_drop, List.length_take]; rfl)) ?_; (with_reducible refine (stencilref01_Signed.calls a0 false _ A5.out).mono ?_); rintro e w' ⟨rfl, ⟨nd, rfl⟩⟩; refine ⟨_, rfl, ?_⟩))
    (try simp only [Act.put, List.setIfInBounds_toArray, List.set_cons_zero, List.set_cons_succ])
    go_cut [18] (fun v18 wc => ∃ (kq : Nat) (x18_6 : Bool), v18 = .bool x18_6 ∧ Aside0 (stencilref01_below.j0 kq a1 a2 t206 x18_6 = some r) ∧ Aside0 (kq ≤ k) ∧ Drawn0 w wc)
    case first =>
      have H := HC7.out
      clear HC7
      by_cases c8 : a0 = 9
      · rw [if_pos c8] at H
        have c8b0 : (a0 == 9) = true := beq_iff_eq.mpr c8
        have c8b1 : (a0 != 9) = false := bne_eq_false_iff_eq.mpr c8
        clear c8
        (first | rw [c8b0] | (simp only [i64_w, i32_w]; rw [c8b0]) | skip)
        have H' := Aside0.mk H
        clear H
        go_wp2
        go_meet
        case rel => exact ⟨_, (true), (by first | rfl | (simp; done) | (simp [*]; done)), H', ⟨by first | omega | exact Nat.le_refl _⟩, by repeat (first | exact Drawn0.refl _ | apply Drawn0.step)⟩
      · rw [if_neg c8] at H
        have c8b0 : (a0 == 9) = false := beq_eq_false_iff_ne.mpr c8
        have c8b1 : (a0 != 9) = true := bne_iff_ne.mpr c8
        (first | rw [c8b0] | (simp only [i64_w, i32_w]; rw [c8b0]) | skip)
        have H' := Aside0.mk H
        clear H
        go_wp2
        go_meet
        case rel => exact ⟨_, ((a0 == 10)), (by first | rfl | (simp; done) | (simp [*]; done)), H', ⟨by first | omega | exact Nat.le_refl _⟩, by repeat (first | exact Drawn0.refl _ | apply Drawn0.step)⟩
    case rest =>
      clear HC7
      try clear c1
      try clear p2
      try clear c3
      try clear c6
      try clear p6
      try clear c8
      try clear c8b0
      try clear c8b1
      obtain ⟨kq, x18_6, rfl, HA, HJ6, ⟨mc6, rfl⟩⟩ := hcut
      cases kq with
      | zero => exact absurd HA.out (by simp [stencilref01_below.j0])
      | succ kj6 =>
        have H := HA.out
        clear HA
        simp only [stencilref01_below.j0] at H
        by_cases c9 : x18_6 = true
        · subst c9
          have H1 : (if ((decide (a1 ≥ t206)) != (decide (a2 ≥ t206))) = true then (some (decide (a1 ≥ t206))) else (if a1 ≥ t206 then (some (decide (a1 > a2))) else (some (decide (a1 < a2))))) = some r := by rw [if_pos rfl] at H; exact H
          clear H
          have H := H1
          clear H1
          by_cases c10 : ((decide (a1 ≥ t206)) != (decide (a2 ≥ t206))) = true
          · rw [if_pos c10] at H
            have c10b0 : ((decide (a1 ≥ t206)) != (decide (a2 ≥ t206))) = true := c10
            (try (have c10b1 : decide ((decide (a1 ≥ t206)) = (decide (a2 ≥ t206))) = false := by simpa using c10))
            (try (have c10b2 : ((decide (a1 ≥ t206)) == (decide (a2 ≥ t206))) = false := by simpa using c10))
            (try (have c10b3 : ¬ ((decide (a1 ≥ t206)) = (decide (a2 ≥ t206))) := by simpa using c10))
            clear c10
            obtain rfl := Option.some.inj H
            go_wp2
            go_ret
            exact ⟨by first | rfl | (simp; done) | (simp [*]; done) | (refine congrArg (fun b_ => Ending.returned (Value.bool b_)) ?_; rw [Bool.eq_iff_iff]; simp; done), by repeat (first | exact Drawn0.refl _ | apply Drawn0.step)⟩
          · rw [if_neg c10] at H
            have c10b0 : ((decide (a1 ≥ t206)) != (decide (a2 ≥ t206))) = false := by simpa using c10
            (try (have c10b1 : decide ((decide (a1 ≥ t206)) = (decide (a2 ≥ t206))) = true := by simpa using c10))
            (try (have c10b2 : ((decide (a1 ≥ t206)) == (decide (a2 ≥ t206))) = true := by simpa using c10))
            clear c10
            by_cases c11 : a1 ≥ t206
            · rw [if_pos c11] at H
              have c11b0 : decide (t206 ≤ a1) = true := decide_eq_true c11
              have c11c : decide (t206 ≤ a2) = true := (bne_eq_false_iff_eq.mp c10b0).symm.trans c11b0
              clear c11
              obtain rfl := Option.some.inj H
              go_wp2
              go_ret
              exact ⟨by first | rfl | (simp; done) | (simp [*]; done) | (refine congrArg (fun b_ => Ending.returned (Value.bool b_)) ?_; rw [Bool.eq_iff_iff]; simp; done), by repeat (first | exact Drawn0.refl _ | apply Drawn0.step)⟩
            · rw [if_neg c11] at H
              have c11b0 : decide (t206 ≤ a1) = false := decide_eq_false c11
              have c11c : decide (t206 ≤ a2) = false := (bne_eq_false_iff_eq.mp c10b0).symm.trans c11b0
              clear c11
              obtain rfl := Option.some.inj H
              go_wp2
              go_ret
              exact ⟨by first | rfl | (simp; done) | (simp [*]; done) | (refine congrArg (fun b_ => Ending.returned (Value.bool b_)) ?_; rw [Bool.eq_iff_iff]; simp; done), by repeat (first | exact Drawn0.refl _ | apply Drawn0.step)⟩
        · replace c9 := Bool.eq_false_iff.mpr c9
          subst c9
          have H1 : (some (decide (a1 < a2))) = some r := by rw [if_neg (show ¬ (false = true) by decide)] at H; exact H
          clear H
          have H := H1
          clear H1
          obtain rfl := Option.some.inj H
          go_wp2
          go_ret
          exact ⟨by first | rfl | (simp; done) | (simp [*]; done) | (refine congrArg (fun b_ => Ending.returned (Value.bool b_)) ?_; rw [Bool.eq_iff_iff]; simp; done), by repeat (first | exact Drawn0.refl _ | apply Drawn0.step)⟩

/-! ### stencilref01_Compare: function 20 -/
def stencilref01_Compare.j0 : Nat → Int → Int → Int → Bool → Option (Int)
  | 0, _, _, _, _ => none
  | k + 1, x0, x1, x2, x7 => if x7 = true then (some 0) else ((stencilref01_below.f k x0 x1 x2).bind fun t210 => (if t210 = true then (some (-1)) else (some 1)))
def stencilref01_Compare.f (k : Nat) (a0 : Int) (a1 : Int) (a2 : Int) : Option (Int) := (stencilref01_Fits.f k a0 a1).bind fun t208 => (if t208 = true then ((stencilref01_Fits.f k a0 a2).bind fun t209 => (if t209 = true then (stencilref01_Compare.j0 k a0 a1 a2 (a1 == a2)) else (stencilref01_Compare.j0 k a0 a1 a2 true))) else (stencilref01_Compare.j0 k a0 a1 a2 true))
theorem stencilref01_Compare.mono_l : ∀ k, (∀ y0 y1 y2 y3, LeO (stencilref01_Compare.j0 k y0 y1 y2 y3) (stencilref01_Compare.j0 (k + 1) y0 y1 y2 y3))
  | 0 => fun _ _ _ _ r h => by simp [stencilref01_Compare.j0] at h
  | k + 1 => by
    have ih0 := stencilref01_Compare.mono_l k
    · intro y0 y1 y2 y3
      unfold stencilref01_Compare.j0
      repeat' first
      | (with_reducible exact ih0 _ _ _ _)
      | (with_reducible exact stencilref01_Fits.mono _ _ _)
      | (with_reducible exact stencilref01_below.mono _ _ _ _)
      | (with_reducible exact LeO.refl _)
      | (with_reducible exact LeO.none _)
      | (with_reducible refine LeO.ite ?_ ?_)
      | (with_reducible refine LeO.bind ?_ (fun _ => ?_))
      | exact ih0 _ _ _ _
      | exact stencilref01_Fits.mono _ _ _
      | exact stencilref01_below.mono _ _ _ _
      | exact LeO.none _
      | refine LeO.ite ?_ ?_
      | refine LeO.bind ?_ (fun _ => ?_)
theorem stencilref01_Compare.mono : ∀ a0 a1 a2 k, LeO (stencilref01_Compare.f k a0 a1 a2) (stencilref01_Compare.f (k + 1) a0 a1 a2) := by
  intro a0 a1 a2 k
  have ih0 := stencilref01_Compare.mono_l k
  unfold stencilref01_Compare.f
  repeat' first
      | (with_reducible exact ih0 _ _ _ _)
      | (with_reducible exact stencilref01_Fits.mono _ _ _)
      | (with_reducible exact stencilref01_below.mono _ _ _ _)
      | (with_reducible exact LeO.refl _)
      | (with_reducible exact LeO.none _)
      | (with_reducible refine LeO.ite ?_ ?_)
      | (with_reducible refine LeO.bind ?_ (fun _ => ?_))
      | exact ih0 _ _ _ _
      | exact stencilref01_Fits.mono _ _ _
      | exact stencilref01_below.mono _ _ _ _
      | exact LeO.none _
      | refine LeO.ite ?_ ?_
      | refine LeO.bind ?_ (fun _ => ?_)
set_option maxHeartbeats 8000000 in
set_option maxRecDepth 100000 in
theorem stencilref01_Compare.calls (k : Nat) (a0 : Int) (a1 : Int) (a2 : Int) (r : Int) (w : World) (h : stencilref01_Compare.f k a0 a1 a2 = some r) :
    Calls Tryd.prog 20 #[.int .i64 a0, .int .u64 a1, .int .u64 a2] w fun e w' => e = .returned (.int .i64 r) ∧ Drawn0 w w' := by
  have H : ((stencilref01_Fits.f k a0 a1).bind fun t208 => (if t208 = true then ((stencilref01_Fits.f k a0 a2).bind fun t209 => (if t209 = true then (stencilref01_Compare.j0 k a0 a1 a2 (a1 == a2)) else (stencilref01_Compare.j0 k a0 a1 a2 true))) else (stencilref01_Compare.j0 k a0 a1 a2 true))) = some r := h
  clear h
  have HC4 := Aside0.mk H
  clear H
  go_enter Tryd.func20, Tryd.ntmps20
  go_upto_region 1 with (fail)
  go_cut [7] (fun v7 wc => ∃ (kq : Nat) (x7_3 : Bool), v7 = .bool x7_3 ∧ Aside0 (stencilref01_Compare.j0 kq a0 a1 a2 x7_3 = some r) ∧ Aside0 (kq ≤ k) ∧ Drawn0 w wc)
  case first =>
    have H := HC4.out
    clear HC4
    replace H := Option.bind_eq_some_iff.mp H
    obtain ⟨t208, A50, H⟩ := H
    replace H : (if t208 = true then ((stencilref01_Fits.f k a0 a2).bind fun t209 => (if t209 = true then (stencilref01_Compare.j0 k a0 a1 a2 (a1 == a2)) else (stencilref01_Compare.j0 k a0 a1 a2 true))) else (stencilref01_Compare.j0 k a0 a1 a2 true)) = some r := H
    have A5 := Aside0.mk A50
    clear A50
    by_cases c6 : t208 = true
    · subst c6
      have H1 : ((stencilref01_Fits.f k a0 a2).bind fun t209 => (if t209 = true then (stencilref01_Compare.j0 k a0 a1 a2 (a1 == a2)) else (stencilref01_Compare.j0 k a0 a1 a2 true))) = some r := by rw [if_pos rfl] at H; exact H
      clear H
      have H := H1
      clear H1
      replace H := Option.bind_eq_some_iff.mp H
      obtain ⟨t209, A70, H⟩ := H
      replace H : (if t209 = true then (stencilref01_Compare.j0 k a0 a1 a2 (a1 == a2)) else (stencilref01_Compare.j0 k a0 a1 a2 true)) = some r := H
      have A7 := Aside0.mk A70
      clear A70
      by_cases c8 : t209 = true
      · subst c8
        have H1 : (stencilref01_Compare.j0 k a0 a1 a2 (a1 == a2)) = some r := by rw [if_pos rfl] at H; exact H
        clear H
        have H := H1
        clear H1
        have H' := Aside0.mk H
        clear H
        go_wp2_with (first | ((with_reducible refine gate_callee (f := 19) rfl ?_); refine goesL_ (some 10) rfl rfl Tryd.func19 (by kernel_rfl) rfl #[.int .i64 a0, .int .u64 a1] rfl (by (try simp only [List.map_toArray, List.map_cons, List.map_nil]); first | done | rfl | (simp only [List.length_drop, List.length_take]; rfl)) ?_; (with_reducible refine (stencilref01_Fits.calls k a0 a1 true _ A5.out).mono ?_); rintro e w' ⟨rfl, ⟨nd, rfl⟩⟩; refine ⟨_, rfl, ?_⟩) | (go_at_call 19; (with_reducible refine (stencilref01_Fits.calls k a0 a2 true _ A7.out).mono ?_); rintro e w' ⟨rfl, ⟨nd, rfl⟩⟩))
        go_meet
        case rel => exact ⟨_, ((a1 == a2)), (by first | rfl | (simp; done) | (simp [*]; done)), H', ⟨by first | omega | exact Nat.le_refl _⟩, by repeat (first | exact Drawn0.refl _ | apply Drawn0.step)⟩
      · replace c8 := Bool.eq_false_iff.mpr c8
        subst c8
        have H1 : (stencilref01_Compare.j0 k a0 a1 a2 true) = some r := by rw [if_neg (show ¬ (false = true) by decide)] at H; exact H
        clear H
        have H := H1
        clear H1
        have H' := Aside0.mk H
        clear H
        go_wp2_with (first | ((with_reducible refine gate_callee (f := 19) rfl ?_); refine goesL_ (some 10) rfl rfl Tryd.func19 (by kernel_rfl) rfl #[.int .i64 a0, .int .u64 a1] rfl (by (try simp only [List.map_toArray, List.map_cons, List.map_nil]); first | done | rfl | (simp only [List.length_drop, List.length_take]; rfl)) ?_; (with_reducible refine (stencilref01_Fits.calls k a0 a1 true _ A5.out).mono ?_); rintro e w' ⟨rfl, ⟨nd, rfl⟩⟩; refine ⟨_, rfl, ?_⟩) | (go_at_call 19; (with_reducible refine (stencilref01_Fits.calls k a0 a2 false _ A7.out).mono ?_); rintro e w' ⟨rfl, ⟨nd, rfl⟩⟩))
        go_meet
        case rel => exact ⟨_, (true), (by first | rfl | (simp; done) | (simp [*]; done)), H', ⟨by first | omega | exact Nat.le_refl _⟩, by repeat (first | exact Drawn0.refl _ | apply Drawn0.step)⟩
    · replace c6 := Bool.eq_false_iff.mpr c6
      subst c6
      have H1 : (stencilref01_Compare.j0 k a0 a1 a2 true) = some r := by rw [if_neg (show ¬ (false = true) by decide)] at H; exact H
      clear H
      have H := H1
      clear H1
      have H' := Aside0.mk H
      clear H
      go_wp2_with (first | ((with_reducible refine gate_callee (f := 19) rfl ?_); refine goesL_ (some 10) rfl rfl Tryd.func19 (by kernel_rfl) rfl #[.int .i64 a0, .int .u64 a1] rfl (by (try simp only [List.map_toArray, List.map_cons, List.map_nil]); first | done | rfl | (simp only [List.length_drop, List.length_take]; rfl)) ?_; (with_reducible refine (stencilref01_Fits.calls k a0 a1 false _ A5.out).mono ?_); rintro e w' ⟨rfl, ⟨nd, rfl⟩⟩; refine ⟨_, rfl, ?_⟩))
      go_meet
      case rel => exact ⟨_, (true), (by first | rfl | (simp; done) | (simp [*]; done)), H', ⟨by first | omega | exact Nat.le_refl _⟩, by repeat (first | exact Drawn0.refl _ | apply Drawn0.step)⟩
  case rest =>
    clear HC4
    try clear c1
    try clear c2
    try clear p2
    try clear c6
    try clear c8
    obtain ⟨kq, x7_3, rfl, HA, HJ3, ⟨mc3, rfl⟩⟩ := hcut
    cases kq with
    | zero => exact absurd HA.out (by simp [stencilref01_Compare.j0])
    | succ kj3 =>
      have H := HA.out
      clear HA
      simp only [stencilref01_Compare.j0] at H
      by_cases c9 : x7_3 = true
      · subst c9
        have H1 : (some 0) = some r := by rw [if_pos rfl] at H; exact H
        clear H
        have H := H1
        clear H1
        obtain rfl := Option.some.inj H
        go_wp2
        go_ret
        exact ⟨by first | rfl | (simp; done) | (simp [*]; done) | (refine congrArg (fun b_ => Ending.returned (Value.bool b_)) ?_; rw [Bool.eq_iff_iff]; simp; done), by repeat (first | exact Drawn0.refl _ | apply Drawn0.step)⟩
      · replace c9 := Bool.eq_false_iff.mpr c9
        subst c9
        have H1 : ((stencilref01_below.f kj3 a0 a1 a2).bind fun t210 => (if t210 = true then (some (-1)) else (some 1))) = some r := by rw [if_neg (show ¬ (false = true) by decide)] at H; exact H
        clear H
        have H := H1
        clear H1
        replace H := Option.bind_eq_some_iff.mp H
        obtain ⟨t210, A100, H⟩ := H
        replace H : (if t210 = true then (some (-1)) else (some 1)) = some r := H
        have A10 := Aside0.mk A100
        clear A100
        by_cases c11 : t210 = true
        · subst c11
          have H1 : (some (-1)) = some r := by rw [if_pos rfl] at H; exact H
          clear H
          have H := H1
          clear H1
          obtain rfl := Option.some.inj H
          go_wp2_with (first | ((with_reducible refine gate_callee (f := 35) rfl ?_); refine goesL_ (some 27) rfl rfl Tryd.func35 (by kernel_rfl) rfl #[.int .i64 a0, .int .u64 a1, .int .u64 a2] rfl (by (try simp only [List.map_toArray, List.map_cons, List.map_nil]); first | done | rfl | (simp only [List.length_drop, List.length_take]; rfl)) ?_; (with_reducible refine (stencilref01_below.calls kj3 a0 a1 a2 true _ A10.out).mono ?_); rintro e w' ⟨rfl, ⟨nd, rfl⟩⟩; refine ⟨_, rfl, ?_⟩))
          go_ret
          exact ⟨by first | rfl | (simp; done) | (simp [*]; done) | (refine congrArg (fun b_ => Ending.returned (Value.bool b_)) ?_; rw [Bool.eq_iff_iff]; simp; done), by repeat (first | exact Drawn0.refl _ | apply Drawn0.step)⟩
        · replace c11 := Bool.eq_false_iff.mpr c11
          subst c11
          have H1 : (some 1) = some r := by rw [if_neg (show ¬ (false = true) by decide)] at H; exact H
          clear H
          have H := H1
          clear H1
          obtain rfl := Option.some.inj H
          go_wp2_with (first | ((with_reducible refine gate_callee (f := 35) rfl ?_); refine goesL_ (some 27) rfl rfl Tryd.func35 (by kernel_rfl) rfl #[.int .i64 a0, .int .u64 a1, .int .u64 a2] rfl (by (try simp only [List.map_toArray, List.map_cons, List.map_nil]); first | done | rfl | (simp only [List.length_drop, List.length_take]; rfl)) ?_; (with_reducible refine (stencilref01_below.calls kj3 a0 a1 a2 false _ A10.out).mono ?_); rintro e w' ⟨rfl, ⟨nd, rfl⟩⟩; refine ⟨_, rfl, ?_⟩))
          go_ret
          exact ⟨by first | rfl | (simp; done) | (simp [*]; done) | (refine congrArg (fun b_ => Ending.returned (Value.bool b_)) ?_; rw [Bool.eq_iff_iff]; simp; done), by repeat (first | exact Drawn0.refl _ | apply Drawn0.step)⟩

end Go.Proofs.YtgackepigegbkaaDoor.Q
