-- Made by a wrapper of this project over the kit's print.py, with contracts by hand beside it. Not trusted: Lean checks it.
import Derived.Test.YtgackepigegbkaaDoorBx0
import Derived.Test.YtgackepigegbkaaDoorBx3
namespace Go.Proofs.YtgackepigegbkaaDoor.B
open Go.RowKit Go.Proofs.YtgackepigegbkaaDoorW.PrintWords Go.Proofs.YtgackepigegbkaaDoorW.PrintLast Go.Proofs.YtgackepigegbkaaDoorW.PrintMore
attribute [local go_sem] max2_int min2_int max_two min_two max_three min_three max_four min_four   -- for this text's walks alone
set_option linter.unusedVariables false
set_option linter.unusedSimpArgs false

/-! ### stencilref01_Get: function 22 -/
mutual
def stencilref01_Get.j0 : Nat → List Int → Int → Int → Int → Int → Bool → Option (Int × Int)
  | 0, _, _, _, _, _, _ => none
  | k + 1, x0, x1, x2, x3, x10, x21 => if x21 = true then (some (0, 10)) else ((stencilref01_lies.f (x0.length : Int) x1 x10).bind fun t144 => (if t144 = true then (stencilref01_Get.l0 k x0 x1 x2 x3 x10 0 (wrap64 (x10 - 1))) else (some (0, 11))))
def stencilref01_Get.l0 : Nat → List Int → Int → Int → Int → Int → Int → Int → Option (Int × Int)
  | 0, _, _, _, _, _, _, _ => none
  | k + 1, x0, x1, x2, x3, x10, x11, x12 => if x12 ≥ 0 then ((stencilref01_place.f x1 x10 x12 x3).bind fun t145 => (if 0 ≤ t145 then (if t145 < (x0.length : Int) then (stencilref01_Get.l0 k x0 x1 x2 x3 x10 (IntKind.u64.wrap ((IntKind.u64.wrap (256 * x11)) + (IntKind.u64.wrap (rd x0 t145)))) (wrap64 (x12 - 1))) else (none)) else (none))) else ((stencilref01_Signed.f x2).bind fun t147 => (if t147 = true then ((stencilref01_high.f k x2).bind fun t148 => (stencilref01_Get.j2 k x10 x11 (decide (x11 ≥ t148)))) else (stencilref01_Get.j2 k x10 x11 false)))
def stencilref01_Get.j2 : Nat → Int → Int → Bool → Option (Int × Int)
  | 0, _, _, _ => none
  | k + 1, x10, x11, x53 => if x53 = true then ((stencilref01_bits.f k 64).bind fun t149 => ((stencilref01_bits.f k (wrap64 (8 * x10))).bind fun t150 => (some (IntKind.u64.wrap ((IntKind.u64.wrap (x11 + t149)) - t150), 0)))) else (some (x11, 0))
end
def stencilref01_Get.f (k : Nat) (l0 : List Int) (a1 : Int) (a2 : Int) (a3 : Int) : Option (Int × Int) := (stencilref01_Size.f k a2).bind fun t142 => (if t142 = 0 then (stencilref01_Get.j0 k l0 a1 a2 a3 t142 true) else ((stencilref01_order.f a3).bind fun t143 => (stencilref01_Get.j0 k l0 a1 a2 a3 t142 (!t143))))
theorem stencilref01_Get.mono_l : ∀ k, (∀ y0 y1 y2 y3 y4 y5, LeO (stencilref01_Get.j0 k y0 y1 y2 y3 y4 y5) (stencilref01_Get.j0 (k + 1) y0 y1 y2 y3 y4 y5)) ∧ (∀ y0 y1 y2 y3 y4 y5 y6, LeO (stencilref01_Get.l0 k y0 y1 y2 y3 y4 y5 y6) (stencilref01_Get.l0 (k + 1) y0 y1 y2 y3 y4 y5 y6)) ∧ (∀ y0 y1 y2, LeO (stencilref01_Get.j2 k y0 y1 y2) (stencilref01_Get.j2 (k + 1) y0 y1 y2))
  | 0 => ⟨fun _ _ _ _ _ _ r h => by simp [stencilref01_Get.j0] at h, fun _ _ _ _ _ _ _ r h => by simp [stencilref01_Get.l0] at h, fun _ _ _ r h => by simp [stencilref01_Get.j2] at h⟩
  | k + 1 => by
    obtain ⟨ih0, ih1, ih2⟩ := stencilref01_Get.mono_l k
    refine ⟨?_, ?_, ?_⟩
    · intro y0 y1 y2 y3 y4 y5
      unfold stencilref01_Get.j0
      repeat' first
      | (with_reducible exact ih0 _ _ _ _ _ _)
      | (with_reducible exact ih1 _ _ _ _ _ _ _)
      | (with_reducible exact ih2 _ _ _)
      | (with_reducible exact stencilref01_Size.mono _ _)
      | (with_reducible exact stencilref01_bits.mono _ _)
      | (with_reducible exact stencilref01_high.mono _ _)
      | (with_reducible exact LeO.refl _)
      | (with_reducible exact LeO.none _)
      | (with_reducible refine LeO.ite ?_ ?_)
      | (with_reducible refine LeO.bind ?_ (fun _ => ?_))
      | exact ih0 _ _ _ _ _ _
      | exact ih1 _ _ _ _ _ _ _
      | exact ih2 _ _ _
      | exact stencilref01_Size.mono _ _
      | exact stencilref01_bits.mono _ _
      | exact stencilref01_high.mono _ _
      | exact LeO.none _
      | refine LeO.ite ?_ ?_
      | refine LeO.bind ?_ (fun _ => ?_)
    · intro y0 y1 y2 y3 y4 y5 y6
      unfold stencilref01_Get.l0
      repeat' first
      | (with_reducible exact ih0 _ _ _ _ _ _)
      | (with_reducible exact ih1 _ _ _ _ _ _ _)
      | (with_reducible exact ih2 _ _ _)
      | (with_reducible exact stencilref01_Size.mono _ _)
      | (with_reducible exact stencilref01_bits.mono _ _)
      | (with_reducible exact stencilref01_high.mono _ _)
      | (with_reducible exact LeO.refl _)
      | (with_reducible exact LeO.none _)
      | (with_reducible refine LeO.ite ?_ ?_)
      | (with_reducible refine LeO.bind ?_ (fun _ => ?_))
      | exact ih0 _ _ _ _ _ _
      | exact ih1 _ _ _ _ _ _ _
      | exact ih2 _ _ _
      | exact stencilref01_Size.mono _ _
      | exact stencilref01_bits.mono _ _
      | exact stencilref01_high.mono _ _
      | exact LeO.none _
      | refine LeO.ite ?_ ?_
      | refine LeO.bind ?_ (fun _ => ?_)
    · intro y0 y1 y2
      unfold stencilref01_Get.j2
      repeat' first
      | (with_reducible exact ih0 _ _ _ _ _ _)
      | (with_reducible exact ih1 _ _ _ _ _ _ _)
      | (with_reducible exact ih2 _ _ _)
      | (with_reducible exact stencilref01_Size.mono _ _)
      | (with_reducible exact stencilref01_bits.mono _ _)
      | (with_reducible exact stencilref01_high.mono _ _)
      | (with_reducible exact LeO.refl _)
      | (with_reducible exact LeO.none _)
      | (with_reducible refine LeO.ite ?_ ?_)
      | (with_reducible refine LeO.bind ?_ (fun _ => ?_))
      | exact ih0 _ _ _ _ _ _
      | exact ih1 _ _ _ _ _ _ _
      | exact ih2 _ _ _
      | exact stencilref01_Size.mono _ _
      | exact stencilref01_bits.mono _ _
      | exact stencilref01_high.mono _ _
      | exact LeO.none _
      | refine LeO.ite ?_ ?_
      | refine LeO.bind ?_ (fun _ => ?_)
theorem stencilref01_Get.mono : ∀ a0 a1 a2 a3 k, LeO (stencilref01_Get.f k a0 a1 a2 a3) (stencilref01_Get.f (k + 1) a0 a1 a2 a3) := by
  intro a0 a1 a2 a3 k
  obtain ⟨ih0, ih1, ih2⟩ := stencilref01_Get.mono_l k
  unfold stencilref01_Get.f
  repeat' first
      | (with_reducible exact ih0 _ _ _ _ _ _)
      | (with_reducible exact ih1 _ _ _ _ _ _ _)
      | (with_reducible exact ih2 _ _ _)
      | (with_reducible exact stencilref01_Size.mono _ _)
      | (with_reducible exact stencilref01_bits.mono _ _)
      | (with_reducible exact stencilref01_high.mono _ _)
      | (with_reducible exact LeO.refl _)
      | (with_reducible exact LeO.none _)
      | (with_reducible refine LeO.ite ?_ ?_)
      | (with_reducible refine LeO.bind ?_ (fun _ => ?_))
      | exact ih0 _ _ _ _ _ _
      | exact ih1 _ _ _ _ _ _ _
      | exact ih2 _ _ _
      | exact stencilref01_Size.mono _ _
      | exact stencilref01_bits.mono _ _
      | exact stencilref01_high.mono _ _
      | exact LeO.none _
      | refine LeO.ite ?_ ?_
      | refine LeO.bind ?_ (fun _ => ?_)
set_option maxHeartbeats 8000000 in
set_option maxRecDepth 100000 in
theorem stencilref01_Get.calls (k : Nat) (A0 : Option Addr) (c0 : Nat) (l0 : List Int) (a1 : Int) (a2 : Int) (a3 : Int) (r1 : Int) (r2 : Int) (w : World) (hr0 : Kd.C (Kd.int .u8) w A0 l0.length l0) (hc0 : l0.length ≤ c0) (h : stencilref01_Get.f k l0 a1 a2 a3 = some (r1, r2)) :
    Calls Tryd.prog 22 #[.slice A0 l0.length c0, .int .i64 a1, .int .i64 a2, .int .i64 a3] w fun e w' => e = .returned (.tuple #[.int .u64 r1, .int .i64 r2]) ∧ Drawn0 w w' := by
  have HR0 := Aside0.mk hr0
  have HC0 := Aside0.mk hc0
  clear hr0 hc0
  have H : ((stencilref01_Size.f k a2).bind fun t142 => (if t142 = 0 then (stencilref01_Get.j0 k l0 a1 a2 a3 t142 true) else ((stencilref01_order.f a3).bind fun t143 => (stencilref01_Get.j0 k l0 a1 a2 a3 t142 (!t143))))) = some (r1, r2) := h
  clear h
  replace H := Option.bind_eq_some_iff.mp H
  obtain ⟨t142, A50, H⟩ := H
  replace H : (if t142 = 0 then (stencilref01_Get.j0 k l0 a1 a2 a3 t142 true) else ((stencilref01_order.f a3).bind fun t143 => (stencilref01_Get.j0 k l0 a1 a2 a3 t142 (!t143)))) = some (r1, r2) := H
  have A5 := Aside0.mk A50
  clear A50
  have HC6 := Aside0.mk H
  clear H
  go_enter Tryd.func22, Tryd.ntmps22
  go_upto_region 2 with (first | ((with_reducible refine gate_callee (f := 13) rfl ?_); refine goesL_ (some 14) rfl rfl Tryd.func13 (by kernel_rfl) rfl #[.int .i64 a2] rfl (by (try simp only [List.map_toArray, List.map_cons, List.map_nil]); first | done | rfl | (simp only [List.length_drop, List.length_take]; rfl)) ?_; (with_reducible refine (stencilref01_Size.calls k a2 t142 _ A5.out).mono ?_); rintro e w' ⟨rfl, ⟨nd, rfl⟩⟩; refine ⟨_, rfl, ?_⟩))
  (try simp only [Act.put, List.setIfInBounds_toArray, List.set_cons_zero, List.set_cons_succ])
  go_cut [21] (fun v21 wc => ∃ (kq : Nat) (x21_5 : Bool), v21 = .bool x21_5 ∧ Aside0 (stencilref01_Get.j0 kq l0 a1 a2 a3 t142 x21_5 = some (r1, r2)) ∧ Aside0 (kq ≤ k) ∧ Drawn0 w wc)
  case first =>
    have H := HC6.out
    clear HC6
    by_cases c7 : t142 = 0
    · rw [if_pos c7] at H
      have c7b0 : (t142 == 0) = true := beq_iff_eq.mpr c7
      have c7b1 : (t142 != 0) = false := bne_eq_false_iff_eq.mpr c7
      clear c7
      (first | rw [c7b0] | (simp only [i64_w, i32_w]; rw [c7b0]) | skip)
      have H' := Aside0.mk H
      clear H
      go_wp2
      go_meet
      case rel => exact ⟨_, (true), (by first | rfl | (simp; done) | (simp [*]; done)), H', ⟨by first | omega | exact Nat.le_refl _⟩, by repeat (first | exact Drawn0.refl _ | apply Drawn0.step)⟩
    · rw [if_neg c7] at H
      have c7b0 : (t142 == 0) = false := beq_eq_false_iff_ne.mpr c7
      have c7b1 : (t142 != 0) = true := bne_iff_ne.mpr c7
      (first | rw [c7b0] | (simp only [i64_w, i32_w]; rw [c7b0]) | skip)
      replace H := Option.bind_eq_some_iff.mp H
      obtain ⟨t143, A80, H⟩ := H
      replace H : (stencilref01_Get.j0 k l0 a1 a2 a3 t142 (!t143)) = some (r1, r2) := H
      have A8 := Aside0.mk A80
      clear A80
      have H' := Aside0.mk H
      clear H
      go_wp2_with (first | (go_at_call 39; (with_reducible refine (stencilref01_order.calls a3 t143 _ A8.out).mono ?_); rintro e w' ⟨rfl, ⟨nd, rfl⟩⟩))
      go_meet
      case rel => exact ⟨_, (!t143), (by first | rfl | (simp; done) | (simp [*]; done)), H', ⟨by first | omega | exact Nat.le_refl _⟩, by repeat (first | exact Drawn0.refl _ | apply Drawn0.step)⟩
  case rest =>
    clear HC6
    try clear c1
    try clear c2
    try clear p2
    try clear c7
    try clear c7b0
    try clear c7b1
    obtain ⟨kq, x21_5, rfl, HA, HJ5, ⟨mc5, rfl⟩⟩ := hcut
    cases kq with
    | zero => exact absurd HA.out (by simp [stencilref01_Get.j0])
    | succ kj5 =>
      have H := HA.out
      clear HA
      simp only [stencilref01_Get.j0] at H
      by_cases c9 : x21_5 = true
      · subst c9
        have H1 : (some (0, 10)) = some (r1, r2) := by rw [if_pos rfl] at H; exact H
        clear H
        have H := H1
        clear H1
        simp only [Option.some.injEq, Prod.mk.injEq] at H
        obtain ⟨rfl, rfl⟩ := H
        go_wp2
        go_ret2
        exact ⟨by first | rfl | (simp; done) | (simp [*]; done) | (refine congrArg (fun b_ => Ending.returned (Value.bool b_)) ?_; rw [Bool.eq_iff_iff]; simp; done), by repeat (first | exact Drawn0.refl _ | apply Drawn0.step)⟩
      · replace c9 := Bool.eq_false_iff.mpr c9
        subst c9
        have H1 : ((stencilref01_lies.f (l0.length : Int) a1 t142).bind fun t144 => (if t144 = true then (stencilref01_Get.l0 kj5 l0 a1 a2 a3 t142 0 (wrap64 (t142 - 1))) else (some (0, 11)))) = some (r1, r2) := by rw [if_neg (show ¬ (false = true) by decide)] at H; exact H
        clear H
        have H := H1
        clear H1
        replace H := Option.bind_eq_some_iff.mp H
        obtain ⟨t144, A100, H⟩ := H
        replace H : (if t144 = true then (stencilref01_Get.l0 kj5 l0 a1 a2 a3 t142 0 (wrap64 (t142 - 1))) else (some (0, 11))) = some (r1, r2) := H
        have A10 := Aside0.mk A100
        clear A100
        by_cases c11 : t144 = true
        · subst c11
          have H1 : (stencilref01_Get.l0 kj5 l0 a1 a2 a3 t142 0 (wrap64 (t142 - 1))) = some (r1, r2) := by rw [if_pos rfl] at H; exact H
          clear H
          have H := H1
          clear H1
          have H' := Aside0.mk H
          clear H
          go_wp2_with (first | ((with_reducible refine gate_callee (f := 40) rfl ?_); refine goesL_ (some 26) rfl rfl Tryd.func40 (by kernel_rfl) rfl #[.int .i64 (l0.length : Int), .int .i64 a1, .int .i64 t142] rfl (by (try simp only [List.map_toArray, List.map_cons, List.map_nil]); first | done | rfl | (simp only [List.length_drop, List.length_take]; rfl)) ?_; (with_reducible refine (stencilref01_lies.calls (l0.length : Int) a1 t142 true _ A10.out).mono ?_); rintro e w' ⟨rfl, ⟨nd, rfl⟩⟩; refine ⟨_, rfl, ?_⟩))
          go_loopg [11, 12] kj5 (fun kq v11 v12 w' => ∃ (x11_2 : Int) (x12_2 : Int), v11 = .int .u64 x11_2 ∧ v12 = .int .i64 x12_2 ∧ Aside0 (stencilref01_Get.l0 kq l0 a1 a2 a3 t142 x11_2 x12_2 = some (r1, r2)) ∧ Aside0 (kq ≤ kj5) ∧ Drawn0 w w')
          case atStart => exact ⟨(0), (wrap64 (t142 - 1)), (by first | rfl | (simp; done) | (simp [*]; done)), (by first | rfl | (simp; done) | (simp [*]; done)), H', ⟨Nat.le_refl _⟩, by repeat (first | exact Drawn0.refl _ | apply Drawn0.step)⟩
          case round =>
            clear H'
            try clear c1
            try clear c2
            try clear p2
            try clear c4
            try clear c5
            try clear p6
            try clear c7
            try clear c7b0
            try clear c7b1
            try clear c9
            try clear c11
            try clear p2
            obtain ⟨x11_2, x12_2, rfl, rfl, HA, HK2, ⟨m2, rfl⟩⟩ := hrel
            cases gk with
            | zero => exact absurd HA.out (by simp [stencilref01_Get.l0])
            | succ k2 =>
              have H := HA.out
              clear HA
              simp only [stencilref01_Get.l0] at H
              by_cases c12 : x12_2 ≥ 0
              · rw [if_pos c12] at H
                have c12b0 : decide (0 ≤ x12_2) = true := decide_eq_true c12
                clear c12
                replace H := Option.bind_eq_some_iff.mp H
                obtain ⟨t145, A130, H⟩ := H
                replace H : (if 0 ≤ t145 then (if t145 < (l0.length : Int) then (stencilref01_Get.l0 k2 l0 a1 a2 a3 t142 (IntKind.u64.wrap ((IntKind.u64.wrap (256 * x11_2)) + (IntKind.u64.wrap (rd l0 t145)))) (wrap64 (x12_2 - 1))) else (none)) else (none)) = some (r1, r2) := H
                have A13 := Aside0.mk A130
                clear A130
                by_cases c14 : 0 ≤ t145
                · rw [if_pos c14] at H
                  have c14b0 : decide (0 ≤ t145) = true := decide_eq_true c14
                  clear c14
                  by_cases c15 : t145 < (l0.length : Int)
                  · rw [if_pos c15] at H
                    have c15b0 : decide (t145 < (l0.length : Int)) = true := decide_eq_true c15
                    clear c15
                    have H' := Aside0.mk H
                    clear H
                    go_wp2_with (first | ((with_reducible refine gate_callee (f := 41) rfl ?_); refine goesL_ (some 41) rfl rfl Tryd.func41 (by kernel_rfl) rfl #[.int .i64 a1, .int .i64 t142, .int .i64 x12_2, .int .i64 a3] rfl (by (try simp only [List.map_toArray, List.map_cons, List.map_nil]); first | done | rfl | (simp only [List.length_drop, List.length_take]; rfl)) ?_; (with_reducible refine (stencilref01_place.calls a1 t142 x12_2 a3 t145 _ A13.out).mono ?_); rintro e w' ⟨rfl, ⟨nd, rfl⟩⟩; refine ⟨_, rfl, ?_⟩; have p146 : 0 ≤ (t145 : Int) := of_decide_eq_true (by first | (with_reducible assumption) | assumption); have q146 : t145 < (l0.length : Int) := of_decide_eq_true (by first | (with_reducible assumption) | assumption); obtain ⟨ad146, e146, hx146_0⟩ := Kd.at_int HR0.out t145 p146 q146; cases e146; replace p146 := eq_true p146; replace q146 := eq_true q146))
                    go_roundg k2
                    case measure => have := HJ5.out; have := HK2.out; omega
                    case rel => exact ⟨(IntKind.u64.wrap ((IntKind.u64.wrap (256 * x11_2)) + (IntKind.u64.wrap (rd l0 t145)))), (wrap64 (x12_2 - 1)), (by first | rfl | (simp; done) | (simp [*]; done)), (by first | rfl | (simp; done) | (simp [*]; done)), H', ⟨by have := HJ5.out; have := HK2.out; omega⟩, by repeat (first | exact Drawn0.refl _ | apply Drawn0.step)⟩
                  · rw [if_neg c15] at H
                    exact absurd H (by simp)
                · rw [if_neg c14] at H
                  exact absurd H (by simp)
              · rw [if_neg c12] at H
                have c12b0 : decide (0 ≤ x12_2) = false := decide_eq_false c12
                clear c12
                have HC16 := Aside0.mk H
                clear H
                go_upto_region 11 with (fail)
                go_cut [53] (fun v53 wc => ∃ (kq : Nat) (x53_15 : Bool), v53 = .bool x53_15 ∧ Aside0 (stencilref01_Get.j2 kq t142 x11_2 x53_15 = some (r1, r2)) ∧ Aside0 (kq ≤ k2) ∧ Drawn0 w wc)
                case first =>
                  have H := HC16.out
                  clear HC16
                  replace H := Option.bind_eq_some_iff.mp H
                  obtain ⟨t147, A170, H⟩ := H
                  replace H : (if t147 = true then ((stencilref01_high.f k2 a2).bind fun t148 => (stencilref01_Get.j2 k2 t142 x11_2 (decide (x11_2 ≥ t148)))) else (stencilref01_Get.j2 k2 t142 x11_2 false)) = some (r1, r2) := H
                  have A17 := Aside0.mk A170
                  clear A170
                  by_cases c18 : t147 = true
                  · subst c18
                    have H1 : ((stencilref01_high.f k2 a2).bind fun t148 => (stencilref01_Get.j2 k2 t142 x11_2 (decide (x11_2 ≥ t148)))) = some (r1, r2) := by rw [if_pos rfl] at H; exact H
                    clear H
                    have H := H1
                    clear H1
                    replace H := Option.bind_eq_some_iff.mp H
                    obtain ⟨t148, A190, H⟩ := H
                    replace H : (stencilref01_Get.j2 k2 t142 x11_2 (decide (x11_2 ≥ t148))) = some (r1, r2) := H
                    have A19 := Aside0.mk A190
                    clear A190
                    have H' := Aside0.mk H
                    clear H
                    go_wp2_with (first | ((with_reducible refine gate_callee (f := 15) rfl ?_); refine goesL_ (some 47) rfl rfl Tryd.func15 (by kernel_rfl) rfl #[.int .i64 a2] rfl (by (try simp only [List.map_toArray, List.map_cons, List.map_nil]); first | done | rfl | (simp only [List.length_drop, List.length_take]; rfl)) ?_; (with_reducible refine (stencilref01_Signed.calls a2 true _ A17.out).mono ?_); rintro e w' ⟨rfl, ⟨nd, rfl⟩⟩; refine ⟨_, rfl, ?_⟩) | (go_at_call 34; (with_reducible refine (stencilref01_high.calls k2 a2 t148 _ A19.out).mono ?_); rintro e w' ⟨rfl, ⟨nd, rfl⟩⟩))
                    go_meet
                    case rel => exact ⟨_, (decide (x11_2 ≥ t148)), (by first | rfl | (simp; done) | (simp [*]; done)), H', ⟨by have := HJ5.out; have := HK2.out; first | omega | exact Nat.le_refl _⟩, by repeat (first | exact Drawn0.refl _ | apply Drawn0.step)⟩
                  · replace c18 := Bool.eq_false_iff.mpr c18
                    subst c18
                    have H1 : (stencilref01_Get.j2 k2 t142 x11_2 false) = some (r1, r2) := by rw [if_neg (show ¬ (false = true) by decide)] at H; exact H
                    clear H
                    have H := H1
                    clear H1
                    have H' := Aside0.mk H
                    clear H
                    go_wp2_with (first | ((with_reducible refine gate_callee (f := 15) rfl ?_); refine goesL_ (some 47) rfl rfl Tryd.func15 (by kernel_rfl) rfl #[.int .i64 a2] rfl (by (try simp only [List.map_toArray, List.map_cons, List.map_nil]); first | done | rfl | (simp only [List.length_drop, List.length_take]; rfl)) ?_; (with_reducible refine (stencilref01_Signed.calls a2 false _ A17.out).mono ?_); rintro e w' ⟨rfl, ⟨nd, rfl⟩⟩; refine ⟨_, rfl, ?_⟩))
                    go_meet
                    case rel => exact ⟨_, (false), (by first | rfl | (simp; done) | (simp [*]; done)), H', ⟨by have := HJ5.out; have := HK2.out; first | omega | exact Nat.le_refl _⟩, by repeat (first | exact Drawn0.refl _ | apply Drawn0.step)⟩
                case rest =>
                  clear HC16
                  try clear c1
                  try clear p1
                  try clear q1
                  try clear hx1
                  try clear c2
                  try clear p2
                  try clear c4
                  try clear c5
                  try clear p6
                  try clear c7
                  try clear c7b0
                  try clear c7b1
                  try clear c9
                  try clear c11
                  try clear c12
                  try clear c12b0
                  try clear c13
                  try clear c14
                  try clear c14b0
                  try clear p14
                  try clear q14
                  try clear hx14
                  try clear c15
                  try clear c15b0
                  try clear c18
                  try clear hx146_0
                  try clear p146
                  try clear p2
                  try clear p6
                  try clear q146
                  obtain ⟨kq, x53_15, rfl, HA, HJ15, ⟨mc15, rfl⟩⟩ := hcut
                  cases kq with
                  | zero => exact absurd HA.out (by simp [stencilref01_Get.j2])
                  | succ kj15 =>
                    have H := HA.out
                    clear HA
                    simp only [stencilref01_Get.j2] at H
                    by_cases c20 : x53_15 = true
                    · subst c20
                      have H1 : ((stencilref01_bits.f kj15 64).bind fun t149 => ((stencilref01_bits.f kj15 (wrap64 (8 * t142))).bind fun t150 => (some (IntKind.u64.wrap ((IntKind.u64.wrap (x11_2 + t149)) - t150), 0)))) = some (r1, r2) := by rw [if_pos rfl] at H; exact H
                      clear H
                      have H := H1
                      clear H1
                      replace H := Option.bind_eq_some_iff.mp H
                      obtain ⟨t149, A210, H⟩ := H
                      replace H : ((stencilref01_bits.f kj15 (wrap64 (8 * t142))).bind fun t150 => (some (IntKind.u64.wrap ((IntKind.u64.wrap (x11_2 + t149)) - t150), 0))) = some (r1, r2) := H
                      have A21 := Aside0.mk A210
                      clear A210
                      replace H := Option.bind_eq_some_iff.mp H
                      obtain ⟨t150, A220, H⟩ := H
                      replace H : (some (IntKind.u64.wrap ((IntKind.u64.wrap (x11_2 + t149)) - t150), 0)) = some (r1, r2) := H
                      have A22 := Aside0.mk A220
                      clear A220
                      simp only [Option.some.injEq, Prod.mk.injEq] at H
                      obtain ⟨rfl, rfl⟩ := H
                      go_wp2_with (first | ((with_reducible refine gate_callee (f := 33) rfl ?_); refine goesL_ (some 55) rfl rfl Tryd.func33 (by kernel_rfl) rfl #[.int .i64 64] rfl (by (try simp only [List.map_toArray, List.map_cons, List.map_nil]); first | done | rfl | (simp only [List.length_drop, List.length_take]; rfl)) ?_; (with_reducible refine (stencilref01_bits.calls kj15 64 t149 _ A21.out).mono ?_); rintro e w' ⟨rfl, ⟨nd, rfl⟩⟩; refine ⟨_, rfl, ?_⟩) | ((with_reducible refine gate_callee (f := 33) rfl ?_); refine goesL_ (some 59) rfl rfl Tryd.func33 (by kernel_rfl) rfl #[.int .i64 (wrap64 (8 * t142))] rfl (by (try simp only [List.map_toArray, List.map_cons, List.map_nil]); first | done | rfl | (simp only [List.length_drop, List.length_take]; rfl)) ?_; (with_reducible refine (stencilref01_bits.calls kj15 (wrap64 (8 * t142)) t150 _ A22.out).mono ?_); rintro e w' ⟨rfl, ⟨nd, rfl⟩⟩; refine ⟨_, rfl, ?_⟩))
                      go_ret2
                      exact ⟨by first | rfl | (simp; done) | (simp [*]; done) | (refine congrArg (fun b_ => Ending.returned (Value.bool b_)) ?_; rw [Bool.eq_iff_iff]; simp; done), by repeat (first | exact Drawn0.refl _ | apply Drawn0.step)⟩
                    · replace c20 := Bool.eq_false_iff.mpr c20
                      subst c20
                      have H1 : (some (x11_2, 0)) = some (r1, r2) := by rw [if_neg (show ¬ (false = true) by decide)] at H; exact H
                      clear H
                      have H := H1
                      clear H1
                      simp only [Option.some.injEq, Prod.mk.injEq] at H
                      obtain ⟨rfl, rfl⟩ := H
                      go_wp2
                      go_ret2
                      exact ⟨by first | rfl | (simp; done) | (simp [*]; done) | (refine congrArg (fun b_ => Ending.returned (Value.bool b_)) ?_; rw [Bool.eq_iff_iff]; simp; done), by repeat (first | exact Drawn0.refl _ | apply Drawn0.step)⟩
        · replace c11 := Bool.eq_false_iff.mpr c11
          subst c11
          have H1 : (some (0, 11)) = some (r1, r2) := by rw [if_neg (show ¬ (false = true) by decide)] at H; exact H
          clear H
          have H := H1
          clear H1
          simp only [Option.some.injEq, Prod.mk.injEq] at H
          obtain ⟨rfl, rfl⟩ := H
          go_wp2_with (first | ((with_reducible refine gate_callee (f := 40) rfl ?_); refine goesL_ (some 26) rfl rfl Tryd.func40 (by kernel_rfl) rfl #[.int .i64 (l0.length : Int), .int .i64 a1, .int .i64 t142] rfl (by (try simp only [List.map_toArray, List.map_cons, List.map_nil]); first | done | rfl | (simp only [List.length_drop, List.length_take]; rfl)) ?_; (with_reducible refine (stencilref01_lies.calls (l0.length : Int) a1 t142 false _ A10.out).mono ?_); rintro e w' ⟨rfl, ⟨nd, rfl⟩⟩; refine ⟨_, rfl, ?_⟩))
          go_ret2
          exact ⟨by first | rfl | (simp; done) | (simp [*]; done) | (refine congrArg (fun b_ => Ending.returned (Value.bool b_)) ?_; rw [Bool.eq_iff_iff]; simp; done), by repeat (first | exact Drawn0.refl _ | apply Drawn0.step)⟩

-- NOT PRINTED: function 23 (prim_GetChars)

-- NOT PRINTED: function 24 (stencilref01_GetChars)

/-! ### stencilref01_Null: function 16 -/
def stencilref01_Null.j0 : Nat → Int → Bool → Option (Int)
  | 0, _, _ => none
  | k + 1, x0, x3 => if x3 = true then (some 0) else (if x0 = 9 then (some 2143289344) else (if x0 = 10 then (some 9221120237041090560) else ((stencilref01_Signed.f x0).bind fun t152 => (if t152 = true then ((stencilref01_bits.f k 64).bind fun t153 => ((stencilref01_high.f k x0).bind fun t154 => (some (IntKind.u64.wrap ((IntKind.u64.wrap (t153 - t154)) + 1))))) else ((stencilref01_Size.f k x0).bind fun t155 => ((stencilref01_bits.f k (wrap64 (8 * t155))).bind fun t156 => (some t156)))))))
def stencilref01_Null.f (k : Nat) (a0 : Int) : Option (Int) := (stencilref01_Size.f k a0).bind fun t151 => (if t151 = 0 then (stencilref01_Null.j0 k a0 true) else (stencilref01_Null.j0 k a0 (a0 == 0)))
theorem stencilref01_Null.mono_l : ∀ k, (∀ y0 y1, LeO (stencilref01_Null.j0 k y0 y1) (stencilref01_Null.j0 (k + 1) y0 y1))
  | 0 => fun _ _ r h => by simp [stencilref01_Null.j0] at h
  | k + 1 => by
    have ih0 := stencilref01_Null.mono_l k
    · intro y0 y1
      unfold stencilref01_Null.j0
      repeat' first
      | (with_reducible exact ih0 _ _)
      | (with_reducible exact stencilref01_Size.mono _ _)
      | (with_reducible exact stencilref01_bits.mono _ _)
      | (with_reducible exact stencilref01_high.mono _ _)
      | (with_reducible exact LeO.refl _)
      | (with_reducible exact LeO.none _)
      | (with_reducible refine LeO.ite ?_ ?_)
      | (with_reducible refine LeO.bind ?_ (fun _ => ?_))
      | exact ih0 _ _
      | exact stencilref01_Size.mono _ _
      | exact stencilref01_bits.mono _ _
      | exact stencilref01_high.mono _ _
      | exact LeO.none _
      | refine LeO.ite ?_ ?_
      | refine LeO.bind ?_ (fun _ => ?_)
theorem stencilref01_Null.mono : ∀ a0 k, LeO (stencilref01_Null.f k a0) (stencilref01_Null.f (k + 1) a0) := by
  intro a0 k
  have ih0 := stencilref01_Null.mono_l k
  unfold stencilref01_Null.f
  repeat' first
      | (with_reducible exact ih0 _ _)
      | (with_reducible exact stencilref01_Size.mono _ _)
      | (with_reducible exact stencilref01_bits.mono _ _)
      | (with_reducible exact stencilref01_high.mono _ _)
      | (with_reducible exact LeO.refl _)
      | (with_reducible exact LeO.none _)
      | (with_reducible refine LeO.ite ?_ ?_)
      | (with_reducible refine LeO.bind ?_ (fun _ => ?_))
      | exact ih0 _ _
      | exact stencilref01_Size.mono _ _
      | exact stencilref01_bits.mono _ _
      | exact stencilref01_high.mono _ _
      | exact LeO.none _
      | refine LeO.ite ?_ ?_
      | refine LeO.bind ?_ (fun _ => ?_)
set_option maxHeartbeats 8000000 in
set_option maxRecDepth 100000 in
theorem stencilref01_Null.calls (k : Nat) (a0 : Int) (r : Int) (w : World) (h : stencilref01_Null.f k a0 = some r) :
    Calls Tryd.prog 16 #[.int .i64 a0] w fun e w' => e = .returned (.int .u64 r) ∧ Drawn0 w w' := by
  have H : ((stencilref01_Size.f k a0).bind fun t151 => (if t151 = 0 then (stencilref01_Null.j0 k a0 true) else (stencilref01_Null.j0 k a0 (a0 == 0)))) = some r := h
  clear h
  have HC2 := Aside0.mk H
  clear H
  go_enter Tryd.func16, Tryd.ntmps16
  go_upto_region 1 with (fail)
  go_cut [3] (fun v3 wc => ∃ (kq : Nat) (x3_1 : Bool), v3 = .bool x3_1 ∧ Aside0 (stencilref01_Null.j0 kq a0 x3_1 = some r) ∧ Aside0 (kq ≤ k) ∧ Drawn0 w wc)
  case first =>
    have H := HC2.out
    clear HC2
    replace H := Option.bind_eq_some_iff.mp H
    obtain ⟨t151, A30, H⟩ := H
    replace H : (if t151 = 0 then (stencilref01_Null.j0 k a0 true) else (stencilref01_Null.j0 k a0 (a0 == 0))) = some r := H
    have A3 := Aside0.mk A30
    clear A30
    by_cases c4 : t151 = 0
    · rw [if_pos c4] at H
      have c4b0 : (t151 == 0) = true := beq_iff_eq.mpr c4
      have c4b1 : (t151 != 0) = false := bne_eq_false_iff_eq.mpr c4
      clear c4
      (first | rw [c4b0] | (simp only [i64_w, i32_w]; rw [c4b0]) | skip)
      have H' := Aside0.mk H
      clear H
      go_wp2_with (first | ((with_reducible refine gate_callee (f := 13) rfl ?_); refine goesL_ (some 5) rfl rfl Tryd.func13 (by kernel_rfl) rfl #[.int .i64 a0] rfl (by (try simp only [List.map_toArray, List.map_cons, List.map_nil]); first | done | rfl | (simp only [List.length_drop, List.length_take]; rfl)) ?_; (with_reducible refine (stencilref01_Size.calls k a0 t151 _ A3.out).mono ?_); rintro e w' ⟨rfl, ⟨nd, rfl⟩⟩; refine ⟨_, rfl, ?_⟩))
      go_meet
      case rel => exact ⟨_, (true), (by first | rfl | (simp; done) | (simp [*]; done)), H', ⟨by first | omega | exact Nat.le_refl _⟩, by repeat (first | exact Drawn0.refl _ | apply Drawn0.step)⟩
    · rw [if_neg c4] at H
      have c4b0 : (t151 == 0) = false := beq_eq_false_iff_ne.mpr c4
      have c4b1 : (t151 != 0) = true := bne_iff_ne.mpr c4
      (first | rw [c4b0] | (simp only [i64_w, i32_w]; rw [c4b0]) | skip)
      have H' := Aside0.mk H
      clear H
      go_wp2_with (first | ((with_reducible refine gate_callee (f := 13) rfl ?_); refine goesL_ (some 5) rfl rfl Tryd.func13 (by kernel_rfl) rfl #[.int .i64 a0] rfl (by (try simp only [List.map_toArray, List.map_cons, List.map_nil]); first | done | rfl | (simp only [List.length_drop, List.length_take]; rfl)) ?_; (with_reducible refine (stencilref01_Size.calls k a0 t151 _ A3.out).mono ?_); rintro e w' ⟨rfl, ⟨nd, rfl⟩⟩; refine ⟨_, rfl, ?_⟩))
      go_meet
      case rel => exact ⟨_, ((a0 == 0)), (by first | rfl | (simp; done) | (simp [*]; done)), H', ⟨by first | omega | exact Nat.le_refl _⟩, by repeat (first | exact Drawn0.refl _ | apply Drawn0.step)⟩
  case rest =>
    clear HC2
    try clear c1
    try clear p2
    try clear c4
    try clear c4b0
    try clear c4b1
    obtain ⟨kq, x3_1, rfl, HA, HJ1, ⟨mc1, rfl⟩⟩ := hcut
    cases kq with
    | zero => exact absurd HA.out (by simp [stencilref01_Null.j0])
    | succ kj1 =>
      have H := HA.out
      clear HA
      simp only [stencilref01_Null.j0] at H
      by_cases c5 : x3_1 = true
      · subst c5
        have H1 : (some 0) = some r := by rw [if_pos rfl] at H; exact H
        clear H
        have H := H1
        clear H1
        obtain rfl := Option.some.inj H
        go_wp2
        go_ret
        exact ⟨by first | rfl | (simp; done) | (simp [*]; done) | (refine congrArg (fun b_ => Ending.returned (Value.bool b_)) ?_; rw [Bool.eq_iff_iff]; simp; done), by repeat (first | exact Drawn0.refl _ | apply Drawn0.step)⟩
      · replace c5 := Bool.eq_false_iff.mpr c5
        subst c5
        have H1 : (if a0 = 9 then (some 2143289344) else (if a0 = 10 then (some 9221120237041090560) else ((stencilref01_Signed.f a0).bind fun t152 => (if t152 = true then ((stencilref01_bits.f kj1 64).bind fun t153 => ((stencilref01_high.f kj1 a0).bind fun t154 => (some (IntKind.u64.wrap ((IntKind.u64.wrap (t153 - t154)) + 1))))) else ((stencilref01_Size.f kj1 a0).bind fun t155 => ((stencilref01_bits.f kj1 (wrap64 (8 * t155))).bind fun t156 => (some t156))))))) = some r := by rw [if_neg (show ¬ (false = true) by decide)] at H; exact H
        clear H
        have H := H1
        clear H1
        by_cases c6 : a0 = 9
        · rw [if_pos c6] at H
          have c6b0 : (a0 == 9) = true := beq_iff_eq.mpr c6
          have c6b1 : (a0 != 9) = false := bne_eq_false_iff_eq.mpr c6
          clear c6
          obtain rfl := Option.some.inj H
          go_wp2
          go_ret
          exact ⟨by first | rfl | (simp; done) | (simp [*]; done) | (refine congrArg (fun b_ => Ending.returned (Value.bool b_)) ?_; rw [Bool.eq_iff_iff]; simp; done), by repeat (first | exact Drawn0.refl _ | apply Drawn0.step)⟩
        · rw [if_neg c6] at H
          have c6b0 : (a0 == 9) = false := beq_eq_false_iff_ne.mpr c6
          have c6b1 : (a0 != 9) = true := bne_iff_ne.mpr c6
          by_cases c7 : a0 = 10
          · rw [if_pos c7] at H
            have c7b0 : (a0 == 10) = true := beq_iff_eq.mpr c7
            have c7b1 : (a0 != 10) = false := bne_eq_false_iff_eq.mpr c7
            clear c7
            obtain rfl := Option.some.inj H
            go_wp2
            go_ret
            exact ⟨by first | rfl | (simp; done) | (simp [*]; done) | (refine congrArg (fun b_ => Ending.returned (Value.bool b_)) ?_; rw [Bool.eq_iff_iff]; simp; done), by repeat (first | exact Drawn0.refl _ | apply Drawn0.step)⟩
          · rw [if_neg c7] at H
            have c7b0 : (a0 == 10) = false := beq_eq_false_iff_ne.mpr c7
            have c7b1 : (a0 != 10) = true := bne_iff_ne.mpr c7
            replace H := Option.bind_eq_some_iff.mp H
            obtain ⟨t152, A80, H⟩ := H
            replace H : (if t152 = true then ((stencilref01_bits.f kj1 64).bind fun t153 => ((stencilref01_high.f kj1 a0).bind fun t154 => (some (IntKind.u64.wrap ((IntKind.u64.wrap (t153 - t154)) + 1))))) else ((stencilref01_Size.f kj1 a0).bind fun t155 => ((stencilref01_bits.f kj1 (wrap64 (8 * t155))).bind fun t156 => (some t156)))) = some r := H
            have A8 := Aside0.mk A80
            clear A80
            by_cases c9 : t152 = true
            · subst c9
              have H1 : ((stencilref01_bits.f kj1 64).bind fun t153 => ((stencilref01_high.f kj1 a0).bind fun t154 => (some (IntKind.u64.wrap ((IntKind.u64.wrap (t153 - t154)) + 1))))) = some r := by rw [if_pos rfl] at H; exact H
              clear H
              have H := H1
              clear H1
              replace H := Option.bind_eq_some_iff.mp H
              obtain ⟨t153, A100, H⟩ := H
              replace H : ((stencilref01_high.f kj1 a0).bind fun t154 => (some (IntKind.u64.wrap ((IntKind.u64.wrap (t153 - t154)) + 1)))) = some r := H
              have A10 := Aside0.mk A100
              clear A100
              replace H := Option.bind_eq_some_iff.mp H
              obtain ⟨t154, A110, H⟩ := H
              replace H : (some (IntKind.u64.wrap ((IntKind.u64.wrap (t153 - t154)) + 1))) = some r := H
              have A11 := Aside0.mk A110
              clear A110
              obtain rfl := Option.some.inj H
              go_wp2_with (first | ((with_reducible refine gate_callee (f := 15) rfl ?_); refine goesL_ (some 19) rfl rfl Tryd.func15 (by kernel_rfl) rfl #[.int .i64 a0] rfl (by (try simp only [List.map_toArray, List.map_cons, List.map_nil]); first | done | rfl | (simp only [List.length_drop, List.length_take]; rfl)) ?_; (with_reducible refine (stencilref01_Signed.calls a0 true _ A8.out).mono ?_); rintro e w' ⟨rfl, ⟨nd, rfl⟩⟩; refine ⟨_, rfl, ?_⟩) | ((with_reducible refine gate_callee (f := 33) rfl ?_); refine goesL_ (some 20) rfl rfl Tryd.func33 (by kernel_rfl) rfl #[.int .i64 64] rfl (by (try simp only [List.map_toArray, List.map_cons, List.map_nil]); first | done | rfl | (simp only [List.length_drop, List.length_take]; rfl)) ?_; (with_reducible refine (stencilref01_bits.calls kj1 64 t153 _ A10.out).mono ?_); rintro e w' ⟨rfl, ⟨nd, rfl⟩⟩; refine ⟨_, rfl, ?_⟩) | ((with_reducible refine gate_callee (f := 34) rfl ?_); refine goesL_ (some 22) rfl rfl Tryd.func34 (by kernel_rfl) rfl #[.int .i64 a0] rfl (by (try simp only [List.map_toArray, List.map_cons, List.map_nil]); first | done | rfl | (simp only [List.length_drop, List.length_take]; rfl)) ?_; (with_reducible refine (stencilref01_high.calls kj1 a0 t154 _ A11.out).mono ?_); rintro e w' ⟨rfl, ⟨nd, rfl⟩⟩; refine ⟨_, rfl, ?_⟩))
              go_ret
              exact ⟨by first | rfl | (simp; done) | (simp [*]; done) | (refine congrArg (fun b_ => Ending.returned (Value.bool b_)) ?_; rw [Bool.eq_iff_iff]; simp; done), by repeat (first | exact Drawn0.refl _ | apply Drawn0.step)⟩
            · replace c9 := Bool.eq_false_iff.mpr c9
              subst c9
              have H1 : ((stencilref01_Size.f kj1 a0).bind fun t155 => ((stencilref01_bits.f kj1 (wrap64 (8 * t155))).bind fun t156 => (some t156))) = some r := by rw [if_neg (show ¬ (false = true) by decide)] at H; exact H
              clear H
              have H := H1
              clear H1
              replace H := Option.bind_eq_some_iff.mp H
              obtain ⟨t155, A120, H⟩ := H
              replace H : ((stencilref01_bits.f kj1 (wrap64 (8 * t155))).bind fun t156 => (some t156)) = some r := H
              have A12 := Aside0.mk A120
              clear A120
              replace H := Option.bind_eq_some_iff.mp H
              obtain ⟨t156, A130, H⟩ := H
              replace H : (some t156) = some r := H
              have A13 := Aside0.mk A130
              clear A130
              obtain rfl := Option.some.inj H
              go_wp2_with (first | ((with_reducible refine gate_callee (f := 15) rfl ?_); refine goesL_ (some 19) rfl rfl Tryd.func15 (by kernel_rfl) rfl #[.int .i64 a0] rfl (by (try simp only [List.map_toArray, List.map_cons, List.map_nil]); first | done | rfl | (simp only [List.length_drop, List.length_take]; rfl)) ?_; (with_reducible refine (stencilref01_Signed.calls a0 false _ A8.out).mono ?_); rintro e w' ⟨rfl, ⟨nd, rfl⟩⟩; refine ⟨_, rfl, ?_⟩) | ((with_reducible refine gate_callee (f := 13) rfl ?_); refine goesL_ (some 26) rfl rfl Tryd.func13 (by kernel_rfl) rfl #[.int .i64 a0] rfl (by (try simp only [List.map_toArray, List.map_cons, List.map_nil]); first | done | rfl | (simp only [List.length_drop, List.length_take]; rfl)) ?_; (with_reducible refine (stencilref01_Size.calls kj1 a0 t155 _ A12.out).mono ?_); rintro e w' ⟨rfl, ⟨nd, rfl⟩⟩; refine ⟨_, rfl, ?_⟩) | ((with_reducible refine gate_callee (f := 33) rfl ?_); refine goesL_ (some 28) rfl rfl Tryd.func33 (by kernel_rfl) rfl #[.int .i64 (wrap64 (8 * t155))] rfl (by (try simp only [List.map_toArray, List.map_cons, List.map_nil]); first | done | rfl | (simp only [List.length_drop, List.length_take]; rfl)) ?_; (with_reducible refine (stencilref01_bits.calls kj1 (wrap64 (8 * t155)) t156 _ A13.out).mono ?_); rintro e w' ⟨rfl, ⟨nd, rfl⟩⟩; refine ⟨_, rfl, ?_⟩))
              go_ret
              exact ⟨by first | rfl | (simp; done) | (simp [*]; done) | (refine congrArg (fun b_ => Ending.returned (Value.bool b_)) ?_; rw [Bool.eq_iff_iff]; simp; done), by repeat (first | exact Drawn0.refl _ | apply Drawn0.step)⟩

/-! ### stencilref01_Fits: function 19 -/
def stencilref01_Fits.f (k : Nat) (a0 : Int) (a1 : Int) : Option (Bool) := (stencilref01_Size.f k a0).bind fun t157 => (if t157 = 0 then (some false) else ((stencilref01_Signed.f a0).bind fun t158 => (if t158 = true then ((stencilref01_high.f k a0).bind fun t159 => (if a1 < t159 then (some true) else ((stencilref01_Null.f k a0).bind fun t160 => (some (decide (a1 ≥ t160)))))) else ((stencilref01_Size.f k a0).bind fun t161 => ((stencilref01_bits.f k (wrap64 (8 * t161))).bind fun t162 => (some (decide (a1 ≤ t162))))))))
theorem stencilref01_Fits.mono : ∀ a0 a1 k, LeO (stencilref01_Fits.f k a0 a1) (stencilref01_Fits.f (k + 1) a0 a1) := by
  intro a0 a1 k
  unfold stencilref01_Fits.f
  repeat' first
      | (with_reducible exact stencilref01_Null.mono _ _)
      | (with_reducible exact stencilref01_Size.mono _ _)
      | (with_reducible exact stencilref01_bits.mono _ _)
      | (with_reducible exact stencilref01_high.mono _ _)
      | (with_reducible exact LeO.refl _)
      | (with_reducible exact LeO.none _)
      | (with_reducible refine LeO.ite ?_ ?_)
      | (with_reducible refine LeO.bind ?_ (fun _ => ?_))
      | exact stencilref01_Null.mono _ _
      | exact stencilref01_Size.mono _ _
      | exact stencilref01_bits.mono _ _
      | exact stencilref01_high.mono _ _
      | exact LeO.none _
      | refine LeO.ite ?_ ?_
      | refine LeO.bind ?_ (fun _ => ?_)
set_option maxHeartbeats 8000000 in
set_option maxRecDepth 100000 in
theorem stencilref01_Fits.calls (k : Nat) (a0 : Int) (a1 : Int) (r : Bool) (w : World) (h : stencilref01_Fits.f k a0 a1 = some r) :
    Calls Tryd.prog 19 #[.int .i64 a0, .int .u64 a1] w fun e w' => e = .returned (.bool r) ∧ Drawn0 w w' := by
  have H : ((stencilref01_Size.f k a0).bind fun t157 => (if t157 = 0 then (some false) else ((stencilref01_Signed.f a0).bind fun t158 => (if t158 = true then ((stencilref01_high.f k a0).bind fun t159 => (if a1 < t159 then (some true) else ((stencilref01_Null.f k a0).bind fun t160 => (some (decide (a1 ≥ t160)))))) else ((stencilref01_Size.f k a0).bind fun t161 => ((stencilref01_bits.f k (wrap64 (8 * t161))).bind fun t162 => (some (decide (a1 ≤ t162))))))))) = some r := h
  clear h
  replace H := Option.bind_eq_some_iff.mp H
  obtain ⟨t157, A30, H⟩ := H
  replace H : (if t157 = 0 then (some false) else ((stencilref01_Signed.f a0).bind fun t158 => (if t158 = true then ((stencilref01_high.f k a0).bind fun t159 => (if a1 < t159 then (some true) else ((stencilref01_Null.f k a0).bind fun t160 => (some (decide (a1 ≥ t160)))))) else ((stencilref01_Size.f k a0).bind fun t161 => ((stencilref01_bits.f k (wrap64 (8 * t161))).bind fun t162 => (some (decide (a1 ≤ t162)))))))) = some r := H
  have A3 := Aside0.mk A30
  clear A30
  by_cases c4 : t157 = 0
  · rw [if_pos c4] at H
    have c4b0 : (t157 == 0) = true := beq_iff_eq.mpr c4
    have c4b1 : (t157 != 0) = false := bne_eq_false_iff_eq.mpr c4
    clear c4
    obtain rfl := Option.some.inj H
    go_enter Tryd.func19, Tryd.ntmps19
    go_wp2_with (first | ((with_reducible refine gate_callee (f := 13) rfl ?_); refine goesL_ (some 6) rfl rfl Tryd.func13 (by kernel_rfl) rfl #[.int .i64 a0] rfl (by (try simp only [List.map_toArray, List.map_cons, List.map_nil]); first | done | rfl | (simp only [List.length_drop, List.length_take]; rfl)) ?_; (with_reducible refine (stencilref01_Size.calls k a0 t157 _ A3.out).mono ?_); rintro e w' ⟨rfl, ⟨nd, rfl⟩⟩; refine ⟨_, rfl, ?_⟩))
    go_ret
    exact ⟨by first | rfl | (simp; done) | (simp [*]; done) | (refine congrArg (fun b_ => Ending.returned (Value.bool b_)) ?_; rw [Bool.eq_iff_iff]; simp; done), by repeat (first | exact Drawn0.refl _ | apply Drawn0.step)⟩
  · rw [if_neg c4] at H
    have c4b0 : (t157 == 0) = false := beq_eq_false_iff_ne.mpr c4
    have c4b1 : (t157 != 0) = true := bne_iff_ne.mpr c4
    replace H := Option.bind_eq_some_iff.mp H
    obtain ⟨t158, A50, H⟩ := H
    replace H : (if t158 = true then ((stencilref01_high.f k a0).bind fun t159 => (if a1 < t159 then (some true) else ((stencilref01_Null.f k a0).bind fun t160 => (some (decide (a1 ≥ t160)))))) else ((stencilref01_Size.f k a0).bind fun t161 => ((stencilref01_bits.f k (wrap64 (8 * t161))).bind fun t162 => (some (decide (a1 ≤ t162)))))) = some r := H
    have A5 := Aside0.mk A50
    clear A50
    by_cases c6 : t158 = true
    · subst c6
      have H1 : ((stencilref01_high.f k a0).bind fun t159 => (if a1 < t159 then (some true) else ((stencilref01_Null.f k a0).bind fun t160 => (some (decide (a1 ≥ t160)))))) = some r := by rw [if_pos rfl] at H; exact H
      clear H
      have H := H1
      clear H1
      replace H := Option.bind_eq_some_iff.mp H
      obtain ⟨t159, A70, H⟩ := H
      replace H : (if a1 < t159 then (some true) else ((stencilref01_Null.f k a0).bind fun t160 => (some (decide (a1 ≥ t160))))) = some r := H
      have A7 := Aside0.mk A70
      clear A70
      by_cases c8 : a1 < t159
      · rw [if_pos c8] at H
        have c8b0 : decide (a1 < t159) = true := decide_eq_true c8
        clear c8
        obtain rfl := Option.some.inj H
        go_enter Tryd.func19, Tryd.ntmps19
        go_wp2_with (first | ((with_reducible refine gate_callee (f := 13) rfl ?_); refine goesL_ (some 6) rfl rfl Tryd.func13 (by kernel_rfl) rfl #[.int .i64 a0] rfl (by (try simp only [List.map_toArray, List.map_cons, List.map_nil]); first | done | rfl | (simp only [List.length_drop, List.length_take]; rfl)) ?_; (with_reducible refine (stencilref01_Size.calls k a0 t157 _ A3.out).mono ?_); rintro e w' ⟨rfl, ⟨nd, rfl⟩⟩; refine ⟨_, rfl, ?_⟩) | ((with_reducible refine gate_callee (f := 15) rfl ?_); refine goesL_ (some 9) rfl rfl Tryd.func15 (by kernel_rfl) rfl #[.int .i64 a0] rfl (by (try simp only [List.map_toArray, List.map_cons, List.map_nil]); first | done | rfl | (simp only [List.length_drop, List.length_take]; rfl)) ?_; (with_reducible refine (stencilref01_Signed.calls a0 true _ A5.out).mono ?_); rintro e w' ⟨rfl, ⟨nd, rfl⟩⟩; refine ⟨_, rfl, ?_⟩) | ((with_reducible refine gate_callee (f := 34) rfl ?_); refine goesL_ (some 12) rfl rfl Tryd.func34 (by kernel_rfl) rfl #[.int .i64 a0] rfl (by (try simp only [List.map_toArray, List.map_cons, List.map_nil]); first | done | rfl | (simp only [List.length_drop, List.length_take]; rfl)) ?_; (with_reducible refine (stencilref01_high.calls k a0 t159 _ A7.out).mono ?_); rintro e w' ⟨rfl, ⟨nd, rfl⟩⟩; refine ⟨_, rfl, ?_⟩))
        go_ret
        exact ⟨by first | rfl | (simp; done) | (simp [*]; done) | (refine congrArg (fun b_ => Ending.returned (Value.bool b_)) ?_; rw [Bool.eq_iff_iff]; simp; done), by repeat (first | exact Drawn0.refl _ | apply Drawn0.step)⟩
      · rw [if_neg c8] at H
        have c8b0 : decide (a1 < t159) = false := decide_eq_false c8
        clear c8
        replace H := Option.bind_eq_some_iff.mp H
        obtain ⟨t160, A90, H⟩ := H
        replace H : (some (decide (a1 ≥ t160))) = some r := H
        have A9 := Aside0.mk A90
        clear A90
        obtain rfl := Option.some.inj H
        go_enter Tryd.func19, Tryd.ntmps19
        go_wp2_with (first | ((with_reducible refine gate_callee (f := 13) rfl ?_); refine goesL_ (some 6) rfl rfl Tryd.func13 (by kernel_rfl) rfl #[.int .i64 a0] rfl (by (try simp only [List.map_toArray, List.map_cons, List.map_nil]); first | done | rfl | (simp only [List.length_drop, List.length_take]; rfl)) ?_; (with_reducible refine (stencilref01_Size.calls k a0 t157 _ A3.out).mono ?_); rintro e w' ⟨rfl, ⟨nd, rfl⟩⟩; refine ⟨_, rfl, ?_⟩) | ((with_reducible refine gate_callee (f := 15) rfl ?_); refine goesL_ (some 9) rfl rfl Tryd.func15 (by kernel_rfl) rfl #[.int .i64 a0] rfl (by (try simp only [List.map_toArray, List.map_cons, List.map_nil]); first | done | rfl | (simp only [List.length_drop, List.length_take]; rfl)) ?_; (with_reducible refine (stencilref01_Signed.calls a0 true _ A5.out).mono ?_); rintro e w' ⟨rfl, ⟨nd, rfl⟩⟩; refine ⟨_, rfl, ?_⟩) | ((with_reducible refine gate_callee (f := 34) rfl ?_); refine goesL_ (some 12) rfl rfl Tryd.func34 (by kernel_rfl) rfl #[.int .i64 a0] rfl (by (try simp only [List.map_toArray, List.map_cons, List.map_nil]); first | done | rfl | (simp only [List.length_drop, List.length_take]; rfl)) ?_; (with_reducible refine (stencilref01_high.calls k a0 t159 _ A7.out).mono ?_); rintro e w' ⟨rfl, ⟨nd, rfl⟩⟩; refine ⟨_, rfl, ?_⟩) | (go_at_call 16; (with_reducible refine (stencilref01_Null.calls k a0 t160 _ A9.out).mono ?_); rintro e w' ⟨rfl, ⟨nd, rfl⟩⟩))
        go_ret
        exact ⟨by first | rfl | (simp; done) | (simp [*]; done) | (refine congrArg (fun b_ => Ending.returned (Value.bool b_)) ?_; rw [Bool.eq_iff_iff]; simp; done), by repeat (first | exact Drawn0.refl _ | apply Drawn0.step)⟩
    · replace c6 := Bool.eq_false_iff.mpr c6
      subst c6
      have H1 : ((stencilref01_Size.f k a0).bind fun t161 => ((stencilref01_bits.f k (wrap64 (8 * t161))).bind fun t162 => (some (decide (a1 ≤ t162))))) = some r := by rw [if_neg (show ¬ (false = true) by decide)] at H; exact H
      clear H
      have H := H1
      clear H1
      replace H := Option.bind_eq_some_iff.mp H
      obtain ⟨t161, A100, H⟩ := H
      replace H : ((stencilref01_bits.f k (wrap64 (8 * t161))).bind fun t162 => (some (decide (a1 ≤ t162)))) = some r := H
      have A10 := Aside0.mk A100
      clear A100
      replace H := Option.bind_eq_some_iff.mp H
      obtain ⟨t162, A110, H⟩ := H
      replace H : (some (decide (a1 ≤ t162))) = some r := H
      have A11 := Aside0.mk A110
      clear A110
      obtain rfl := Option.some.inj H
      go_enter Tryd.func19, Tryd.ntmps19
      go_wp2_with (first | ((with_reducible refine gate_callee (f := 13) rfl ?_); refine goesL_ (some 6) rfl rfl Tryd.func13 (by kernel_rfl) rfl #[.int .i64 a0] rfl (by (try simp only [List.map_toArray, List.map_cons, List.map_nil]); first | done | rfl | (simp only [List.length_drop, List.length_take]; rfl)) ?_; (with_reducible refine (stencilref01_Size.calls k a0 t157 _ A3.out).mono ?_); rintro e w' ⟨rfl, ⟨nd, rfl⟩⟩; refine ⟨_, rfl, ?_⟩) | ((with_reducible refine gate_callee (f := 15) rfl ?_); refine goesL_ (some 9) rfl rfl Tryd.func15 (by kernel_rfl) rfl #[.int .i64 a0] rfl (by (try simp only [List.map_toArray, List.map_cons, List.map_nil]); first | done | rfl | (simp only [List.length_drop, List.length_take]; rfl)) ?_; (with_reducible refine (stencilref01_Signed.calls a0 false _ A5.out).mono ?_); rintro e w' ⟨rfl, ⟨nd, rfl⟩⟩; refine ⟨_, rfl, ?_⟩) | ((with_reducible refine gate_callee (f := 13) rfl ?_); refine goesL_ (some 22) rfl rfl Tryd.func13 (by kernel_rfl) rfl #[.int .i64 a0] rfl (by (try simp only [List.map_toArray, List.map_cons, List.map_nil]); first | done | rfl | (simp only [List.length_drop, List.length_take]; rfl)) ?_; (with_reducible refine (stencilref01_Size.calls k a0 t161 _ A10.out).mono ?_); rintro e w' ⟨rfl, ⟨nd, rfl⟩⟩; refine ⟨_, rfl, ?_⟩) | ((with_reducible refine gate_callee (f := 33) rfl ?_); refine goesL_ (some 24) rfl rfl Tryd.func33 (by kernel_rfl) rfl #[.int .i64 (wrap64 (8 * t161))] rfl (by (try simp only [List.map_toArray, List.map_cons, List.map_nil]); first | done | rfl | (simp only [List.length_drop, List.length_take]; rfl)) ?_; (with_reducible refine (stencilref01_bits.calls k (wrap64 (8 * t161)) t162 _ A11.out).mono ?_); rintro e w' ⟨rfl, ⟨nd, rfl⟩⟩; refine ⟨_, rfl, ?_⟩))
      go_ret
      exact ⟨by first | rfl | (simp; done) | (simp [*]; done) | (refine congrArg (fun b_ => Ending.returned (Value.bool b_)) ?_; rw [Bool.eq_iff_iff]; simp; done), by repeat (first | exact Drawn0.refl _ | apply Drawn0.step)⟩

end Go.Proofs.YtgackepigegbkaaDoor.B
