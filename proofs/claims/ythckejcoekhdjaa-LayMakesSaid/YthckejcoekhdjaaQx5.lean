-- Made by a wrapper of this project over the kit's print.py, with contracts by hand beside it. Not trusted: Lean checks it.
import Derived.Test.YthckejcoekhdjaaQx0
namespace Go.Proofs.Ythckejcoekhdjaa.Q
open Go.RowKit Go.Proofs.YthckejcoekhdjaaW.PrintWords Go.Proofs.YthckejcoekhdjaaW.PrintLast Go.Proofs.YthckejcoekhdjaaW.PrintMore
attribute [local go_sem] max2_int min2_int max_two min_two max_three min_three max_four min_four   -- for this text's walks alone
set_option linter.unusedVariables false
set_option linter.unusedSimpArgs false

/-! ### stencilref07_Laid: function 30 -/
mutual
def stencilref07_Laid.j0 : Nat → List (S39) → List Int → Int → Bool → Option (Bool)
  | 0, _, _, _, _ => none
  | k + 1, x0, x1, x2, x21 => if x21 = true then (some false) else (stencilref07_Laid.l0 k x0 x1 x2 0 0)
def stencilref07_Laid.l0 : Nat → List (S39) → List Int → Int → Int → Int → Option (Bool)
  | 0, _, _, _, _, _ => none
  | k + 1, x0, x1, x2, x7, x8 => if x8 < (x0.length : Int) then (if 0 ≤ x8 then (if ((rd_T39 x0 x8).f0) < 0 then (stencilref07_Laid.j2 k x0 x1 x2 x8 true) else (if ((rd_T39 x0 x8).f0) > 65535 then (stencilref07_Laid.j2 k x0 x1 x2 x8 true) else (if x8 < (x1.length : Int) then (if (rd x1 x8) < x7 then (stencilref07_Laid.j2 k x0 x1 x2 x8 true) else (stencilref07_Laid.j2 k x0 x1 x2 x8 (decide ((rd x1 x8) > 65535)))) else (none)))) else (none)) else (some (decide (x7 ≤ x2)))
def stencilref07_Laid.j2 : Nat → List (S39) → List Int → Int → Int → Bool → Option (Bool)
  | 0, _, _, _, _, _ => none
  | k + 1, x0, x1, x2, x8, x56 => if x56 = true then (some false) else (if 0 ≤ x8 then (if x8 < (x1.length : Int) then (if x8 < (x0.length : Int) then (stencilref07_Laid.l0 k x0 x1 x2 (wrap64 ((rd x1 x8) + ((rd_T39 x0 x8).f0))) (wrap64 (x8 + 1))) else (none)) else (none)) else (none))
end
def stencilref07_Laid.f (k : Nat) (l0 : List (S39)) (l1 : List Int) (a2 : Int) : Option (Bool) := if (l1.length : Int) = (l0.length : Int) then (if a2 < 0 then (stencilref07_Laid.j0 k l0 l1 a2 true) else (stencilref07_Laid.j0 k l0 l1 a2 (decide (a2 > 65535)))) else (stencilref07_Laid.j0 k l0 l1 a2 true)
theorem stencilref07_Laid.mono_l : ∀ k, (∀ y0 y1 y2 y3, LeO (stencilref07_Laid.j0 k y0 y1 y2 y3) (stencilref07_Laid.j0 (k + 1) y0 y1 y2 y3)) ∧ (∀ y0 y1 y2 y3 y4, LeO (stencilref07_Laid.l0 k y0 y1 y2 y3 y4) (stencilref07_Laid.l0 (k + 1) y0 y1 y2 y3 y4)) ∧ (∀ y0 y1 y2 y3 y4, LeO (stencilref07_Laid.j2 k y0 y1 y2 y3 y4) (stencilref07_Laid.j2 (k + 1) y0 y1 y2 y3 y4))
  | 0 => ⟨fun _ _ _ _ r h => by simp [stencilref07_Laid.j0] at h, fun _ _ _ _ _ r h => by simp [stencilref07_Laid.l0] at h, fun _ _ _ _ _ r h => by simp [stencilref07_Laid.j2] at h⟩
  | k + 1 => by
    obtain ⟨ih0, ih1, ih2⟩ := stencilref07_Laid.mono_l k
    refine ⟨?_, ?_, ?_⟩
    · intro y0 y1 y2 y3
      unfold stencilref07_Laid.j0
      repeat' first
      | (with_reducible exact ih0 _ _ _ _)
      | (with_reducible exact ih1 _ _ _ _ _)
      | (with_reducible exact ih2 _ _ _ _ _)
      | (with_reducible exact LeO.refl _)
      | (with_reducible exact LeO.none _)
      | (with_reducible refine LeO.ite ?_ ?_)
      | (with_reducible refine LeO.bind ?_ (fun _ => ?_))
      | exact ih0 _ _ _ _
      | exact ih1 _ _ _ _ _
      | exact ih2 _ _ _ _ _
      | exact LeO.none _
      | refine LeO.ite ?_ ?_
      | refine LeO.bind ?_ (fun _ => ?_)
    · intro y0 y1 y2 y3 y4
      unfold stencilref07_Laid.l0
      repeat' first
      | (with_reducible exact ih0 _ _ _ _)
      | (with_reducible exact ih1 _ _ _ _ _)
      | (with_reducible exact ih2 _ _ _ _ _)
      | (with_reducible exact LeO.refl _)
      | (with_reducible exact LeO.none _)
      | (with_reducible refine LeO.ite ?_ ?_)
      | (with_reducible refine LeO.bind ?_ (fun _ => ?_))
      | exact ih0 _ _ _ _
      | exact ih1 _ _ _ _ _
      | exact ih2 _ _ _ _ _
      | exact LeO.none _
      | refine LeO.ite ?_ ?_
      | refine LeO.bind ?_ (fun _ => ?_)
    · intro y0 y1 y2 y3 y4
      unfold stencilref07_Laid.j2
      repeat' first
      | (with_reducible exact ih0 _ _ _ _)
      | (with_reducible exact ih1 _ _ _ _ _)
      | (with_reducible exact ih2 _ _ _ _ _)
      | (with_reducible exact LeO.refl _)
      | (with_reducible exact LeO.none _)
      | (with_reducible refine LeO.ite ?_ ?_)
      | (with_reducible refine LeO.bind ?_ (fun _ => ?_))
      | exact ih0 _ _ _ _
      | exact ih1 _ _ _ _ _
      | exact ih2 _ _ _ _ _
      | exact LeO.none _
      | refine LeO.ite ?_ ?_
      | refine LeO.bind ?_ (fun _ => ?_)
theorem stencilref07_Laid.mono : ∀ a0 a1 a2 k, LeO (stencilref07_Laid.f k a0 a1 a2) (stencilref07_Laid.f (k + 1) a0 a1 a2) := by
  intro a0 a1 a2 k
  obtain ⟨ih0, ih1, ih2⟩ := stencilref07_Laid.mono_l k
  unfold stencilref07_Laid.f
  repeat' first
      | (with_reducible exact ih0 _ _ _ _)
      | (with_reducible exact ih1 _ _ _ _ _)
      | (with_reducible exact ih2 _ _ _ _ _)
      | (with_reducible exact LeO.refl _)
      | (with_reducible exact LeO.none _)
      | (with_reducible refine LeO.ite ?_ ?_)
      | (with_reducible refine LeO.bind ?_ (fun _ => ?_))
      | exact ih0 _ _ _ _
      | exact ih1 _ _ _ _ _
      | exact ih2 _ _ _ _ _
      | exact LeO.none _
      | refine LeO.ite ?_ ?_
      | refine LeO.bind ?_ (fun _ => ?_)
set_option maxHeartbeats 8000000 in
set_option maxRecDepth 100000 in
theorem stencilref07_Laid.calls (k : Nat) (A0 : Option Addr) (c0 : Nat) (l0 : List (S39)) (A1 : Option Addr) (c1 : Nat) (l1 : List Int) (a2 : Int) (r : Bool) (w : World) (hr0 : Kd.C k39 w A0 l0.length l0) (hc0 : l0.length ≤ c0) (hr1 : Kd.C (Kd.int .i64) w A1 l1.length l1) (hc1 : l1.length ≤ c1) (h : stencilref07_Laid.f k l0 l1 a2 = some r) :
    Calls Try.prog 30 #[.slice A0 l0.length c0, .slice A1 l1.length c1, .int .i64 a2] w fun e w' => e = .returned (.bool r) ∧ Drawn0 w w' := by
  have HR0 := Aside0.mk hr0
  have HC0 := Aside0.mk hc0
  clear hr0 hc0
  have HR1 := Aside0.mk hr1
  have HC1 := Aside0.mk hc1
  clear hr1 hc1
  have H : (if (l1.length : Int) = (l0.length : Int) then (if a2 < 0 then (stencilref07_Laid.j0 k l0 l1 a2 true) else (stencilref07_Laid.j0 k l0 l1 a2 (decide (a2 > 65535)))) else (stencilref07_Laid.j0 k l0 l1 a2 true)) = some r := h
  clear h
  have HC4 := Aside0.mk H
  clear H
  go_enter Try.func30, Try.ntmps30
  go_upto_region 1 with (fail)
  repeat (go_quiet (fail); go_upto_region 1 with (fail))
  go_cut [21] (fun v21 wc => ∃ (kq : Nat) (x21_3 : Bool), v21 = .bool x21_3 ∧ Aside0 (stencilref07_Laid.j0 kq l0 l1 a2 x21_3 = some r) ∧ Aside0 (kq ≤ k) ∧ Drawn0 w wc)
  case first =>
    have H := HC4.out
    clear HC4
    by_cases c5 : (l1.length : Int) = (l0.length : Int)
    · rw [if_pos c5] at H
      have c5b0 : ((l1.length : Int) == (l0.length : Int)) = true := beq_iff_eq.mpr c5
      have c5b1 : ((l1.length : Int) != (l0.length : Int)) = false := bne_eq_false_iff_eq.mpr c5
      have c5b2 : (l1.length == l0.length) = true := by first | simpa using c5 | (simp at c5 ⊢; omega)
      clear c5
      (first | rw [c5b0] | (simp only [i64_w, i32_w]; rw [c5b0]) | skip)
      by_cases c6 : a2 < 0
      · rw [if_pos c6] at H
        have c6b0 : decide (a2 < 0) = true := decide_eq_true c6
        clear c6
        have H' := Aside0.mk H
        clear H
        go_wp2
        repeat (go_quiet (fail); try go_wp2)
        go_meet
        case rel => exact ⟨_, (true), (by first | rfl | (simp; done) | (simp [*]; done)), H', ⟨by first | omega | exact Nat.le_refl _⟩, by repeat (first | exact Drawn0.refl _ | apply Drawn0.step)⟩
      · rw [if_neg c6] at H
        have c6b0 : decide (a2 < 0) = false := decide_eq_false c6
        clear c6
        have H' := Aside0.mk H
        clear H
        go_wp2
        repeat (go_quiet (fail); try go_wp2)
        go_meet
        case rel => exact ⟨_, (decide (a2 > 65535)), (by first | rfl | (simp; done) | (simp [*]; done)), H', ⟨by first | omega | exact Nat.le_refl _⟩, by repeat (first | exact Drawn0.refl _ | apply Drawn0.step)⟩
    · rw [if_neg c5] at H
      have c5b0 : ((l1.length : Int) == (l0.length : Int)) = false := beq_eq_false_iff_ne.mpr c5
      have c5b1 : ((l1.length : Int) != (l0.length : Int)) = true := bne_iff_ne.mpr c5
      have c5b2 : (l1.length == l0.length) = false := by first | simpa using c5 | (simp at c5 ⊢; omega)
      (first | rw [c5b0] | (simp only [i64_w, i32_w]; rw [c5b0]) | skip)
      have H' := Aside0.mk H
      clear H
      go_wp2
      repeat (go_quiet (fail); try go_wp2)
      go_meet
      case rel => exact ⟨_, (true), (by first | rfl | (simp; done) | (simp [*]; done)), H', ⟨by first | omega | exact Nat.le_refl _⟩, by repeat (first | exact Drawn0.refl _ | apply Drawn0.step)⟩
  case rest =>
    clear HC4
    try clear c1
    try clear p2
    try clear c3
    try clear c5
    try clear c5b0
    try clear c5b1
    try clear c5b2
    try clear c6
    try clear c6b0
    obtain ⟨kq, x21_3, rfl, HA, HJ3, ⟨mc3, rfl⟩⟩ := hcut
    cases kq with
    | zero => exact absurd HA.out (by simp [stencilref07_Laid.j0])
    | succ kj3 =>
      have H := HA.out
      clear HA
      simp only [stencilref07_Laid.j0] at H
      by_cases c7 : x21_3 = true
      · subst c7
        have H1 : (some false) = some r := by rw [if_pos rfl] at H; exact H
        clear H
        have H := H1
        clear H1
        obtain rfl := Option.some.inj H
        go_wp2
        repeat (go_quiet (fail); try go_wp2)
        go_ret
        exact ⟨by first | rfl | (simp; done) | (simp [*]; done) | (refine congrArg (fun b_ => Ending.returned (Value.bool b_)) ?_; rw [Bool.eq_iff_iff]; simp; done), by repeat (first | exact Drawn0.refl _ | apply Drawn0.step)⟩
      · replace c7 := Bool.eq_false_iff.mpr c7
        subst c7
        have H1 : (stencilref07_Laid.l0 kj3 l0 l1 a2 0 0) = some r := by rw [if_neg (show ¬ (false = true) by decide)] at H; exact H
        clear H
        have H := H1
        clear H1
        have H' := Aside0.mk H
        clear H
        go_wp2
        repeat (go_quiet (fail); try go_wp2)
        go_loopg [7, 8] kj3 (fun kq v7 v8 w' => ∃ (x7_2 : Int) (x8_2 : Int), v7 = .int .i64 x7_2 ∧ v8 = .int .i64 x8_2 ∧ Aside0 (stencilref07_Laid.l0 kq l0 l1 a2 x7_2 x8_2 = some r) ∧ Aside0 (kq ≤ kj3) ∧ Drawn0 w w')
        case atStart => exact ⟨(0), (0), (by first | rfl | (simp; done) | (simp [*]; done)), (by first | rfl | (simp; done) | (simp [*]; done)), H', ⟨Nat.le_refl _⟩, by repeat (first | exact Drawn0.refl _ | apply Drawn0.step)⟩
        case round =>
          clear H'
          try clear c1
          try clear p2
          try clear c3
          try clear c5
          try clear c5b0
          try clear c5b1
          try clear c5b2
          try clear c6
          try clear c6b0
          try clear c7
          try clear p2
          obtain ⟨x7_2, x8_2, rfl, rfl, HA, HK2, ⟨m2, rfl⟩⟩ := hrel
          cases gk with
          | zero => exact absurd HA.out (by simp [stencilref07_Laid.l0])
          | succ k2 =>
            have H := HA.out
            clear HA
            simp only [stencilref07_Laid.l0] at H
            by_cases c8 : x8_2 < (l0.length : Int)
            · rw [if_pos c8] at H
              have c8b0 : decide (x8_2 < (l0.length : Int)) = true := decide_eq_true c8
              clear c8
              have HC9 := Aside0.mk H
              clear H
              go_upto_region 7 with (fail)
              repeat (go_quiet (fail); go_upto_region 7 with (fail))
              go_cut [56] (fun v56 wc => ∃ (kq : Nat) (x56_8 : Bool), v56 = .bool x56_8 ∧ Aside0 (stencilref07_Laid.j2 kq l0 l1 a2 x8_2 x56_8 = some r) ∧ Aside0 (kq ≤ k2) ∧ Drawn0 w wc)
              case first =>
                have H := HC9.out
                clear HC9
                by_cases c10 : 0 ≤ x8_2
                · rw [if_pos c10] at H
                  have c10b0 : decide (0 ≤ x8_2) = true := decide_eq_true c10
                  clear c10
                  (first | rw [c10b0] | (simp only [i64_w, i32_w]; rw [c10b0]) | skip)
                  by_cases c11 : ((rd_T39 l0 x8_2).f0) < 0
                  · rw [if_pos c11] at H
                    have c11b0 : decide (((rd_T39 l0 x8_2).f0) < 0) = true := decide_eq_true c11
                    clear c11
                    have H' := Aside0.mk H
                    clear H
                    have p158 : 0 ≤ (x8_2 : Int) := of_decide_eq_true (by first | (with_reducible assumption) | assumption)
                    have q158 : x8_2 < (l0.length : Int) := of_decide_eq_true (by first | (with_reducible assumption) | assumption)
                    obtain ⟨ad158, e158, hx158_0, hx158_1⟩ := at_T39 HR0.out x8_2 p158 q158
                    cases e158
                    replace p158 := eq_true p158
                    replace q158 := eq_true q158
                    go_wp2
                    repeat (go_quiet (fail); try go_wp2)
                    go_meet
                    case rel => exact ⟨_, (true), (by first | rfl | (simp; done) | (simp [*]; done)), H', ⟨by have := HJ3.out; have := HK2.out; first | omega | exact Nat.le_refl _⟩, by repeat (first | exact Drawn0.refl _ | apply Drawn0.step)⟩
                  · rw [if_neg c11] at H
                    have c11b0 : decide (((rd_T39 l0 x8_2).f0) < 0) = false := decide_eq_false c11
                    clear c11
                    by_cases c12 : ((rd_T39 l0 x8_2).f0) > 65535
                    · rw [if_pos c12] at H
                      have c12b0 : decide (65535 < ((rd_T39 l0 x8_2).f0)) = true := decide_eq_true c12
                      clear c12
                      have H' := Aside0.mk H
                      clear H
                      have p158 : 0 ≤ (x8_2 : Int) := of_decide_eq_true (by first | (with_reducible assumption) | assumption)
                      have q158 : x8_2 < (l0.length : Int) := of_decide_eq_true (by first | (with_reducible assumption) | assumption)
                      obtain ⟨ad158, e158, hx158_0, hx158_1⟩ := at_T39 HR0.out x8_2 p158 q158
                      cases e158
                      replace p158 := eq_true p158
                      replace q158 := eq_true q158
                      have p159 : 0 ≤ (x8_2 : Int) := of_decide_eq_true (by first | (with_reducible assumption) | assumption)
                      have q159 : x8_2 < (l0.length : Int) := of_decide_eq_true (by first | (with_reducible assumption) | assumption)
                      obtain ⟨ad159, e159, hx159_0, hx159_1⟩ := at_T39 HR0.out x8_2 p159 q159
                      obtain rfl : ad158 = ad159 := (by injection e159)
                      replace p159 := eq_true p159
                      replace q159 := eq_true q159
                      go_wp2
                      repeat (go_quiet (fail); try go_wp2)
                      go_meet
                      case rel => exact ⟨_, (true), (by first | rfl | (simp; done) | (simp [*]; done)), H', ⟨by have := HJ3.out; have := HK2.out; first | omega | exact Nat.le_refl _⟩, by repeat (first | exact Drawn0.refl _ | apply Drawn0.step)⟩
                    · rw [if_neg c12] at H
                      have c12b0 : decide (65535 < ((rd_T39 l0 x8_2).f0)) = false := decide_eq_false c12
                      clear c12
                      by_cases c13 : x8_2 < (l1.length : Int)
                      · rw [if_pos c13] at H
                        have c13b0 : decide (x8_2 < (l1.length : Int)) = true := decide_eq_true c13
                        clear c13
                        by_cases c14 : (rd l1 x8_2) < x7_2
                        · rw [if_pos c14] at H
                          have c14b0 : decide ((rd l1 x8_2) < x7_2) = true := decide_eq_true c14
                          clear c14
                          have H' := Aside0.mk H
                          clear H
                          have p158 : 0 ≤ (x8_2 : Int) := of_decide_eq_true (by first | (with_reducible assumption) | assumption)
                          have q158 : x8_2 < (l0.length : Int) := of_decide_eq_true (by first | (with_reducible assumption) | assumption)
                          obtain ⟨ad158, e158, hx158_0, hx158_1⟩ := at_T39 HR0.out x8_2 p158 q158
                          cases e158
                          replace p158 := eq_true p158
                          replace q158 := eq_true q158
                          have p159 : 0 ≤ (x8_2 : Int) := of_decide_eq_true (by first | (with_reducible assumption) | assumption)
                          have q159 : x8_2 < (l0.length : Int) := of_decide_eq_true (by first | (with_reducible assumption) | assumption)
                          obtain ⟨ad159, e159, hx159_0, hx159_1⟩ := at_T39 HR0.out x8_2 p159 q159
                          obtain rfl : ad158 = ad159 := (by injection e159)
                          replace p159 := eq_true p159
                          replace q159 := eq_true q159
                          have p160 : 0 ≤ (x8_2 : Int) := of_decide_eq_true (by first | (with_reducible assumption) | assumption)
                          have q160 : x8_2 < (l1.length : Int) := of_decide_eq_true (by first | (with_reducible assumption) | assumption)
                          obtain ⟨ad160, e160, hx160_0⟩ := Kd.at_int HR1.out x8_2 p160 q160
                          cases e160
                          replace p160 := eq_true p160
                          replace q160 := eq_true q160
                          go_wp2
                          repeat (go_quiet (fail); try go_wp2)
                          go_meet
                          case rel => exact ⟨_, (true), (by first | rfl | (simp; done) | (simp [*]; done)), H', ⟨by have := HJ3.out; have := HK2.out; first | omega | exact Nat.le_refl _⟩, by repeat (first | exact Drawn0.refl _ | apply Drawn0.step)⟩
                        · rw [if_neg c14] at H
                          have c14b0 : decide ((rd l1 x8_2) < x7_2) = false := decide_eq_false c14
                          clear c14
                          have H' := Aside0.mk H
                          clear H
                          have p158 : 0 ≤ (x8_2 : Int) := of_decide_eq_true (by first | (with_reducible assumption) | assumption)
                          have q158 : x8_2 < (l0.length : Int) := of_decide_eq_true (by first | (with_reducible assumption) | assumption)
                          obtain ⟨ad158, e158, hx158_0, hx158_1⟩ := at_T39 HR0.out x8_2 p158 q158
                          cases e158
                          replace p158 := eq_true p158
                          replace q158 := eq_true q158
                          have p159 : 0 ≤ (x8_2 : Int) := of_decide_eq_true (by first | (with_reducible assumption) | assumption)
                          have q159 : x8_2 < (l0.length : Int) := of_decide_eq_true (by first | (with_reducible assumption) | assumption)
                          obtain ⟨ad159, e159, hx159_0, hx159_1⟩ := at_T39 HR0.out x8_2 p159 q159
                          obtain rfl : ad158 = ad159 := (by injection e159)
                          replace p159 := eq_true p159
                          replace q159 := eq_true q159
                          have p160 : 0 ≤ (x8_2 : Int) := of_decide_eq_true (by first | (with_reducible assumption) | assumption)
                          have q160 : x8_2 < (l1.length : Int) := of_decide_eq_true (by first | (with_reducible assumption) | assumption)
                          obtain ⟨ad160, e160, hx160_0⟩ := Kd.at_int HR1.out x8_2 p160 q160
                          cases e160
                          replace p160 := eq_true p160
                          replace q160 := eq_true q160
                          have p161 : 0 ≤ (x8_2 : Int) := of_decide_eq_true (by first | (with_reducible assumption) | assumption)
                          have q161 : x8_2 < (l1.length : Int) := of_decide_eq_true (by first | (with_reducible assumption) | assumption)
                          obtain ⟨ad161, e161, hx161_0⟩ := Kd.at_int HR1.out x8_2 p161 q161
                          obtain rfl : ad160 = ad161 := (by injection e161)
                          replace p161 := eq_true p161
                          replace q161 := eq_true q161
                          go_wp2
                          repeat (go_quiet (fail); try go_wp2)
                          go_meet
                          case rel => exact ⟨_, (decide ((rd l1 x8_2) > 65535)), (by first | rfl | (simp; done) | (simp [*]; done)), H', ⟨by have := HJ3.out; have := HK2.out; first | omega | exact Nat.le_refl _⟩, by repeat (first | exact Drawn0.refl _ | apply Drawn0.step)⟩
                      · rw [if_neg c13] at H
                        exact absurd H (by simp)
                · rw [if_neg c10] at H
                  exact absurd H (by simp)
              case rest =>
                clear HC9
                try clear c1
                try clear p1
                try clear q1
                try clear hx1
                try clear p2
                try clear c3
                try clear c5
                try clear c5b0
                try clear c5b1
                try clear c5b2
                try clear c6
                try clear c6b0
                try clear c7
                try clear c8
                try clear c8b0
                try clear c10
                try clear c10b0
                try clear c11
                try clear c11b0
                try clear c12
                try clear c12b0
                try clear c13
                try clear c13b0
                try clear c14
                try clear c14b0
                try clear hx158_0
                try clear hx158_1
                try clear hx159_0
                try clear hx159_1
                try clear hx160_0
                try clear hx161_0
                try clear p158
                try clear p159
                try clear p160
                try clear p161
                try clear p2
                try clear q158
                try clear q159
                try clear q160
                try clear q161
                obtain ⟨kq, x56_8, rfl, HA, HJ8, ⟨mc8, rfl⟩⟩ := hcut
                cases kq with
                | zero => exact absurd HA.out (by simp [stencilref07_Laid.j2])
                | succ kj8 =>
                  have H := HA.out
                  clear HA
                  simp only [stencilref07_Laid.j2] at H
                  by_cases c15 : x56_8 = true
                  · subst c15
                    have H1 : (some false) = some r := by rw [if_pos rfl] at H; exact H
                    clear H
                    have H := H1
                    clear H1
                    obtain rfl := Option.some.inj H
                    go_wp2
                    repeat (go_quiet (fail); try go_wp2)
                    go_ret
                    exact ⟨by first | rfl | (simp; done) | (simp [*]; done) | (refine congrArg (fun b_ => Ending.returned (Value.bool b_)) ?_; rw [Bool.eq_iff_iff]; simp; done), by repeat (first | exact Drawn0.refl _ | apply Drawn0.step)⟩
                  · replace c15 := Bool.eq_false_iff.mpr c15
                    subst c15
                    have H1 : (if 0 ≤ x8_2 then (if x8_2 < (l1.length : Int) then (if x8_2 < (l0.length : Int) then (stencilref07_Laid.l0 kj8 l0 l1 a2 (wrap64 ((rd l1 x8_2) + ((rd_T39 l0 x8_2).f0))) (wrap64 (x8_2 + 1))) else (none)) else (none)) else (none)) = some r := by rw [if_neg (show ¬ (false = true) by decide)] at H; exact H
                    clear H
                    have H := H1
                    clear H1
                    by_cases c16 : 0 ≤ x8_2
                    · rw [if_pos c16] at H
                      have c16b0 : decide (0 ≤ x8_2) = true := decide_eq_true c16
                      clear c16
                      by_cases c17 : x8_2 < (l1.length : Int)
                      · rw [if_pos c17] at H
                        have c17b0 : decide (x8_2 < (l1.length : Int)) = true := decide_eq_true c17
                        clear c17
                        by_cases c18 : x8_2 < (l0.length : Int)
                        · rw [if_pos c18] at H
                          have c18b0 : decide (x8_2 < (l0.length : Int)) = true := decide_eq_true c18
                          clear c18
                          have H' := Aside0.mk H
                          clear H
                          have p162 : 0 ≤ (x8_2 : Int) := of_decide_eq_true (by first | (with_reducible assumption) | assumption)
                          have q162 : x8_2 < (l1.length : Int) := of_decide_eq_true (by first | (with_reducible assumption) | assumption)
                          obtain ⟨ad162, e162, hx162_0⟩ := Kd.at_int HR1.out x8_2 p162 q162
                          cases e162
                          replace p162 := eq_true p162
                          replace q162 := eq_true q162
                          have p163 : 0 ≤ (x8_2 : Int) := of_decide_eq_true (by first | (with_reducible assumption) | assumption)
                          have q163 : x8_2 < (l0.length : Int) := of_decide_eq_true (by first | (with_reducible assumption) | assumption)
                          obtain ⟨ad163, e163, hx163_0, hx163_1⟩ := at_T39 HR0.out x8_2 p163 q163
                          cases e163
                          replace p163 := eq_true p163
                          replace q163 := eq_true q163
                          go_wp2
                          repeat (go_quiet (fail); try go_wp2)
                          go_roundg kj8
                          case measure => have := HJ3.out; have := HK2.out; have := HJ8.out; omega
                          case rel => exact ⟨(wrap64 ((rd l1 x8_2) + ((rd_T39 l0 x8_2).f0))), (wrap64 (x8_2 + 1)), (by first | rfl | (simp; done) | (simp [*]; done)), (by first | rfl | (simp; done) | (simp [*]; done)), H', ⟨by have := HJ3.out; have := HK2.out; have := HJ8.out; omega⟩, by repeat (first | exact Drawn0.refl _ | apply Drawn0.step)⟩
                        · rw [if_neg c18] at H
                          exact absurd H (by simp)
                      · rw [if_neg c17] at H
                        exact absurd H (by simp)
                    · rw [if_neg c16] at H
                      exact absurd H (by simp)
            · rw [if_neg c8] at H
              have c8b0 : decide (x8_2 < (l0.length : Int)) = false := decide_eq_false c8
              clear c8
              obtain rfl := Option.some.inj H
              go_wp2
              repeat (go_quiet (fail); try go_wp2)
              go_ret
              exact ⟨by first | rfl | (simp; done) | (simp [*]; done) | (refine congrArg (fun b_ => Ending.returned (Value.bool b_)) ?_; rw [Bool.eq_iff_iff]; simp; done), by repeat (first | exact Drawn0.refl _ | apply Drawn0.step)⟩

end Go.Proofs.Ythckejcoekhdjaa.Q
