-- Made by a wrapper of this project over the kit's print.py, with contracts by hand beside it. Not trusted: Lean checks it.
import Derived.Test.YthckejcoekhdjaaQx0
import Derived.Test.YthckejcoekhdjaaQx1
namespace Go.Proofs.Ythckejcoekhdjaa.Q
open Go.RowKit Go.Proofs.YthckejcoekhdjaaW.PrintWords Go.Proofs.YthckejcoekhdjaaW.PrintLast Go.Proofs.YthckejcoekhdjaaW.PrintMore
attribute [local go_sem] max2_int min2_int max_two min_two max_three min_three max_four min_four   -- for this text's walks alone
set_option linter.unusedVariables false
set_option linter.unusedSimpArgs false

attribute [local go_sem high] eqA39
/-! ### stencillaw07_marked: function 26 -/
mutual
def stencillaw07_marked.l0 : Nat → List Int → List Int → Int → Int → Option (Bool)
  | 0, _, _, _, _ => none
  | k + 1, x0, x1, x2, x7 => if x7 < (x1.length : Int) then (if 0 ≤ x7 then (if (rd x1 x7) = x2 then (if x7 < (x0.length : Int) then (stencillaw07_marked.j1 k x0 x1 x2 x7 ((rd x0 x7) != x2)) else (stencillaw07_marked.j1 k x0 x1 x2 x7 false)) else (stencillaw07_marked.j1 k x0 x1 x2 x7 true)) else (none)) else (some true)
def stencillaw07_marked.j1 : Nat → List Int → List Int → Int → Int → Bool → Option (Bool)
  | 0, _, _, _, _, _ => none
  | k + 1, x0, x1, x2, x7, x39 => if x39 = true then (some false) else (stencillaw07_marked.l0 k x0 x1 x2 (wrap64 (x7 + 1)))
end
def stencillaw07_marked.f (k : Nat) (l0 : List Int) (l1 : List Int) (a2 : Int) : Option (Bool) := if (l1.length : Int) = (wrap64 ((l0.length : Int) + 1)) then (stencillaw07_marked.l0 k l0 l1 a2 0) else (some false)
theorem stencillaw07_marked.mono_l : ∀ k, (∀ y0 y1 y2 y3, LeO (stencillaw07_marked.l0 k y0 y1 y2 y3) (stencillaw07_marked.l0 (k + 1) y0 y1 y2 y3)) ∧ (∀ y0 y1 y2 y3 y4, LeO (stencillaw07_marked.j1 k y0 y1 y2 y3 y4) (stencillaw07_marked.j1 (k + 1) y0 y1 y2 y3 y4))
  | 0 => ⟨fun _ _ _ _ r h => by simp [stencillaw07_marked.l0] at h, fun _ _ _ _ _ r h => by simp [stencillaw07_marked.j1] at h⟩
  | k + 1 => by
    obtain ⟨ih0, ih1⟩ := stencillaw07_marked.mono_l k
    refine ⟨?_, ?_⟩
    · intro y0 y1 y2 y3
      unfold stencillaw07_marked.l0
      repeat' first
      | (with_reducible exact ih0 _ _ _ _)
      | (with_reducible exact ih1 _ _ _ _ _)
      | (with_reducible exact LeO.refl _)
      | (with_reducible exact LeO.none _)
      | (with_reducible refine LeO.ite ?_ ?_)
      | (with_reducible refine LeO.bind ?_ (fun _ => ?_))
      | exact ih0 _ _ _ _
      | exact ih1 _ _ _ _ _
      | exact LeO.none _
      | refine LeO.ite ?_ ?_
      | refine LeO.bind ?_ (fun _ => ?_)
    · intro y0 y1 y2 y3 y4
      unfold stencillaw07_marked.j1
      repeat' first
      | (with_reducible exact ih0 _ _ _ _)
      | (with_reducible exact ih1 _ _ _ _ _)
      | (with_reducible exact LeO.refl _)
      | (with_reducible exact LeO.none _)
      | (with_reducible refine LeO.ite ?_ ?_)
      | (with_reducible refine LeO.bind ?_ (fun _ => ?_))
      | exact ih0 _ _ _ _
      | exact ih1 _ _ _ _ _
      | exact LeO.none _
      | refine LeO.ite ?_ ?_
      | refine LeO.bind ?_ (fun _ => ?_)
theorem stencillaw07_marked.mono : ∀ a0 a1 a2 k, LeO (stencillaw07_marked.f k a0 a1 a2) (stencillaw07_marked.f (k + 1) a0 a1 a2) := by
  intro a0 a1 a2 k
  obtain ⟨ih0, ih1⟩ := stencillaw07_marked.mono_l k
  unfold stencillaw07_marked.f
  repeat' first
      | (with_reducible exact ih0 _ _ _ _)
      | (with_reducible exact ih1 _ _ _ _ _)
      | (with_reducible exact LeO.refl _)
      | (with_reducible exact LeO.none _)
      | (with_reducible refine LeO.ite ?_ ?_)
      | (with_reducible refine LeO.bind ?_ (fun _ => ?_))
      | exact ih0 _ _ _ _
      | exact ih1 _ _ _ _ _
      | exact LeO.none _
      | refine LeO.ite ?_ ?_
      | refine LeO.bind ?_ (fun _ => ?_)
set_option maxHeartbeats 8000000 in
set_option maxRecDepth 100000 in
theorem stencillaw07_marked.calls (k : Nat) (A0 : Option Addr) (c0 : Nat) (l0 : List Int) (A1 : Option Addr) (c1 : Nat) (l1 : List Int) (a2 : Int) (r : Bool) (w : World) (hr0 : Kd.C (Kd.int .i64) w A0 l0.length l0) (hc0 : l0.length ≤ c0) (hr1 : Kd.C (Kd.int .i64) w A1 l1.length l1) (hc1 : l1.length ≤ c1) (h : stencillaw07_marked.f k l0 l1 a2 = some r) :
    Calls Try.prog 26 #[.slice A0 l0.length c0, .slice A1 l1.length c1, .int .i64 a2] w fun e w' => e = .returned (.bool r) ∧ Drawn0 w w' := by
  have HR0 := Aside0.mk hr0
  have HC0 := Aside0.mk hc0
  clear hr0 hc0
  have HR1 := Aside0.mk hr1
  have HC1 := Aside0.mk hc1
  clear hr1 hc1
  have H : (if (l1.length : Int) = (wrap64 ((l0.length : Int) + 1)) then (stencillaw07_marked.l0 k l0 l1 a2 0) else (some false)) = some r := h
  clear h
  by_cases c4 : (l1.length : Int) = (wrap64 ((l0.length : Int) + 1))
  · rw [if_pos c4] at H
    have c4b0 : ((l1.length : Int) == (wrap64 ((l0.length : Int) + 1))) = true := beq_iff_eq.mpr c4
    have c4b1 : ((l1.length : Int) != (wrap64 ((l0.length : Int) + 1))) = false := bne_eq_false_iff_eq.mpr c4
    clear c4
    have H' := Aside0.mk H
    clear H
    go_enter Try.func26, Try.ntmps26
    go_wp2
    go_loopg [7] k (fun kq v7 w' => ∃ (x7_1 : Int), v7 = .int .i64 x7_1 ∧ Aside0 (stencillaw07_marked.l0 kq l0 l1 a2 x7_1 = some r) ∧ Aside0 (kq ≤ k) ∧ Drawn0 w w')
    case atStart => exact ⟨(0), (by first | rfl | (simp; done) | (simp [*]; done)), H', ⟨Nat.le_refl _⟩, by repeat (first | exact Drawn0.refl _ | apply Drawn0.step)⟩
    case round =>
      clear H'
      try clear c1
      try clear c2
      try clear p2
      try clear c4
      try clear c4b0
      try clear c4b1
      obtain ⟨x7_1, rfl, HA, HK1, ⟨m1, rfl⟩⟩ := hrel
      cases gk with
      | zero => exact absurd HA.out (by simp [stencillaw07_marked.l0])
      | succ k1 =>
        have H := HA.out
        clear HA
        simp only [stencillaw07_marked.l0] at H
        by_cases c5 : x7_1 < (l1.length : Int)
        · rw [if_pos c5] at H
          have c5b0 : decide (x7_1 < (l1.length : Int)) = true := decide_eq_true c5
          clear c5
          have HC6 := Aside0.mk H
          clear H
          go_upto_region 6 with (fail)
          go_cut [39] (fun v39 wc => ∃ (kq : Nat) (x39_5 : Bool), v39 = .bool x39_5 ∧ Aside0 (stencillaw07_marked.j1 kq l0 l1 a2 x7_1 x39_5 = some r) ∧ Aside0 (kq ≤ k1) ∧ Drawn0 w wc)
          case first =>
            have H := HC6.out
            clear HC6
            by_cases c7 : 0 ≤ x7_1
            · rw [if_pos c7] at H
              have c7b0 : decide (0 ≤ x7_1) = true := decide_eq_true c7
              clear c7
              (first | rw [c7b0] | (simp only [i64_w, i32_w]; rw [c7b0]) | skip)
              by_cases c8 : (rd l1 x7_1) = a2
              · rw [if_pos c8] at H
                have c8b0 : ((rd l1 x7_1) == a2) = true := beq_iff_eq.mpr c8
                have c8b1 : ((rd l1 x7_1) != a2) = false := bne_eq_false_iff_eq.mpr c8
                clear c8
                by_cases c9 : x7_1 < (l0.length : Int)
                · rw [if_pos c9] at H
                  have c9b0 : decide (x7_1 < (l0.length : Int)) = true := decide_eq_true c9
                  clear c9
                  have H' := Aside0.mk H
                  clear H
                  have p328 : 0 ≤ (x7_1 : Int) := of_decide_eq_true (by first | (with_reducible assumption) | assumption)
                  have q328 : x7_1 < (l1.length : Int) := of_decide_eq_true (by first | (with_reducible assumption) | assumption)
                  obtain ⟨ad328, e328, hx328_0⟩ := Kd.at_int HR1.out x7_1 p328 q328
                  cases e328
                  replace p328 := eq_true p328
                  replace q328 := eq_true q328
                  have p329 : 0 ≤ (x7_1 : Int) := of_decide_eq_true (by first | (with_reducible assumption) | assumption)
                  have q329 : x7_1 < (l0.length : Int) := of_decide_eq_true (by first | (with_reducible assumption) | assumption)
                  obtain ⟨ad329, e329, hx329_0⟩ := Kd.at_int HR0.out x7_1 p329 q329
                  cases e329
                  replace p329 := eq_true p329
                  replace q329 := eq_true q329
                  go_wp2
                  go_meet
                  case rel => exact ⟨_, (((rd l0 x7_1) != a2)), (by first | rfl | (simp; done) | (simp [*]; done)), H', ⟨by have := HK1.out; first | omega | exact Nat.le_refl _⟩, by repeat (first | exact Drawn0.refl _ | apply Drawn0.step)⟩
                · rw [if_neg c9] at H
                  have c9b0 : decide (x7_1 < (l0.length : Int)) = false := decide_eq_false c9
                  clear c9
                  have H' := Aside0.mk H
                  clear H
                  have p328 : 0 ≤ (x7_1 : Int) := of_decide_eq_true (by first | (with_reducible assumption) | assumption)
                  have q328 : x7_1 < (l1.length : Int) := of_decide_eq_true (by first | (with_reducible assumption) | assumption)
                  obtain ⟨ad328, e328, hx328_0⟩ := Kd.at_int HR1.out x7_1 p328 q328
                  cases e328
                  replace p328 := eq_true p328
                  replace q328 := eq_true q328
                  go_wp2
                  go_meet
                  case rel => exact ⟨_, (false), (by first | rfl | (simp; done) | (simp [*]; done)), H', ⟨by have := HK1.out; first | omega | exact Nat.le_refl _⟩, by repeat (first | exact Drawn0.refl _ | apply Drawn0.step)⟩
              · rw [if_neg c8] at H
                have c8b0 : ((rd l1 x7_1) == a2) = false := beq_eq_false_iff_ne.mpr c8
                have c8b1 : ((rd l1 x7_1) != a2) = true := bne_iff_ne.mpr c8
                have H' := Aside0.mk H
                clear H
                have p328 : 0 ≤ (x7_1 : Int) := of_decide_eq_true (by first | (with_reducible assumption) | assumption)
                have q328 : x7_1 < (l1.length : Int) := of_decide_eq_true (by first | (with_reducible assumption) | assumption)
                obtain ⟨ad328, e328, hx328_0⟩ := Kd.at_int HR1.out x7_1 p328 q328
                cases e328
                replace p328 := eq_true p328
                replace q328 := eq_true q328
                go_wp2
                go_meet
                case rel => exact ⟨_, (true), (by first | rfl | (simp; done) | (simp [*]; done)), H', ⟨by have := HK1.out; first | omega | exact Nat.le_refl _⟩, by repeat (first | exact Drawn0.refl _ | apply Drawn0.step)⟩
            · rw [if_neg c7] at H
              exact absurd H (by simp)
          case rest =>
            clear HC6
            try clear c1
            try clear c2
            try clear p2
            try clear p3
            try clear q3
            try clear hx3
            try clear c4
            try clear c4b0
            try clear c4b1
            try clear c5
            try clear c5b0
            try clear p6
            try clear c7
            try clear c7b0
            try clear c8
            try clear c8b0
            try clear c8b1
            try clear c9
            try clear c9b0
            try clear hx328_0
            try clear hx329_0
            try clear p2
            try clear p328
            try clear p329
            try clear q328
            try clear q329
            obtain ⟨kq, x39_5, rfl, HA, HJ5, ⟨mc5, rfl⟩⟩ := hcut
            cases kq with
            | zero => exact absurd HA.out (by simp [stencillaw07_marked.j1])
            | succ kj5 =>
              have H := HA.out
              clear HA
              simp only [stencillaw07_marked.j1] at H
              by_cases c10 : x39_5 = true
              · subst c10
                have H1 : (some false) = some r := by rw [if_pos rfl] at H; exact H
                clear H
                have H := H1
                clear H1
                obtain rfl := Option.some.inj H
                go_wp2
                go_ret
                exact ⟨by first | rfl | (simp; done) | (simp [*]; done) | (refine congrArg (fun b_ => Ending.returned (Value.bool b_)) ?_; rw [Bool.eq_iff_iff]; simp; done), by repeat (first | exact Drawn0.refl _ | apply Drawn0.step)⟩
              · replace c10 := Bool.eq_false_iff.mpr c10
                subst c10
                have H1 : (stencillaw07_marked.l0 kj5 l0 l1 a2 (wrap64 (x7_1 + 1))) = some r := by rw [if_neg (show ¬ (false = true) by decide)] at H; exact H
                clear H
                have H := H1
                clear H1
                have H' := Aside0.mk H
                clear H
                go_wp2
                go_roundg kj5
                case measure => have := HK1.out; have := HJ5.out; omega
                case rel => exact ⟨(wrap64 (x7_1 + 1)), (by first | rfl | (simp; done) | (simp [*]; done)), H', ⟨by have := HK1.out; have := HJ5.out; omega⟩, by repeat (first | exact Drawn0.refl _ | apply Drawn0.step)⟩
        · rw [if_neg c5] at H
          have c5b0 : decide (x7_1 < (l1.length : Int)) = false := decide_eq_false c5
          clear c5
          obtain rfl := Option.some.inj H
          go_wp2
          go_ret
          exact ⟨by first | rfl | (simp; done) | (simp [*]; done) | (refine congrArg (fun b_ => Ending.returned (Value.bool b_)) ?_; rw [Bool.eq_iff_iff]; simp; done), by repeat (first | exact Drawn0.refl _ | apply Drawn0.step)⟩
  · rw [if_neg c4] at H
    have c4b0 : ((l1.length : Int) == (wrap64 ((l0.length : Int) + 1))) = false := beq_eq_false_iff_ne.mpr c4
    have c4b1 : ((l1.length : Int) != (wrap64 ((l0.length : Int) + 1))) = true := bne_iff_ne.mpr c4
    obtain rfl := Option.some.inj H
    go_enter Try.func26, Try.ntmps26
    go_wp2
    go_ret
    exact ⟨by first | rfl | (simp; done) | (simp [*]; done) | (refine congrArg (fun b_ => Ending.returned (Value.bool b_)) ?_; rw [Bool.eq_iff_iff]; simp; done), by repeat (first | exact Drawn0.refl _ | apply Drawn0.step)⟩

/-! ### stencillaw07_sized: function 27 -/
mutual
def stencillaw07_sized.l0 : Nat → List (S39) → List (S39) → Int → Int → Option (Bool)
  | 0, _, _, _, _ => none
  | k + 1, x0, x1, x2, x7 => if x7 < (x1.length : Int) then (if 0 ≤ x7 then (if (!(((rd_T39 x1 x7).f0) == x2) || (!(((rd_T39 x1 x7).f1) == 0))) = true then (stencillaw07_sized.j1 k x0 x1 x2 x7 true) else (if x7 < (x0.length : Int) then (stencillaw07_sized.j1 k x0 x1 x2 x7 (!(((rd_T39 x0 x7).f0) == x2) || (!(((rd_T39 x0 x7).f1) == 0)))) else (stencillaw07_sized.j1 k x0 x1 x2 x7 false))) else (none)) else (some true)
def stencillaw07_sized.j1 : Nat → List (S39) → List (S39) → Int → Int → Bool → Option (Bool)
  | 0, _, _, _, _, _ => none
  | k + 1, x0, x1, x2, x7, x41 => if x41 = true then (some false) else (stencillaw07_sized.l0 k x0 x1 x2 (wrap64 (x7 + 1)))
end
def stencillaw07_sized.f (k : Nat) (l0 : List (S39)) (l1 : List (S39)) (a2 : Int) : Option (Bool) := if (l1.length : Int) = (wrap64 ((l0.length : Int) + 1)) then (stencillaw07_sized.l0 k l0 l1 a2 0) else (some false)
theorem stencillaw07_sized.mono_l : ∀ k, (∀ y0 y1 y2 y3, LeO (stencillaw07_sized.l0 k y0 y1 y2 y3) (stencillaw07_sized.l0 (k + 1) y0 y1 y2 y3)) ∧ (∀ y0 y1 y2 y3 y4, LeO (stencillaw07_sized.j1 k y0 y1 y2 y3 y4) (stencillaw07_sized.j1 (k + 1) y0 y1 y2 y3 y4))
  | 0 => ⟨fun _ _ _ _ r h => by simp [stencillaw07_sized.l0] at h, fun _ _ _ _ _ r h => by simp [stencillaw07_sized.j1] at h⟩
  | k + 1 => by
    obtain ⟨ih0, ih1⟩ := stencillaw07_sized.mono_l k
    refine ⟨?_, ?_⟩
    · intro y0 y1 y2 y3
      unfold stencillaw07_sized.l0
      repeat' first
      | (with_reducible exact ih0 _ _ _ _)
      | (with_reducible exact ih1 _ _ _ _ _)
      | (with_reducible exact LeO.refl _)
      | (with_reducible exact LeO.none _)
      | (with_reducible refine LeO.ite ?_ ?_)
      | (with_reducible refine LeO.bind ?_ (fun _ => ?_))
      | exact ih0 _ _ _ _
      | exact ih1 _ _ _ _ _
      | exact LeO.none _
      | refine LeO.ite ?_ ?_
      | refine LeO.bind ?_ (fun _ => ?_)
    · intro y0 y1 y2 y3 y4
      unfold stencillaw07_sized.j1
      repeat' first
      | (with_reducible exact ih0 _ _ _ _)
      | (with_reducible exact ih1 _ _ _ _ _)
      | (with_reducible exact LeO.refl _)
      | (with_reducible exact LeO.none _)
      | (with_reducible refine LeO.ite ?_ ?_)
      | (with_reducible refine LeO.bind ?_ (fun _ => ?_))
      | exact ih0 _ _ _ _
      | exact ih1 _ _ _ _ _
      | exact LeO.none _
      | refine LeO.ite ?_ ?_
      | refine LeO.bind ?_ (fun _ => ?_)
theorem stencillaw07_sized.mono : ∀ a0 a1 a2 k, LeO (stencillaw07_sized.f k a0 a1 a2) (stencillaw07_sized.f (k + 1) a0 a1 a2) := by
  intro a0 a1 a2 k
  obtain ⟨ih0, ih1⟩ := stencillaw07_sized.mono_l k
  unfold stencillaw07_sized.f
  repeat' first
      | (with_reducible exact ih0 _ _ _ _)
      | (with_reducible exact ih1 _ _ _ _ _)
      | (with_reducible exact LeO.refl _)
      | (with_reducible exact LeO.none _)
      | (with_reducible refine LeO.ite ?_ ?_)
      | (with_reducible refine LeO.bind ?_ (fun _ => ?_))
      | exact ih0 _ _ _ _
      | exact ih1 _ _ _ _ _
      | exact LeO.none _
      | refine LeO.ite ?_ ?_
      | refine LeO.bind ?_ (fun _ => ?_)
set_option maxHeartbeats 8000000 in
set_option maxRecDepth 100000 in
theorem stencillaw07_sized.calls (k : Nat) (A0 : Option Addr) (c0 : Nat) (l0 : List (S39)) (A1 : Option Addr) (c1 : Nat) (l1 : List (S39)) (a2 : Int) (r : Bool) (w : World) (hr0 : Kd.C k39 w A0 l0.length l0) (hc0 : l0.length ≤ c0) (hr1 : Kd.C k39 w A1 l1.length l1) (hc1 : l1.length ≤ c1) (h : stencillaw07_sized.f k l0 l1 a2 = some r) :
    Calls Try.prog 27 #[.slice A0 l0.length c0, .slice A1 l1.length c1, .int .i64 a2] w fun e w' => e = .returned (.bool r) ∧ Drawn0 w w' := by
  have hu39 := Try.underlying39
  have HR0 := Aside0.mk hr0
  have HC0 := Aside0.mk hc0
  clear hr0 hc0
  have HR1 := Aside0.mk hr1
  have HC1 := Aside0.mk hc1
  clear hr1 hc1
  have H : (if (l1.length : Int) = (wrap64 ((l0.length : Int) + 1)) then (stencillaw07_sized.l0 k l0 l1 a2 0) else (some false)) = some r := h
  clear h
  by_cases c4 : (l1.length : Int) = (wrap64 ((l0.length : Int) + 1))
  · rw [if_pos c4] at H
    have c4b0 : ((l1.length : Int) == (wrap64 ((l0.length : Int) + 1))) = true := beq_iff_eq.mpr c4
    have c4b1 : ((l1.length : Int) != (wrap64 ((l0.length : Int) + 1))) = false := bne_eq_false_iff_eq.mpr c4
    clear c4
    have H' := Aside0.mk H
    clear H
    go_enter Try.func27, Try.ntmps27
    go_wp2
    go_loopg [7] k (fun kq v7 w' => ∃ (x7_1 : Int), v7 = .int .i64 x7_1 ∧ Aside0 (stencillaw07_sized.l0 kq l0 l1 a2 x7_1 = some r) ∧ Aside0 (kq ≤ k) ∧ Drawn0 w w')
    case atStart => exact ⟨(0), (by first | rfl | (simp; done) | (simp [*]; done)), H', ⟨Nat.le_refl _⟩, by repeat (first | exact Drawn0.refl _ | apply Drawn0.step)⟩
    case round =>
      clear H'
      try clear c1
      try clear c2
      try clear p2
      try clear c4
      try clear c4b0
      try clear c4b1
      obtain ⟨x7_1, rfl, HA, HK1, ⟨m1, rfl⟩⟩ := hrel
      cases gk with
      | zero => exact absurd HA.out (by simp [stencillaw07_sized.l0])
      | succ k1 =>
        have H := HA.out
        clear HA
        simp only [stencillaw07_sized.l0] at H
        by_cases c5 : x7_1 < (l1.length : Int)
        · rw [if_pos c5] at H
          have c5b0 : decide (x7_1 < (l1.length : Int)) = true := decide_eq_true c5
          clear c5
          have HC6 := Aside0.mk H
          clear H
          go_upto_region 6 with (fail)
          go_cut [41] (fun v41 wc => ∃ (kq : Nat) (x41_5 : Bool), v41 = .bool x41_5 ∧ Aside0 (stencillaw07_sized.j1 kq l0 l1 a2 x7_1 x41_5 = some r) ∧ Aside0 (kq ≤ k1) ∧ Drawn0 w wc)
          case first =>
            have H := HC6.out
            clear HC6
            by_cases c7 : 0 ≤ x7_1
            · rw [if_pos c7] at H
              have c7b0 : decide (0 ≤ x7_1) = true := decide_eq_true c7
              clear c7
              (first | rw [c7b0] | (simp only [i64_w, i32_w]; rw [c7b0]) | skip)
              by_cases c8 : (!(((rd_T39 l1 x7_1).f0) == a2) || (!(((rd_T39 l1 x7_1).f1) == 0))) = true
              · rw [if_pos c8] at H
                have c8b0 : (!(((rd_T39 l1 x7_1).f0) == a2) || (!(((rd_T39 l1 x7_1).f1) == 0))) = true := c8
                clear c8
                have H' := Aside0.mk H
                clear H
                have p330 : 0 ≤ (x7_1 : Int) := of_decide_eq_true (by first | (with_reducible assumption) | assumption)
                have q330 : x7_1 < (l1.length : Int) := of_decide_eq_true (by first | (with_reducible assumption) | assumption)
                obtain ⟨ad330, e330, hx330_0, hx330_1⟩ := at_T39 HR1.out x7_1 p330 q330
                cases e330
                replace p330 := eq_true p330
                replace q330 := eq_true q330
                go_wp2
                go_meet
                case rel => exact ⟨_, (true), (by first | rfl | (simp; done) | (simp [*]; done)), H', ⟨by have := HK1.out; first | omega | exact Nat.le_refl _⟩, by repeat (first | exact Drawn0.refl _ | apply Drawn0.step)⟩
              · rw [if_neg c8] at H
                have c8b0 : (!(((rd_T39 l1 x7_1).f0) == a2) || (!(((rd_T39 l1 x7_1).f1) == 0))) = false := by simpa using c8
                clear c8
                by_cases c9 : x7_1 < (l0.length : Int)
                · rw [if_pos c9] at H
                  have c9b0 : decide (x7_1 < (l0.length : Int)) = true := decide_eq_true c9
                  clear c9
                  have H' := Aside0.mk H
                  clear H
                  have p330 : 0 ≤ (x7_1 : Int) := of_decide_eq_true (by first | (with_reducible assumption) | assumption)
                  have q330 : x7_1 < (l1.length : Int) := of_decide_eq_true (by first | (with_reducible assumption) | assumption)
                  obtain ⟨ad330, e330, hx330_0, hx330_1⟩ := at_T39 HR1.out x7_1 p330 q330
                  cases e330
                  replace p330 := eq_true p330
                  replace q330 := eq_true q330
                  have p331 : 0 ≤ (x7_1 : Int) := of_decide_eq_true (by first | (with_reducible assumption) | assumption)
                  have q331 : x7_1 < (l0.length : Int) := of_decide_eq_true (by first | (with_reducible assumption) | assumption)
                  obtain ⟨ad331, e331, hx331_0, hx331_1⟩ := at_T39 HR0.out x7_1 p331 q331
                  cases e331
                  replace p331 := eq_true p331
                  replace q331 := eq_true q331
                  go_wp2
                  go_meet
                  case rel => exact ⟨_, ((!(((rd_T39 l0 x7_1).f0) == a2) || (!(((rd_T39 l0 x7_1).f1) == 0)))), (by first | rfl | (simp; done) | (simp [*]; done)), H', ⟨by have := HK1.out; first | omega | exact Nat.le_refl _⟩, by repeat (first | exact Drawn0.refl _ | apply Drawn0.step)⟩
                · rw [if_neg c9] at H
                  have c9b0 : decide (x7_1 < (l0.length : Int)) = false := decide_eq_false c9
                  clear c9
                  have H' := Aside0.mk H
                  clear H
                  have p330 : 0 ≤ (x7_1 : Int) := of_decide_eq_true (by first | (with_reducible assumption) | assumption)
                  have q330 : x7_1 < (l1.length : Int) := of_decide_eq_true (by first | (with_reducible assumption) | assumption)
                  obtain ⟨ad330, e330, hx330_0, hx330_1⟩ := at_T39 HR1.out x7_1 p330 q330
                  cases e330
                  replace p330 := eq_true p330
                  replace q330 := eq_true q330
                  go_wp2
                  go_meet
                  case rel => exact ⟨_, (false), (by first | rfl | (simp; done) | (simp [*]; done)), H', ⟨by have := HK1.out; first | omega | exact Nat.le_refl _⟩, by repeat (first | exact Drawn0.refl _ | apply Drawn0.step)⟩
            · rw [if_neg c7] at H
              exact absurd H (by simp)
          case rest =>
            clear HC6
            try clear c1
            try clear c2
            try clear p2
            try clear p3
            try clear q3
            try clear hx3
            try clear c4
            try clear c4b0
            try clear c4b1
            try clear c5
            try clear c5b0
            try clear p6
            try clear c7
            try clear c7b0
            try clear c8
            try clear c8b0
            try clear c9
            try clear c9b0
            try clear hx330_0
            try clear hx330_1
            try clear hx331_0
            try clear hx331_1
            try clear p2
            try clear p330
            try clear p331
            try clear q330
            try clear q331
            obtain ⟨kq, x41_5, rfl, HA, HJ5, ⟨mc5, rfl⟩⟩ := hcut
            cases kq with
            | zero => exact absurd HA.out (by simp [stencillaw07_sized.j1])
            | succ kj5 =>
              have H := HA.out
              clear HA
              simp only [stencillaw07_sized.j1] at H
              by_cases c10 : x41_5 = true
              · subst c10
                have H1 : (some false) = some r := by rw [if_pos rfl] at H; exact H
                clear H
                have H := H1
                clear H1
                obtain rfl := Option.some.inj H
                go_wp2
                go_ret
                exact ⟨by first | rfl | (simp; done) | (simp [*]; done) | (refine congrArg (fun b_ => Ending.returned (Value.bool b_)) ?_; rw [Bool.eq_iff_iff]; simp; done), by repeat (first | exact Drawn0.refl _ | apply Drawn0.step)⟩
              · replace c10 := Bool.eq_false_iff.mpr c10
                subst c10
                have H1 : (stencillaw07_sized.l0 kj5 l0 l1 a2 (wrap64 (x7_1 + 1))) = some r := by rw [if_neg (show ¬ (false = true) by decide)] at H; exact H
                clear H
                have H := H1
                clear H1
                have H' := Aside0.mk H
                clear H
                go_wp2
                go_roundg kj5
                case measure => have := HK1.out; have := HJ5.out; omega
                case rel => exact ⟨(wrap64 (x7_1 + 1)), (by first | rfl | (simp; done) | (simp [*]; done)), H', ⟨by have := HK1.out; have := HJ5.out; omega⟩, by repeat (first | exact Drawn0.refl _ | apply Drawn0.step)⟩
        · rw [if_neg c5] at H
          have c5b0 : decide (x7_1 < (l1.length : Int)) = false := decide_eq_false c5
          clear c5
          obtain rfl := Option.some.inj H
          go_wp2
          go_ret
          exact ⟨by first | rfl | (simp; done) | (simp [*]; done) | (refine congrArg (fun b_ => Ending.returned (Value.bool b_)) ?_; rw [Bool.eq_iff_iff]; simp; done), by repeat (first | exact Drawn0.refl _ | apply Drawn0.step)⟩
  · rw [if_neg c4] at H
    have c4b0 : ((l1.length : Int) == (wrap64 ((l0.length : Int) + 1))) = false := beq_eq_false_iff_ne.mpr c4
    have c4b1 : ((l1.length : Int) != (wrap64 ((l0.length : Int) + 1))) = true := bne_iff_ne.mpr c4
    obtain rfl := Option.some.inj H
    go_enter Try.func27, Try.ntmps27
    go_wp2
    go_ret
    exact ⟨by first | rfl | (simp; done) | (simp [*]; done) | (refine congrArg (fun b_ => Ending.returned (Value.bool b_)) ?_; rw [Bool.eq_iff_iff]; simp; done), by repeat (first | exact Drawn0.refl _ | apply Drawn0.step)⟩

end Go.Proofs.Ythckejcoekhdjaa.Q
