-- Made by a wrapper of this project over the kit's print.py, with contracts by hand beside it. Not trusted: Lean checks it.
import Derived.Test.YthckejcoekhdjaaQx0
import Derived.Test.YthckejcoekhdjaaQx5
namespace Go.Proofs.Ythckejcoekhdjaa.Q
open Go.RowKit Go.Proofs.YthckejcoekhdjaaW.PrintWords Go.Proofs.YthckejcoekhdjaaW.PrintLast Go.Proofs.YthckejcoekhdjaaW.PrintMore
attribute [local go_sem] max2_int min2_int max_two min_two max_three min_three max_four min_four   -- for this text's walks alone
set_option linter.unusedVariables false
set_option linter.unusedSimpArgs false

/-! ### stencilref07_Gaps: function 19 -/
mutual
def stencilref07_Gaps.l0 : Nat → List (S39) → List Int → Int → List Bool → Int → Option ((List (S39)) × Int)
  | 0, _, _, _, _, _ => none
  | k + 1, x0, x1, x2, x9, x10 => if x10 < (x0.length : Int) then (stencilref07_Gaps.l1 k x0 x1 x2 x9 x10 0) else (stencilref07_Gaps.l2 k x2 x9 ([] : List (S39)) 0 0)
def stencilref07_Gaps.l1 : Nat → List (S39) → List Int → Int → List Bool → Int → Int → Option ((List (S39)) × Int)
  | 0, _, _, _, _, _, _ => none
  | k + 1, x0, x1, x2, x9, x10, x11 => if 0 ≤ x10 then (if x10 < (x0.length : Int) then (if x11 < ((rd_T39 x0 x10).f0) then (if x10 < (x1.length : Int) then (if 0 ≤ (wrap64 ((rd x1 x10) + x11)) then (if (wrap64 ((rd x1 x10) + x11)) < (x9.length : Int) then (stencilref07_Gaps.l1 k x0 x1 x2 (x9.set ((wrap64 ((rd x1 x10) + x11)) : Int).toNat true) x10 (wrap64 (x11 + 1))) else (none)) else (none)) else (none)) else (stencilref07_Gaps.l0 k x0 x1 x2 x9 (wrap64 (x10 + 1)))) else (none)) else (none)
def stencilref07_Gaps.l2 : Nat → Int → List Bool → List (S39) → Int → Int → Option ((List (S39)) × Int)
  | 0, _, _, _, _, _ => none
  | k + 1, x2, x9, x12, x13, x14 => if x14 < x2 then (if 0 ≤ x14 then (if x14 < (x9.length : Int) then (if rdOf false x9 x14 = true then (stencilref07_Gaps.l2 k x2 x9 x12 0 (wrap64 (x14 + 1))) else (if (wrap64 (x14 + 1)) = x2 then (if x12.length < 8796093022208 then (stencilref07_Gaps.l2 k x2 x9 (x12 ++ [(⟨wrap64 (x13 + 1), wrap64 ((wrap64 (x14 + 1)) - (wrap64 (x13 + 1)))⟩ : S39)]) (wrap64 (x13 + 1)) (wrap64 (x14 + 1))) else (none)) else (if 0 ≤ (wrap64 (x14 + 1)) then (if (wrap64 (x14 + 1)) < (x9.length : Int) then (if rdOf false x9 (wrap64 (x14 + 1)) = true then (if x12.length < 8796093022208 then (stencilref07_Gaps.l2 k x2 x9 (x12 ++ [(⟨wrap64 (x13 + 1), wrap64 ((wrap64 (x14 + 1)) - (wrap64 (x13 + 1)))⟩ : S39)]) (wrap64 (x13 + 1)) (wrap64 (x14 + 1))) else (none)) else (stencilref07_Gaps.l2 k x2 x9 x12 (wrap64 (x13 + 1)) (wrap64 (x14 + 1)))) else (none)) else (none)))) else (none)) else (none)) else (some (x12, 0))
end
def stencilref07_Gaps.f (k : Nat) (l0 : List (S39)) (l1 : List Int) (a2 : Int) : Option ((List (S39)) × Int) := (stencilref07_Laid.f k l0 l1 a2).bind fun t164 => (if t164 = true then (if 0 ≤ a2 then (if (a2 : Int).toNat ≤ 281474976710656 then (stencilref07_Gaps.l0 k l0 l1 a2 (List.replicate (a2 : Int).toNat false) 0) else (none)) else (none)) else (some (([] : List (S39)), 73)))
theorem stencilref07_Gaps.mono_l : ∀ k, (∀ y0 y1 y2 y3 y4, LeO (stencilref07_Gaps.l0 k y0 y1 y2 y3 y4) (stencilref07_Gaps.l0 (k + 1) y0 y1 y2 y3 y4)) ∧ (∀ y0 y1 y2 y3 y4 y5, LeO (stencilref07_Gaps.l1 k y0 y1 y2 y3 y4 y5) (stencilref07_Gaps.l1 (k + 1) y0 y1 y2 y3 y4 y5)) ∧ (∀ y0 y1 y2 y3 y4, LeO (stencilref07_Gaps.l2 k y0 y1 y2 y3 y4) (stencilref07_Gaps.l2 (k + 1) y0 y1 y2 y3 y4))
  | 0 => ⟨fun _ _ _ _ _ r h => by simp [stencilref07_Gaps.l0] at h, fun _ _ _ _ _ _ r h => by simp [stencilref07_Gaps.l1] at h, fun _ _ _ _ _ r h => by simp [stencilref07_Gaps.l2] at h⟩
  | k + 1 => by
    obtain ⟨ih0, ih1, ih2⟩ := stencilref07_Gaps.mono_l k
    refine ⟨?_, ?_, ?_⟩
    · intro y0 y1 y2 y3 y4
      unfold stencilref07_Gaps.l0
      repeat' first
      | (with_reducible exact ih0 _ _ _ _ _)
      | (with_reducible exact ih1 _ _ _ _ _ _)
      | (with_reducible exact ih2 _ _ _ _ _)
      | (with_reducible exact stencilref07_Laid.mono _ _ _ _)
      | (with_reducible exact LeO.refl _)
      | (with_reducible exact LeO.none _)
      | (with_reducible refine LeO.ite ?_ ?_)
      | (with_reducible refine LeO.bind ?_ (fun _ => ?_))
      | exact ih0 _ _ _ _ _
      | exact ih1 _ _ _ _ _ _
      | exact ih2 _ _ _ _ _
      | exact stencilref07_Laid.mono _ _ _ _
      | exact LeO.none _
      | refine LeO.ite ?_ ?_
      | refine LeO.bind ?_ (fun _ => ?_)
    · intro y0 y1 y2 y3 y4 y5
      unfold stencilref07_Gaps.l1
      repeat' first
      | (with_reducible exact ih0 _ _ _ _ _)
      | (with_reducible exact ih1 _ _ _ _ _ _)
      | (with_reducible exact ih2 _ _ _ _ _)
      | (with_reducible exact stencilref07_Laid.mono _ _ _ _)
      | (with_reducible exact LeO.refl _)
      | (with_reducible exact LeO.none _)
      | (with_reducible refine LeO.ite ?_ ?_)
      | (with_reducible refine LeO.bind ?_ (fun _ => ?_))
      | exact ih0 _ _ _ _ _
      | exact ih1 _ _ _ _ _ _
      | exact ih2 _ _ _ _ _
      | exact stencilref07_Laid.mono _ _ _ _
      | exact LeO.none _
      | refine LeO.ite ?_ ?_
      | refine LeO.bind ?_ (fun _ => ?_)
    · intro y0 y1 y2 y3 y4
      unfold stencilref07_Gaps.l2
      repeat' first
      | (with_reducible exact ih0 _ _ _ _ _)
      | (with_reducible exact ih1 _ _ _ _ _ _)
      | (with_reducible exact ih2 _ _ _ _ _)
      | (with_reducible exact stencilref07_Laid.mono _ _ _ _)
      | (with_reducible exact LeO.refl _)
      | (with_reducible exact LeO.none _)
      | (with_reducible refine LeO.ite ?_ ?_)
      | (with_reducible refine LeO.bind ?_ (fun _ => ?_))
      | exact ih0 _ _ _ _ _
      | exact ih1 _ _ _ _ _ _
      | exact ih2 _ _ _ _ _
      | exact stencilref07_Laid.mono _ _ _ _
      | exact LeO.none _
      | refine LeO.ite ?_ ?_
      | refine LeO.bind ?_ (fun _ => ?_)
theorem stencilref07_Gaps.mono : ∀ a0 a1 a2 k, LeO (stencilref07_Gaps.f k a0 a1 a2) (stencilref07_Gaps.f (k + 1) a0 a1 a2) := by
  intro a0 a1 a2 k
  obtain ⟨ih0, ih1, ih2⟩ := stencilref07_Gaps.mono_l k
  unfold stencilref07_Gaps.f
  repeat' first
      | (with_reducible exact ih0 _ _ _ _ _)
      | (with_reducible exact ih1 _ _ _ _ _ _)
      | (with_reducible exact ih2 _ _ _ _ _)
      | (with_reducible exact stencilref07_Laid.mono _ _ _ _)
      | (with_reducible exact LeO.refl _)
      | (with_reducible exact LeO.none _)
      | (with_reducible refine LeO.ite ?_ ?_)
      | (with_reducible refine LeO.bind ?_ (fun _ => ?_))
      | exact ih0 _ _ _ _ _
      | exact ih1 _ _ _ _ _ _
      | exact ih2 _ _ _ _ _
      | exact stencilref07_Laid.mono _ _ _ _
      | exact LeO.none _
      | refine LeO.ite ?_ ?_
      | refine LeO.bind ?_ (fun _ => ?_)
set_option maxHeartbeats 8000000 in
set_option maxRecDepth 100000 in
theorem stencilref07_Gaps.calls (k : Nat) (A0 : Option Addr) (c0 : Nat) (l0 : List (S39)) (A1 : Option Addr) (c1 : Nat) (l1 : List Int) (a2 : Int) (r1 : List (S39)) (r2 : Int) (w : World) (hr0 : Kd.C k39 w A0 l0.length l0) (hc0 : l0.length ≤ c0) (hr1 : Kd.C (Kd.int .i64) w A1 l1.length l1) (hc1 : l1.length ≤ c1) (h : stencilref07_Gaps.f k l0 l1 a2 = some (r1, r2)) :
    Calls Try.prog 19 #[.slice A0 l0.length c0, .slice A1 l1.length c1, .int .i64 a2] w fun e w' => ∃ v0_ : Value, e = .returned (.tuple #[v0_, .int .i64 r2]) ∧ Kd.R k39 39 w' w.heap.size (fun _ => True) v0_ r1 ∧ Below w.heap.size w w' := by
  have hu39 := Try.underlying39
  have HR0 := Aside0.mk hr0
  have HC0 := Aside0.mk hc0
  clear hr0 hc0
  have HR1 := Aside0.mk hr1
  have HC1 := Aside0.mk hc1
  clear hr1 hc1
  have HB := Aside0.mk (Below.refl w.heap.size w)
  have H : ((stencilref07_Laid.f k l0 l1 a2).bind fun t164 => (if t164 = true then (if 0 ≤ a2 then (if (a2 : Int).toNat ≤ 281474976710656 then (stencilref07_Gaps.l0 k l0 l1 a2 (List.replicate (a2 : Int).toNat false) 0) else (none)) else (none)) else (some (([] : List (S39)), 73)))) = some (r1, r2) := h
  clear h
  replace H := Option.bind_eq_some_iff.mp H
  obtain ⟨t164, A40, H⟩ := H
  replace H : (if t164 = true then (if 0 ≤ a2 then (if (a2 : Int).toNat ≤ 281474976710656 then (stencilref07_Gaps.l0 k l0 l1 a2 (List.replicate (a2 : Int).toNat false) 0) else (none)) else (none)) else (some (([] : List (S39)), 73))) = some (r1, r2) := H
  have A4 := Aside0.mk A40
  clear A40
  by_cases c5 : t164 = true
  · subst c5
    have H1 : (if 0 ≤ a2 then (if (a2 : Int).toNat ≤ 281474976710656 then (stencilref07_Gaps.l0 k l0 l1 a2 (List.replicate (a2 : Int).toNat false) 0) else (none)) else (none)) = some (r1, r2) := by rw [if_pos rfl] at H; exact H
    clear H
    have H := H1
    clear H1
    by_cases c6 : 0 ≤ a2
    · rw [if_pos c6] at H
      have c6b0 := eq_true c6
      have c6b1 : decide (0 ≤ a2) = true := decide_eq_true c6
      clear c6
      by_cases c7 : (a2 : Int).toNat ≤ 281474976710656
      · rw [if_pos c7] at H
        have c7b0 := eq_true c7
        have c7b1 : decide ((a2 : Int).toNat ≤ 281474976710656) = true := decide_eq_true c7
        clear c7
        obtain ⟨y165, hy165⟩ : ∃ y_ : List Bool, y_ = (List.replicate (a2 : Int).toNat false) := ⟨_, rfl⟩
        replace H : (stencilref07_Gaps.l0 k l0 l1 a2 y165 0) = some (r1, r2) := by first | (rw [hy165]; with_reducible exact H) | (have H2_ := (Option.bind_some _ _).symm.trans H; rw [hy165]; with_reducible exact H2_) | (have H2_ := (Option.bind_some _ _).symm.trans H; with_reducible exact H2_) | with_reducible exact H | (rw [hy165]; exact H) | exact H
        have Ny165 := Aside0.mk hy165
        clear hy165
        have H' := Aside0.mk H
        clear H
        go_enter Try.func19, Try.ntmps19
        go_wp2_with (first | ((with_reducible refine gate_callee (f := 30) rfl ?_); refine goesL_ (some 18) rfl rfl Try.func30 (by kernel_rfl) rfl #[.slice A0 l0.length c0, .slice A1 l1.length c1, .int .i64 a2] rfl (by (try simp only [List.map_toArray, List.map_cons, List.map_nil]); first | done | rfl | (simp only [List.length_drop, List.length_take]; rfl)) ?_; (with_reducible refine (stencilref07_Laid.calls k _ _ l0 _ _ l1 a2 true _ ?side1 ?side2 ?side3 ?side4 A4.out).mono ?_); (case side1 => repeat (first | exact HR0.out | (with_reducible refine Kd.C_alloc ?_ _) | (with_reducible refine Kd.C_drewN ?_ _) | (with_reducible refine Kd.C_drew ?_))); (case side2 => exact HC0.out); (case side3 => repeat (first | exact HR1.out | (with_reducible refine Kd.C_alloc ?_ _) | (with_reducible refine Kd.C_drewN ?_ _) | (with_reducible refine Kd.C_drew ?_))); (case side4 => exact HC1.out); rintro e w' ⟨rfl, ⟨nd, rfl⟩⟩; refine ⟨_, rfl, ?_⟩) | ((with_reducible refine gate_dst (N := 22) rfl ?_); refine Kd.R_make Kd.bool _ 4 rfl (N := 22) rfl 49 _ _ rfl a2 rfl rfl Try.underlying49 (.bool false) 1 info4 rfl (by decide) (by omega) false (ok := fun _ => True) (okp := fun _ => True) rfl (fun _ hk => hk) trivial (of_decide_eq_true (by first | (with_reducible assumption) | assumption)) (Nat.le_trans (Nat.mul_le_mul_right _ (of_decide_eq_true (by first | (with_reducible assumption) | assumption) : a2.toNat ≤ 281474976710656)) (by omega)) (Below.refl _ _) (Nat.le_refl _) ?_; intro v166 w8 ho9 hb hg_ hnew_; clear hg_ hnew_; (first | rw [← Ny165.out] at ho9 | (simp only [Int.reduceToNat] at ho9; rw [← Ny165.out] at ho9)); have n0_ := Aside0.mk (Kd.R_lower ho9 (below_size (by repeat (first | (with_reducible first | exact HB.out | apply below_alloc | apply pw_below_drewN | apply below_drew1) | exact HB.out)))); have n1_ := Aside0.mk (below_step (by repeat (first | (with_reducible first | exact HB.out | apply below_alloc | apply pw_below_drewN | apply below_drew1) | exact HB.out)) hb); clear HB; have HO167 := n0_; have HB := n1_; clear n0_ n1_; clear hb ho9))
        go_loopg [10] k (fun kq v10 w' => ∃ (x9_1 : List Bool) (x10_1 : Int), v10 = .int .i64 x10_1 ∧ Aside0 (stencilref07_Gaps.l0 kq l0 l1 a2 x9_1 x10_1 = some (r1, r2)) ∧ Aside0 (kq ≤ k) ∧ Aside0 (Kd.R Kd.bool 4 w' w.heap.size (fun _ => True) v166 x9_1) ∧ Aside0 (Below w.heap.size w w'))
        case atStart => exact ⟨(y165), (0), (by first | rfl | (simp; done) | (simp [*]; done)), H', ⟨Nat.le_refl _⟩, ⟨by (with_reducible repeat (first | apply Kd.R_alloc | apply Kd.R_drewN | apply Kd.R_drew)); exact HO167.out⟩, ⟨by repeat (first | (with_reducible first | exact HB.out | apply below_alloc | apply pw_below_drewN | apply below_drew1) | exact HB.out)⟩⟩
        case round =>
          clear H'
          try clear c1
          try clear p2
          try clear c3
          try clear c5
          try clear c6
          try clear c6b0
          try clear c6b1
          try clear c7
          try clear c7b0
          try clear c7b1
          obtain ⟨x9_1, x10_1, rfl, HA, HK1, HO_9, HB⟩ := hrel
          cases gk with
          | zero => exact absurd HA.out (by simp [stencilref07_Gaps.l0])
          | succ k1 =>
            have H := HA.out
            clear HA
            simp only [stencilref07_Gaps.l0] at H
            by_cases c10 : x10_1 < (l0.length : Int)
            · rw [if_pos c10] at H
              have c10b0 : decide (x10_1 < (l0.length : Int)) = true := decide_eq_true c10
              clear c10
              have H' := Aside0.mk H
              clear H
              go_wp2
              go_loopg [11] k1 (fun kq v11 w' => ∃ (x9_2 : List Bool) (x11_2 : Int), v11 = .int .i64 x11_2 ∧ Aside0 (stencilref07_Gaps.l1 kq l0 l1 a2 x9_2 x10_1 x11_2 = some (r1, r2)) ∧ Aside0 (kq ≤ k1) ∧ Aside0 (Kd.R Kd.bool 4 w' w.heap.size (fun _ => True) v166 x9_2) ∧ Aside0 (Below w.heap.size w w'))
              case atStart => exact ⟨(x9_1), (0), (by first | rfl | (simp; done) | (simp [*]; done)), H', ⟨Nat.le_refl _⟩, ⟨by (with_reducible repeat (first | apply Kd.R_alloc | apply Kd.R_drewN | apply Kd.R_drew)); exact HO_9.out⟩, ⟨by repeat (first | (with_reducible first | exact HB.out | apply below_alloc | apply pw_below_drewN | apply below_drew1) | exact HB.out)⟩⟩
              case round =>
                clear H'
                try clear c1
                try clear p2
                try clear c3
                try clear c5
                try clear c6
                try clear c6b0
                try clear c6b1
                try clear c7
                try clear c7b0
                try clear c7b1
                try clear c10
                try clear c10b0
                try clear p2
                obtain ⟨x9_2, x11_2, rfl, HA, HK2, HO_9, HB⟩ := hrel
                cases gk with
                | zero => exact absurd HA.out (by simp [stencilref07_Gaps.l1])
                | succ k2 =>
                  have H := HA.out
                  clear HA
                  simp only [stencilref07_Gaps.l1] at H
                  by_cases c11 : 0 ≤ x10_1
                  · rw [if_pos c11] at H
                    have c11b0 : decide (0 ≤ x10_1) = true := decide_eq_true c11
                    clear c11
                    by_cases c12 : x10_1 < (l0.length : Int)
                    · rw [if_pos c12] at H
                      have c12b0 : decide (x10_1 < (l0.length : Int)) = true := decide_eq_true c12
                      clear c12
                      by_cases c13 : x11_2 < ((rd_T39 l0 x10_1).f0)
                      · rw [if_pos c13] at H
                        have c13b0 : decide (x11_2 < ((rd_T39 l0 x10_1).f0)) = true := decide_eq_true c13
                        clear c13
                        by_cases c14 : x10_1 < (l1.length : Int)
                        · rw [if_pos c14] at H
                          have c14b0 : decide (x10_1 < (l1.length : Int)) = true := decide_eq_true c14
                          clear c14
                          obtain ⟨ji15, hji15⟩ : ∃ j_ : Int, (wrap64 ((rd l1 x10_1) + x11_2)) = j_ := ⟨_, rfl⟩
                          replace H : (if 0 ≤ (ji15) then (if (ji15) < (x9_2.length : Int) then (stencilref07_Gaps.l1 k2 l0 l1 a2 (x9_2.set ((ji15) : Int).toNat true) x10_1 (wrap64 (x11_2 + 1))) else (none)) else (none)) = some (r1, r2) := by first | (rw [hji15] at H; exact H) | (simp only [hji15] at H ⊢; exact H)
                          have hji15w : (IntKind.i64.wrap ((rd l1 x10_1) + x11_2)) = ji15 := (i64_w _).trans hji15
                          by_cases c16 : 0 ≤ (ji15)
                          · rw [if_pos c16] at H
                            have c16b0 : decide (0 ≤ (ji15)) = true := decide_eq_true c16
                            clear c16
                            by_cases c17 : (ji15) < (x9_2.length : Int)
                            · rw [if_pos c17] at H
                              have c17b0 : decide ((ji15) < (x9_2.length : Int)) = true := decide_eq_true c17
                              clear c17
                              obtain ⟨y170, hy170⟩ : ∃ y_ : List Bool, y_ = (x9_2.set ((ji15) : Int).toNat true) := ⟨_, rfl⟩
                              replace H : (stencilref07_Gaps.l1 k2 l0 l1 a2 y170 x10_1 (wrap64 (x11_2 + 1))) = some (r1, r2) := by first | (rw [hy170]; with_reducible exact H) | (have H2_ := (Option.bind_some _ _).symm.trans H; rw [hy170]; with_reducible exact H2_) | (have H2_ := (Option.bind_some _ _).symm.trans H; with_reducible exact H2_) | with_reducible exact H | (rw [hy170]; exact H) | exact H
                              have Ny170 := Aside0.mk hy170
                              clear hy170
                              have H' := Aside0.mk H
                              clear H
                              have p168 : 0 ≤ (x10_1 : Int) := of_decide_eq_true (by first | (with_reducible assumption) | assumption)
                              have q168 : x10_1 < (l0.length : Int) := of_decide_eq_true (by first | (with_reducible assumption) | assumption)
                              obtain ⟨ad168, e168, hx168_0, hx168_1⟩ := at_T39 HR0.out x10_1 p168 q168
                              cases e168
                              replace hx168_0 := (HB.out.cell (World.block_lt_of_cell? w _ hx168_0)).trans hx168_0
                              replace hx168_1 := (HB.out.cell (World.block_lt_of_cell? w _ hx168_1)).trans hx168_1
                              replace p168 := eq_true p168
                              replace q168 := eq_true q168
                              have p169 : 0 ≤ (x10_1 : Int) := of_decide_eq_true (by first | (with_reducible assumption) | assumption)
                              have q169 : x10_1 < (l1.length : Int) := of_decide_eq_true (by first | (with_reducible assumption) | assumption)
                              obtain ⟨ad169, e169, hx169_0⟩ := Kd.at_int HR1.out x10_1 p169 q169
                              cases e169
                              replace hx169_0 := (HB.out.cell (World.block_lt_of_cell? w _ hx169_0)).trans hx169_0
                              replace p169 := eq_true p169
                              replace q169 := eq_true q169
                              have p18 : 0 ≤ ((ji15) : Int) := of_decide_eq_true (by first | (with_reducible assumption) | assumption)
                              have q18 : ((ji15) : Int) < ((x9_2.length : Int) : Int) := of_decide_eq_true (by first | (with_reducible assumption) | assumption)
                              obtain ⟨go18, co18, eo18, gb18, gl18, cl18, HG18⟩ := Kd.R_form HO_9.out (by omega)
                              (first | cases eo18 | (injection eo18 with ea_ en_ ec_; (first | subst ea_ | (injection ea_ with ea_; subst ea_)); subst ec_; clear en_))
                              have GB18 := Aside0.mk gb18
                              have GG18 := Aside0.mk HG18
                              clear gb18 gl18 HG18
                              obtain ⟨hx18_0, hf18_0⟩ := Kd.R_celln false HO_9.out ((ji15) : Int) p18 q18
                              replace p18 := eq_true p18
                              replace q18 := eq_true q18
                              have HP19 := Kd.R_putg HO_9.out ((ji15) : Int) true
                              go_wp2_with (first | ((with_reducible refine gate_store (t := 4) (p := 45) rfl ?_); refine store_event (t := 4) (p := 45) (v := ?vo_w20) (w1 := (wr.setCell ⟨go18, ((ji15) : Int).toNat, none⟩ (.bool true))) ?hg ?ho ?hn ?hr ?_; (case ho => rfl); (case hg => rfl); (case hn => rfl); (case hr => first | (go_simp; done) | (go_simp; rfl)); intro w20 hw; have hg : wr.grownBy w20 (some go18) := (by rw [hw]; exact HP19.2); have hp_ : Kd.R Kd.bool 4 w20 w.heap.size (fun _ => True) (.slice (some ⟨go18, 0, none⟩) x9_2.length co18) y170 := (by rw [hw, Ny170.out]; exact HP19.1); clear HP19; have n0_ := Aside0.mk (hp_); have n1_ := Aside0.mk ((by rw [hw]; exact below_set (HB.out) GB18.out : Below w.heap.size w w20)); clear HO_9; clear HB; have HO_9 := n0_; have HB := n1_; clear n0_ n1_; clear hg hw hp_))
                              go_roundg k2
                              case measure => have := HK1.out; have := HK2.out; omega
                              case rel => exact ⟨(y170), (wrap64 (x11_2 + 1)), (by first | rfl | (simp; done) | (simp [*]; done)), H', ⟨by have := HK1.out; have := HK2.out; omega⟩, ⟨by (with_reducible repeat (first | apply Kd.R_alloc | apply Kd.R_drewN | apply Kd.R_drew)); exact HO_9.out⟩, ⟨by repeat (first | (with_reducible first | exact HB.out | apply below_alloc | apply pw_below_drewN | apply below_drew1) | exact HB.out)⟩⟩
                            · rw [if_neg c17] at H
                              exact absurd H (by simp)
                          · rw [if_neg c16] at H
                            exact absurd H (by simp)
                        · rw [if_neg c14] at H
                          exact absurd H (by simp)
                      · rw [if_neg c13] at H
                        have c13b0 : decide (x11_2 < ((rd_T39 l0 x10_1).f0)) = false := decide_eq_false c13
                        clear c13
                        have H' := Aside0.mk H
                        clear H
                        have p168 : 0 ≤ (x10_1 : Int) := of_decide_eq_true (by first | (with_reducible assumption) | assumption)
                        have q168 : x10_1 < (l0.length : Int) := of_decide_eq_true (by first | (with_reducible assumption) | assumption)
                        obtain ⟨ad168, e168, hx168_0, hx168_1⟩ := at_T39 HR0.out x10_1 p168 q168
                        cases e168
                        replace hx168_0 := (HB.out.cell (World.block_lt_of_cell? w _ hx168_0)).trans hx168_0
                        replace hx168_1 := (HB.out.cell (World.block_lt_of_cell? w _ hx168_1)).trans hx168_1
                        replace p168 := eq_true p168
                        replace q168 := eq_true q168
                        go_wp2
                        go_roundg k2
                        case measure => have := HK1.out; have := HK2.out; omega
                        case rel => exact ⟨(x9_2), (wrap64 (x10_1 + 1)), (by first | rfl | (simp; done) | (simp [*]; done)), H', ⟨by have := HK1.out; have := HK2.out; omega⟩, ⟨by (with_reducible repeat (first | apply Kd.R_alloc | apply Kd.R_drewN | apply Kd.R_drew)); exact HO_9.out⟩, ⟨by repeat (first | (with_reducible first | exact HB.out | apply below_alloc | apply pw_below_drewN | apply below_drew1) | exact HB.out)⟩⟩
                    · rw [if_neg c12] at H
                      exact absurd H (by simp)
                  · rw [if_neg c11] at H
                    exact absurd H (by simp)
            · rw [if_neg c10] at H
              have c10b0 : decide (x10_1 < (l0.length : Int)) = false := decide_eq_false c10
              clear c10
              have H' := Aside0.mk H
              clear H
              go_wp2
              go_loopg [12, 13, 14] k1 (fun kq v12 v13 v14 w' => ∃ (x12_2 : List (S39)) (x13_2 : Int) (x14_2 : Int), v13 = .int .i64 x13_2 ∧ v14 = .int .i64 x14_2 ∧ Aside0 (stencilref07_Gaps.l2 kq a2 x9_1 x12_2 x13_2 x14_2 = some (r1, r2)) ∧ Aside0 (kq ≤ k1) ∧ Aside0 (Kd.R Kd.bool 4 w' w.heap.size (fun _ => True) v166 x9_1) ∧ Aside0 (Kd.R k39 39 w' w.heap.size (fun _ => True) v12 x12_2) ∧ Aside0 (Below w.heap.size w w'))
              case atStart => exact ⟨(([] : List (S39))), (0), (0), (by first | rfl | (simp; done) | (simp [*]; done)), (by first | rfl | (simp; done) | (simp [*]; done)), H', ⟨Nat.le_refl _⟩, ⟨by (with_reducible repeat (first | apply Kd.R_alloc | apply Kd.R_drewN | apply Kd.R_drew)); exact HO_9.out⟩, ⟨by first | exact Kd.R_nil _ _ _ _ _ | exact Kd.N_nil _ _ _ _ _ | exact Kd.V_nil _ _ _ _ _ | exact Kd.Q_nil _ _ _ _ _ | exact Kd.S_nil _ _ _ _ _⟩, ⟨by repeat (first | (with_reducible first | exact HB.out | apply below_alloc | apply pw_below_drewN | apply below_drew1) | exact HB.out)⟩⟩
              case round =>
                clear H'
                try clear c1
                try clear p1
                try clear q1
                try clear hx1
                try clear p2
                try clear c3
                try clear c5
                try clear c6
                try clear c6b0
                try clear c6b1
                try clear p6
                try clear c7
                try clear c7b0
                try clear c7b1
                try clear c10
                try clear c10b0
                try clear c11
                try clear c11b0
                try clear c12
                try clear c12b0
                try clear c13
                try clear c13b0
                try clear c14
                try clear c14b0
                try clear c16
                try clear c16b0
                try clear p16
                try clear q16
                try clear hx16
                try clear c17
                try clear c17b0
                try clear p18
                try clear q18
                try clear hx18
                try clear hf18
                try clear c19
                try clear hx168_0
                try clear hx168_1
                try clear hx169_0
                try clear hx18_0
                try clear p168
                try clear p169
                try clear p18
                try clear p2
                try clear q168
                try clear q169
                try clear q18
                obtain ⟨x12_2, x13_2, x14_2, rfl, rfl, HA, HK2, HO_9, HO_12, HB⟩ := hrel
                cases gk with
                | zero => exact absurd HA.out (by simp [stencilref07_Gaps.l2])
                | succ k2 =>
                  have H := HA.out
                  clear HA
                  simp only [stencilref07_Gaps.l2] at H
                  by_cases c21 : x14_2 < a2
                  · rw [if_pos c21] at H
                    have c21b0 : decide (x14_2 < a2) = true := decide_eq_true c21
                    clear c21
                    by_cases c22 : 0 ≤ x14_2
                    · rw [if_pos c22] at H
                      have c22b0 : decide (0 ≤ x14_2) = true := decide_eq_true c22
                      clear c22
                      by_cases c23 : x14_2 < (x9_1.length : Int)
                      · rw [if_pos c23] at H
                        have c23b0 : decide (x14_2 < (x9_1.length : Int)) = true := decide_eq_true c23
                        clear c23
                        obtain ⟨bq24, hbq24⟩ : ∃ b_ : Bool, b_ = (rdOf false x9_1 x14_2) := ⟨_, rfl⟩
                        replace H : (if bq24 = true then (stencilref07_Gaps.l2 k2 a2 x9_1 x12_2 0 (wrap64 (x14_2 + 1))) else (if (wrap64 (x14_2 + 1)) = a2 then (if x12_2.length < 8796093022208 then (stencilref07_Gaps.l2 k2 a2 x9_1 (x12_2 ++ [(⟨wrap64 (x13_2 + 1), wrap64 ((wrap64 (x14_2 + 1)) - (wrap64 (x13_2 + 1)))⟩ : S39)]) (wrap64 (x13_2 + 1)) (wrap64 (x14_2 + 1))) else (none)) else (if 0 ≤ (wrap64 (x14_2 + 1)) then (if (wrap64 (x14_2 + 1)) < (x9_1.length : Int) then (if rdOf false x9_1 (wrap64 (x14_2 + 1)) = true then (if x12_2.length < 8796093022208 then (stencilref07_Gaps.l2 k2 a2 x9_1 (x12_2 ++ [(⟨wrap64 (x13_2 + 1), wrap64 ((wrap64 (x14_2 + 1)) - (wrap64 (x13_2 + 1)))⟩ : S39)]) (wrap64 (x13_2 + 1)) (wrap64 (x14_2 + 1))) else (none)) else (stencilref07_Gaps.l2 k2 a2 x9_1 x12_2 (wrap64 (x13_2 + 1)) (wrap64 (x14_2 + 1)))) else (none)) else (none)))) = some (r1, r2) := by rw [← hbq24] at H; exact H
                        have Nbq24 := Aside0.mk hbq24
                        clear hbq24
                        by_cases c25 : bq24 = true
                        · subst c25
                          have H1 : (stencilref07_Gaps.l2 k2 a2 x9_1 x12_2 0 (wrap64 (x14_2 + 1))) = some (r1, r2) := by rw [if_pos rfl] at H; exact H
                          clear H
                          have H := H1
                          clear H1
                          have H' := Aside0.mk H
                          clear H
                          obtain ⟨Ao26, co26, eo26⟩ := Kd.R_slice HO_9.out
                          subst eo26
                          have p171 : 0 ≤ (x14_2 : Int) := of_decide_eq_true (by first | (with_reducible assumption) | assumption)
                          have q171 : x14_2 < (x9_1.length : Int) := of_decide_eq_true (by first | (with_reducible assumption) | assumption)
                          obtain ⟨ad171, e171, hx171_0⟩ := Kd.at_bool (Kd.R_reads' HO_9.out).2.2 x14_2 p171 q171
                          (try rw [← Nbq24.out] at hx171_0)
                          cases e171
                          replace p171 := eq_true p171
                          replace q171 := eq_true q171
                          go_wp2
                          go_roundg k2
                          case measure => have := HK1.out; have := HK2.out; omega
                          case rel => exact ⟨(x12_2), (0), (wrap64 (x14_2 + 1)), (by first | rfl | (simp; done) | (simp [*]; done)), (by first | rfl | (simp; done) | (simp [*]; done)), H', ⟨by have := HK1.out; have := HK2.out; omega⟩, ⟨by (with_reducible repeat (first | apply Kd.R_alloc | apply Kd.R_drewN | apply Kd.R_drew)); exact HO_9.out⟩, ⟨by (with_reducible repeat (first | apply Kd.R_alloc | apply Kd.R_drewN | apply Kd.R_drew)); exact HO_12.out⟩, ⟨by repeat (first | (with_reducible first | exact HB.out | apply below_alloc | apply pw_below_drewN | apply below_drew1) | exact HB.out)⟩⟩
                        · replace c25 := Bool.eq_false_iff.mpr c25
                          subst c25
                          have H1 : (if (wrap64 (x14_2 + 1)) = a2 then (if x12_2.length < 8796093022208 then (stencilref07_Gaps.l2 k2 a2 x9_1 (x12_2 ++ [(⟨wrap64 (x13_2 + 1), wrap64 ((wrap64 (x14_2 + 1)) - (wrap64 (x13_2 + 1)))⟩ : S39)]) (wrap64 (x13_2 + 1)) (wrap64 (x14_2 + 1))) else (none)) else (if 0 ≤ (wrap64 (x14_2 + 1)) then (if (wrap64 (x14_2 + 1)) < (x9_1.length : Int) then (if rdOf false x9_1 (wrap64 (x14_2 + 1)) = true then (if x12_2.length < 8796093022208 then (stencilref07_Gaps.l2 k2 a2 x9_1 (x12_2 ++ [(⟨wrap64 (x13_2 + 1), wrap64 ((wrap64 (x14_2 + 1)) - (wrap64 (x13_2 + 1)))⟩ : S39)]) (wrap64 (x13_2 + 1)) (wrap64 (x14_2 + 1))) else (none)) else (stencilref07_Gaps.l2 k2 a2 x9_1 x12_2 (wrap64 (x13_2 + 1)) (wrap64 (x14_2 + 1)))) else (none)) else (none))) = some (r1, r2) := by rw [if_neg (show ¬ (false = true) by decide)] at H; exact H
                          clear H
                          have H := H1
                          clear H1
                          by_cases c27 : (wrap64 (x14_2 + 1)) = a2
                          · rw [if_pos c27] at H
                            have c27b0 : ((wrap64 (x14_2 + 1)) == a2) = true := beq_iff_eq.mpr c27
                            have c27b1 : ((wrap64 (x14_2 + 1)) != a2) = false := bne_eq_false_iff_eq.mpr c27
                            clear c27
                            by_cases c28 : x12_2.length < 8796093022208
                            · rw [if_pos c28] at H
                              have LMc28 := Aside0.mk c28
                              clear c28
                              obtain ⟨y173, hy173⟩ : ∃ y_ : List (S39), y_ = (x12_2 ++ [(⟨wrap64 (x13_2 + 1), wrap64 ((wrap64 (x14_2 + 1)) - (wrap64 (x13_2 + 1)))⟩ : S39)]) := ⟨_, rfl⟩
                              replace H : (stencilref07_Gaps.l2 k2 a2 x9_1 y173 (wrap64 (x13_2 + 1)) (wrap64 (x14_2 + 1))) = some (r1, r2) := by first | (rw [hy173]; with_reducible exact H) | (have H2_ := (Option.bind_some _ _).symm.trans H; rw [hy173]; with_reducible exact H2_) | (have H2_ := (Option.bind_some _ _).symm.trans H; with_reducible exact H2_) | with_reducible exact H | (rw [hy173]; exact H) | exact H
                              have Ny173 := Aside0.mk hy173
                              clear hy173
                              have H' := Aside0.mk H
                              clear H
                              obtain ⟨Ao29, co29, eo29⟩ := Kd.R_slice HO_9.out
                              subst eo29
                              have p171 : 0 ≤ (x14_2 : Int) := of_decide_eq_true (by first | (with_reducible assumption) | assumption)
                              have q171 : x14_2 < (x9_1.length : Int) := of_decide_eq_true (by first | (with_reducible assumption) | assumption)
                              obtain ⟨ad171, e171, hx171_0⟩ := Kd.at_bool (Kd.R_reads' HO_9.out).2.2 x14_2 p171 q171
                              (try rw [← Nbq24.out] at hx171_0)
                              cases e171
                              replace p171 := eq_true p171
                              replace q171 := eq_true q171
                              go_wp2_with (first | ((with_reducible refine gate_builtin (b := .append) (xs := #[.tmp 68, .tmp 75]) rfl ?_); at_builtin; refine Kd.R_append k39 (w0 := w) w.heap.size rfl (.tmp 68) (.tmp 75) 22 39 (.agg #[(.int .i64 0), (.int .i64 0)]) 16 rfl Try.underlying22 info39 rfl (by decide) (by omega) u12 x12_2 (⟨wrap64 (x13_2 + 1), wrap64 ((wrap64 (x14_2 + 1)) - (wrap64 (x13_2 + 1)))⟩ : S39) [.int .i64 (wrap64 (x13_2 + 1)), .int .i64 (wrap64 ((wrap64 (x14_2 + 1)) - (wrap64 (x13_2 + 1))))] (fun _ => True) (fun _ => False) rfl rfl ?aP (fun _ hk => hk.elim) ?aF ?aO ?aB ?aS ?aL ?_; (case aP => exact k39_mkM _ _ _ (⟨wrap64 (x13_2 + 1), wrap64 ((wrap64 (x14_2 + 1)) - (wrap64 (x13_2 + 1)))⟩ : S39)); (case aB => exact (by repeat (first | (with_reducible first | exact HB.out | apply below_alloc | apply pw_below_drewN | apply below_drew1) | exact HB.out))); (case aF => exact (fun _ _ => trivial)); (case aO => exact (by (with_reducible repeat (first | apply Kd.R_alloc | apply Kd.R_drewN | apply Kd.R_drew)); exact HO_12.out)); (case aS => exact (below_size (by repeat (first | (with_reducible first | exact HB.out | apply below_alloc | apply pw_below_drewN | apply below_drew1) | exact HB.out)))); (case aL => have := LMc28.out; omega); intro v174 w30 ho hb hg hat; rw [← Ny173.out] at ho; have n0_ := Aside0.mk (Kd.R_over' (by (with_reducible repeat (first | apply Kd.R_alloc | apply Kd.R_drewN | apply Kd.R_drew)); exact HO_9.out) (Kd.R_typed (by (with_reducible repeat (first | apply Kd.R_alloc | apply Kd.R_drewN | apply Kd.R_drew)); exact HO_12.out)) (by decide) hg); have n1_ := Aside0.mk (hb); have n2_ := Aside0.mk (ho); clear HO_9; clear HB; clear HO_12; have HO_9 := n0_; have HB := n1_; have HO175 := n2_; clear n0_ n1_ n2_; clear ho hb hg hat))
                              go_roundg k2
                              case measure => have := HK1.out; have := HK2.out; omega
                              case rel => exact ⟨(y173), (wrap64 (x13_2 + 1)), (wrap64 (x14_2 + 1)), (by first | rfl | (simp; done) | (simp [*]; done)), (by first | rfl | (simp; done) | (simp [*]; done)), H', ⟨by have := HK1.out; have := HK2.out; omega⟩, ⟨by (with_reducible repeat (first | apply Kd.R_alloc | apply Kd.R_drewN | apply Kd.R_drew)); exact HO_9.out⟩, ⟨by (with_reducible repeat (first | apply Kd.R_alloc | apply Kd.R_drewN | apply Kd.R_drew)); exact HO175.out⟩, ⟨by repeat (first | (with_reducible first | exact HB.out | apply below_alloc | apply pw_below_drewN | apply below_drew1) | exact HB.out)⟩⟩
                            · rw [if_neg c28] at H
                              exact absurd H (by simp)
                          · rw [if_neg c27] at H
                            have c27b0 : ((wrap64 (x14_2 + 1)) == a2) = false := beq_eq_false_iff_ne.mpr c27
                            have c27b1 : ((wrap64 (x14_2 + 1)) != a2) = true := bne_iff_ne.mpr c27
                            obtain ⟨ji31, hji31⟩ : ∃ j_ : Int, (wrap64 (x14_2 + 1)) = j_ := ⟨_, rfl⟩
                            replace H : (if 0 ≤ (ji31) then (if (ji31) < (x9_1.length : Int) then (if rdOf false x9_1 (ji31) = true then (if x12_2.length < 8796093022208 then (stencilref07_Gaps.l2 k2 a2 x9_1 (x12_2 ++ [(⟨wrap64 (x13_2 + 1), wrap64 ((ji31) - (wrap64 (x13_2 + 1)))⟩ : S39)]) (wrap64 (x13_2 + 1)) ji31) else (none)) else (stencilref07_Gaps.l2 k2 a2 x9_1 x12_2 (wrap64 (x13_2 + 1)) ji31)) else (none)) else (none)) = some (r1, r2) := by first | (rw [hji31] at H; exact H) | (simp only [hji31] at H ⊢; exact H)
                            (try rw [hji31] at c27b0)
                            (try rw [hji31] at c27b1)
                            have hji31w : (IntKind.i64.wrap (x14_2 + 1)) = ji31 := (i64_w _).trans hji31
                            by_cases c32 : 0 ≤ (ji31)
                            · rw [if_pos c32] at H
                              have c32b0 : decide (0 ≤ (ji31)) = true := decide_eq_true c32
                              clear c32
                              by_cases c33 : (ji31) < (x9_1.length : Int)
                              · rw [if_pos c33] at H
                                have c33b0 : decide ((ji31) < (x9_1.length : Int)) = true := decide_eq_true c33
                                clear c33
                                obtain ⟨bq34, hbq34⟩ : ∃ b_ : Bool, b_ = (rdOf false x9_1 (ji31)) := ⟨_, rfl⟩
                                replace H : (if bq34 = true then (if x12_2.length < 8796093022208 then (stencilref07_Gaps.l2 k2 a2 x9_1 (x12_2 ++ [(⟨wrap64 (x13_2 + 1), wrap64 ((ji31) - (wrap64 (x13_2 + 1)))⟩ : S39)]) (wrap64 (x13_2 + 1)) ji31) else (none)) else (stencilref07_Gaps.l2 k2 a2 x9_1 x12_2 (wrap64 (x13_2 + 1)) ji31)) = some (r1, r2) := by rw [← hbq34] at H; exact H
                                have Nbq34 := Aside0.mk hbq34
                                clear hbq34
                                by_cases c35 : bq34 = true
                                · subst c35
                                  have H1 : (if x12_2.length < 8796093022208 then (stencilref07_Gaps.l2 k2 a2 x9_1 (x12_2 ++ [(⟨wrap64 (x13_2 + 1), wrap64 ((ji31) - (wrap64 (x13_2 + 1)))⟩ : S39)]) (wrap64 (x13_2 + 1)) ji31) else (none)) = some (r1, r2) := by rw [if_pos rfl] at H; exact H
                                  clear H
                                  have H := H1
                                  clear H1
                                  by_cases c36 : x12_2.length < 8796093022208
                                  · rw [if_pos c36] at H
                                    have LMc36 := Aside0.mk c36
                                    clear c36
                                    obtain ⟨y176, hy176⟩ : ∃ y_ : List (S39), y_ = (x12_2 ++ [(⟨wrap64 (x13_2 + 1), wrap64 ((ji31) - (wrap64 (x13_2 + 1)))⟩ : S39)]) := ⟨_, rfl⟩
                                    replace H : (stencilref07_Gaps.l2 k2 a2 x9_1 y176 (wrap64 (x13_2 + 1)) ji31) = some (r1, r2) := by first | (rw [hy176]; with_reducible exact H) | (have H2_ := (Option.bind_some _ _).symm.trans H; rw [hy176]; with_reducible exact H2_) | (have H2_ := (Option.bind_some _ _).symm.trans H; with_reducible exact H2_) | with_reducible exact H | (rw [hy176]; exact H) | exact H
                                    have Ny176 := Aside0.mk hy176
                                    clear hy176
                                    have H' := Aside0.mk H
                                    clear H
                                    obtain ⟨Ao37, co37, eo37⟩ := Kd.R_slice HO_9.out
                                    subst eo37
                                    have p171 : 0 ≤ (x14_2 : Int) := of_decide_eq_true (by first | (with_reducible assumption) | assumption)
                                    have q171 : x14_2 < (x9_1.length : Int) := of_decide_eq_true (by first | (with_reducible assumption) | assumption)
                                    obtain ⟨ad171, e171, hx171_0⟩ := Kd.at_bool (Kd.R_reads' HO_9.out).2.2 x14_2 p171 q171
                                    (try rw [← Nbq24.out] at hx171_0)
                                    (try rw [← Nbq34.out] at hx171_0)
                                    cases e171
                                    replace p171 := eq_true p171
                                    replace q171 := eq_true q171
                                    have p172 : 0 ≤ ((ji31) : Int) := of_decide_eq_true (by first | (with_reducible assumption) | assumption)
                                    have q172 : (ji31) < (x9_1.length : Int) := of_decide_eq_true (by first | (with_reducible assumption) | assumption)
                                    obtain ⟨ad172, e172, hx172_0⟩ := Kd.at_bool (Kd.R_reads' HO_9.out).2.2 (ji31) p172 q172
                                    (try rw [← Nbq24.out] at hx172_0)
                                    (try rw [← Nbq34.out] at hx172_0)
                                    obtain rfl : ad171 = ad172 := (by injection e172)
                                    replace p172 := eq_true p172
                                    replace q172 := eq_true q172
                                    go_wp2_with (first | ((with_reducible refine gate_builtin (b := .append) (xs := #[.tmp 68, .tmp 75]) rfl ?_); at_builtin; refine Kd.R_append k39 (w0 := w) w.heap.size rfl (.tmp 68) (.tmp 75) 22 39 (.agg #[(.int .i64 0), (.int .i64 0)]) 16 rfl Try.underlying22 info39 rfl (by decide) (by omega) u12 x12_2 (⟨wrap64 (x13_2 + 1), wrap64 ((ji31) - (wrap64 (x13_2 + 1)))⟩ : S39) [.int .i64 (wrap64 (x13_2 + 1)), .int .i64 (wrap64 ((ji31) - (wrap64 (x13_2 + 1))))] (fun _ => True) (fun _ => False) rfl rfl ?aP (fun _ hk => hk.elim) ?aF ?aO ?aB ?aS ?aL ?_; (case aP => exact k39_mkM _ _ _ (⟨wrap64 (x13_2 + 1), wrap64 ((ji31) - (wrap64 (x13_2 + 1)))⟩ : S39)); (case aB => exact (by repeat (first | (with_reducible first | exact HB.out | apply below_alloc | apply pw_below_drewN | apply below_drew1) | exact HB.out))); (case aF => exact (fun _ _ => trivial)); (case aO => exact (by (with_reducible repeat (first | apply Kd.R_alloc | apply Kd.R_drewN | apply Kd.R_drew)); exact HO_12.out)); (case aS => exact (below_size (by repeat (first | (with_reducible first | exact HB.out | apply below_alloc | apply pw_below_drewN | apply below_drew1) | exact HB.out)))); (case aL => have := LMc36.out; omega); intro v177 w38 ho hb hg hat; rw [← Ny176.out] at ho; have n0_ := Aside0.mk (Kd.R_over' (by (with_reducible repeat (first | apply Kd.R_alloc | apply Kd.R_drewN | apply Kd.R_drew)); exact HO_9.out) (Kd.R_typed (by (with_reducible repeat (first | apply Kd.R_alloc | apply Kd.R_drewN | apply Kd.R_drew)); exact HO_12.out)) (by decide) hg); have n1_ := Aside0.mk (hb); have n2_ := Aside0.mk (ho); clear HO_9; clear HB; clear HO_12; have HO_9 := n0_; have HB := n1_; have HO178 := n2_; clear n0_ n1_ n2_; clear ho hb hg hat))
                                    go_roundg k2
                                    case measure => have := HK1.out; have := HK2.out; omega
                                    case rel => exact ⟨(y176), (wrap64 (x13_2 + 1)), (ji31), (by first | rfl | (simp; done) | (simp [*]; done)), (by first | rfl | (simp; done) | (simp only [← hji31] <;> (first | rfl | simp)) | (simp [*]; done)), H', ⟨by have := HK1.out; have := HK2.out; omega⟩, ⟨by (with_reducible repeat (first | apply Kd.R_alloc | apply Kd.R_drewN | apply Kd.R_drew)); exact HO_9.out⟩, ⟨by (with_reducible repeat (first | apply Kd.R_alloc | apply Kd.R_drewN | apply Kd.R_drew)); exact HO178.out⟩, ⟨by repeat (first | (with_reducible first | exact HB.out | apply below_alloc | apply pw_below_drewN | apply below_drew1) | exact HB.out)⟩⟩
                                  · rw [if_neg c36] at H
                                    exact absurd H (by simp)
                                · replace c35 := Bool.eq_false_iff.mpr c35
                                  subst c35
                                  have H1 : (stencilref07_Gaps.l2 k2 a2 x9_1 x12_2 (wrap64 (x13_2 + 1)) ji31) = some (r1, r2) := by rw [if_neg (show ¬ (false = true) by decide)] at H; exact H
                                  clear H
                                  have H := H1
                                  clear H1
                                  have H' := Aside0.mk H
                                  clear H
                                  obtain ⟨Ao39, co39, eo39⟩ := Kd.R_slice HO_9.out
                                  subst eo39
                                  have p171 : 0 ≤ (x14_2 : Int) := of_decide_eq_true (by first | (with_reducible assumption) | assumption)
                                  have q171 : x14_2 < (x9_1.length : Int) := of_decide_eq_true (by first | (with_reducible assumption) | assumption)
                                  obtain ⟨ad171, e171, hx171_0⟩ := Kd.at_bool (Kd.R_reads' HO_9.out).2.2 x14_2 p171 q171
                                  (try rw [← Nbq24.out] at hx171_0)
                                  (try rw [← Nbq34.out] at hx171_0)
                                  cases e171
                                  replace p171 := eq_true p171
                                  replace q171 := eq_true q171
                                  have p172 : 0 ≤ ((ji31) : Int) := of_decide_eq_true (by first | (with_reducible assumption) | assumption)
                                  have q172 : (ji31) < (x9_1.length : Int) := of_decide_eq_true (by first | (with_reducible assumption) | assumption)
                                  obtain ⟨ad172, e172, hx172_0⟩ := Kd.at_bool (Kd.R_reads' HO_9.out).2.2 (ji31) p172 q172
                                  (try rw [← Nbq24.out] at hx172_0)
                                  (try rw [← Nbq34.out] at hx172_0)
                                  obtain rfl : ad171 = ad172 := (by injection e172)
                                  replace p172 := eq_true p172
                                  replace q172 := eq_true q172
                                  go_wp2
                                  go_roundg k2
                                  case measure => have := HK1.out; have := HK2.out; omega
                                  case rel => exact ⟨(x12_2), (wrap64 (x13_2 + 1)), (ji31), (by first | rfl | (simp; done) | (simp [*]; done)), (by first | rfl | (simp; done) | (simp only [← hji31] <;> (first | rfl | simp)) | (simp [*]; done)), H', ⟨by have := HK1.out; have := HK2.out; omega⟩, ⟨by (with_reducible repeat (first | apply Kd.R_alloc | apply Kd.R_drewN | apply Kd.R_drew)); exact HO_9.out⟩, ⟨by (with_reducible repeat (first | apply Kd.R_alloc | apply Kd.R_drewN | apply Kd.R_drew)); exact HO_12.out⟩, ⟨by repeat (first | (with_reducible first | exact HB.out | apply below_alloc | apply pw_below_drewN | apply below_drew1) | exact HB.out)⟩⟩
                              · rw [if_neg c33] at H
                                exact absurd H (by simp)
                            · rw [if_neg c32] at H
                              exact absurd H (by simp)
                      · rw [if_neg c23] at H
                        exact absurd H (by simp)
                    · rw [if_neg c22] at H
                      exact absurd H (by simp)
                  · rw [if_neg c21] at H
                    have c21b0 : decide (x14_2 < a2) = false := decide_eq_false c21
                    clear c21
                    simp only [Option.some.injEq, Prod.mk.injEq] at H
                    obtain ⟨rfl, rfl⟩ := H
                    go_wp2
                    go_ret2
                    exact ⟨_, by first | rfl | (simp [errW_none, errW_some] <;> rfl) | (simp [*, errW_none, errW_some] <;> rfl), by (with_reducible repeat (first | apply Kd.R_alloc | apply Kd.R_drewN | apply Kd.R_drew)); exact HO_12.out, by repeat (first | (with_reducible first | exact HB.out | apply below_alloc | apply pw_below_drewN | apply below_drew1) | exact HB.out)⟩
      · rw [if_neg c7] at H
        exact absurd H (by simp)
    · rw [if_neg c6] at H
      exact absurd H (by simp)
  · replace c5 := Bool.eq_false_iff.mpr c5
    subst c5
    have H1 : (some (([] : List (S39)), 73)) = some (r1, r2) := by rw [if_neg (show ¬ (false = true) by decide)] at H; exact H
    clear H
    have H := H1
    clear H1
    simp only [Option.some.injEq, Prod.mk.injEq] at H
    obtain ⟨rfl, rfl⟩ := H
    go_enter Try.func19, Try.ntmps19
    go_wp2_with (first | ((with_reducible refine gate_callee (f := 30) rfl ?_); refine goesL_ (some 18) rfl rfl Try.func30 (by kernel_rfl) rfl #[.slice A0 l0.length c0, .slice A1 l1.length c1, .int .i64 a2] rfl (by (try simp only [List.map_toArray, List.map_cons, List.map_nil]); first | done | rfl | (simp only [List.length_drop, List.length_take]; rfl)) ?_; (with_reducible refine (stencilref07_Laid.calls k _ _ l0 _ _ l1 a2 false _ ?side1 ?side2 ?side3 ?side4 A4.out).mono ?_); (case side1 => repeat (first | exact HR0.out | (with_reducible refine Kd.C_alloc ?_ _) | (with_reducible refine Kd.C_drewN ?_ _) | (with_reducible refine Kd.C_drew ?_))); (case side2 => exact HC0.out); (case side3 => repeat (first | exact HR1.out | (with_reducible refine Kd.C_alloc ?_ _) | (with_reducible refine Kd.C_drewN ?_ _) | (with_reducible refine Kd.C_drew ?_))); (case side4 => exact HC1.out); rintro e w' ⟨rfl, ⟨nd, rfl⟩⟩; refine ⟨_, rfl, ?_⟩))
    go_ret2
    exact ⟨_, by first | rfl | (simp [errW_none, errW_some] <;> rfl) | (simp [*, errW_none, errW_some] <;> rfl), by first | exact Kd.R_nil _ _ _ _ _ | exact Kd.N_nil _ _ _ _ _ | exact Kd.V_nil _ _ _ _ _ | exact Kd.Q_nil _ _ _ _ _ | exact Kd.S_nil _ _ _ _ _, by repeat (first | (with_reducible first | exact HB.out | apply below_alloc | apply pw_below_drewN | apply below_drew1) | exact HB.out)⟩

end Go.Proofs.Ythckejcoekhdjaa.Q
