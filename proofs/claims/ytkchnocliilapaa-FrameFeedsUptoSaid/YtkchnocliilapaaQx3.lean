-- Made by a wrapper of this project over the kit's print.py, with contracts by hand beside it. Not trusted: Lean checks it.
import Derived.Test.YtkchnocliilapaaQx0
import Derived.Test.YtkchnocliilapaaQx2
namespace Go.Proofs.Ytkchnocliilapaa.Q
open Go.RowKit Go.Proofs.YtkchnocliilapaaW.PrintWords Go.Proofs.YtkchnocliilapaaW.PrintLast Go.Proofs.YtkchnocliilapaaW.PrintMore
attribute [local go_sem] max2_int min2_int max_two min_two max_three min_three max_four min_four   -- for this text's walks alone
set_option linter.unusedVariables false
set_option linter.unusedSimpArgs false

/-! ### stencillaw24_kept_holds: function 12 -/
mutual
def stencillaw24_kept_holds.l0 : Nat → Int → List (S23) → List (S23) → Int → Option (Bool)
  | 0, _, _, _, _ => none
  | k + 1, x3, x120000, x120001, x120002 => if x3 < (x120000.length : Int) then (if 0 ≤ x3 then (if ((rd_T23 x120000 x3).f0) = (wrap64 ((wrap64 (-x120002)) - 1)) then (stencillaw24_kept_holds.l0 k (wrap64 (x3 + 1)) x120000 x120001 x120002) else (some false)) else (none)) else (stencillaw24_kept_holds.l1 k 0 x120000 x120001 x120002)
def stencillaw24_kept_holds.l1 : Nat → Int → List (S23) → List (S23) → Int → Option (Bool)
  | 0, _, _, _, _ => none
  | k + 1, x4, x120000, x120001, x120002 => if x4 < (x120001.length : Int) then (if 0 ≤ x4 then (if ((rd_T23 x120001 x4).f0) = (wrap64 ((wrap64 (-x120002)) - 1)) then (stencillaw24_kept_holds.l1 k (wrap64 (x4 + 1)) x120000 x120001 x120002) else (some false)) else (none)) else (some ((x120001.length : Int) == (wrap64 ((x120000.length : Int) + 1))))
end
def stencillaw24_kept_holds.f (k : Nat) (l0_0 : List (S23)) (l0_1 : List (S23)) (a0_2 : Int) : Option (Bool) := stencillaw24_kept_holds.l0 k 0 l0_0 l0_1 a0_2
theorem stencillaw24_kept_holds.mono_l : ∀ k, (∀ y0 y1 y2 y3, LeO (stencillaw24_kept_holds.l0 k y0 y1 y2 y3) (stencillaw24_kept_holds.l0 (k + 1) y0 y1 y2 y3)) ∧ (∀ y0 y1 y2 y3, LeO (stencillaw24_kept_holds.l1 k y0 y1 y2 y3) (stencillaw24_kept_holds.l1 (k + 1) y0 y1 y2 y3))
  | 0 => ⟨fun _ _ _ _ r h => by simp [stencillaw24_kept_holds.l0] at h, fun _ _ _ _ r h => by simp [stencillaw24_kept_holds.l1] at h⟩
  | k + 1 => by
    obtain ⟨ih0, ih1⟩ := stencillaw24_kept_holds.mono_l k
    refine ⟨?_, ?_⟩
    · intro y0 y1 y2 y3
      unfold stencillaw24_kept_holds.l0
      repeat' first
      | (with_reducible exact ih0 _ _ _ _)
      | (with_reducible exact ih1 _ _ _ _)
      | (with_reducible exact LeO.refl _)
      | (with_reducible exact LeO.none _)
      | (with_reducible refine LeO.ite ?_ ?_)
      | (with_reducible refine LeO.bind ?_ (fun _ => ?_))
      | exact ih0 _ _ _ _
      | exact ih1 _ _ _ _
      | exact LeO.none _
      | refine LeO.ite ?_ ?_
      | refine LeO.bind ?_ (fun _ => ?_)
    · intro y0 y1 y2 y3
      unfold stencillaw24_kept_holds.l1
      repeat' first
      | (with_reducible exact ih0 _ _ _ _)
      | (with_reducible exact ih1 _ _ _ _)
      | (with_reducible exact LeO.refl _)
      | (with_reducible exact LeO.none _)
      | (with_reducible refine LeO.ite ?_ ?_)
      | (with_reducible refine LeO.bind ?_ (fun _ => ?_))
      | exact ih0 _ _ _ _
      | exact ih1 _ _ _ _
      | exact LeO.none _
      | refine LeO.ite ?_ ?_
      | refine LeO.bind ?_ (fun _ => ?_)
theorem stencillaw24_kept_holds.mono : ∀ a0 a1 a2 k, LeO (stencillaw24_kept_holds.f k a0 a1 a2) (stencillaw24_kept_holds.f (k + 1) a0 a1 a2) := by
  intro a0 a1 a2 k
  obtain ⟨ih0, ih1⟩ := stencillaw24_kept_holds.mono_l k
  unfold stencillaw24_kept_holds.f
  repeat' first
      | (with_reducible exact ih0 _ _ _ _)
      | (with_reducible exact ih1 _ _ _ _)
      | (with_reducible exact LeO.refl _)
      | (with_reducible exact LeO.none _)
      | (with_reducible refine LeO.ite ?_ ?_)
      | (with_reducible refine LeO.bind ?_ (fun _ => ?_))
      | exact ih0 _ _ _ _
      | exact ih1 _ _ _ _
      | exact LeO.none _
      | refine LeO.ite ?_ ?_
      | refine LeO.bind ?_ (fun _ => ?_)
set_option maxHeartbeats 8000000 in
set_option maxRecDepth 100000 in
theorem stencillaw24_kept_holds.calls (k : Nat) (A0_0 : Option Addr) (c0_0 : Nat) (l0_0 : List (S23)) (A0_1 : Option Addr) (c0_1 : Nat) (l0_1 : List (S23)) (a0_2 : Int) (r : Bool) (w : World) (hr0_0 : Kd.C k23 w A0_0 l0_0.length l0_0) (hc0_0 : l0_0.length ≤ c0_0) (hr0_1 : Kd.C k23 w A0_1 l0_1.length l0_1) (hc0_1 : l0_1.length ≤ c0_1) (h : stencillaw24_kept_holds.f k l0_0 l0_1 a0_2 = some r) :
    Calls Try.prog 12 #[.agg #[.slice A0_0 l0_0.length c0_0, .slice A0_1 l0_1.length c0_1, .int .i64 a0_2]] w fun e w' => e = .returned (.bool r) ∧ Below w.heap.size w w' := by
  have hu31 := Try.underlying31
  have HR0_0 := Aside0.mk hr0_0
  have HC0_0 := Aside0.mk hc0_0
  clear hr0_0 hc0_0
  have HR0_1 := Aside0.mk hr0_1
  have HC0_1 := Aside0.mk hc0_1
  clear hr0_1 hc0_1
  have HB := Aside0.mk (Below.refl w.heap.size w)
  have H : (stencillaw24_kept_holds.l0 k 0 l0_0 l0_1 a0_2) = some r := h
  clear h
  have H' := Aside0.mk H
  clear H
  go_enter Try.func12, Try.ntmps12
  go_wp2_with (first | ((with_reducible refine gate_dst (N := 1) rfl ?_); refine box_event ?hg (N := 1) ?hd (cs := #[.slice A0_0 l0_0.length c0_0, .slice A0_1 l0_1.length c0_1, .int .i64 a0_2]) (t := 31) ?hr ?_; (case hd => rfl); (case hg => rfl); (case hr => first | (go_simp; done) | (go_simp; rfl)); intro gb119 hg w2 hbox hb; have n0_ := Aside0.mk (below_step (by repeat (first | (with_reducible first | exact HB.out | apply below_alloc | apply pw_below_drewN | apply below_drew1) | exact HB.out)) hb); have n1_ := Aside0.mk (hbox); have n2_ := Aside0.mk ((by rw [hg]; exact (below_size (by repeat (first | (with_reducible first | exact HB.out | apply below_alloc | apply pw_below_drewN | apply below_drew1) | exact HB.out))) : w.heap.size ≤ gb119)); have n3_ := Aside0.mk ((by rw [hg]; exact (below_size (by repeat (first | (with_reducible first | exact HB.out | apply below_alloc | apply pw_below_drewN | apply below_drew1) | exact HB.out))) : w.heap.size ≤ gb119)); clear HB; have HB := n0_; have BK119 := n1_; have GW119 := n2_; have GE119 := n3_; clear n0_ n1_ n2_ n3_; clear hb hbox hg))
  repeat (go_quiet (first | ((with_reducible refine gate_dst (N := 1) rfl ?_); refine box_event ?hg (N := 1) ?hd (cs := #[.slice A0_0 l0_0.length c0_0, .slice A0_1 l0_1.length c0_1, .int .i64 a0_2]) (t := 31) ?hr ?_; (case hd => rfl); (case hg => rfl); (case hr => first | (go_simp; done) | (go_simp; rfl)); intro gb119 hg w2 hbox hb; have n0_ := Aside0.mk (below_step (by repeat (first | (with_reducible first | exact HB.out | apply below_alloc | apply pw_below_drewN | apply below_drew1) | exact HB.out)) hb); have n1_ := Aside0.mk (hbox); have n2_ := Aside0.mk ((by rw [hg]; exact (below_size (by repeat (first | (with_reducible first | exact HB.out | apply below_alloc | apply pw_below_drewN | apply below_drew1) | exact HB.out))) : w.heap.size ≤ gb119)); have n3_ := Aside0.mk ((by rw [hg]; exact (below_size (by repeat (first | (with_reducible first | exact HB.out | apply below_alloc | apply pw_below_drewN | apply below_drew1) | exact HB.out))) : w.heap.size ≤ gb119)); clear HB; have HB := n0_; have BK119 := n1_; have GW119 := n2_; have GE119 := n3_; clear n0_ n1_ n2_ n3_; clear hb hbox hg)); try go_wp2_with (first | ((with_reducible refine gate_dst (N := 1) rfl ?_); refine box_event ?hg (N := 1) ?hd (cs := #[.slice A0_0 l0_0.length c0_0, .slice A0_1 l0_1.length c0_1, .int .i64 a0_2]) (t := 31) ?hr ?_; (case hd => rfl); (case hg => rfl); (case hr => first | (go_simp; done) | (go_simp; rfl)); intro gb119 hg w2 hbox hb; have n0_ := Aside0.mk (below_step (by repeat (first | (with_reducible first | exact HB.out | apply below_alloc | apply pw_below_drewN | apply below_drew1) | exact HB.out)) hb); have n1_ := Aside0.mk (hbox); have n2_ := Aside0.mk ((by rw [hg]; exact (below_size (by repeat (first | (with_reducible first | exact HB.out | apply below_alloc | apply pw_below_drewN | apply below_drew1) | exact HB.out))) : w.heap.size ≤ gb119)); have n3_ := Aside0.mk ((by rw [hg]; exact (below_size (by repeat (first | (with_reducible first | exact HB.out | apply below_alloc | apply pw_below_drewN | apply below_drew1) | exact HB.out))) : w.heap.size ≤ gb119)); clear HB; have HB := n0_; have BK119 := n1_; have GW119 := n2_; have GE119 := n3_; clear n0_ n1_ n2_ n3_; clear hb hbox hg)))
  go_loopg [3] k (fun kq v3 w' => ∃ (x3_1 : Int), v3 = .int .i64 x3_1 ∧ Aside0 (stencillaw24_kept_holds.l0 kq x3_1 l0_0 l0_1 a0_2 = some r) ∧ Aside0 (kq ≤ k) ∧ Aside0 (w'.heap[gb119]? = some (.cells #[(.slice A0_0 l0_0.length c0_0), (.slice A0_1 l0_1.length c0_1), .int .i64 a0_2] 31 (0, 0))) ∧ Aside0 (Below w.heap.size w w'))
  case atStart => exact ⟨(0), (by first | rfl | (simp; done) | (simp [*]; done)), H', ⟨Nat.le_refl _⟩, ⟨by (with_reducible repeat (first | refine blk_drewN ?_ _ | refine blk_drew ?_ | refine blk_alloc ?_ _)); exact BK119.out⟩, ⟨by repeat (first | (with_reducible first | exact HB.out | apply below_alloc | apply pw_below_drewN | apply below_drew1 | refine below_set ?_ GE119.out) | exact HB.out)⟩⟩
  case round =>
    clear H'
    try clear c1
    try clear p2
    obtain ⟨x3_1, rfl, HA, HK1, BK119, HB⟩ := hrel
    cases gk with
    | zero => exact absurd HA.out (by simp [stencillaw24_kept_holds.l0])
    | succ k1 =>
      have H := HA.out
      clear HA
      simp only [stencillaw24_kept_holds.l0] at H
      by_cases c3 : x3_1 < (l0_0.length : Int)
      · rw [if_pos c3] at H
        have c3b0 : decide (x3_1 < (l0_0.length : Int)) = true := decide_eq_true c3
        clear c3
        by_cases c4 : 0 ≤ x3_1
        · rw [if_pos c4] at H
          have c4b0 : decide (0 ≤ x3_1) = true := decide_eq_true c4
          clear c4
          by_cases c5 : ((rd_T23 l0_0 x3_1).f0) = (wrap64 ((wrap64 (-a0_2)) - 1))
          · rw [if_pos c5] at H
            have c5b0 : (((rd_T23 l0_0 x3_1).f0) == (wrap64 ((wrap64 (-a0_2)) - 1))) = true := beq_iff_eq.mpr c5
            have c5b1 : (((rd_T23 l0_0 x3_1).f0) != (wrap64 ((wrap64 (-a0_2)) - 1))) = false := bne_eq_false_iff_eq.mpr c5
            clear c5
            have H' := Aside0.mk H
            clear H
            have hcz6_0 : wr.cell? ⟨gb119, 0, none⟩ = some (.slice A0_0 l0_0.length c0_0) := (blk_cell BK119.out 0).trans rfl
            have hcz6_1 : wr.cell? ⟨gb119, 1, none⟩ = some (.slice A0_1 l0_1.length c0_1) := (blk_cell BK119.out 1).trans rfl
            have hcz6_2 : wr.cell? ⟨gb119, 2, none⟩ = some (.int .i64 a0_2) := (blk_cell BK119.out 2).trans rfl
            have hfz6_0 := blk_frozen BK119.out 0
            have hfz6_1 := blk_frozen BK119.out 1
            have hfz6_2 := blk_frozen BK119.out 2
            have p120 : 0 ≤ (x3_1 : Int) := of_decide_eq_true (by first | (with_reducible assumption) | assumption)
            have q120 : x3_1 < (l0_0.length : Int) := of_decide_eq_true (by first | (with_reducible assumption) | assumption)
            obtain ⟨ad120, e120, hx120_0, hx120_1⟩ := at_T23 HR0_0.out x3_1 p120 q120
            cases e120
            replace hx120_0 := (HB.out.cell (World.block_lt_of_cell? w _ hx120_0)).trans hx120_0
            replace hx120_1 := (HB.out.cell (World.block_lt_of_cell? w _ hx120_1)).trans hx120_1
            replace p120 := eq_true p120
            replace q120 := eq_true q120
            go_wp2
            repeat (go_quiet (fail); try go_wp2)
            go_roundg k1
            case measure => have := HK1.out; omega
            case rel => exact ⟨(wrap64 (x3_1 + 1)), (by first | rfl | (simp; done) | (simp [*]; done)), H', ⟨by have := HK1.out; omega⟩, ⟨by (with_reducible repeat (first | refine blk_drewN ?_ _ | refine blk_drew ?_ | refine blk_alloc ?_ _)); exact BK119.out⟩, ⟨by repeat (first | (with_reducible first | exact HB.out | apply below_alloc | apply pw_below_drewN | apply below_drew1 | refine below_set ?_ GE119.out) | exact HB.out)⟩⟩
          · rw [if_neg c5] at H
            have c5b0 : (((rd_T23 l0_0 x3_1).f0) == (wrap64 ((wrap64 (-a0_2)) - 1))) = false := beq_eq_false_iff_ne.mpr c5
            have c5b1 : (((rd_T23 l0_0 x3_1).f0) != (wrap64 ((wrap64 (-a0_2)) - 1))) = true := bne_iff_ne.mpr c5
            obtain rfl := Option.some.inj H
            have hcz7_0 : wr.cell? ⟨gb119, 0, none⟩ = some (.slice A0_0 l0_0.length c0_0) := (blk_cell BK119.out 0).trans rfl
            have hcz7_1 : wr.cell? ⟨gb119, 1, none⟩ = some (.slice A0_1 l0_1.length c0_1) := (blk_cell BK119.out 1).trans rfl
            have hcz7_2 : wr.cell? ⟨gb119, 2, none⟩ = some (.int .i64 a0_2) := (blk_cell BK119.out 2).trans rfl
            have hfz7_0 := blk_frozen BK119.out 0
            have hfz7_1 := blk_frozen BK119.out 1
            have hfz7_2 := blk_frozen BK119.out 2
            have p120 : 0 ≤ (x3_1 : Int) := of_decide_eq_true (by first | (with_reducible assumption) | assumption)
            have q120 : x3_1 < (l0_0.length : Int) := of_decide_eq_true (by first | (with_reducible assumption) | assumption)
            obtain ⟨ad120, e120, hx120_0, hx120_1⟩ := at_T23 HR0_0.out x3_1 p120 q120
            cases e120
            replace hx120_0 := (HB.out.cell (World.block_lt_of_cell? w _ hx120_0)).trans hx120_0
            replace hx120_1 := (HB.out.cell (World.block_lt_of_cell? w _ hx120_1)).trans hx120_1
            replace p120 := eq_true p120
            replace q120 := eq_true q120
            go_wp2
            repeat (go_quiet (fail); try go_wp2)
            go_ret
            exact ⟨by first | rfl | (simp [errW_none, errW_some] <;> rfl) | (simp [*, errW_none, errW_some] <;> rfl), by repeat (first | (with_reducible first | exact HB.out | apply below_alloc | apply pw_below_drewN | apply below_drew1 | refine below_set ?_ GE119.out) | exact HB.out)⟩
        · rw [if_neg c4] at H
          exact absurd H (by simp)
      · rw [if_neg c3] at H
        have c3b0 : decide (x3_1 < (l0_0.length : Int)) = false := decide_eq_false c3
        clear c3
        have H' := Aside0.mk H
        clear H
        have hcz8_0 : wr.cell? ⟨gb119, 0, none⟩ = some (.slice A0_0 l0_0.length c0_0) := (blk_cell BK119.out 0).trans rfl
        have hcz8_1 : wr.cell? ⟨gb119, 1, none⟩ = some (.slice A0_1 l0_1.length c0_1) := (blk_cell BK119.out 1).trans rfl
        have hcz8_2 : wr.cell? ⟨gb119, 2, none⟩ = some (.int .i64 a0_2) := (blk_cell BK119.out 2).trans rfl
        have hfz8_0 := blk_frozen BK119.out 0
        have hfz8_1 := blk_frozen BK119.out 1
        have hfz8_2 := blk_frozen BK119.out 2
        go_wp2
        repeat (go_quiet (fail); try go_wp2)
        go_loopg [4] k1 (fun kq v4 w' => ∃ (x4_2 : Int), v4 = .int .i64 x4_2 ∧ Aside0 (stencillaw24_kept_holds.l1 kq x4_2 l0_0 l0_1 a0_2 = some r) ∧ Aside0 (kq ≤ k1) ∧ Aside0 (w'.heap[gb119]? = some (.cells #[(.slice A0_0 l0_0.length c0_0), (.slice A0_1 l0_1.length c0_1), .int .i64 a0_2] 31 (0, 0))) ∧ Aside0 (Below w.heap.size w w'))
        case atStart => exact ⟨(0), (by first | rfl | (simp; done) | (simp [*]; done)), H', ⟨Nat.le_refl _⟩, ⟨by (with_reducible repeat (first | refine blk_drewN ?_ _ | refine blk_drew ?_ | refine blk_alloc ?_ _)); exact BK119.out⟩, ⟨by repeat (first | (with_reducible first | exact HB.out | apply below_alloc | apply pw_below_drewN | apply below_drew1 | refine below_set ?_ GE119.out) | exact HB.out)⟩⟩
        case round =>
          clear H'
          try clear c1
          try clear p1
          try clear q1
          try clear hx1
          try clear p2
          try clear c3
          try clear c3b0
          try clear c4
          try clear c4b0
          try clear c5
          try clear c5b0
          try clear c5b1
          try clear p6
          try clear hcz6_0
          try clear hcz6_1
          try clear hcz6_2
          try clear hcz7_0
          try clear hcz7_1
          try clear hcz7_2
          try clear hcz8_0
          try clear hcz8_1
          try clear hcz8_2
          try clear hfz6_0
          try clear hfz6_1
          try clear hfz6_2
          try clear hfz7_0
          try clear hfz7_1
          try clear hfz7_2
          try clear hfz8_0
          try clear hfz8_1
          try clear hfz8_2
          try clear hx120_0
          try clear hx120_1
          try clear p120
          try clear p2
          try clear q120
          obtain ⟨x4_2, rfl, HA, HK2, BK119, HB⟩ := hrel
          cases gk with
          | zero => exact absurd HA.out (by simp [stencillaw24_kept_holds.l1])
          | succ k2 =>
            have H := HA.out
            clear HA
            simp only [stencillaw24_kept_holds.l1] at H
            by_cases c9 : x4_2 < (l0_1.length : Int)
            · rw [if_pos c9] at H
              have c9b0 : decide (x4_2 < (l0_1.length : Int)) = true := decide_eq_true c9
              clear c9
              by_cases c10 : 0 ≤ x4_2
              · rw [if_pos c10] at H
                have c10b0 : decide (0 ≤ x4_2) = true := decide_eq_true c10
                clear c10
                by_cases c11 : ((rd_T23 l0_1 x4_2).f0) = (wrap64 ((wrap64 (-a0_2)) - 1))
                · rw [if_pos c11] at H
                  have c11b0 : (((rd_T23 l0_1 x4_2).f0) == (wrap64 ((wrap64 (-a0_2)) - 1))) = true := beq_iff_eq.mpr c11
                  have c11b1 : (((rd_T23 l0_1 x4_2).f0) != (wrap64 ((wrap64 (-a0_2)) - 1))) = false := bne_eq_false_iff_eq.mpr c11
                  clear c11
                  have H' := Aside0.mk H
                  clear H
                  have hcz12_0 : wr.cell? ⟨gb119, 0, none⟩ = some (.slice A0_0 l0_0.length c0_0) := (blk_cell BK119.out 0).trans rfl
                  have hcz12_1 : wr.cell? ⟨gb119, 1, none⟩ = some (.slice A0_1 l0_1.length c0_1) := (blk_cell BK119.out 1).trans rfl
                  have hcz12_2 : wr.cell? ⟨gb119, 2, none⟩ = some (.int .i64 a0_2) := (blk_cell BK119.out 2).trans rfl
                  have hfz12_0 := blk_frozen BK119.out 0
                  have hfz12_1 := blk_frozen BK119.out 1
                  have hfz12_2 := blk_frozen BK119.out 2
                  have p121 : 0 ≤ (x4_2 : Int) := of_decide_eq_true (by first | (with_reducible assumption) | assumption)
                  have q121 : x4_2 < (l0_1.length : Int) := of_decide_eq_true (by first | (with_reducible assumption) | assumption)
                  obtain ⟨ad121, e121, hx121_0, hx121_1⟩ := at_T23 HR0_1.out x4_2 p121 q121
                  cases e121
                  replace hx121_0 := (HB.out.cell (World.block_lt_of_cell? w _ hx121_0)).trans hx121_0
                  replace hx121_1 := (HB.out.cell (World.block_lt_of_cell? w _ hx121_1)).trans hx121_1
                  replace p121 := eq_true p121
                  replace q121 := eq_true q121
                  go_wp2
                  repeat (go_quiet (fail); try go_wp2)
                  go_roundg k2
                  case measure => have := HK1.out; have := HK2.out; omega
                  case rel => exact ⟨(wrap64 (x4_2 + 1)), (by first | rfl | (simp; done) | (simp [*]; done)), H', ⟨by have := HK1.out; have := HK2.out; omega⟩, ⟨by (with_reducible repeat (first | refine blk_drewN ?_ _ | refine blk_drew ?_ | refine blk_alloc ?_ _)); exact BK119.out⟩, ⟨by repeat (first | (with_reducible first | exact HB.out | apply below_alloc | apply pw_below_drewN | apply below_drew1 | refine below_set ?_ GE119.out) | exact HB.out)⟩⟩
                · rw [if_neg c11] at H
                  have c11b0 : (((rd_T23 l0_1 x4_2).f0) == (wrap64 ((wrap64 (-a0_2)) - 1))) = false := beq_eq_false_iff_ne.mpr c11
                  have c11b1 : (((rd_T23 l0_1 x4_2).f0) != (wrap64 ((wrap64 (-a0_2)) - 1))) = true := bne_iff_ne.mpr c11
                  obtain rfl := Option.some.inj H
                  have hcz13_0 : wr.cell? ⟨gb119, 0, none⟩ = some (.slice A0_0 l0_0.length c0_0) := (blk_cell BK119.out 0).trans rfl
                  have hcz13_1 : wr.cell? ⟨gb119, 1, none⟩ = some (.slice A0_1 l0_1.length c0_1) := (blk_cell BK119.out 1).trans rfl
                  have hcz13_2 : wr.cell? ⟨gb119, 2, none⟩ = some (.int .i64 a0_2) := (blk_cell BK119.out 2).trans rfl
                  have hfz13_0 := blk_frozen BK119.out 0
                  have hfz13_1 := blk_frozen BK119.out 1
                  have hfz13_2 := blk_frozen BK119.out 2
                  have p121 : 0 ≤ (x4_2 : Int) := of_decide_eq_true (by first | (with_reducible assumption) | assumption)
                  have q121 : x4_2 < (l0_1.length : Int) := of_decide_eq_true (by first | (with_reducible assumption) | assumption)
                  obtain ⟨ad121, e121, hx121_0, hx121_1⟩ := at_T23 HR0_1.out x4_2 p121 q121
                  cases e121
                  replace hx121_0 := (HB.out.cell (World.block_lt_of_cell? w _ hx121_0)).trans hx121_0
                  replace hx121_1 := (HB.out.cell (World.block_lt_of_cell? w _ hx121_1)).trans hx121_1
                  replace p121 := eq_true p121
                  replace q121 := eq_true q121
                  go_wp2
                  repeat (go_quiet (fail); try go_wp2)
                  go_ret
                  exact ⟨by first | rfl | (simp [errW_none, errW_some] <;> rfl) | (simp [*, errW_none, errW_some] <;> rfl), by repeat (first | (with_reducible first | exact HB.out | apply below_alloc | apply pw_below_drewN | apply below_drew1 | refine below_set ?_ GE119.out) | exact HB.out)⟩
              · rw [if_neg c10] at H
                exact absurd H (by simp)
            · rw [if_neg c9] at H
              have c9b0 : decide (x4_2 < (l0_1.length : Int)) = false := decide_eq_false c9
              clear c9
              obtain rfl := Option.some.inj H
              have hcz14_0 : wr.cell? ⟨gb119, 0, none⟩ = some (.slice A0_0 l0_0.length c0_0) := (blk_cell BK119.out 0).trans rfl
              have hcz14_1 : wr.cell? ⟨gb119, 1, none⟩ = some (.slice A0_1 l0_1.length c0_1) := (blk_cell BK119.out 1).trans rfl
              have hcz14_2 : wr.cell? ⟨gb119, 2, none⟩ = some (.int .i64 a0_2) := (blk_cell BK119.out 2).trans rfl
              have hfz14_0 := blk_frozen BK119.out 0
              have hfz14_1 := blk_frozen BK119.out 1
              have hfz14_2 := blk_frozen BK119.out 2
              go_wp2
              repeat (go_quiet (fail); try go_wp2)
              go_ret
              exact ⟨by first | rfl | (simp [errW_none, errW_some] <;> rfl) | (simp [*, errW_none, errW_some] <;> rfl), by repeat (first | (with_reducible first | exact HB.out | apply below_alloc | apply pw_below_drewN | apply below_drew1 | refine below_set ?_ GE119.out) | exact HB.out)⟩

/-! ### frame_Wrap: function 13 -/
def frame_Wrap.f (a0_0 : Int) (a0_1 : ByteArray) : Option (ByteArray × Int) := (frame_known.f a0_0).bind fun t123 => (if t123 = true then (if (wrap64 (6 + (a0_1.size : Int))) > 4294967295 then (some ((⟨#[]⟩ : ByteArray), 240)) else ((some (([((wrap64 (6 + (a0_1.size : Int))) / 16777216) % 256, ((wrap64 (6 + (a0_1.size : Int))) / 65536) % 256, ((wrap64 (6 + (a0_1.size : Int))) / 256) % 256, (wrap64 (6 + (a0_1.size : Int))) % 256, (a0_0 / 256) % 256, (a0_0) % 256] : List Int) : List Int)).bind fun y124 => (if (strOfNums y124).size + a0_1.size ≤ 9223372036854775807 then (some ((strOfNums y124) ++ a0_1, 0)) else (none)))) else (some ((⟨#[]⟩ : ByteArray), 241)))
set_option maxHeartbeats 8000000 in
set_option maxRecDepth 100000 in
theorem frame_Wrap.calls (a0_0 : Int) (a0_1 : ByteArray) (r1 : ByteArray) (r2 : Int) (w : World) (h : frame_Wrap.f a0_0 a0_1 = some (r1, r2)) :
    Calls Try.prog 13 #[.agg #[.int .i64 a0_0, .string a0_1]] w fun e w' => e = .returned (.tuple #[.string r1, .int .i64 r2]) ∧ Below w.heap.size w w' := by
  have hu23 := Try.underlying23
  have HB := Aside0.mk (Below.refl w.heap.size w)
  have H : ((frame_known.f a0_0).bind fun t123 => (if t123 = true then (if (wrap64 (6 + (a0_1.size : Int))) > 4294967295 then (some ((⟨#[]⟩ : ByteArray), 240)) else ((some (([((wrap64 (6 + (a0_1.size : Int))) / 16777216) % 256, ((wrap64 (6 + (a0_1.size : Int))) / 65536) % 256, ((wrap64 (6 + (a0_1.size : Int))) / 256) % 256, (wrap64 (6 + (a0_1.size : Int))) % 256, (a0_0 / 256) % 256, (a0_0) % 256] : List Int) : List Int)).bind fun y124 => (if (strOfNums y124).size + a0_1.size ≤ 9223372036854775807 then (some ((strOfNums y124) ++ a0_1, 0)) else (none)))) else (some ((⟨#[]⟩ : ByteArray), 241)))) = some (r1, r2) := h
  clear h
  replace H := Option.bind_eq_some_iff.mp H
  obtain ⟨t123, A20, H⟩ := H
  replace H : (if t123 = true then (if (wrap64 (6 + (a0_1.size : Int))) > 4294967295 then (some ((⟨#[]⟩ : ByteArray), 240)) else ((some (([((wrap64 (6 + (a0_1.size : Int))) / 16777216) % 256, ((wrap64 (6 + (a0_1.size : Int))) / 65536) % 256, ((wrap64 (6 + (a0_1.size : Int))) / 256) % 256, (wrap64 (6 + (a0_1.size : Int))) % 256, (a0_0 / 256) % 256, (a0_0) % 256] : List Int) : List Int)).bind fun y124 => (if (strOfNums y124).size + a0_1.size ≤ 9223372036854775807 then (some ((strOfNums y124) ++ a0_1, 0)) else (none)))) else (some ((⟨#[]⟩ : ByteArray), 241))) = some (r1, r2) := H
  have A2 := Aside0.mk A20
  clear A20
  by_cases c3 : t123 = true
  · subst c3
    have H1 : (if (wrap64 (6 + (a0_1.size : Int))) > 4294967295 then (some ((⟨#[]⟩ : ByteArray), 240)) else ((some (([((wrap64 (6 + (a0_1.size : Int))) / 16777216) % 256, ((wrap64 (6 + (a0_1.size : Int))) / 65536) % 256, ((wrap64 (6 + (a0_1.size : Int))) / 256) % 256, (wrap64 (6 + (a0_1.size : Int))) % 256, (a0_0 / 256) % 256, (a0_0) % 256] : List Int) : List Int)).bind fun y124 => (if (strOfNums y124).size + a0_1.size ≤ 9223372036854775807 then (some ((strOfNums y124) ++ a0_1, 0)) else (none)))) = some (r1, r2) := by rw [if_pos rfl] at H; exact H
    clear H
    have H := H1
    clear H1
    by_cases c4 : (wrap64 (6 + (a0_1.size : Int))) > 4294967295
    · rw [if_pos c4] at H
      have c4b0 : decide (4294967295 < (wrap64 (6 + (a0_1.size : Int)))) = true := decide_eq_true c4
      clear c4
      simp only [Option.some.injEq, Prod.mk.injEq] at H
      obtain ⟨rfl, rfl⟩ := H
      go_enter Try.func13, Try.ntmps13
      go_wp2_with (first | ((with_reducible refine gate_dst (N := 1) rfl ?_); refine box_event ?hg (N := 1) ?hd (cs := #[.int .i64 a0_0, .string a0_1]) (t := 23) ?hr ?_; (case hd => rfl); (case hg => rfl); (case hr => first | (go_simp; done) | (go_simp; rfl)); intro gb122 hg w5 hbox hb; have n0_ := Aside0.mk (below_step (by repeat (first | (with_reducible first | exact HB.out | apply below_alloc | apply pw_below_drewN | apply below_drew1) | exact HB.out)) hb); have n1_ := Aside0.mk (hbox); have n2_ := Aside0.mk ((by rw [hg]; exact (below_size (by repeat (first | (with_reducible first | exact HB.out | apply below_alloc | apply pw_below_drewN | apply below_drew1) | exact HB.out))) : w.heap.size ≤ gb122)); have n3_ := Aside0.mk ((by rw [hg]; exact (below_size (by repeat (first | (with_reducible first | exact HB.out | apply below_alloc | apply pw_below_drewN | apply below_drew1) | exact HB.out))) : w.heap.size ≤ gb122)); clear HB; have HB := n0_; have BK122 := n1_; have GW122 := n2_; have GE122 := n3_; clear n0_ n1_ n2_ n3_; clear hb hbox hg; have hcz6_0 : w5.cell? ⟨gb122, 0, none⟩ = some (.int .i64 a0_0) := (blk_cell BK122.out 0).trans rfl; have hcz6_1 : w5.cell? ⟨gb122, 1, none⟩ = some (.string a0_1) := (blk_cell BK122.out 1).trans rfl; have hfz6_0 := blk_frozen BK122.out 0; have hfz6_1 := blk_frozen BK122.out 1) | ((with_reducible refine gate_callee (f := 30) rfl ?_); refine goesL_ (some 8) rfl rfl Try.func30 (by kernel_rfl) rfl #[.int .i64 a0_0] rfl (by (try simp only [List.map_toArray, List.map_cons, List.map_nil]); first | done | rfl | (simp only [List.length_drop, List.length_take]; rfl)) ?_; (with_reducible refine (frame_known.calls a0_0 true _ A2.out).mono ?_); rintro e w' ⟨rfl, ⟨nd, rfl⟩⟩; refine ⟨_, rfl, ?_⟩))
      go_ret2
      exact ⟨by first | rfl | (simp [errW_none, errW_some] <;> rfl) | (simp [*, errW_none, errW_some] <;> rfl), by repeat (first | (with_reducible first | exact HB.out | apply below_alloc | apply pw_below_drewN | apply below_drew1 | refine below_set ?_ GE122.out) | exact HB.out)⟩
    · rw [if_neg c4] at H
      have c4b0 : decide (4294967295 < (wrap64 (6 + (a0_1.size : Int)))) = false := decide_eq_false c4
      clear c4
      obtain ⟨y124, hy124⟩ : ∃ y_ : List Int, y_ = (([((wrap64 (6 + (a0_1.size : Int))) / 16777216) % 256, ((wrap64 (6 + (a0_1.size : Int))) / 65536) % 256, ((wrap64 (6 + (a0_1.size : Int))) / 256) % 256, (wrap64 (6 + (a0_1.size : Int))) % 256, (a0_0 / 256) % 256, (a0_0) % 256] : List Int)) := ⟨_, rfl⟩
      replace H : (if (strOfNums y124).size + a0_1.size ≤ 9223372036854775807 then (some ((strOfNums y124) ++ a0_1, 0)) else (none)) = some (r1, r2) := by first | (rw [hy124]; with_reducible exact H) | (have H2_ := (Option.bind_some _ _).symm.trans H; rw [hy124]; with_reducible exact H2_) | (have H2_ := (Option.bind_some _ _).symm.trans H; with_reducible exact H2_) | with_reducible exact H | (rw [hy124]; exact H) | exact H
      have Ny124 := Aside0.mk hy124
      clear hy124
      by_cases c7 : (strOfNums y124).size + a0_1.size ≤ 9223372036854775807
      · rw [if_pos c7] at H
        have c7b0 := eq_true c7
        have c7b1 : decide ((strOfNums y124).size + a0_1.size ≤ 9223372036854775807) = true := decide_eq_true c7
        try have c7b2 : (9223372036854775807 < (strOfNums y124).size + a0_1.size) = False := eq_false (Nat.not_lt.2 c7)
        simp only [Option.some.injEq, Prod.mk.injEq] at H
        obtain ⟨rfl, rfl⟩ := H
        go_enter Try.func13, Try.ntmps13
        go_wp2_with (first | ((with_reducible refine gate_dst (N := 1) rfl ?_); refine box_event ?hg (N := 1) ?hd (cs := #[.int .i64 a0_0, .string a0_1]) (t := 23) ?hr ?_; (case hd => rfl); (case hg => rfl); (case hr => first | (go_simp; done) | (go_simp; rfl)); intro gb122 hg w8 hbox hb; have n0_ := Aside0.mk (below_step (by repeat (first | (with_reducible first | exact HB.out | apply below_alloc | apply pw_below_drewN | apply below_drew1) | exact HB.out)) hb); have n1_ := Aside0.mk (hbox); have n2_ := Aside0.mk ((by rw [hg]; exact (below_size (by repeat (first | (with_reducible first | exact HB.out | apply below_alloc | apply pw_below_drewN | apply below_drew1) | exact HB.out))) : w.heap.size ≤ gb122)); have n3_ := Aside0.mk ((by rw [hg]; exact (below_size (by repeat (first | (with_reducible first | exact HB.out | apply below_alloc | apply pw_below_drewN | apply below_drew1) | exact HB.out))) : w.heap.size ≤ gb122)); clear HB; have HB := n0_; have BK122 := n1_; have GW122 := n2_; have GE122 := n3_; clear n0_ n1_ n2_ n3_; clear hb hbox hg; have hcz9_0 : w8.cell? ⟨gb122, 0, none⟩ = some (.int .i64 a0_0) := (blk_cell BK122.out 0).trans rfl; have hcz9_1 : w8.cell? ⟨gb122, 1, none⟩ = some (.string a0_1) := (blk_cell BK122.out 1).trans rfl; have hfz9_0 := blk_frozen BK122.out 0; have hfz9_1 := blk_frozen BK122.out 1) | ((with_reducible refine gate_callee (f := 30) rfl ?_); refine goesL_ (some 8) rfl rfl Try.func30 (by kernel_rfl) rfl #[.int .i64 a0_0] rfl (by (try simp only [List.map_toArray, List.map_cons, List.map_nil]); first | done | rfl | (simp only [List.length_drop, List.length_take]; rfl)) ?_; (with_reducible refine (frame_known.calls a0_0 true _ A2.out).mono ?_); rintro e w' ⟨rfl, ⟨nd, rfl⟩⟩; refine ⟨_, rfl, ?_⟩) | ((with_reducible refine gate_dst (N := 34) rfl ?_); refine Kd.R_lit (Kd.int .u8) _ 5 ?hg (N := 34) ?hd (xs := ([((wrap64 (6 + (a0_1.size : Int))) / 16777216) % 256, ((wrap64 (6 + (a0_1.size : Int))) / 65536) % 256, ((wrap64 (6 + (a0_1.size : Int))) / 256) % 256, (wrap64 (6 + (a0_1.size : Int))) % 256, (a0_0 / 256) % 256, (a0_0) % 256] : List Int)) (inner := [.int .u8 (((wrap64 (6 + (a0_1.size : Int))) / 16777216) % 256), .int .u8 (((wrap64 (6 + (a0_1.size : Int))) / 65536) % 256), .int .u8 (((wrap64 (6 + (a0_1.size : Int))) / 256) % 256), .int .u8 ((wrap64 (6 + (a0_1.size : Int))) % 256), .int .u8 ((a0_0 / 256) % 256), .int .u8 ((a0_0) % 256)]) (ok := fun _ => True) (okp := fun _ => True) ?hr ?hp (fun _ hk => hk) trivial (Below.refl _ _) (Nat.le_refl _) (by simp) ?_; (case hd => rfl); (case hg => rfl); (case hr => first | (go_simp; done) | (go_simp; rfl)); (case hp => exact (Reps.one (show Kd.M (Kd.int .u8) _ _ _ (((wrap64 (6 + (a0_1.size : Int))) / 16777216) % 256) [.int .u8 (((wrap64 (6 + (a0_1.size : Int))) / 16777216) % 256)] from rfl) (Reps.one (show Kd.M (Kd.int .u8) _ _ _ (((wrap64 (6 + (a0_1.size : Int))) / 65536) % 256) [.int .u8 (((wrap64 (6 + (a0_1.size : Int))) / 65536) % 256)] from rfl) (Reps.one (show Kd.M (Kd.int .u8) _ _ _ (((wrap64 (6 + (a0_1.size : Int))) / 256) % 256) [.int .u8 (((wrap64 (6 + (a0_1.size : Int))) / 256) % 256)] from rfl) (Reps.one (show Kd.M (Kd.int .u8) _ _ _ ((wrap64 (6 + (a0_1.size : Int))) % 256) [.int .u8 ((wrap64 (6 + (a0_1.size : Int))) % 256)] from rfl) (Reps.one (show Kd.M (Kd.int .u8) _ _ _ ((a0_0 / 256) % 256) [.int .u8 ((a0_0 / 256) % 256)] from rfl) (Reps.one (show Kd.M (Kd.int .u8) _ _ _ ((a0_0) % 256) [.int .u8 ((a0_0) % 256)] from rfl) (Reps.none _ _)))))))); intro v125 w10 ho11 hb hg_ hnew_; clear hg_ hnew_; (first | rw [← Ny124.out] at ho11 | (simp only [Int.reduceToNat] at ho11; rw [← Ny124.out] at ho11)); have n0_ := Aside0.mk (Kd.R_lower ho11 (below_size (by repeat (first | (with_reducible first | exact HB.out | apply below_alloc | apply pw_below_drewN | apply below_drew1 | refine below_set ?_ GE122.out) | exact HB.out)))); have n1_ := Aside0.mk (blk_below (g := gb122) (o := .cells #[.int .i64 a0_0, .string a0_1] 23 (0, 0)) (by (with_reducible repeat (first | refine blk_drewN ?_ _ | refine blk_drew ?_ | refine blk_alloc ?_ _)); exact BK122.out) hb); have n2_ := Aside0.mk (below_step (by repeat (first | (with_reducible first | exact HB.out | apply below_alloc | apply pw_below_drewN | apply below_drew1 | refine below_set ?_ GE122.out) | exact HB.out)) hb); clear BK122; clear HB; have HO126 := n0_; have BK122 := n1_; have HB := n2_; clear n0_ n1_ n2_; clear hb ho11; have hcv12 := own_string (P := Try.prog) Try.underlying45 Try.underlying5 Try.underlying9 (Kd.own_of_R HO126.out); have hcz13_0 : w10.cell? ⟨gb122, 0, none⟩ = some (.int .i64 a0_0) := (blk_cell BK122.out 0).trans rfl; have hcz13_1 : w10.cell? ⟨gb122, 1, none⟩ = some (.string a0_1) := (blk_cell BK122.out 1).trans rfl; have hfz13_0 := blk_frozen BK122.out 0; have hfz13_1 := blk_frozen BK122.out 1))
        go_ret2
        exact ⟨by first | rfl | (simp [errW_none, errW_some] <;> rfl) | (simp [*, errW_none, errW_some] <;> rfl), by repeat (first | (with_reducible first | exact HB.out | apply below_alloc | apply pw_below_drewN | apply below_drew1 | refine below_set ?_ GE122.out) | exact HB.out)⟩
      · rw [if_neg c7] at H
        exact absurd H (by simp)
  · replace c3 := Bool.eq_false_iff.mpr c3
    subst c3
    have H1 : (some ((⟨#[]⟩ : ByteArray), 241)) = some (r1, r2) := by rw [if_neg (show ¬ (false = true) by decide)] at H; exact H
    clear H
    have H := H1
    clear H1
    simp only [Option.some.injEq, Prod.mk.injEq] at H
    obtain ⟨rfl, rfl⟩ := H
    go_enter Try.func13, Try.ntmps13
    go_wp2_with (first | ((with_reducible refine gate_dst (N := 1) rfl ?_); refine box_event ?hg (N := 1) ?hd (cs := #[.int .i64 a0_0, .string a0_1]) (t := 23) ?hr ?_; (case hd => rfl); (case hg => rfl); (case hr => first | (go_simp; done) | (go_simp; rfl)); intro gb122 hg w14 hbox hb; have n0_ := Aside0.mk (below_step (by repeat (first | (with_reducible first | exact HB.out | apply below_alloc | apply pw_below_drewN | apply below_drew1) | exact HB.out)) hb); have n1_ := Aside0.mk (hbox); have n2_ := Aside0.mk ((by rw [hg]; exact (below_size (by repeat (first | (with_reducible first | exact HB.out | apply below_alloc | apply pw_below_drewN | apply below_drew1) | exact HB.out))) : w.heap.size ≤ gb122)); have n3_ := Aside0.mk ((by rw [hg]; exact (below_size (by repeat (first | (with_reducible first | exact HB.out | apply below_alloc | apply pw_below_drewN | apply below_drew1) | exact HB.out))) : w.heap.size ≤ gb122)); clear HB; have HB := n0_; have BK122 := n1_; have GW122 := n2_; have GE122 := n3_; clear n0_ n1_ n2_ n3_; clear hb hbox hg; have hcz15_0 : w14.cell? ⟨gb122, 0, none⟩ = some (.int .i64 a0_0) := (blk_cell BK122.out 0).trans rfl; have hcz15_1 : w14.cell? ⟨gb122, 1, none⟩ = some (.string a0_1) := (blk_cell BK122.out 1).trans rfl; have hfz15_0 := blk_frozen BK122.out 0; have hfz15_1 := blk_frozen BK122.out 1) | ((with_reducible refine gate_callee (f := 30) rfl ?_); refine goesL_ (some 8) rfl rfl Try.func30 (by kernel_rfl) rfl #[.int .i64 a0_0] rfl (by (try simp only [List.map_toArray, List.map_cons, List.map_nil]); first | done | rfl | (simp only [List.length_drop, List.length_take]; rfl)) ?_; (with_reducible refine (frame_known.calls a0_0 false _ A2.out).mono ?_); rintro e w' ⟨rfl, ⟨nd, rfl⟩⟩; refine ⟨_, rfl, ?_⟩))
    go_ret2
    exact ⟨by first | rfl | (simp [errW_none, errW_some] <;> rfl) | (simp [*, errW_none, errW_some] <;> rfl), by repeat (first | (with_reducible first | exact HB.out | apply below_alloc | apply pw_below_drewN | apply below_drew1 | refine below_set ?_ GE122.out) | exact HB.out)⟩

/-! ### stencilref24_Wrap: function 14 -/
def stencilref24_Wrap.f (a0_0 : Int) (a0_1 : ByteArray) : Option (ByteArray × Int) := (stencilref24_known.f a0_0).bind fun t128 => (if t128 = true then (if (wrap64 ((a0_1.size : Int) + 6)) > 4294967295 then (some ((⟨#[]⟩ : ByteArray), 240)) else ((some (([(wrap64 (Int.tdiv (wrap64 ((a0_1.size : Int) + 6)) 16777216)) % 256, (Int.tmod (wrap64 (Int.tdiv (wrap64 ((a0_1.size : Int) + 6)) 65536)) 256) % 256, (Int.tmod (wrap64 (Int.tdiv (wrap64 ((a0_1.size : Int) + 6)) 256)) 256) % 256, (Int.tmod (wrap64 ((a0_1.size : Int) + 6)) 256) % 256, (wrap64 (Int.tdiv a0_0 256)) % 256, (Int.tmod a0_0 256) % 256] : List Int) : List Int)).bind fun y129 => (if (strOfNums y129).size + a0_1.size ≤ 9223372036854775807 then (some ((strOfNums y129) ++ a0_1, 0)) else (none)))) else (some ((⟨#[]⟩ : ByteArray), 241)))
set_option maxHeartbeats 8000000 in
set_option maxRecDepth 100000 in
theorem stencilref24_Wrap.calls (a0_0 : Int) (a0_1 : ByteArray) (r1 : ByteArray) (r2 : Int) (w : World) (h : stencilref24_Wrap.f a0_0 a0_1 = some (r1, r2)) :
    Calls Try.prog 14 #[.agg #[.int .i64 a0_0, .string a0_1]] w fun e w' => e = .returned (.tuple #[.string r1, .int .i64 r2]) ∧ Below w.heap.size w w' := by
  have hu23 := Try.underlying23
  have HB := Aside0.mk (Below.refl w.heap.size w)
  have H : ((stencilref24_known.f a0_0).bind fun t128 => (if t128 = true then (if (wrap64 ((a0_1.size : Int) + 6)) > 4294967295 then (some ((⟨#[]⟩ : ByteArray), 240)) else ((some (([(wrap64 (Int.tdiv (wrap64 ((a0_1.size : Int) + 6)) 16777216)) % 256, (Int.tmod (wrap64 (Int.tdiv (wrap64 ((a0_1.size : Int) + 6)) 65536)) 256) % 256, (Int.tmod (wrap64 (Int.tdiv (wrap64 ((a0_1.size : Int) + 6)) 256)) 256) % 256, (Int.tmod (wrap64 ((a0_1.size : Int) + 6)) 256) % 256, (wrap64 (Int.tdiv a0_0 256)) % 256, (Int.tmod a0_0 256) % 256] : List Int) : List Int)).bind fun y129 => (if (strOfNums y129).size + a0_1.size ≤ 9223372036854775807 then (some ((strOfNums y129) ++ a0_1, 0)) else (none)))) else (some ((⟨#[]⟩ : ByteArray), 241)))) = some (r1, r2) := h
  clear h
  replace H := Option.bind_eq_some_iff.mp H
  obtain ⟨t128, A20, H⟩ := H
  replace H : (if t128 = true then (if (wrap64 ((a0_1.size : Int) + 6)) > 4294967295 then (some ((⟨#[]⟩ : ByteArray), 240)) else ((some (([(wrap64 (Int.tdiv (wrap64 ((a0_1.size : Int) + 6)) 16777216)) % 256, (Int.tmod (wrap64 (Int.tdiv (wrap64 ((a0_1.size : Int) + 6)) 65536)) 256) % 256, (Int.tmod (wrap64 (Int.tdiv (wrap64 ((a0_1.size : Int) + 6)) 256)) 256) % 256, (Int.tmod (wrap64 ((a0_1.size : Int) + 6)) 256) % 256, (wrap64 (Int.tdiv a0_0 256)) % 256, (Int.tmod a0_0 256) % 256] : List Int) : List Int)).bind fun y129 => (if (strOfNums y129).size + a0_1.size ≤ 9223372036854775807 then (some ((strOfNums y129) ++ a0_1, 0)) else (none)))) else (some ((⟨#[]⟩ : ByteArray), 241))) = some (r1, r2) := H
  have A2 := Aside0.mk A20
  clear A20
  by_cases c3 : t128 = true
  · subst c3
    have H1 : (if (wrap64 ((a0_1.size : Int) + 6)) > 4294967295 then (some ((⟨#[]⟩ : ByteArray), 240)) else ((some (([(wrap64 (Int.tdiv (wrap64 ((a0_1.size : Int) + 6)) 16777216)) % 256, (Int.tmod (wrap64 (Int.tdiv (wrap64 ((a0_1.size : Int) + 6)) 65536)) 256) % 256, (Int.tmod (wrap64 (Int.tdiv (wrap64 ((a0_1.size : Int) + 6)) 256)) 256) % 256, (Int.tmod (wrap64 ((a0_1.size : Int) + 6)) 256) % 256, (wrap64 (Int.tdiv a0_0 256)) % 256, (Int.tmod a0_0 256) % 256] : List Int) : List Int)).bind fun y129 => (if (strOfNums y129).size + a0_1.size ≤ 9223372036854775807 then (some ((strOfNums y129) ++ a0_1, 0)) else (none)))) = some (r1, r2) := by rw [if_pos rfl] at H; exact H
    clear H
    have H := H1
    clear H1
    by_cases c4 : (wrap64 ((a0_1.size : Int) + 6)) > 4294967295
    · rw [if_pos c4] at H
      have c4b0 : decide (4294967295 < (wrap64 ((a0_1.size : Int) + 6))) = true := decide_eq_true c4
      clear c4
      simp only [Option.some.injEq, Prod.mk.injEq] at H
      obtain ⟨rfl, rfl⟩ := H
      go_enter Try.func14, Try.ntmps14
      go_wp2_with (first | ((with_reducible refine gate_dst (N := 1) rfl ?_); refine box_event ?hg (N := 1) ?hd (cs := #[.int .i64 a0_0, .string a0_1]) (t := 23) ?hr ?_; (case hd => rfl); (case hg => rfl); (case hr => first | (go_simp; done) | (go_simp; rfl)); intro gb127 hg w5 hbox hb; have n0_ := Aside0.mk (below_step (by repeat (first | (with_reducible first | exact HB.out | apply below_alloc | apply pw_below_drewN | apply below_drew1) | exact HB.out)) hb); have n1_ := Aside0.mk (hbox); have n2_ := Aside0.mk ((by rw [hg]; exact (below_size (by repeat (first | (with_reducible first | exact HB.out | apply below_alloc | apply pw_below_drewN | apply below_drew1) | exact HB.out))) : w.heap.size ≤ gb127)); have n3_ := Aside0.mk ((by rw [hg]; exact (below_size (by repeat (first | (with_reducible first | exact HB.out | apply below_alloc | apply pw_below_drewN | apply below_drew1) | exact HB.out))) : w.heap.size ≤ gb127)); clear HB; have HB := n0_; have BK127 := n1_; have GW127 := n2_; have GE127 := n3_; clear n0_ n1_ n2_ n3_; clear hb hbox hg; have hcz6_0 : w5.cell? ⟨gb127, 0, none⟩ = some (.int .i64 a0_0) := (blk_cell BK127.out 0).trans rfl; have hcz6_1 : w5.cell? ⟨gb127, 1, none⟩ = some (.string a0_1) := (blk_cell BK127.out 1).trans rfl; have hfz6_0 := blk_frozen BK127.out 0; have hfz6_1 := blk_frozen BK127.out 1) | ((with_reducible refine gate_callee (f := 29) rfl ?_); refine goesL_ (some 8) rfl rfl Try.func29 (by kernel_rfl) rfl #[.int .i64 a0_0] rfl (by (try simp only [List.map_toArray, List.map_cons, List.map_nil]); first | done | rfl | (simp only [List.length_drop, List.length_take]; rfl)) ?_; (with_reducible refine (stencilref24_known.calls a0_0 true _ A2.out).mono ?_); rintro e w' ⟨rfl, ⟨nd, rfl⟩⟩; refine ⟨_, rfl, ?_⟩))
      go_ret2
      exact ⟨by first | rfl | (simp [errW_none, errW_some] <;> rfl) | (simp [*, errW_none, errW_some] <;> rfl), by repeat (first | (with_reducible first | exact HB.out | apply below_alloc | apply pw_below_drewN | apply below_drew1 | refine below_set ?_ GE127.out) | exact HB.out)⟩
    · rw [if_neg c4] at H
      have c4b0 : decide (4294967295 < (wrap64 ((a0_1.size : Int) + 6))) = false := decide_eq_false c4
      clear c4
      obtain ⟨y129, hy129⟩ : ∃ y_ : List Int, y_ = (([(wrap64 (Int.tdiv (wrap64 ((a0_1.size : Int) + 6)) 16777216)) % 256, (Int.tmod (wrap64 (Int.tdiv (wrap64 ((a0_1.size : Int) + 6)) 65536)) 256) % 256, (Int.tmod (wrap64 (Int.tdiv (wrap64 ((a0_1.size : Int) + 6)) 256)) 256) % 256, (Int.tmod (wrap64 ((a0_1.size : Int) + 6)) 256) % 256, (wrap64 (Int.tdiv a0_0 256)) % 256, (Int.tmod a0_0 256) % 256] : List Int)) := ⟨_, rfl⟩
      replace H : (if (strOfNums y129).size + a0_1.size ≤ 9223372036854775807 then (some ((strOfNums y129) ++ a0_1, 0)) else (none)) = some (r1, r2) := by first | (rw [hy129]; with_reducible exact H) | (have H2_ := (Option.bind_some _ _).symm.trans H; rw [hy129]; with_reducible exact H2_) | (have H2_ := (Option.bind_some _ _).symm.trans H; with_reducible exact H2_) | with_reducible exact H | (rw [hy129]; exact H) | exact H
      have Ny129 := Aside0.mk hy129
      clear hy129
      by_cases c7 : (strOfNums y129).size + a0_1.size ≤ 9223372036854775807
      · rw [if_pos c7] at H
        have c7b0 := eq_true c7
        have c7b1 : decide ((strOfNums y129).size + a0_1.size ≤ 9223372036854775807) = true := decide_eq_true c7
        try have c7b2 : (9223372036854775807 < (strOfNums y129).size + a0_1.size) = False := eq_false (Nat.not_lt.2 c7)
        simp only [Option.some.injEq, Prod.mk.injEq] at H
        obtain ⟨rfl, rfl⟩ := H
        go_enter Try.func14, Try.ntmps14
        go_wp2_with (first | ((with_reducible refine gate_dst (N := 1) rfl ?_); refine box_event ?hg (N := 1) ?hd (cs := #[.int .i64 a0_0, .string a0_1]) (t := 23) ?hr ?_; (case hd => rfl); (case hg => rfl); (case hr => first | (go_simp; done) | (go_simp; rfl)); intro gb127 hg w8 hbox hb; have n0_ := Aside0.mk (below_step (by repeat (first | (with_reducible first | exact HB.out | apply below_alloc | apply pw_below_drewN | apply below_drew1) | exact HB.out)) hb); have n1_ := Aside0.mk (hbox); have n2_ := Aside0.mk ((by rw [hg]; exact (below_size (by repeat (first | (with_reducible first | exact HB.out | apply below_alloc | apply pw_below_drewN | apply below_drew1) | exact HB.out))) : w.heap.size ≤ gb127)); have n3_ := Aside0.mk ((by rw [hg]; exact (below_size (by repeat (first | (with_reducible first | exact HB.out | apply below_alloc | apply pw_below_drewN | apply below_drew1) | exact HB.out))) : w.heap.size ≤ gb127)); clear HB; have HB := n0_; have BK127 := n1_; have GW127 := n2_; have GE127 := n3_; clear n0_ n1_ n2_ n3_; clear hb hbox hg; have hcz9_0 : w8.cell? ⟨gb127, 0, none⟩ = some (.int .i64 a0_0) := (blk_cell BK127.out 0).trans rfl; have hcz9_1 : w8.cell? ⟨gb127, 1, none⟩ = some (.string a0_1) := (blk_cell BK127.out 1).trans rfl; have hfz9_0 := blk_frozen BK127.out 0; have hfz9_1 := blk_frozen BK127.out 1) | ((with_reducible refine gate_callee (f := 29) rfl ?_); refine goesL_ (some 8) rfl rfl Try.func29 (by kernel_rfl) rfl #[.int .i64 a0_0] rfl (by (try simp only [List.map_toArray, List.map_cons, List.map_nil]); first | done | rfl | (simp only [List.length_drop, List.length_take]; rfl)) ?_; (with_reducible refine (stencilref24_known.calls a0_0 true _ A2.out).mono ?_); rintro e w' ⟨rfl, ⟨nd, rfl⟩⟩; refine ⟨_, rfl, ?_⟩) | ((with_reducible refine gate_dst (N := 39) rfl ?_); refine Kd.R_lit (Kd.int .u8) _ 5 ?hg (N := 39) ?hd (xs := ([(wrap64 (Int.tdiv (wrap64 ((a0_1.size : Int) + 6)) 16777216)) % 256, (Int.tmod (wrap64 (Int.tdiv (wrap64 ((a0_1.size : Int) + 6)) 65536)) 256) % 256, (Int.tmod (wrap64 (Int.tdiv (wrap64 ((a0_1.size : Int) + 6)) 256)) 256) % 256, (Int.tmod (wrap64 ((a0_1.size : Int) + 6)) 256) % 256, (wrap64 (Int.tdiv a0_0 256)) % 256, (Int.tmod a0_0 256) % 256] : List Int)) (inner := [.int .u8 ((wrap64 (Int.tdiv (wrap64 ((a0_1.size : Int) + 6)) 16777216)) % 256), .int .u8 ((Int.tmod (wrap64 (Int.tdiv (wrap64 ((a0_1.size : Int) + 6)) 65536)) 256) % 256), .int .u8 ((Int.tmod (wrap64 (Int.tdiv (wrap64 ((a0_1.size : Int) + 6)) 256)) 256) % 256), .int .u8 ((Int.tmod (wrap64 ((a0_1.size : Int) + 6)) 256) % 256), .int .u8 ((wrap64 (Int.tdiv a0_0 256)) % 256), .int .u8 ((Int.tmod a0_0 256) % 256)]) (ok := fun _ => True) (okp := fun _ => True) ?hr ?hp (fun _ hk => hk) trivial (Below.refl _ _) (Nat.le_refl _) (by simp) ?_; (case hd => rfl); (case hg => rfl); (case hr => first | (go_simp; done) | (go_simp; rfl)); (case hp => exact (Reps.one (show Kd.M (Kd.int .u8) _ _ _ ((wrap64 (Int.tdiv (wrap64 ((a0_1.size : Int) + 6)) 16777216)) % 256) [.int .u8 ((wrap64 (Int.tdiv (wrap64 ((a0_1.size : Int) + 6)) 16777216)) % 256)] from rfl) (Reps.one (show Kd.M (Kd.int .u8) _ _ _ ((Int.tmod (wrap64 (Int.tdiv (wrap64 ((a0_1.size : Int) + 6)) 65536)) 256) % 256) [.int .u8 ((Int.tmod (wrap64 (Int.tdiv (wrap64 ((a0_1.size : Int) + 6)) 65536)) 256) % 256)] from rfl) (Reps.one (show Kd.M (Kd.int .u8) _ _ _ ((Int.tmod (wrap64 (Int.tdiv (wrap64 ((a0_1.size : Int) + 6)) 256)) 256) % 256) [.int .u8 ((Int.tmod (wrap64 (Int.tdiv (wrap64 ((a0_1.size : Int) + 6)) 256)) 256) % 256)] from rfl) (Reps.one (show Kd.M (Kd.int .u8) _ _ _ ((Int.tmod (wrap64 ((a0_1.size : Int) + 6)) 256) % 256) [.int .u8 ((Int.tmod (wrap64 ((a0_1.size : Int) + 6)) 256) % 256)] from rfl) (Reps.one (show Kd.M (Kd.int .u8) _ _ _ ((wrap64 (Int.tdiv a0_0 256)) % 256) [.int .u8 ((wrap64 (Int.tdiv a0_0 256)) % 256)] from rfl) (Reps.one (show Kd.M (Kd.int .u8) _ _ _ ((Int.tmod a0_0 256) % 256) [.int .u8 ((Int.tmod a0_0 256) % 256)] from rfl) (Reps.none _ _)))))))); intro v130 w10 ho11 hb hg_ hnew_; clear hg_ hnew_; (first | rw [← Ny129.out] at ho11 | (simp only [Int.reduceToNat] at ho11; rw [← Ny129.out] at ho11)); have n0_ := Aside0.mk (Kd.R_lower ho11 (below_size (by repeat (first | (with_reducible first | exact HB.out | apply below_alloc | apply pw_below_drewN | apply below_drew1 | refine below_set ?_ GE127.out) | exact HB.out)))); have n1_ := Aside0.mk (blk_below (g := gb127) (o := .cells #[.int .i64 a0_0, .string a0_1] 23 (0, 0)) (by (with_reducible repeat (first | refine blk_drewN ?_ _ | refine blk_drew ?_ | refine blk_alloc ?_ _)); exact BK127.out) hb); have n2_ := Aside0.mk (below_step (by repeat (first | (with_reducible first | exact HB.out | apply below_alloc | apply pw_below_drewN | apply below_drew1 | refine below_set ?_ GE127.out) | exact HB.out)) hb); clear BK127; clear HB; have HO131 := n0_; have BK127 := n1_; have HB := n2_; clear n0_ n1_ n2_; clear hb ho11; have hcv12 := own_string (P := Try.prog) Try.underlying45 Try.underlying5 Try.underlying9 (Kd.own_of_R HO131.out); have hcz13_0 : w10.cell? ⟨gb127, 0, none⟩ = some (.int .i64 a0_0) := (blk_cell BK127.out 0).trans rfl; have hcz13_1 : w10.cell? ⟨gb127, 1, none⟩ = some (.string a0_1) := (blk_cell BK127.out 1).trans rfl; have hfz13_0 := blk_frozen BK127.out 0; have hfz13_1 := blk_frozen BK127.out 1))
        go_ret2
        exact ⟨by first | rfl | (simp [errW_none, errW_some] <;> rfl) | (simp [*, errW_none, errW_some] <;> rfl), by repeat (first | (with_reducible first | exact HB.out | apply below_alloc | apply pw_below_drewN | apply below_drew1 | refine below_set ?_ GE127.out) | exact HB.out)⟩
      · rw [if_neg c7] at H
        exact absurd H (by simp)
  · replace c3 := Bool.eq_false_iff.mpr c3
    subst c3
    have H1 : (some ((⟨#[]⟩ : ByteArray), 241)) = some (r1, r2) := by rw [if_neg (show ¬ (false = true) by decide)] at H; exact H
    clear H
    have H := H1
    clear H1
    simp only [Option.some.injEq, Prod.mk.injEq] at H
    obtain ⟨rfl, rfl⟩ := H
    go_enter Try.func14, Try.ntmps14
    go_wp2_with (first | ((with_reducible refine gate_dst (N := 1) rfl ?_); refine box_event ?hg (N := 1) ?hd (cs := #[.int .i64 a0_0, .string a0_1]) (t := 23) ?hr ?_; (case hd => rfl); (case hg => rfl); (case hr => first | (go_simp; done) | (go_simp; rfl)); intro gb127 hg w14 hbox hb; have n0_ := Aside0.mk (below_step (by repeat (first | (with_reducible first | exact HB.out | apply below_alloc | apply pw_below_drewN | apply below_drew1) | exact HB.out)) hb); have n1_ := Aside0.mk (hbox); have n2_ := Aside0.mk ((by rw [hg]; exact (below_size (by repeat (first | (with_reducible first | exact HB.out | apply below_alloc | apply pw_below_drewN | apply below_drew1) | exact HB.out))) : w.heap.size ≤ gb127)); have n3_ := Aside0.mk ((by rw [hg]; exact (below_size (by repeat (first | (with_reducible first | exact HB.out | apply below_alloc | apply pw_below_drewN | apply below_drew1) | exact HB.out))) : w.heap.size ≤ gb127)); clear HB; have HB := n0_; have BK127 := n1_; have GW127 := n2_; have GE127 := n3_; clear n0_ n1_ n2_ n3_; clear hb hbox hg; have hcz15_0 : w14.cell? ⟨gb127, 0, none⟩ = some (.int .i64 a0_0) := (blk_cell BK127.out 0).trans rfl; have hcz15_1 : w14.cell? ⟨gb127, 1, none⟩ = some (.string a0_1) := (blk_cell BK127.out 1).trans rfl; have hfz15_0 := blk_frozen BK127.out 0; have hfz15_1 := blk_frozen BK127.out 1) | ((with_reducible refine gate_callee (f := 29) rfl ?_); refine goesL_ (some 8) rfl rfl Try.func29 (by kernel_rfl) rfl #[.int .i64 a0_0] rfl (by (try simp only [List.map_toArray, List.map_cons, List.map_nil]); first | done | rfl | (simp only [List.length_drop, List.length_take]; rfl)) ?_; (with_reducible refine (stencilref24_known.calls a0_0 false _ A2.out).mono ?_); rintro e w' ⟨rfl, ⟨nd, rfl⟩⟩; refine ⟨_, rfl, ?_⟩))
    go_ret2
    exact ⟨by first | rfl | (simp [errW_none, errW_some] <;> rfl) | (simp [*, errW_none, errW_some] <;> rfl), by repeat (first | (with_reducible first | exact HB.out | apply below_alloc | apply pw_below_drewN | apply below_drew1 | refine below_set ?_ GE127.out) | exact HB.out)⟩

end Go.Proofs.Ytkchnocliilapaa.Q
