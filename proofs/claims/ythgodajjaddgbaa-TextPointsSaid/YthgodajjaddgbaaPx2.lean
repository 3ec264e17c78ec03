-- Made by a wrapper of this project over the kit's print.py, with contracts by hand beside it. Not trusted: Lean checks it.
import Derived.Test.YthgodajjaddgbaaPx0
import Derived.Test.YthgodajjaddgbaaPx1
namespace Go.Proofs.Ythgodajjaddgbaa.P
open Go.RowKit Go.Proofs.YthgodajjaddgbaaW.PrintWords Go.Proofs.YthgodajjaddgbaaW.PrintLast Go.Proofs.YthgodajjaddgbaaW.PrintMore
attribute [local go_sem] max2_int min2_int max_two min_two max_three min_three max_four min_four   -- for this text's walks alone
set_option linter.unusedVariables false
set_option linter.unusedSimpArgs false

/-! ### text_sequence: function 28 -/
mutual
def text_sequence.j0 : Nat → ByteArray → Bool → Int → Int → Int → Option (Int × Int)
  | 0, _, _, _, _, _ => none
  | k + 1, x0, x19, x106000, x106001, x106002 => if x19 = true then (some (0, 0)) else (if 0 < (x0.size : Int) then (if x106000 > 1 then (if 0 ≤ x106000 then (text_sequence.j1 k x0 (Go.bits .and .i64 (wrap64 (bt x0 0)) (shr .i64 127 x106000)) x106000 x106001 x106002) else (none)) else (text_sequence.j1 k x0 (wrap64 (bt x0 0)) x106000 x106001 x106002)) else (none))
def text_sequence.j1 : Nat → ByteArray → Int → Int → Int → Int → Option (Int × Int)
  | 0, _, _, _, _, _ => none
  | k + 1, x0, x5, x106000, x106001, x106002 => text_sequence.l0 k x0 x5 1 x106000 x106001 x106002
def text_sequence.l0 : Nat → ByteArray → Int → Int → Int → Int → Int → Option (Int × Int)
  | 0, _, _, _, _, _, _ => none
  | k + 1, x0, x5, x6, x106000, x106001, x106002 => if x6 < x106000 then (if 0 ≤ x6 then (if x6 < (x0.size : Int) then (text_sequence.l0 k x0 (Go.bits .or .i64 (wrap64 (x5 * 64)) (wrap64 (Go.bits .and .u8 (bt x0 x6) 63))) (wrap64 (x6 + 1)) x106000 x106001 x106002) else (none)) else (none)) else (if x106000 = 4 then (if 3 < (x0.size : Int) then ((text_tail.f (bt x0 3)).bind fun t106 => (if t106 = true then (text_sequence.j3 k x0 x5 x106000 x106001 x106002) else (some (0, 0)))) else (none)) else (if x106000 = 3 then (text_sequence.j3 k x0 x5 x106000 x106001 x106002) else (if x106000 = 2 then (if 1 < (x0.size : Int) then (if (bt x0 1) < x106001 then (some (0, 0)) else (if (bt x0 1) > x106002 then (some (0, 0)) else (some (x106000, x5)))) else (none)) else (some (x106000, x5)))))
def text_sequence.j3 : Nat → ByteArray → Int → Int → Int → Int → Option (Int × Int)
  | 0, _, _, _, _, _ => none
  | k + 1, x0, x5, x106000, x106001, x106002 => if 2 < (x0.size : Int) then ((text_tail.f (bt x0 2)).bind fun t107 => (if t107 = true then (if 1 < (x0.size : Int) then (if (bt x0 1) < x106001 then (some (0, 0)) else (if (bt x0 1) > x106002 then (some (0, 0)) else (some (x106000, x5)))) else (none)) else (some (0, 0)))) else (none)
end
def text_sequence.f (k : Nat) (a0 : ByteArray) : Option (Int × Int) := if 0 < (a0.size : Int) then ((text_classOf.f k (bt a0 0)).bind fun bt102 => (if bt102.1 = 0 then (text_sequence.j0 k a0 true bt102.1 bt102.2.1 bt102.2.2) else (text_sequence.j0 k a0 (decide (bt102.1 > (a0.size : Int))) bt102.1 bt102.2.1 bt102.2.2))) else (none)
theorem text_sequence.mono_l : ∀ k, (∀ y0 y1 y2 y3 y4, LeO (text_sequence.j0 k y0 y1 y2 y3 y4) (text_sequence.j0 (k + 1) y0 y1 y2 y3 y4)) ∧ (∀ y0 y1 y2 y3 y4, LeO (text_sequence.j1 k y0 y1 y2 y3 y4) (text_sequence.j1 (k + 1) y0 y1 y2 y3 y4)) ∧ (∀ y0 y1 y2 y3 y4 y5, LeO (text_sequence.l0 k y0 y1 y2 y3 y4 y5) (text_sequence.l0 (k + 1) y0 y1 y2 y3 y4 y5)) ∧ (∀ y0 y1 y2 y3 y4, LeO (text_sequence.j3 k y0 y1 y2 y3 y4) (text_sequence.j3 (k + 1) y0 y1 y2 y3 y4))
  | 0 => ⟨fun _ _ _ _ _ r h => by simp [text_sequence.j0] at h, fun _ _ _ _ _ r h => by simp [text_sequence.j1] at h, fun _ _ _ _ _ _ r h => by simp [text_sequence.l0] at h, fun _ _ _ _ _ r h => by simp [text_sequence.j3] at h⟩
  | k + 1 => by
    obtain ⟨ih0, ih1, ih2, ih3⟩ := text_sequence.mono_l k
    refine ⟨?_, ?_, ?_, ?_⟩
    · intro y0 y1 y2 y3 y4
      unfold text_sequence.j0
      repeat' first
      | (with_reducible exact ih0 _ _ _ _ _)
      | (with_reducible exact ih1 _ _ _ _ _)
      | (with_reducible exact ih2 _ _ _ _ _ _)
      | (with_reducible exact ih3 _ _ _ _ _)
      | (with_reducible exact text_classOf.mono _ _)
      | (with_reducible exact LeO.refl _)
      | (with_reducible exact LeO.none _)
      | (with_reducible refine LeO.ite ?_ ?_)
      | (with_reducible refine LeO.bind ?_ (fun _ => ?_))
      | exact ih0 _ _ _ _ _
      | exact ih1 _ _ _ _ _
      | exact ih2 _ _ _ _ _ _
      | exact ih3 _ _ _ _ _
      | exact text_classOf.mono _ _
      | exact LeO.none _
      | refine LeO.ite ?_ ?_
      | refine LeO.bind ?_ (fun _ => ?_)
    · intro y0 y1 y2 y3 y4
      unfold text_sequence.j1
      repeat' first
      | (with_reducible exact ih0 _ _ _ _ _)
      | (with_reducible exact ih1 _ _ _ _ _)
      | (with_reducible exact ih2 _ _ _ _ _ _)
      | (with_reducible exact ih3 _ _ _ _ _)
      | (with_reducible exact text_classOf.mono _ _)
      | (with_reducible exact LeO.refl _)
      | (with_reducible exact LeO.none _)
      | (with_reducible refine LeO.ite ?_ ?_)
      | (with_reducible refine LeO.bind ?_ (fun _ => ?_))
      | exact ih0 _ _ _ _ _
      | exact ih1 _ _ _ _ _
      | exact ih2 _ _ _ _ _ _
      | exact ih3 _ _ _ _ _
      | exact text_classOf.mono _ _
      | exact LeO.none _
      | refine LeO.ite ?_ ?_
      | refine LeO.bind ?_ (fun _ => ?_)
    · intro y0 y1 y2 y3 y4 y5
      unfold text_sequence.l0
      repeat' first
      | (with_reducible exact ih0 _ _ _ _ _)
      | (with_reducible exact ih1 _ _ _ _ _)
      | (with_reducible exact ih2 _ _ _ _ _ _)
      | (with_reducible exact ih3 _ _ _ _ _)
      | (with_reducible exact text_classOf.mono _ _)
      | (with_reducible exact LeO.refl _)
      | (with_reducible exact LeO.none _)
      | (with_reducible refine LeO.ite ?_ ?_)
      | (with_reducible refine LeO.bind ?_ (fun _ => ?_))
      | exact ih0 _ _ _ _ _
      | exact ih1 _ _ _ _ _
      | exact ih2 _ _ _ _ _ _
      | exact ih3 _ _ _ _ _
      | exact text_classOf.mono _ _
      | exact LeO.none _
      | refine LeO.ite ?_ ?_
      | refine LeO.bind ?_ (fun _ => ?_)
    · intro y0 y1 y2 y3 y4
      unfold text_sequence.j3
      repeat' first
      | (with_reducible exact ih0 _ _ _ _ _)
      | (with_reducible exact ih1 _ _ _ _ _)
      | (with_reducible exact ih2 _ _ _ _ _ _)
      | (with_reducible exact ih3 _ _ _ _ _)
      | (with_reducible exact text_classOf.mono _ _)
      | (with_reducible exact LeO.refl _)
      | (with_reducible exact LeO.none _)
      | (with_reducible refine LeO.ite ?_ ?_)
      | (with_reducible refine LeO.bind ?_ (fun _ => ?_))
      | exact ih0 _ _ _ _ _
      | exact ih1 _ _ _ _ _
      | exact ih2 _ _ _ _ _ _
      | exact ih3 _ _ _ _ _
      | exact text_classOf.mono _ _
      | exact LeO.none _
      | refine LeO.ite ?_ ?_
      | refine LeO.bind ?_ (fun _ => ?_)
theorem text_sequence.mono : ∀ a0 k, LeO (text_sequence.f k a0) (text_sequence.f (k + 1) a0) := by
  intro a0 k
  obtain ⟨ih0, ih1, ih2, ih3⟩ := text_sequence.mono_l k
  unfold text_sequence.f
  repeat' first
      | (with_reducible exact ih0 _ _ _ _ _)
      | (with_reducible exact ih1 _ _ _ _ _)
      | (with_reducible exact ih2 _ _ _ _ _ _)
      | (with_reducible exact ih3 _ _ _ _ _)
      | (with_reducible exact text_classOf.mono _ _)
      | (with_reducible exact LeO.refl _)
      | (with_reducible exact LeO.none _)
      | (with_reducible refine LeO.ite ?_ ?_)
      | (with_reducible refine LeO.bind ?_ (fun _ => ?_))
      | exact ih0 _ _ _ _ _
      | exact ih1 _ _ _ _ _
      | exact ih2 _ _ _ _ _ _
      | exact ih3 _ _ _ _ _
      | exact text_classOf.mono _ _
      | exact LeO.none _
      | refine LeO.ite ?_ ?_
      | refine LeO.bind ?_ (fun _ => ?_)
set_option maxHeartbeats 8000000 in
set_option maxRecDepth 100000 in
theorem text_sequence.calls (k : Nat) (a0 : ByteArray) (r1 : Int) (r2 : Int) (w : World) (h : text_sequence.f k a0 = some (r1, r2)) :
    Calls Try.prog 28 #[.string a0] w fun e w' => e = .returned (.tuple #[.int .i64 r1, .int .i64 r2]) ∧ Below w.heap.size w w' := by
  have hu66 := Try.underlying66
  have HB := Aside0.mk (Below.refl w.heap.size w)
  have H : (if 0 < (a0.size : Int) then ((text_classOf.f k (bt a0 0)).bind fun bt102 => (if bt102.1 = 0 then (text_sequence.j0 k a0 true bt102.1 bt102.2.1 bt102.2.2) else (text_sequence.j0 k a0 (decide (bt102.1 > (a0.size : Int))) bt102.1 bt102.2.1 bt102.2.2))) else (none)) = some (r1, r2) := h
  clear h
  by_cases c2 : 0 < (a0.size : Int)
  · rw [if_pos c2] at H
    have c2b0 : decide (0 < (a0.size : Int)) = true := decide_eq_true c2
    have c2b1 : decide (0 < a0.size) = true := decide_eq_true (by omega)
    clear c2
    replace H := Option.bind_eq_some_iff.mp H
    obtain ⟨⟨t102, t103, t104⟩, A40, H⟩ := H
    replace H : (if t102 = 0 then (text_sequence.j0 k a0 true t102 t103 t104) else (text_sequence.j0 k a0 (decide (t102 > (a0.size : Int))) t102 t103 t104)) = some (r1, r2) := H
    have A4 := Aside0.mk A40
    clear A40
    have HC5 := Aside0.mk H
    clear H
    have p3 : 0 ≤ (0 : Int) := (by omega)
    have q3 : 0 < a0.size := (by have : (0 : Int) < (a0.size : Int) := of_decide_eq_true (by first | (with_reducible assumption) | assumption); omega)
    have hx3 : ∀ h : 0 < a0.size, ((a0[0]'h).toNat : Int) = bt a0 0 := bt_at a0 0
    clear p3
    have qi3 : (0 < (a0.size : Int)) = True := eq_true (of_decide_eq_true (by first | (with_reducible assumption) | assumption))
    replace q3 := eq_true q3
    go_enter Try.func28, Try.ntmps28
    go_upto_region 2 with (first | (go_at_call 50; (with_reducible refine (text_classOf.calls k (bt a0 0) t102 t103 t104 _ A4.out).mono ?_); rintro e w6 ⟨rfl, hb⟩; have n0_ := Aside0.mk (below_step (by repeat (first | (with_reducible first | exact HB.out | apply below_alloc | apply pw_below_drewN | apply below_drew1) | exact HB.out)) hb); clear HB; have HB := n0_; clear n0_; (try clear hb); (try clear hb2); (try clear hk); (try clear hi)) | ((with_reducible refine gate_dst (N := 4) rfl ?_); (try (refine gate_guard (by rfl) ?_; dsimp only)); refine box_event ?hg (N := 4) ?hd (cs := #[.int .i64 0, .int .u8 0, .int .u8 0]) (t := 66) ?hr ?_; (case hd => rfl); (case hg => rfl); (case hr => first | (go_simp; done) | (go_simp; rfl)); intro gb105 hg w7 hbox hb; have n0_ := Aside0.mk (below_step (by repeat (first | (with_reducible first | exact HB.out | apply below_alloc | apply pw_below_drewN | apply below_drew1) | exact HB.out)) hb); have n1_ := Aside0.mk (hbox); have n2_ := Aside0.mk ((by rw [hg]; exact (below_size (by repeat (first | (with_reducible first | exact HB.out | apply below_alloc | apply pw_below_drewN | apply below_drew1) | exact HB.out))) : w.heap.size ≤ gb105)); have n3_ := Aside0.mk ((by rw [hg]; exact (below_size (by repeat (first | (with_reducible first | exact HB.out | apply below_alloc | apply pw_below_drewN | apply below_drew1) | exact HB.out))) : w.heap.size ≤ gb105)); clear HB; have HB := n0_; have BK105 := n1_; have GW105 := n2_; have GE105 := n3_; clear n0_ n1_ n2_ n3_; clear hb hbox hg; have hcz8_0 : w7.cell? ⟨gb105, 0, none⟩ = some (.int .i64 0) := (blk_cell BK105.out 0).trans rfl; have hcz8_1 : w7.cell? ⟨gb105, 1, none⟩ = some (.int .u8 0) := (blk_cell BK105.out 1).trans rfl; have hcz8_2 : w7.cell? ⟨gb105, 2, none⟩ = some (.int .u8 0) := (blk_cell BK105.out 2).trans rfl; have hfz8_0 := blk_frozen BK105.out 0; have hfz8_1 := blk_frozen BK105.out 1; have hfz8_2 := blk_frozen BK105.out 2))
    repeat (go_quiet (first | (go_at_call 50; (with_reducible refine (text_classOf.calls k (bt a0 0) t102 t103 t104 _ A4.out).mono ?_); rintro e w6 ⟨rfl, hb⟩; have n0_ := Aside0.mk (below_step (by repeat (first | (with_reducible first | exact HB.out | apply below_alloc | apply pw_below_drewN | apply below_drew1) | exact HB.out)) hb); clear HB; have HB := n0_; clear n0_; (try clear hb); (try clear hb2); (try clear hk); (try clear hi)) | ((with_reducible refine gate_dst (N := 4) rfl ?_); (try (refine gate_guard (by rfl) ?_; dsimp only)); refine box_event ?hg (N := 4) ?hd (cs := #[.int .i64 0, .int .u8 0, .int .u8 0]) (t := 66) ?hr ?_; (case hd => rfl); (case hg => rfl); (case hr => first | (go_simp; done) | (go_simp; rfl)); intro gb105 hg w7 hbox hb; have n0_ := Aside0.mk (below_step (by repeat (first | (with_reducible first | exact HB.out | apply below_alloc | apply pw_below_drewN | apply below_drew1) | exact HB.out)) hb); have n1_ := Aside0.mk (hbox); have n2_ := Aside0.mk ((by rw [hg]; exact (below_size (by repeat (first | (with_reducible first | exact HB.out | apply below_alloc | apply pw_below_drewN | apply below_drew1) | exact HB.out))) : w.heap.size ≤ gb105)); have n3_ := Aside0.mk ((by rw [hg]; exact (below_size (by repeat (first | (with_reducible first | exact HB.out | apply below_alloc | apply pw_below_drewN | apply below_drew1) | exact HB.out))) : w.heap.size ≤ gb105)); clear HB; have HB := n0_; have BK105 := n1_; have GW105 := n2_; have GE105 := n3_; clear n0_ n1_ n2_ n3_; clear hb hbox hg; have hcz8_0 : w7.cell? ⟨gb105, 0, none⟩ = some (.int .i64 0) := (blk_cell BK105.out 0).trans rfl; have hcz8_1 : w7.cell? ⟨gb105, 1, none⟩ = some (.int .u8 0) := (blk_cell BK105.out 1).trans rfl; have hcz8_2 : w7.cell? ⟨gb105, 2, none⟩ = some (.int .u8 0) := (blk_cell BK105.out 2).trans rfl; have hfz8_0 := blk_frozen BK105.out 0; have hfz8_1 := blk_frozen BK105.out 1; have hfz8_2 := blk_frozen BK105.out 2)); go_upto_region 2 with (first | (go_at_call 50; (with_reducible refine (text_classOf.calls k (bt a0 0) t102 t103 t104 _ A4.out).mono ?_); rintro e w6 ⟨rfl, hb⟩; have n0_ := Aside0.mk (below_step (by repeat (first | (with_reducible first | exact HB.out | apply below_alloc | apply pw_below_drewN | apply below_drew1) | exact HB.out)) hb); clear HB; have HB := n0_; clear n0_; (try clear hb); (try clear hb2); (try clear hk); (try clear hi)) | ((with_reducible refine gate_dst (N := 4) rfl ?_); (try (refine gate_guard (by rfl) ?_; dsimp only)); refine box_event ?hg (N := 4) ?hd (cs := #[.int .i64 0, .int .u8 0, .int .u8 0]) (t := 66) ?hr ?_; (case hd => rfl); (case hg => rfl); (case hr => first | (go_simp; done) | (go_simp; rfl)); intro gb105 hg w7 hbox hb; have n0_ := Aside0.mk (below_step (by repeat (first | (with_reducible first | exact HB.out | apply below_alloc | apply pw_below_drewN | apply below_drew1) | exact HB.out)) hb); have n1_ := Aside0.mk (hbox); have n2_ := Aside0.mk ((by rw [hg]; exact (below_size (by repeat (first | (with_reducible first | exact HB.out | apply below_alloc | apply pw_below_drewN | apply below_drew1) | exact HB.out))) : w.heap.size ≤ gb105)); have n3_ := Aside0.mk ((by rw [hg]; exact (below_size (by repeat (first | (with_reducible first | exact HB.out | apply below_alloc | apply pw_below_drewN | apply below_drew1) | exact HB.out))) : w.heap.size ≤ gb105)); clear HB; have HB := n0_; have BK105 := n1_; have GW105 := n2_; have GE105 := n3_; clear n0_ n1_ n2_ n3_; clear hb hbox hg; have hcz8_0 : w7.cell? ⟨gb105, 0, none⟩ = some (.int .i64 0) := (blk_cell BK105.out 0).trans rfl; have hcz8_1 : w7.cell? ⟨gb105, 1, none⟩ = some (.int .u8 0) := (blk_cell BK105.out 1).trans rfl; have hcz8_2 : w7.cell? ⟨gb105, 2, none⟩ = some (.int .u8 0) := (blk_cell BK105.out 2).trans rfl; have hfz8_0 := blk_frozen BK105.out 0; have hfz8_1 := blk_frozen BK105.out 1; have hfz8_2 := blk_frozen BK105.out 2)))
    (try simp only [Act.put, List.setIfInBounds_toArray, List.set_cons_zero, List.set_cons_succ])
    go_cut [19] (fun v19 wc => ∃ (kq : Nat) (x19_4 : Bool), v19 = .bool x19_4 ∧ Aside0 (text_sequence.j0 kq a0 x19_4 t102 t103 t104 = some (r1, r2)) ∧ Aside0 (kq ≤ k) ∧ Aside0 (wc.heap[gb105]? = some (.cells #[.int .i64 t102, .int .u8 t103, .int .u8 t104] 66 (0, 0))) ∧ Aside0 (Below w.heap.size w wc))
    case first =>
      have H := HC5.out
      clear HC5
      by_cases c9 : t102 = 0
      · rw [if_pos c9] at H
        have c9b0 : (t102 == 0) = true := beq_iff_eq.mpr c9
        have c9b1 : (t102 != 0) = false := bne_eq_false_iff_eq.mpr c9
        clear c9
        (first | rw [c9b0] | (simp only [i64_w, i32_w]; rw [c9b0]) | skip)
        have H' := Aside0.mk H
        clear H
        have hcz10_0 : w7.cell? ⟨gb105, 0, none⟩ = some (.int .i64 0) := (blk_cell BK105.out 0).trans rfl
        have hcz10_1 : w7.cell? ⟨gb105, 1, none⟩ = some (.int .u8 0) := (blk_cell BK105.out 1).trans rfl
        have hcz10_2 : w7.cell? ⟨gb105, 2, none⟩ = some (.int .u8 0) := (blk_cell BK105.out 2).trans rfl
        have hfz10_0 := blk_frozen BK105.out 0
        have hfz10_1 := blk_frozen BK105.out 1
        have hfz10_2 := blk_frozen BK105.out 2
        go_wp2
        repeat (go_quiet (fail); try go_wp2)
        go_meet
        case rel => exact ⟨_, (true), (by first | rfl | (simp; done) | (simp [*]; done)), H', ⟨by first | omega | exact Nat.le_refl _⟩, ⟨by (with_reducible repeat (first | refine blk_drewN ?_ _ | refine blk_drew ?_ | refine blk_alloc ?_ _)); refine blk_put (cs := #[.int .i64 t102, .int .u8 t103, .int .u8 0]) ?_ 2 _ rfl; (with_reducible repeat (first | refine blk_drewN ?_ _ | refine blk_drew ?_ | refine blk_alloc ?_ _)); refine blk_put (cs := #[.int .i64 t102, .int .u8 0, .int .u8 0]) ?_ 1 _ rfl; (with_reducible repeat (first | refine blk_drewN ?_ _ | refine blk_drew ?_ | refine blk_alloc ?_ _)); refine blk_put (cs := #[.int .i64 0, .int .u8 0, .int .u8 0]) ?_ 0 _ rfl; (with_reducible repeat (first | refine blk_drewN ?_ _ | refine blk_drew ?_ | refine blk_alloc ?_ _)); exact BK105.out⟩, ⟨by repeat (first | (with_reducible first | exact HB.out | apply below_alloc | apply pw_below_drewN | apply below_drew1 | refine below_set ?_ GE105.out) | exact HB.out)⟩⟩
      · rw [if_neg c9] at H
        have c9b0 : (t102 == 0) = false := beq_eq_false_iff_ne.mpr c9
        have c9b1 : (t102 != 0) = true := bne_iff_ne.mpr c9
        (first | rw [c9b0] | (simp only [i64_w, i32_w]; rw [c9b0]) | skip)
        have H' := Aside0.mk H
        clear H
        have hcz11_0 : w7.cell? ⟨gb105, 0, none⟩ = some (.int .i64 0) := (blk_cell BK105.out 0).trans rfl
        have hcz11_1 : w7.cell? ⟨gb105, 1, none⟩ = some (.int .u8 0) := (blk_cell BK105.out 1).trans rfl
        have hcz11_2 : w7.cell? ⟨gb105, 2, none⟩ = some (.int .u8 0) := (blk_cell BK105.out 2).trans rfl
        have hfz11_0 := blk_frozen BK105.out 0
        have hfz11_1 := blk_frozen BK105.out 1
        have hfz11_2 := blk_frozen BK105.out 2
        go_wp2
        repeat (go_quiet (fail); try go_wp2)
        go_meet
        case rel => exact ⟨_, (decide (t102 > (a0.size : Int))), (by first | rfl | (simp; done) | (simp [*]; done)), H', ⟨by first | omega | exact Nat.le_refl _⟩, ⟨by (with_reducible repeat (first | refine blk_drewN ?_ _ | refine blk_drew ?_ | refine blk_alloc ?_ _)); refine blk_put (cs := #[.int .i64 t102, .int .u8 t103, .int .u8 0]) ?_ 2 _ rfl; (with_reducible repeat (first | refine blk_drewN ?_ _ | refine blk_drew ?_ | refine blk_alloc ?_ _)); refine blk_put (cs := #[.int .i64 t102, .int .u8 0, .int .u8 0]) ?_ 1 _ rfl; (with_reducible repeat (first | refine blk_drewN ?_ _ | refine blk_drew ?_ | refine blk_alloc ?_ _)); refine blk_put (cs := #[.int .i64 0, .int .u8 0, .int .u8 0]) ?_ 0 _ rfl; (with_reducible repeat (first | refine blk_drewN ?_ _ | refine blk_drew ?_ | refine blk_alloc ?_ _)); exact BK105.out⟩, ⟨by repeat (first | (with_reducible first | exact HB.out | apply below_alloc | apply pw_below_drewN | apply below_drew1 | refine below_set ?_ GE105.out) | exact HB.out)⟩⟩
    case rest =>
      clear HC5
      try clear c2
      try clear c2b0
      try clear c2b1
      try clear p2
      try clear p3
      try clear q3
      try clear hx3
      try clear qi3
      try clear c9
      try clear c9b0
      try clear c9b1
      try clear hcz10_0
      try clear hcz10_1
      try clear hcz10_2
      try clear hcz11_0
      try clear hcz11_1
      try clear hcz11_2
      try clear hcz8_0
      try clear hcz8_1
      try clear hcz8_2
      try clear hfz10_0
      try clear hfz10_1
      try clear hfz10_2
      try clear hfz11_0
      try clear hfz11_1
      try clear hfz11_2
      try clear hfz8_0
      try clear hfz8_1
      try clear hfz8_2
      try clear p3
      try clear q3
      obtain ⟨kq, x19_4, rfl, HA, HJ4, BK105, HB⟩ := hcut
      cases kq with
      | zero => exact absurd HA.out (by simp [text_sequence.j0])
      | succ kj4 =>
        have H := HA.out
        clear HA
        simp only [text_sequence.j0] at H
        by_cases c12 : x19_4 = true
        · subst c12
          have H1 : (some (0, 0)) = some (r1, r2) := by rw [if_pos rfl] at H; exact H
          clear H
          have H := H1
          clear H1
          simp only [Option.some.injEq, Prod.mk.injEq] at H
          obtain ⟨rfl, rfl⟩ := H
          go_wp2
          repeat (go_quiet (fail); try go_wp2)
          go_ret2
          exact ⟨by first | rfl | (simp [errW_none, errW_some] <;> rfl) | (simp [*, errW_none, errW_some] <;> rfl), by repeat (first | (with_reducible first | exact HB.out | apply below_alloc | apply pw_below_drewN | apply below_drew1 | refine below_set ?_ GE105.out) | exact HB.out)⟩
        · replace c12 := Bool.eq_false_iff.mpr c12
          subst c12
          have H1 : (if 0 < (a0.size : Int) then (if t102 > 1 then (if 0 ≤ t102 then (text_sequence.j1 kj4 a0 (Go.bits .and .i64 (wrap64 (bt a0 0)) (shr .i64 127 t102)) t102 t103 t104) else (none)) else (text_sequence.j1 kj4 a0 (wrap64 (bt a0 0)) t102 t103 t104)) else (none)) = some (r1, r2) := by rw [if_neg (show ¬ (false = true) by decide)] at H; exact H
          clear H
          have H := H1
          clear H1
          by_cases c13 : 0 < (a0.size : Int)
          · rw [if_pos c13] at H
            have c13b0 : decide (0 < (a0.size : Int)) = true := decide_eq_true c13
            have c13b1 : decide (0 < a0.size) = true := decide_eq_true (by omega)
            clear c13
            have HC15 := Aside0.mk H
            clear H
            have p14 : 0 ≤ (0 : Int) := (by omega)
            have q14 : 0 < a0.size := (by have : (0 : Int) < (a0.size : Int) := of_decide_eq_true (by first | (with_reducible assumption) | assumption); omega)
            have hx14 : ∀ h : 0 < a0.size, ((a0[0]'h).toNat : Int) = bt a0 0 := bt_at a0 0
            clear p14
            have qi14 : (0 < (a0.size : Int)) = True := eq_true (of_decide_eq_true (by first | (with_reducible assumption) | assumption))
            replace q14 := eq_true q14
            have hcz16_0 : wc.cell? ⟨gb105, 0, none⟩ = some (.int .i64 t102) := (blk_cell BK105.out 0).trans rfl
            have hcz16_1 : wc.cell? ⟨gb105, 1, none⟩ = some (.int .u8 t103) := (blk_cell BK105.out 1).trans rfl
            have hcz16_2 : wc.cell? ⟨gb105, 2, none⟩ = some (.int .u8 t104) := (blk_cell BK105.out 2).trans rfl
            have hfz16_0 := blk_frozen BK105.out 0
            have hfz16_1 := blk_frozen BK105.out 1
            have hfz16_2 := blk_frozen BK105.out 2
            go_upto_if 25 with (fail)
            repeat (go_quiet (fail); go_upto_if 25 with (fail))
            go_cut [5] (fun v5 wc => ∃ (kq : Nat) (x5_14 : Int), v5 = .int .i64 x5_14 ∧ Aside0 (text_sequence.j1 kq a0 x5_14 t102 t103 t104 = some (r1, r2)) ∧ Aside0 (kq ≤ kj4) ∧ Aside0 (wc.heap[gb105]? = some (.cells #[.int .i64 t102, .int .u8 t103, .int .u8 t104] 66 (0, 0))) ∧ Aside0 (Below w.heap.size w wc))
            case first =>
              have H := HC15.out
              clear HC15
              by_cases c17 : t102 > 1
              · rw [if_pos c17] at H
                have c17b0 : decide (1 < t102) = true := decide_eq_true c17
                clear c17
                (first | rw [c17b0] | (simp only [i64_w, i32_w]; rw [c17b0]) | skip)
                by_cases c19 : 0 ≤ t102
                · rw [if_pos c19] at H
                  have c19b0 := eq_true c19
                  have c19b1 : decide (0 ≤ t102) = true := decide_eq_true c19
                  clear c19
                  obtain ⟨ji20, hji20⟩ : ∃ j_ : Int, (shr .i64 127 t102) = j_ := ⟨_, rfl⟩
                  replace H : (text_sequence.j1 kj4 a0 (Go.bits .and .i64 (wrap64 (bt a0 0)) (ji20)) t102 t103 t104) = some (r1, r2) := by first | (rw [hji20] at H; exact H) | (simp only [hji20] at H ⊢; exact H)
                  have hji20_ : (127 / 2 ^ min t102.toNat 64) = ji20 := hji20
                  have hji20z : t102 ≤ 64 → (127 / 2 ^ t102.toNat) = ji20 := shr_small hji20
                  have H' := Aside0.mk H
                  clear H
                  have p18 : 0 ≤ (0 : Int) := (by omega)
                  have q18 : 0 < a0.size := (by have : (0 : Int) < (a0.size : Int) := of_decide_eq_true (by first | (with_reducible assumption) | assumption); omega)
                  have hx18 : ∀ h : 0 < a0.size, ((a0[0]'h).toNat : Int) = bt a0 0 := bt_at a0 0
                  clear p18
                  have qi18 : (0 < (a0.size : Int)) = True := eq_true (of_decide_eq_true (by first | (with_reducible assumption) | assumption))
                  replace q18 := eq_true q18
                  have hcz21_0 : wc.cell? ⟨gb105, 0, none⟩ = some (.int .i64 t102) := (blk_cell BK105.out 0).trans rfl
                  have hcz21_1 : wc.cell? ⟨gb105, 1, none⟩ = some (.int .u8 t103) := (blk_cell BK105.out 1).trans rfl
                  have hcz21_2 : wc.cell? ⟨gb105, 2, none⟩ = some (.int .u8 t104) := (blk_cell BK105.out 2).trans rfl
                  have hfz21_0 := blk_frozen BK105.out 0
                  have hfz21_1 := blk_frozen BK105.out 1
                  have hfz21_2 := blk_frozen BK105.out 2
                  go_wp2
                  repeat (go_quiet (fail); try go_wp2)
                  go_meet
                  case rel => exact ⟨_, (Go.bits .and .i64 (wrap64 (bt a0 0)) (ji20)), (by first | rfl | (simp; done) | (simp only [← hji20] <;> (first | rfl | simp)) | (simp [*]; done)), H', ⟨by have := HJ4.out; first | omega | exact Nat.le_refl _⟩, ⟨by (with_reducible repeat (first | refine blk_drewN ?_ _ | refine blk_drew ?_ | refine blk_alloc ?_ _)); exact BK105.out⟩, ⟨by repeat (first | (with_reducible first | exact HB.out | apply below_alloc | apply pw_below_drewN | apply below_drew1 | refine below_set ?_ GE105.out) | exact HB.out)⟩⟩
                · rw [if_neg c19] at H
                  exact absurd H (by simp)
              · rw [if_neg c17] at H
                have c17b0 : decide (1 < t102) = false := decide_eq_false c17
                clear c17
                (first | rw [c17b0] | (simp only [i64_w, i32_w]; rw [c17b0]) | skip)
                have H' := Aside0.mk H
                clear H
                go_wp2
                repeat (go_quiet (fail); try go_wp2)
                go_meet
                case rel => exact ⟨_, (wrap64 (bt a0 0)), (by first | rfl | (simp; done) | (simp [*]; done)), H', ⟨by have := HJ4.out; first | omega | exact Nat.le_refl _⟩, ⟨by (with_reducible repeat (first | refine blk_drewN ?_ _ | refine blk_drew ?_ | refine blk_alloc ?_ _)); exact BK105.out⟩, ⟨by repeat (first | (with_reducible first | exact HB.out | apply below_alloc | apply pw_below_drewN | apply below_drew1 | refine below_set ?_ GE105.out) | exact HB.out)⟩⟩
            case rest =>
              clear HC15
              try clear c1
              try clear p1
              try clear q1
              try clear hx1
              try clear qi1
              try clear c2
              try clear c2b0
              try clear c2b1
              try clear p2
              try clear p3
              try clear q3
              try clear hx3
              try clear qi3
              try clear p6
              try clear c9
              try clear c9b0
              try clear c9b1
              try clear c12
              try clear c13
              try clear c13b0
              try clear c13b1
              try clear p14
              try clear q14
              try clear hx14
              try clear qi14
              try clear c17
              try clear c17b0
              try clear p18
              try clear q18
              try clear hx18
              try clear qi18
              try clear c19
              try clear c19b0
              try clear c19b1
              try clear hcz10_0
              try clear hcz10_1
              try clear hcz10_2
              try clear hcz11_0
              try clear hcz11_1
              try clear hcz11_2
              try clear hcz16_0
              try clear hcz16_1
              try clear hcz16_2
              try clear hcz21_0
              try clear hcz21_1
              try clear hcz21_2
              try clear hcz8_0
              try clear hcz8_1
              try clear hcz8_2
              try clear hfz10_0
              try clear hfz10_1
              try clear hfz10_2
              try clear hfz11_0
              try clear hfz11_1
              try clear hfz11_2
              try clear hfz16_0
              try clear hfz16_1
              try clear hfz16_2
              try clear hfz21_0
              try clear hfz21_1
              try clear hfz21_2
              try clear hfz8_0
              try clear hfz8_1
              try clear hfz8_2
              try clear p14
              try clear p18
              try clear p2
              try clear p3
              try clear q14
              try clear q18
              try clear q3
              obtain ⟨kq, x5_14, rfl, HA, HJ14, BK105, HB⟩ := hcut
              cases kq with
              | zero => exact absurd HA.out (by simp [text_sequence.j1])
              | succ kj14 =>
                have H := HA.out
                clear HA
                simp only [text_sequence.j1] at H
                have H' := Aside0.mk H
                clear H
                go_wp2
                repeat (go_quiet (fail); try go_wp2)
                go_loopg [5, 6] kj14 (fun kq v5 v6 w' => ∃ (x5_3 : Int) (x6_3 : Int), v5 = .int .i64 x5_3 ∧ v6 = .int .i64 x6_3 ∧ Aside0 (text_sequence.l0 kq a0 x5_3 x6_3 t102 t103 t104 = some (r1, r2)) ∧ Aside0 (kq ≤ kj14) ∧ Aside0 (w'.heap[gb105]? = some (.cells #[.int .i64 t102, .int .u8 t103, .int .u8 t104] 66 (0, 0))) ∧ Aside0 (Below w.heap.size w w'))
                case atStart => exact ⟨(x5_14), (1), (by first | rfl | (simp; done) | (simp [*]; done)), (by first | rfl | (simp; done) | (simp [*]; done)), H', ⟨Nat.le_refl _⟩, ⟨by (with_reducible repeat (first | refine blk_drewN ?_ _ | refine blk_drew ?_ | refine blk_alloc ?_ _)); exact BK105.out⟩, ⟨by repeat (first | (with_reducible first | exact HB.out | apply below_alloc | apply pw_below_drewN | apply below_drew1 | refine below_set ?_ GE105.out) | exact HB.out)⟩⟩
                case round =>
                  clear H'
                  try clear c1
                  try clear p1
                  try clear q1
                  try clear hx1
                  try clear qi1
                  try clear c2
                  try clear c2b0
                  try clear c2b1
                  try clear p2
                  try clear p3
                  try clear q3
                  try clear hx3
                  try clear qi3
                  try clear p6
                  try clear c9
                  try clear c9b0
                  try clear c9b1
                  try clear c12
                  try clear c13
                  try clear c13b0
                  try clear c13b1
                  try clear p14
                  try clear q14
                  try clear hx14
                  try clear qi14
                  try clear c17
                  try clear c17b0
                  try clear p18
                  try clear q18
                  try clear hx18
                  try clear qi18
                  try clear c19
                  try clear c19b0
                  try clear c19b1
                  try clear hcz10_0
                  try clear hcz10_1
                  try clear hcz10_2
                  try clear hcz11_0
                  try clear hcz11_1
                  try clear hcz11_2
                  try clear hcz16_0
                  try clear hcz16_1
                  try clear hcz16_2
                  try clear hcz21_0
                  try clear hcz21_1
                  try clear hcz21_2
                  try clear hcz8_0
                  try clear hcz8_1
                  try clear hcz8_2
                  try clear hfz10_0
                  try clear hfz10_1
                  try clear hfz10_2
                  try clear hfz11_0
                  try clear hfz11_1
                  try clear hfz11_2
                  try clear hfz16_0
                  try clear hfz16_1
                  try clear hfz16_2
                  try clear hfz21_0
                  try clear hfz21_1
                  try clear hfz21_2
                  try clear hfz8_0
                  try clear hfz8_1
                  try clear hfz8_2
                  try clear p1
                  try clear p14
                  try clear p18
                  try clear p2
                  try clear p3
                  try clear p6
                  try clear q1
                  try clear q14
                  try clear q18
                  try clear q3
                  obtain ⟨x5_3, x6_3, rfl, rfl, HA, HK3, BK105, HB⟩ := hrel
                  cases gk with
                  | zero => exact absurd HA.out (by simp [text_sequence.l0])
                  | succ k3 =>
                    have H := HA.out
                    clear HA
                    simp only [text_sequence.l0] at H
                    by_cases c22 : x6_3 < t102
                    · rw [if_pos c22] at H
                      have c22b0 : decide (x6_3 < t102) = true := decide_eq_true c22
                      clear c22
                      by_cases c23 : 0 ≤ x6_3
                      · rw [if_pos c23] at H
                        have c23b0 : decide (0 ≤ x6_3) = true := decide_eq_true c23
                        clear c23
                        by_cases c24 : x6_3 < (a0.size : Int)
                        · rw [if_pos c24] at H
                          have c24b0 : decide (x6_3 < (a0.size : Int)) = true := decide_eq_true c24
                          clear c24
                          have H' := Aside0.mk H
                          clear H
                          have hcz26_0 : wr.cell? ⟨gb105, 0, none⟩ = some (.int .i64 t102) := (blk_cell BK105.out 0).trans rfl
                          have hcz26_1 : wr.cell? ⟨gb105, 1, none⟩ = some (.int .u8 t103) := (blk_cell BK105.out 1).trans rfl
                          have hcz26_2 : wr.cell? ⟨gb105, 2, none⟩ = some (.int .u8 t104) := (blk_cell BK105.out 2).trans rfl
                          have hfz26_0 := blk_frozen BK105.out 0
                          have hfz26_1 := blk_frozen BK105.out 1
                          have hfz26_2 := blk_frozen BK105.out 2
                          have p25 : 0 ≤ (x6_3 : Int) := of_decide_eq_true (by first | (with_reducible assumption) | assumption)
                          have q25 : x6_3 < (a0.size : Int) := of_decide_eq_true (by first | (with_reducible assumption) | assumption)
                          have hx25 := bt_at a0 x6_3
                          replace p25 := eq_true p25
                          replace q25 := eq_true q25
                          go_wp2
                          repeat (go_quiet (fail); try go_wp2)
                          go_roundg k3
                          case measure => have := HJ4.out; have := HJ14.out; have := HK3.out; omega
                          case rel => exact ⟨(Go.bits .or .i64 (wrap64 (x5_3 * 64)) (wrap64 (Go.bits .and .u8 (bt a0 x6_3) 63))), (wrap64 (x6_3 + 1)), (by first | rfl | (simp; done) | (simp [*]; done)), (by first | rfl | (simp; done) | (simp [*]; done)), H', ⟨by have := HJ4.out; have := HJ14.out; have := HK3.out; omega⟩, ⟨by (with_reducible repeat (first | refine blk_drewN ?_ _ | refine blk_drew ?_ | refine blk_alloc ?_ _)); exact BK105.out⟩, ⟨by repeat (first | (with_reducible first | exact HB.out | apply below_alloc | apply pw_below_drewN | apply below_drew1 | refine below_set ?_ GE105.out) | exact HB.out)⟩⟩
                        · rw [if_neg c24] at H
                          exact absurd H (by simp)
                      · rw [if_neg c23] at H
                        exact absurd H (by simp)
                    · rw [if_neg c22] at H
                      have c22b0 : decide (x6_3 < t102) = false := decide_eq_false c22
                      clear c22
                      have HC27 := Aside0.mk H
                      clear H
                      have hcz28_0 : wr.cell? ⟨gb105, 0, none⟩ = some (.int .i64 t102) := (blk_cell BK105.out 0).trans rfl
                      have hcz28_1 : wr.cell? ⟨gb105, 1, none⟩ = some (.int .u8 t103) := (blk_cell BK105.out 1).trans rfl
                      have hcz28_2 : wr.cell? ⟨gb105, 2, none⟩ = some (.int .u8 t104) := (blk_cell BK105.out 2).trans rfl
                      have hfz28_0 := blk_frozen BK105.out 0
                      have hfz28_1 := blk_frozen BK105.out 1
                      have hfz28_2 := blk_frozen BK105.out 2
                      go_upto_block 4 with (fail)
                      repeat (go_quiet (fail); go_upto_block 4 with (fail))
                      go_cut [] (fun wc => ∃ (kq : Nat), Aside0 (text_sequence.j3 kq a0 x5_3 t102 t103 t104 = some (r1, r2)) ∧ Aside0 (kq ≤ k3) ∧ Aside0 (wc.heap[gb105]? = some (.cells #[.int .i64 t102, .int .u8 t103, .int .u8 t104] 66 (0, 0))) ∧ Aside0 (Below w.heap.size w wc))
                      case first =>
                        have H := HC27.out
                        clear HC27
                        by_cases c29 : t102 = 4
                        · rw [if_pos c29] at H
                          have c29b0 : (t102 == 4) = true := beq_iff_eq.mpr c29
                          have c29b1 : (t102 != 4) = false := bne_eq_false_iff_eq.mpr c29
                          clear c29
                          (first | rw [c29b0] | (simp only [i64_w, i32_w]; rw [c29b0]) | skip)
                          by_cases c30 : 3 < (a0.size : Int)
                          · rw [if_pos c30] at H
                            have c30b0 : decide (3 < (a0.size : Int)) = true := decide_eq_true c30
                            have c30b1 : decide (3 < a0.size) = true := decide_eq_true (by omega)
                            clear c30
                            replace H := Option.bind_eq_some_iff.mp H
                            obtain ⟨t106, A320, H⟩ := H
                            replace H : (if t106 = true then (text_sequence.j3 k3 a0 x5_3 t102 t103 t104) else (some (0, 0))) = some (r1, r2) := H
                            have A32 := Aside0.mk A320
                            clear A320
                            by_cases c33 : t106 = true
                            · subst c33
                              have H1 : (text_sequence.j3 k3 a0 x5_3 t102 t103 t104) = some (r1, r2) := by rw [if_pos rfl] at H; exact H
                              clear H
                              have H := H1
                              clear H1
                              have H' := Aside0.mk H
                              clear H
                              have p31 : 0 ≤ (3 : Int) := (by omega)
                              have q31 : 3 < a0.size := (by have : (3 : Int) < (a0.size : Int) := of_decide_eq_true (by first | (with_reducible assumption) | assumption); omega)
                              have hx31 : ∀ h : 3 < a0.size, ((a0[3]'h).toNat : Int) = bt a0 3 := bt_at a0 3
                              clear p31
                              have qi31 : (3 < (a0.size : Int)) = True := eq_true (of_decide_eq_true (by first | (with_reducible assumption) | assumption))
                              replace q31 := eq_true q31
                              go_wp2_with (first | (go_at_call 51; (with_reducible refine (text_tail.calls (bt a0 3) true _ A32.out).mono ?_); rintro e w' ⟨rfl, ⟨nd, rfl⟩⟩; (try first | exact ⟨rfl, _, World.drewN_drewN _ _ _⟩ | exact ⟨rfl, _, Eq.trans (World.drewN_drewN _ _ _) (congrArg (World.drewN _) (Nat.add_assoc _ _ _))⟩)))
                              repeat (go_quiet (first | (go_at_call 51; (with_reducible refine (text_tail.calls (bt a0 3) true _ A32.out).mono ?_); rintro e w' ⟨rfl, ⟨nd, rfl⟩⟩; (try first | exact ⟨rfl, _, World.drewN_drewN _ _ _⟩ | exact ⟨rfl, _, Eq.trans (World.drewN_drewN _ _ _) (congrArg (World.drewN _) (Nat.add_assoc _ _ _))⟩))); try go_wp2_with (first | (go_at_call 51; (with_reducible refine (text_tail.calls (bt a0 3) true _ A32.out).mono ?_); rintro e w' ⟨rfl, ⟨nd, rfl⟩⟩; (try first | exact ⟨rfl, _, World.drewN_drewN _ _ _⟩ | exact ⟨rfl, _, Eq.trans (World.drewN_drewN _ _ _) (congrArg (World.drewN _) (Nat.add_assoc _ _ _))⟩))))
                              go_meet
                              case rel => exact ⟨_, H', ⟨by have := HJ4.out; have := HJ14.out; have := HK3.out; first | omega | exact Nat.le_refl _⟩, ⟨by (with_reducible repeat (first | refine blk_drewN ?_ _ | refine blk_drew ?_ | refine blk_alloc ?_ _)); exact BK105.out⟩, ⟨by repeat (first | (with_reducible first | exact HB.out | apply below_alloc | apply pw_below_drewN | apply below_drew1 | refine below_set ?_ GE105.out) | exact HB.out)⟩⟩
                            · replace c33 := Bool.eq_false_iff.mpr c33
                              subst c33
                              have H1 : (some (0, 0)) = some (r1, r2) := by rw [if_neg (show ¬ (false = true) by decide)] at H; exact H
                              clear H
                              have H := H1
                              clear H1
                              simp only [Option.some.injEq, Prod.mk.injEq] at H
                              obtain ⟨rfl, rfl⟩ := H
                              have p31 : 0 ≤ (3 : Int) := (by omega)
                              have q31 : 3 < a0.size := (by have : (3 : Int) < (a0.size : Int) := of_decide_eq_true (by first | (with_reducible assumption) | assumption); omega)
                              have hx31 : ∀ h : 3 < a0.size, ((a0[3]'h).toNat : Int) = bt a0 3 := bt_at a0 3
                              clear p31
                              have qi31 : (3 < (a0.size : Int)) = True := eq_true (of_decide_eq_true (by first | (with_reducible assumption) | assumption))
                              replace q31 := eq_true q31
                              go_wp2_with (first | (go_at_call 51; (with_reducible refine (text_tail.calls (bt a0 3) false _ A32.out).mono ?_); rintro e w' ⟨rfl, ⟨nd, rfl⟩⟩; (try first | exact ⟨rfl, _, World.drewN_drewN _ _ _⟩ | exact ⟨rfl, _, Eq.trans (World.drewN_drewN _ _ _) (congrArg (World.drewN _) (Nat.add_assoc _ _ _))⟩)))
                              repeat (go_quiet (first | (go_at_call 51; (with_reducible refine (text_tail.calls (bt a0 3) false _ A32.out).mono ?_); rintro e w' ⟨rfl, ⟨nd, rfl⟩⟩; (try first | exact ⟨rfl, _, World.drewN_drewN _ _ _⟩ | exact ⟨rfl, _, Eq.trans (World.drewN_drewN _ _ _) (congrArg (World.drewN _) (Nat.add_assoc _ _ _))⟩))); try go_wp2_with (first | (go_at_call 51; (with_reducible refine (text_tail.calls (bt a0 3) false _ A32.out).mono ?_); rintro e w' ⟨rfl, ⟨nd, rfl⟩⟩; (try first | exact ⟨rfl, _, World.drewN_drewN _ _ _⟩ | exact ⟨rfl, _, Eq.trans (World.drewN_drewN _ _ _) (congrArg (World.drewN _) (Nat.add_assoc _ _ _))⟩))))
                              go_ret2
                              exact ⟨by first | rfl | (simp [errW_none, errW_some] <;> rfl) | (simp [*, errW_none, errW_some] <;> rfl), by repeat (first | (with_reducible first | exact HB.out | apply below_alloc | apply pw_below_drewN | apply below_drew1 | refine below_set ?_ GE105.out) | exact HB.out)⟩
                          · rw [if_neg c30] at H
                            exact absurd H (by simp)
                        · rw [if_neg c29] at H
                          have c29b0 : (t102 == 4) = false := beq_eq_false_iff_ne.mpr c29
                          have c29b1 : (t102 != 4) = true := bne_iff_ne.mpr c29
                          (first | rw [c29b0] | (simp only [i64_w, i32_w]; rw [c29b0]) | skip)
                          by_cases c34 : t102 = 3
                          · rw [if_pos c34] at H
                            have c34b0 : (t102 == 3) = true := beq_iff_eq.mpr c34
                            have c34b1 : (t102 != 3) = false := bne_eq_false_iff_eq.mpr c34
                            clear c34
                            have H' := Aside0.mk H
                            clear H
                            go_wp2
                            repeat (go_quiet (fail); try go_wp2)
                            go_meet
                            case rel => exact ⟨_, H', ⟨by have := HJ4.out; have := HJ14.out; have := HK3.out; first | omega | exact Nat.le_refl _⟩, ⟨by (with_reducible repeat (first | refine blk_drewN ?_ _ | refine blk_drew ?_ | refine blk_alloc ?_ _)); exact BK105.out⟩, ⟨by repeat (first | (with_reducible first | exact HB.out | apply below_alloc | apply pw_below_drewN | apply below_drew1 | refine below_set ?_ GE105.out) | exact HB.out)⟩⟩
                          · rw [if_neg c34] at H
                            have c34b0 : (t102 == 3) = false := beq_eq_false_iff_ne.mpr c34
                            have c34b1 : (t102 != 3) = true := bne_iff_ne.mpr c34
                            by_cases c35 : t102 = 2
                            · rw [if_pos c35] at H
                              have c35b0 : (t102 == 2) = true := beq_iff_eq.mpr c35
                              have c35b1 : (t102 != 2) = false := bne_eq_false_iff_eq.mpr c35
                              clear c35
                              by_cases c36 : 1 < (a0.size : Int)
                              · rw [if_pos c36] at H
                                have c36b0 : decide (1 < (a0.size : Int)) = true := decide_eq_true c36
                                have c36b1 : decide (1 < a0.size) = true := decide_eq_true (by omega)
                                clear c36
                                by_cases c38 : (bt a0 1) < t103
                                · rw [if_pos c38] at H
                                  have c38b0 : decide ((bt a0 1) < t103) = true := decide_eq_true c38
                                  clear c38
                                  simp only [Option.some.injEq, Prod.mk.injEq] at H
                                  obtain ⟨rfl, rfl⟩ := H
                                  have p37 : 0 ≤ (1 : Int) := (by omega)
                                  have q37 : 1 < a0.size := (by have : (1 : Int) < (a0.size : Int) := of_decide_eq_true (by first | (with_reducible assumption) | assumption); omega)
                                  have hx37 : ∀ h : 1 < a0.size, ((a0[1]'h).toNat : Int) = bt a0 1 := bt_at a0 1
                                  clear p37
                                  have qi37 : (1 < (a0.size : Int)) = True := eq_true (of_decide_eq_true (by first | (with_reducible assumption) | assumption))
                                  replace q37 := eq_true q37
                                  have hcz39_0 : wr.cell? ⟨gb105, 0, none⟩ = some (.int .i64 t102) := (blk_cell BK105.out 0).trans rfl
                                  have hcz39_1 : wr.cell? ⟨gb105, 1, none⟩ = some (.int .u8 t103) := (blk_cell BK105.out 1).trans rfl
                                  have hcz39_2 : wr.cell? ⟨gb105, 2, none⟩ = some (.int .u8 t104) := (blk_cell BK105.out 2).trans rfl
                                  have hfz39_0 := blk_frozen BK105.out 0
                                  have hfz39_1 := blk_frozen BK105.out 1
                                  have hfz39_2 := blk_frozen BK105.out 2
                                  go_wp2
                                  repeat (go_quiet (fail); try go_wp2)
                                  go_ret2
                                  exact ⟨by first | rfl | (simp [errW_none, errW_some] <;> rfl) | (simp [*, errW_none, errW_some] <;> rfl), by repeat (first | (with_reducible first | exact HB.out | apply below_alloc | apply pw_below_drewN | apply below_drew1 | refine below_set ?_ GE105.out) | exact HB.out)⟩
                                · rw [if_neg c38] at H
                                  have c38b0 : decide ((bt a0 1) < t103) = false := decide_eq_false c38
                                  clear c38
                                  by_cases c41 : (bt a0 1) > t104
                                  · rw [if_pos c41] at H
                                    have c41b0 : decide (t104 < (bt a0 1)) = true := decide_eq_true c41
                                    clear c41
                                    simp only [Option.some.injEq, Prod.mk.injEq] at H
                                    obtain ⟨rfl, rfl⟩ := H
                                    have p37 : 0 ≤ (1 : Int) := (by omega)
                                    have q37 : 1 < a0.size := (by have : (1 : Int) < (a0.size : Int) := of_decide_eq_true (by first | (with_reducible assumption) | assumption); omega)
                                    have hx37 : ∀ h : 1 < a0.size, ((a0[1]'h).toNat : Int) = bt a0 1 := bt_at a0 1
                                    clear p37
                                    have qi37 : (1 < (a0.size : Int)) = True := eq_true (of_decide_eq_true (by first | (with_reducible assumption) | assumption))
                                    replace q37 := eq_true q37
                                    have hcz42_0 : wr.cell? ⟨gb105, 0, none⟩ = some (.int .i64 t102) := (blk_cell BK105.out 0).trans rfl
                                    have hcz42_1 : wr.cell? ⟨gb105, 1, none⟩ = some (.int .u8 t103) := (blk_cell BK105.out 1).trans rfl
                                    have hcz42_2 : wr.cell? ⟨gb105, 2, none⟩ = some (.int .u8 t104) := (blk_cell BK105.out 2).trans rfl
                                    have hfz42_0 := blk_frozen BK105.out 0
                                    have hfz42_1 := blk_frozen BK105.out 1
                                    have hfz42_2 := blk_frozen BK105.out 2
                                    have p40 : 0 ≤ (1 : Int) := (by omega)
                                    have q40 : 1 < a0.size := (by have : (1 : Int) < (a0.size : Int) := of_decide_eq_true (by first | (with_reducible assumption) | assumption); omega)
                                    have hx40 : ∀ h : 1 < a0.size, ((a0[1]'h).toNat : Int) = bt a0 1 := bt_at a0 1
                                    clear p40
                                    have qi40 : (1 < (a0.size : Int)) = True := eq_true (of_decide_eq_true (by first | (with_reducible assumption) | assumption))
                                    replace q40 := eq_true q40
                                    go_wp2
                                    repeat (go_quiet (fail); try go_wp2)
                                    go_ret2
                                    exact ⟨by first | rfl | (simp [errW_none, errW_some] <;> rfl) | (simp [*, errW_none, errW_some] <;> rfl), by repeat (first | (with_reducible first | exact HB.out | apply below_alloc | apply pw_below_drewN | apply below_drew1 | refine below_set ?_ GE105.out) | exact HB.out)⟩
                                  · rw [if_neg c41] at H
                                    have c41b0 : decide (t104 < (bt a0 1)) = false := decide_eq_false c41
                                    clear c41
                                    simp only [Option.some.injEq, Prod.mk.injEq] at H
                                    obtain ⟨rfl, rfl⟩ := H
                                    have p37 : 0 ≤ (1 : Int) := (by omega)
                                    have q37 : 1 < a0.size := (by have : (1 : Int) < (a0.size : Int) := of_decide_eq_true (by first | (with_reducible assumption) | assumption); omega)
                                    have hx37 : ∀ h : 1 < a0.size, ((a0[1]'h).toNat : Int) = bt a0 1 := bt_at a0 1
                                    clear p37
                                    have qi37 : (1 < (a0.size : Int)) = True := eq_true (of_decide_eq_true (by first | (with_reducible assumption) | assumption))
                                    replace q37 := eq_true q37
                                    have hcz43_0 : wr.cell? ⟨gb105, 0, none⟩ = some (.int .i64 t102) := (blk_cell BK105.out 0).trans rfl
                                    have hcz43_1 : wr.cell? ⟨gb105, 1, none⟩ = some (.int .u8 t103) := (blk_cell BK105.out 1).trans rfl
                                    have hcz43_2 : wr.cell? ⟨gb105, 2, none⟩ = some (.int .u8 t104) := (blk_cell BK105.out 2).trans rfl
                                    have hfz43_0 := blk_frozen BK105.out 0
                                    have hfz43_1 := blk_frozen BK105.out 1
                                    have hfz43_2 := blk_frozen BK105.out 2
                                    have p40 : 0 ≤ (1 : Int) := (by omega)
                                    have q40 : 1 < a0.size := (by have : (1 : Int) < (a0.size : Int) := of_decide_eq_true (by first | (with_reducible assumption) | assumption); omega)
                                    have hx40 : ∀ h : 1 < a0.size, ((a0[1]'h).toNat : Int) = bt a0 1 := bt_at a0 1
                                    clear p40
                                    have qi40 : (1 < (a0.size : Int)) = True := eq_true (of_decide_eq_true (by first | (with_reducible assumption) | assumption))
                                    replace q40 := eq_true q40
                                    go_wp2
                                    repeat (go_quiet (fail); try go_wp2)
                                    go_ret2
                                    exact ⟨by first | rfl | (simp [errW_none, errW_some] <;> rfl) | (simp [*, errW_none, errW_some] <;> rfl), by repeat (first | (with_reducible first | exact HB.out | apply below_alloc | apply pw_below_drewN | apply below_drew1 | refine below_set ?_ GE105.out) | exact HB.out)⟩
                              · rw [if_neg c36] at H
                                exact absurd H (by simp)
                            · rw [if_neg c35] at H
                              have c35b0 : (t102 == 2) = false := beq_eq_false_iff_ne.mpr c35
                              have c35b1 : (t102 != 2) = true := bne_iff_ne.mpr c35
                              simp only [Option.some.injEq, Prod.mk.injEq] at H
                              obtain ⟨rfl, rfl⟩ := H
                              have hcz44_0 : wr.cell? ⟨gb105, 0, none⟩ = some (.int .i64 t102) := (blk_cell BK105.out 0).trans rfl
                              have hcz44_1 : wr.cell? ⟨gb105, 1, none⟩ = some (.int .u8 t103) := (blk_cell BK105.out 1).trans rfl
                              have hcz44_2 : wr.cell? ⟨gb105, 2, none⟩ = some (.int .u8 t104) := (blk_cell BK105.out 2).trans rfl
                              have hfz44_0 := blk_frozen BK105.out 0
                              have hfz44_1 := blk_frozen BK105.out 1
                              have hfz44_2 := blk_frozen BK105.out 2
                              go_wp2
                              repeat (go_quiet (fail); try go_wp2)
                              go_ret2
                              exact ⟨by first | rfl | (simp [errW_none, errW_some] <;> rfl) | (simp [*, errW_none, errW_some] <;> rfl), by repeat (first | (with_reducible first | exact HB.out | apply below_alloc | apply pw_below_drewN | apply below_drew1 | refine below_set ?_ GE105.out) | exact HB.out)⟩
                      case rest =>
                        clear HC27
                        try clear c1
                        try clear p1
                        try clear q1
                        try clear hx1
                        try clear qi1
                        try clear c2
                        try clear c2b0
                        try clear c2b1
                        try clear p2
                        try clear q2
                        try clear hx2
                        try clear c3
                        try clear p3
                        try clear q3
                        try clear hx3
                        try clear qi3
                        try clear c4
                        try clear p4
                        try clear q4
                        try clear hx4
                        try clear qi4
                        try clear p6
                        try clear c9
                        try clear c9b0
                        try clear c9b1
                        try clear c12
                        try clear c13
                        try clear c13b0
                        try clear c13b1
                        try clear p14
                        try clear q14
                        try clear hx14
                        try clear qi14
                        try clear c17
                        try clear c17b0
                        try clear p18
                        try clear q18
                        try clear hx18
                        try clear qi18
                        try clear c19
                        try clear c19b0
                        try clear c19b1
                        try clear c22
                        try clear c22b0
                        try clear c23
                        try clear c23b0
                        try clear c24
                        try clear c24b0
                        try clear p25
                        try clear q25
                        try clear hx25
                        try clear c28
                        try clear c29
                        try clear c29b0
                        try clear c29b1
                        try clear c30
                        try clear c30b0
                        try clear c30b1
                        try clear p31
                        try clear q31
                        try clear hx31
                        try clear qi31
                        try clear c33
                        try clear c34
                        try clear c34b0
                        try clear c34b1
                        try clear c35
                        try clear c35b0
                        try clear c35b1
                        try clear c36
                        try clear c36b0
                        try clear c36b1
                        try clear p37
                        try clear q37
                        try clear hx37
                        try clear qi37
                        try clear c38
                        try clear c38b0
                        try clear p40
                        try clear q40
                        try clear hx40
                        try clear qi40
                        try clear c41
                        try clear c41b0
                        try clear hcz10_0
                        try clear hcz10_1
                        try clear hcz10_2
                        try clear hcz11_0
                        try clear hcz11_1
                        try clear hcz11_2
                        try clear hcz16_0
                        try clear hcz16_1
                        try clear hcz16_2
                        try clear hcz21_0
                        try clear hcz21_1
                        try clear hcz21_2
                        try clear hcz26_0
                        try clear hcz26_1
                        try clear hcz26_2
                        try clear hcz28_0
                        try clear hcz28_1
                        try clear hcz28_2
                        try clear hcz39_0
                        try clear hcz39_1
                        try clear hcz39_2
                        try clear hcz42_0
                        try clear hcz42_1
                        try clear hcz42_2
                        try clear hcz43_0
                        try clear hcz43_1
                        try clear hcz43_2
                        try clear hcz44_0
                        try clear hcz44_1
                        try clear hcz44_2
                        try clear hcz8_0
                        try clear hcz8_1
                        try clear hcz8_2
                        try clear hfz10_0
                        try clear hfz10_1
                        try clear hfz10_2
                        try clear hfz11_0
                        try clear hfz11_1
                        try clear hfz11_2
                        try clear hfz16_0
                        try clear hfz16_1
                        try clear hfz16_2
                        try clear hfz21_0
                        try clear hfz21_1
                        try clear hfz21_2
                        try clear hfz26_0
                        try clear hfz26_1
                        try clear hfz26_2
                        try clear hfz28_0
                        try clear hfz28_1
                        try clear hfz28_2
                        try clear hfz39_0
                        try clear hfz39_1
                        try clear hfz39_2
                        try clear hfz42_0
                        try clear hfz42_1
                        try clear hfz42_2
                        try clear hfz43_0
                        try clear hfz43_1
                        try clear hfz43_2
                        try clear hfz44_0
                        try clear hfz44_1
                        try clear hfz44_2
                        try clear hfz8_0
                        try clear hfz8_1
                        try clear hfz8_2
                        try clear p1
                        try clear p14
                        try clear p18
                        try clear p2
                        try clear p25
                        try clear p3
                        try clear p31
                        try clear p37
                        try clear p40
                        try clear p6
                        try clear q1
                        try clear q14
                        try clear q18
                        try clear q25
                        try clear q3
                        try clear q31
                        try clear q37
                        try clear q40
                        obtain ⟨kq, HA, HJ26, BK105, HB⟩ := hcut
                        cases kq with
                        | zero => exact absurd HA.out (by simp [text_sequence.j3])
                        | succ kj26 =>
                          have H := HA.out
                          clear HA
                          simp only [text_sequence.j3] at H
                          by_cases c45 : 2 < (a0.size : Int)
                          · rw [if_pos c45] at H
                            have c45b0 : decide (2 < (a0.size : Int)) = true := decide_eq_true c45
                            have c45b1 : decide (2 < a0.size) = true := decide_eq_true (by omega)
                            clear c45
                            replace H := Option.bind_eq_some_iff.mp H
                            obtain ⟨t107, A470, H⟩ := H
                            replace H : (if t107 = true then (if 1 < (a0.size : Int) then (if (bt a0 1) < t103 then (some (0, 0)) else (if (bt a0 1) > t104 then (some (0, 0)) else (some (t102, x5_3)))) else (none)) else (some (0, 0))) = some (r1, r2) := H
                            have A47 := Aside0.mk A470
                            clear A470
                            by_cases c48 : t107 = true
                            · subst c48
                              have H1 : (if 1 < (a0.size : Int) then (if (bt a0 1) < t103 then (some (0, 0)) else (if (bt a0 1) > t104 then (some (0, 0)) else (some (t102, x5_3)))) else (none)) = some (r1, r2) := by rw [if_pos rfl] at H; exact H
                              clear H
                              have H := H1
                              clear H1
                              by_cases c49 : 1 < (a0.size : Int)
                              · rw [if_pos c49] at H
                                have c49b0 : decide (1 < (a0.size : Int)) = true := decide_eq_true c49
                                have c49b1 : decide (1 < a0.size) = true := decide_eq_true (by omega)
                                clear c49
                                by_cases c51 : (bt a0 1) < t103
                                · rw [if_pos c51] at H
                                  have c51b0 : decide ((bt a0 1) < t103) = true := decide_eq_true c51
                                  clear c51
                                  simp only [Option.some.injEq, Prod.mk.injEq] at H
                                  obtain ⟨rfl, rfl⟩ := H
                                  have p46 : 0 ≤ (2 : Int) := (by omega)
                                  have q46 : 2 < a0.size := (by have : (2 : Int) < (a0.size : Int) := of_decide_eq_true (by first | (with_reducible assumption) | assumption); omega)
                                  have hx46 : ∀ h : 2 < a0.size, ((a0[2]'h).toNat : Int) = bt a0 2 := bt_at a0 2
                                  clear p46
                                  have qi46 : (2 < (a0.size : Int)) = True := eq_true (of_decide_eq_true (by first | (with_reducible assumption) | assumption))
                                  replace q46 := eq_true q46
                                  go_wp2_with (first | (go_at_call 51; (with_reducible refine (text_tail.calls (bt a0 2) true _ A47.out).mono ?_); rintro e w' ⟨rfl, ⟨nd, rfl⟩⟩; (try first | exact ⟨rfl, _, World.drewN_drewN _ _ _⟩ | exact ⟨rfl, _, Eq.trans (World.drewN_drewN _ _ _) (congrArg (World.drewN _) (Nat.add_assoc _ _ _))⟩); have p50 : 0 ≤ (1 : Int) := (by omega); have q50 : 1 < a0.size := (by have : (1 : Int) < (a0.size : Int) := of_decide_eq_true (by first | (with_reducible assumption) | assumption); omega); have hx50 : ∀ h : 1 < a0.size, ((a0[1]'h).toNat : Int) = bt a0 1 := bt_at a0 1; clear p50; have qi50 : (1 < (a0.size : Int)) = True := eq_true (of_decide_eq_true (by first | (with_reducible assumption) | assumption)); replace q50 := eq_true q50; have hcz52_0 : wc.cell? ⟨gb105, 0, none⟩ = some (.int .i64 t102) := (blk_cell BK105.out 0).trans rfl; have hcz52_1 : wc.cell? ⟨gb105, 1, none⟩ = some (.int .u8 t103) := (blk_cell BK105.out 1).trans rfl; have hcz52_2 : wc.cell? ⟨gb105, 2, none⟩ = some (.int .u8 t104) := (blk_cell BK105.out 2).trans rfl; have hfz52_0 := blk_frozen BK105.out 0; have hfz52_1 := blk_frozen BK105.out 1; have hfz52_2 := blk_frozen BK105.out 2))
                                  repeat (go_quiet (first | (go_at_call 51; (with_reducible refine (text_tail.calls (bt a0 2) true _ A47.out).mono ?_); rintro e w' ⟨rfl, ⟨nd, rfl⟩⟩; (try first | exact ⟨rfl, _, World.drewN_drewN _ _ _⟩ | exact ⟨rfl, _, Eq.trans (World.drewN_drewN _ _ _) (congrArg (World.drewN _) (Nat.add_assoc _ _ _))⟩); have p50 : 0 ≤ (1 : Int) := (by omega); have q50 : 1 < a0.size := (by have : (1 : Int) < (a0.size : Int) := of_decide_eq_true (by first | (with_reducible assumption) | assumption); omega); have hx50 : ∀ h : 1 < a0.size, ((a0[1]'h).toNat : Int) = bt a0 1 := bt_at a0 1; clear p50; have qi50 : (1 < (a0.size : Int)) = True := eq_true (of_decide_eq_true (by first | (with_reducible assumption) | assumption)); replace q50 := eq_true q50; have hcz52_0 : wc.cell? ⟨gb105, 0, none⟩ = some (.int .i64 t102) := (blk_cell BK105.out 0).trans rfl; have hcz52_1 : wc.cell? ⟨gb105, 1, none⟩ = some (.int .u8 t103) := (blk_cell BK105.out 1).trans rfl; have hcz52_2 : wc.cell? ⟨gb105, 2, none⟩ = some (.int .u8 t104) := (blk_cell BK105.out 2).trans rfl; have hfz52_0 := blk_frozen BK105.out 0; have hfz52_1 := blk_frozen BK105.out 1; have hfz52_2 := blk_frozen BK105.out 2)); try go_wp2_with (first | (go_at_call 51; (with_reducible refine (text_tail.calls (bt a0 2) true _ A47.out).mono ?_); rintro e w' ⟨rfl, ⟨nd, rfl⟩⟩; (try first | exact ⟨rfl, _, World.drewN_drewN _ _ _⟩ | exact ⟨rfl, _, Eq.trans (World.drewN_drewN _ _ _) (congrArg (World.drewN _) (Nat.add_assoc _ _ _))⟩); have p50 : 0 ≤ (1 : Int) := (by omega); have q50 : 1 < a0.size := (by have : (1 : Int) < (a0.size : Int) := of_decide_eq_true (by first | (with_reducible assumption) | assumption); omega); have hx50 : ∀ h : 1 < a0.size, ((a0[1]'h).toNat : Int) = bt a0 1 := bt_at a0 1; clear p50; have qi50 : (1 < (a0.size : Int)) = True := eq_true (of_decide_eq_true (by first | (with_reducible assumption) | assumption)); replace q50 := eq_true q50; have hcz52_0 : wc.cell? ⟨gb105, 0, none⟩ = some (.int .i64 t102) := (blk_cell BK105.out 0).trans rfl; have hcz52_1 : wc.cell? ⟨gb105, 1, none⟩ = some (.int .u8 t103) := (blk_cell BK105.out 1).trans rfl; have hcz52_2 : wc.cell? ⟨gb105, 2, none⟩ = some (.int .u8 t104) := (blk_cell BK105.out 2).trans rfl; have hfz52_0 := blk_frozen BK105.out 0; have hfz52_1 := blk_frozen BK105.out 1; have hfz52_2 := blk_frozen BK105.out 2)))
                                  go_ret2
                                  exact ⟨by first | rfl | (simp [errW_none, errW_some] <;> rfl) | (simp [*, errW_none, errW_some] <;> rfl), by repeat (first | (with_reducible first | exact HB.out | apply below_alloc | apply pw_below_drewN | apply below_drew1 | refine below_set ?_ GE105.out) | exact HB.out)⟩
                                · rw [if_neg c51] at H
                                  have c51b0 : decide ((bt a0 1) < t103) = false := decide_eq_false c51
                                  clear c51
                                  by_cases c54 : (bt a0 1) > t104
                                  · rw [if_pos c54] at H
                                    have c54b0 : decide (t104 < (bt a0 1)) = true := decide_eq_true c54
                                    clear c54
                                    simp only [Option.some.injEq, Prod.mk.injEq] at H
                                    obtain ⟨rfl, rfl⟩ := H
                                    have p46 : 0 ≤ (2 : Int) := (by omega)
                                    have q46 : 2 < a0.size := (by have : (2 : Int) < (a0.size : Int) := of_decide_eq_true (by first | (with_reducible assumption) | assumption); omega)
                                    have hx46 : ∀ h : 2 < a0.size, ((a0[2]'h).toNat : Int) = bt a0 2 := bt_at a0 2
                                    clear p46
                                    have qi46 : (2 < (a0.size : Int)) = True := eq_true (of_decide_eq_true (by first | (with_reducible assumption) | assumption))
                                    replace q46 := eq_true q46
                                    go_wp2_with (first | (go_at_call 51; (with_reducible refine (text_tail.calls (bt a0 2) true _ A47.out).mono ?_); rintro e w' ⟨rfl, ⟨nd, rfl⟩⟩; (try first | exact ⟨rfl, _, World.drewN_drewN _ _ _⟩ | exact ⟨rfl, _, Eq.trans (World.drewN_drewN _ _ _) (congrArg (World.drewN _) (Nat.add_assoc _ _ _))⟩); have p50 : 0 ≤ (1 : Int) := (by omega); have q50 : 1 < a0.size := (by have : (1 : Int) < (a0.size : Int) := of_decide_eq_true (by first | (with_reducible assumption) | assumption); omega); have hx50 : ∀ h : 1 < a0.size, ((a0[1]'h).toNat : Int) = bt a0 1 := bt_at a0 1; clear p50; have qi50 : (1 < (a0.size : Int)) = True := eq_true (of_decide_eq_true (by first | (with_reducible assumption) | assumption)); replace q50 := eq_true q50; have hcz55_0 : wc.cell? ⟨gb105, 0, none⟩ = some (.int .i64 t102) := (blk_cell BK105.out 0).trans rfl; have hcz55_1 : wc.cell? ⟨gb105, 1, none⟩ = some (.int .u8 t103) := (blk_cell BK105.out 1).trans rfl; have hcz55_2 : wc.cell? ⟨gb105, 2, none⟩ = some (.int .u8 t104) := (blk_cell BK105.out 2).trans rfl; have hfz55_0 := blk_frozen BK105.out 0; have hfz55_1 := blk_frozen BK105.out 1; have hfz55_2 := blk_frozen BK105.out 2; have p53 : 0 ≤ (1 : Int) := (by omega); have q53 : 1 < a0.size := (by have : (1 : Int) < (a0.size : Int) := of_decide_eq_true (by first | (with_reducible assumption) | assumption); omega); have hx53 : ∀ h : 1 < a0.size, ((a0[1]'h).toNat : Int) = bt a0 1 := bt_at a0 1; clear p53; have qi53 : (1 < (a0.size : Int)) = True := eq_true (of_decide_eq_true (by first | (with_reducible assumption) | assumption)); replace q53 := eq_true q53))
                                    repeat (go_quiet (first | (go_at_call 51; (with_reducible refine (text_tail.calls (bt a0 2) true _ A47.out).mono ?_); rintro e w' ⟨rfl, ⟨nd, rfl⟩⟩; (try first | exact ⟨rfl, _, World.drewN_drewN _ _ _⟩ | exact ⟨rfl, _, Eq.trans (World.drewN_drewN _ _ _) (congrArg (World.drewN _) (Nat.add_assoc _ _ _))⟩); have p50 : 0 ≤ (1 : Int) := (by omega); have q50 : 1 < a0.size := (by have : (1 : Int) < (a0.size : Int) := of_decide_eq_true (by first | (with_reducible assumption) | assumption); omega); have hx50 : ∀ h : 1 < a0.size, ((a0[1]'h).toNat : Int) = bt a0 1 := bt_at a0 1; clear p50; have qi50 : (1 < (a0.size : Int)) = True := eq_true (of_decide_eq_true (by first | (with_reducible assumption) | assumption)); replace q50 := eq_true q50; have hcz55_0 : wc.cell? ⟨gb105, 0, none⟩ = some (.int .i64 t102) := (blk_cell BK105.out 0).trans rfl; have hcz55_1 : wc.cell? ⟨gb105, 1, none⟩ = some (.int .u8 t103) := (blk_cell BK105.out 1).trans rfl; have hcz55_2 : wc.cell? ⟨gb105, 2, none⟩ = some (.int .u8 t104) := (blk_cell BK105.out 2).trans rfl; have hfz55_0 := blk_frozen BK105.out 0; have hfz55_1 := blk_frozen BK105.out 1; have hfz55_2 := blk_frozen BK105.out 2; have p53 : 0 ≤ (1 : Int) := (by omega); have q53 : 1 < a0.size := (by have : (1 : Int) < (a0.size : Int) := of_decide_eq_true (by first | (with_reducible assumption) | assumption); omega); have hx53 : ∀ h : 1 < a0.size, ((a0[1]'h).toNat : Int) = bt a0 1 := bt_at a0 1; clear p53; have qi53 : (1 < (a0.size : Int)) = True := eq_true (of_decide_eq_true (by first | (with_reducible assumption) | assumption)); replace q53 := eq_true q53)); try go_wp2_with (first | (go_at_call 51; (with_reducible refine (text_tail.calls (bt a0 2) true _ A47.out).mono ?_); rintro e w' ⟨rfl, ⟨nd, rfl⟩⟩; (try first | exact ⟨rfl, _, World.drewN_drewN _ _ _⟩ | exact ⟨rfl, _, Eq.trans (World.drewN_drewN _ _ _) (congrArg (World.drewN _) (Nat.add_assoc _ _ _))⟩); have p50 : 0 ≤ (1 : Int) := (by omega); have q50 : 1 < a0.size := (by have : (1 : Int) < (a0.size : Int) := of_decide_eq_true (by first | (with_reducible assumption) | assumption); omega); have hx50 : ∀ h : 1 < a0.size, ((a0[1]'h).toNat : Int) = bt a0 1 := bt_at a0 1; clear p50; have qi50 : (1 < (a0.size : Int)) = True := eq_true (of_decide_eq_true (by first | (with_reducible assumption) | assumption)); replace q50 := eq_true q50; have hcz55_0 : wc.cell? ⟨gb105, 0, none⟩ = some (.int .i64 t102) := (blk_cell BK105.out 0).trans rfl; have hcz55_1 : wc.cell? ⟨gb105, 1, none⟩ = some (.int .u8 t103) := (blk_cell BK105.out 1).trans rfl; have hcz55_2 : wc.cell? ⟨gb105, 2, none⟩ = some (.int .u8 t104) := (blk_cell BK105.out 2).trans rfl; have hfz55_0 := blk_frozen BK105.out 0; have hfz55_1 := blk_frozen BK105.out 1; have hfz55_2 := blk_frozen BK105.out 2; have p53 : 0 ≤ (1 : Int) := (by omega); have q53 : 1 < a0.size := (by have : (1 : Int) < (a0.size : Int) := of_decide_eq_true (by first | (with_reducible assumption) | assumption); omega); have hx53 : ∀ h : 1 < a0.size, ((a0[1]'h).toNat : Int) = bt a0 1 := bt_at a0 1; clear p53; have qi53 : (1 < (a0.size : Int)) = True := eq_true (of_decide_eq_true (by first | (with_reducible assumption) | assumption)); replace q53 := eq_true q53)))
                                    go_ret2
                                    exact ⟨by first | rfl | (simp [errW_none, errW_some] <;> rfl) | (simp [*, errW_none, errW_some] <;> rfl), by repeat (first | (with_reducible first | exact HB.out | apply below_alloc | apply pw_below_drewN | apply below_drew1 | refine below_set ?_ GE105.out) | exact HB.out)⟩
                                  · rw [if_neg c54] at H
                                    have c54b0 : decide (t104 < (bt a0 1)) = false := decide_eq_false c54
                                    clear c54
                                    simp only [Option.some.injEq, Prod.mk.injEq] at H
                                    obtain ⟨rfl, rfl⟩ := H
                                    have p46 : 0 ≤ (2 : Int) := (by omega)
                                    have q46 : 2 < a0.size := (by have : (2 : Int) < (a0.size : Int) := of_decide_eq_true (by first | (with_reducible assumption) | assumption); omega)
                                    have hx46 : ∀ h : 2 < a0.size, ((a0[2]'h).toNat : Int) = bt a0 2 := bt_at a0 2
                                    clear p46
                                    have qi46 : (2 < (a0.size : Int)) = True := eq_true (of_decide_eq_true (by first | (with_reducible assumption) | assumption))
                                    replace q46 := eq_true q46
                                    go_wp2_with (first | (go_at_call 51; (with_reducible refine (text_tail.calls (bt a0 2) true _ A47.out).mono ?_); rintro e w' ⟨rfl, ⟨nd, rfl⟩⟩; (try first | exact ⟨rfl, _, World.drewN_drewN _ _ _⟩ | exact ⟨rfl, _, Eq.trans (World.drewN_drewN _ _ _) (congrArg (World.drewN _) (Nat.add_assoc _ _ _))⟩); have p50 : 0 ≤ (1 : Int) := (by omega); have q50 : 1 < a0.size := (by have : (1 : Int) < (a0.size : Int) := of_decide_eq_true (by first | (with_reducible assumption) | assumption); omega); have hx50 : ∀ h : 1 < a0.size, ((a0[1]'h).toNat : Int) = bt a0 1 := bt_at a0 1; clear p50; have qi50 : (1 < (a0.size : Int)) = True := eq_true (of_decide_eq_true (by first | (with_reducible assumption) | assumption)); replace q50 := eq_true q50; have hcz56_0 : wc.cell? ⟨gb105, 0, none⟩ = some (.int .i64 t102) := (blk_cell BK105.out 0).trans rfl; have hcz56_1 : wc.cell? ⟨gb105, 1, none⟩ = some (.int .u8 t103) := (blk_cell BK105.out 1).trans rfl; have hcz56_2 : wc.cell? ⟨gb105, 2, none⟩ = some (.int .u8 t104) := (blk_cell BK105.out 2).trans rfl; have hfz56_0 := blk_frozen BK105.out 0; have hfz56_1 := blk_frozen BK105.out 1; have hfz56_2 := blk_frozen BK105.out 2; have p53 : 0 ≤ (1 : Int) := (by omega); have q53 : 1 < a0.size := (by have : (1 : Int) < (a0.size : Int) := of_decide_eq_true (by first | (with_reducible assumption) | assumption); omega); have hx53 : ∀ h : 1 < a0.size, ((a0[1]'h).toNat : Int) = bt a0 1 := bt_at a0 1; clear p53; have qi53 : (1 < (a0.size : Int)) = True := eq_true (of_decide_eq_true (by first | (with_reducible assumption) | assumption)); replace q53 := eq_true q53))
                                    repeat (go_quiet (first | (go_at_call 51; (with_reducible refine (text_tail.calls (bt a0 2) true _ A47.out).mono ?_); rintro e w' ⟨rfl, ⟨nd, rfl⟩⟩; (try first | exact ⟨rfl, _, World.drewN_drewN _ _ _⟩ | exact ⟨rfl, _, Eq.trans (World.drewN_drewN _ _ _) (congrArg (World.drewN _) (Nat.add_assoc _ _ _))⟩); have p50 : 0 ≤ (1 : Int) := (by omega); have q50 : 1 < a0.size := (by have : (1 : Int) < (a0.size : Int) := of_decide_eq_true (by first | (with_reducible assumption) | assumption); omega); have hx50 : ∀ h : 1 < a0.size, ((a0[1]'h).toNat : Int) = bt a0 1 := bt_at a0 1; clear p50; have qi50 : (1 < (a0.size : Int)) = True := eq_true (of_decide_eq_true (by first | (with_reducible assumption) | assumption)); replace q50 := eq_true q50; have hcz56_0 : wc.cell? ⟨gb105, 0, none⟩ = some (.int .i64 t102) := (blk_cell BK105.out 0).trans rfl; have hcz56_1 : wc.cell? ⟨gb105, 1, none⟩ = some (.int .u8 t103) := (blk_cell BK105.out 1).trans rfl; have hcz56_2 : wc.cell? ⟨gb105, 2, none⟩ = some (.int .u8 t104) := (blk_cell BK105.out 2).trans rfl; have hfz56_0 := blk_frozen BK105.out 0; have hfz56_1 := blk_frozen BK105.out 1; have hfz56_2 := blk_frozen BK105.out 2; have p53 : 0 ≤ (1 : Int) := (by omega); have q53 : 1 < a0.size := (by have : (1 : Int) < (a0.size : Int) := of_decide_eq_true (by first | (with_reducible assumption) | assumption); omega); have hx53 : ∀ h : 1 < a0.size, ((a0[1]'h).toNat : Int) = bt a0 1 := bt_at a0 1; clear p53; have qi53 : (1 < (a0.size : Int)) = True := eq_true (of_decide_eq_true (by first | (with_reducible assumption) | assumption)); replace q53 := eq_true q53)); try go_wp2_with (first | (go_at_call 51; (with_reducible refine (text_tail.calls (bt a0 2) true _ A47.out).mono ?_); rintro e w' ⟨rfl, ⟨nd, rfl⟩⟩; (try first | exact ⟨rfl, _, World.drewN_drewN _ _ _⟩ | exact ⟨rfl, _, Eq.trans (World.drewN_drewN _ _ _) (congrArg (World.drewN _) (Nat.add_assoc _ _ _))⟩); have p50 : 0 ≤ (1 : Int) := (by omega); have q50 : 1 < a0.size := (by have : (1 : Int) < (a0.size : Int) := of_decide_eq_true (by first | (with_reducible assumption) | assumption); omega); have hx50 : ∀ h : 1 < a0.size, ((a0[1]'h).toNat : Int) = bt a0 1 := bt_at a0 1; clear p50; have qi50 : (1 < (a0.size : Int)) = True := eq_true (of_decide_eq_true (by first | (with_reducible assumption) | assumption)); replace q50 := eq_true q50; have hcz56_0 : wc.cell? ⟨gb105, 0, none⟩ = some (.int .i64 t102) := (blk_cell BK105.out 0).trans rfl; have hcz56_1 : wc.cell? ⟨gb105, 1, none⟩ = some (.int .u8 t103) := (blk_cell BK105.out 1).trans rfl; have hcz56_2 : wc.cell? ⟨gb105, 2, none⟩ = some (.int .u8 t104) := (blk_cell BK105.out 2).trans rfl; have hfz56_0 := blk_frozen BK105.out 0; have hfz56_1 := blk_frozen BK105.out 1; have hfz56_2 := blk_frozen BK105.out 2; have p53 : 0 ≤ (1 : Int) := (by omega); have q53 : 1 < a0.size := (by have : (1 : Int) < (a0.size : Int) := of_decide_eq_true (by first | (with_reducible assumption) | assumption); omega); have hx53 : ∀ h : 1 < a0.size, ((a0[1]'h).toNat : Int) = bt a0 1 := bt_at a0 1; clear p53; have qi53 : (1 < (a0.size : Int)) = True := eq_true (of_decide_eq_true (by first | (with_reducible assumption) | assumption)); replace q53 := eq_true q53)))
                                    go_ret2
                                    exact ⟨by first | rfl | (simp [errW_none, errW_some] <;> rfl) | (simp [*, errW_none, errW_some] <;> rfl), by repeat (first | (with_reducible first | exact HB.out | apply below_alloc | apply pw_below_drewN | apply below_drew1 | refine below_set ?_ GE105.out) | exact HB.out)⟩
                              · rw [if_neg c49] at H
                                exact absurd H (by simp)
                            · replace c48 := Bool.eq_false_iff.mpr c48
                              subst c48
                              have H1 : (some (0, 0)) = some (r1, r2) := by rw [if_neg (show ¬ (false = true) by decide)] at H; exact H
                              clear H
                              have H := H1
                              clear H1
                              simp only [Option.some.injEq, Prod.mk.injEq] at H
                              obtain ⟨rfl, rfl⟩ := H
                              have p46 : 0 ≤ (2 : Int) := (by omega)
                              have q46 : 2 < a0.size := (by have : (2 : Int) < (a0.size : Int) := of_decide_eq_true (by first | (with_reducible assumption) | assumption); omega)
                              have hx46 : ∀ h : 2 < a0.size, ((a0[2]'h).toNat : Int) = bt a0 2 := bt_at a0 2
                              clear p46
                              have qi46 : (2 < (a0.size : Int)) = True := eq_true (of_decide_eq_true (by first | (with_reducible assumption) | assumption))
                              replace q46 := eq_true q46
                              go_wp2_with (first | (go_at_call 51; (with_reducible refine (text_tail.calls (bt a0 2) false _ A47.out).mono ?_); rintro e w' ⟨rfl, ⟨nd, rfl⟩⟩; (try first | exact ⟨rfl, _, World.drewN_drewN _ _ _⟩ | exact ⟨rfl, _, Eq.trans (World.drewN_drewN _ _ _) (congrArg (World.drewN _) (Nat.add_assoc _ _ _))⟩)))
                              repeat (go_quiet (first | (go_at_call 51; (with_reducible refine (text_tail.calls (bt a0 2) false _ A47.out).mono ?_); rintro e w' ⟨rfl, ⟨nd, rfl⟩⟩; (try first | exact ⟨rfl, _, World.drewN_drewN _ _ _⟩ | exact ⟨rfl, _, Eq.trans (World.drewN_drewN _ _ _) (congrArg (World.drewN _) (Nat.add_assoc _ _ _))⟩))); try go_wp2_with (first | (go_at_call 51; (with_reducible refine (text_tail.calls (bt a0 2) false _ A47.out).mono ?_); rintro e w' ⟨rfl, ⟨nd, rfl⟩⟩; (try first | exact ⟨rfl, _, World.drewN_drewN _ _ _⟩ | exact ⟨rfl, _, Eq.trans (World.drewN_drewN _ _ _) (congrArg (World.drewN _) (Nat.add_assoc _ _ _))⟩))))
                              go_ret2
                              exact ⟨by first | rfl | (simp [errW_none, errW_some] <;> rfl) | (simp [*, errW_none, errW_some] <;> rfl), by repeat (first | (with_reducible first | exact HB.out | apply below_alloc | apply pw_below_drewN | apply below_drew1 | refine below_set ?_ GE105.out) | exact HB.out)⟩
                          · rw [if_neg c45] at H
                            exact absurd H (by simp)
          · rw [if_neg c13] at H
            exact absurd H (by simp)
  · rw [if_neg c2] at H
    exact absurd H (by simp)

end Go.Proofs.Ythgodajjaddgbaa.P
