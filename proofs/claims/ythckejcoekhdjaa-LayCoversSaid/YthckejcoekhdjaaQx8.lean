-- Made by a wrapper of this project over the kit's print.py, with contracts by hand beside it. Not trusted: Lean checks it.
import Derived.Test.YthckejcoekhdjaaQx0
import Derived.Test.YthckejcoekhdjaaHLaid
namespace Go.Proofs.Ythckejcoekhdjaa.Q
open Go.RowKit Go.Proofs.YthckejcoekhdjaaW.PrintWords Go.Proofs.YthckejcoekhdjaaW.PrintLast Go.Proofs.YthckejcoekhdjaaW.PrintMore
attribute [local go_sem] max2_int min2_int max_two min_two max_three min_three max_four min_four   -- for this text's walks alone
set_option linter.unusedVariables false
set_option linter.unusedSimpArgs false

/-! ### lay_Plain: function 22 -/
def lay_Plain.l0 : Nat → List Int → Int → List (S39) → Int → List (S39) → Int → Int → Option ((List (S39)) × Int × Int)
  | 0, _, _, _, _, _, _, _ => none
  | k + 1, x1, x2, x9, x10, x19, x20, x21 => if x21 < x20 then (if 0 ≤ x21 then (if x21 < (x19.length : Int) then (if x21 < (x1.length : Int) then (if (rd x1 x21) = x10 then (if x9.length < 8796093022208 then (lay_Plain.l0 k x1 x2 (x9 ++ [(⟨(rd_T39 x19 x21).f0, (-1)⟩ : S39)]) (wrap64 ((rd x1 x21) + ((rd_T39 x19 x21).f0))) x19 x20 (wrap64 (x21 + 1))) else (none)) else (if x9.length < 8796093022208 then (lay_Plain.l0 k x1 x2 (x9 ++ [(⟨(rd_T39 x19 x21).f0, rd x1 x21⟩ : S39)]) (wrap64 ((rd x1 x21) + ((rd_T39 x19 x21).f0))) x19 x20 (wrap64 (x21 + 1))) else (none))) else (none)) else (none)) else (none)) else (if x2 = x10 then (some (x9, (-1), 0)) else (some (x9, x2, 0)))
def lay_Plain.f (k : Nat) (l0 : List (S39)) (l1 : List Int) (a2 : Int) : Option ((List (S39)) × Int × Int) := (lay_laid.f l0 l1 a2).bind fun t260 => (if t260 = true then (lay_Plain.l0 k l1 a2 ([] : List (S39)) 0 l0 (l0.length : Int) 0) else (some (([] : List (S39)), 0, 73)))
theorem lay_Plain.mono_l : ∀ k, (∀ y0 y1 y2 y3 y4 y5 y6, LeO (lay_Plain.l0 k y0 y1 y2 y3 y4 y5 y6) (lay_Plain.l0 (k + 1) y0 y1 y2 y3 y4 y5 y6))
  | 0 => fun _ _ _ _ _ _ _ r h => by simp [lay_Plain.l0] at h
  | k + 1 => by
    have ih0 := lay_Plain.mono_l k
    · intro y0 y1 y2 y3 y4 y5 y6
      unfold lay_Plain.l0
      repeat' first
      | (with_reducible exact ih0 _ _ _ _ _ _ _)
      | (with_reducible exact LeO.refl _)
      | (with_reducible exact LeO.none _)
      | (with_reducible refine LeO.ite ?_ ?_)
      | (with_reducible refine LeO.bind ?_ (fun _ => ?_))
      | exact ih0 _ _ _ _ _ _ _
      | exact LeO.none _
      | refine LeO.ite ?_ ?_
      | refine LeO.bind ?_ (fun _ => ?_)
theorem lay_Plain.mono : ∀ a0 a1 a2 k, LeO (lay_Plain.f k a0 a1 a2) (lay_Plain.f (k + 1) a0 a1 a2) := by
  intro a0 a1 a2 k
  have ih0 := lay_Plain.mono_l k
  unfold lay_Plain.f
  repeat' first
      | (with_reducible exact ih0 _ _ _ _ _ _ _)
      | (with_reducible exact LeO.refl _)
      | (with_reducible exact LeO.none _)
      | (with_reducible refine LeO.ite ?_ ?_)
      | (with_reducible refine LeO.bind ?_ (fun _ => ?_))
      | exact ih0 _ _ _ _ _ _ _
      | exact LeO.none _
      | refine LeO.ite ?_ ?_
      | refine LeO.bind ?_ (fun _ => ?_)
set_option maxHeartbeats 8000000 in
set_option maxRecDepth 100000 in
theorem lay_Plain.calls (k : Nat) (A0 : Option Addr) (c0 : Nat) (l0 : List (S39)) (A1 : Option Addr) (c1 : Nat) (l1 : List Int) (a2 : Int) (r1 : List (S39)) (r2 : Int) (r3 : Int) (w : World) (hr0 : Kd.C k39 w A0 l0.length l0) (hc0 : l0.length ≤ c0) (hr1 : Kd.C (Kd.int .i64) w A1 l1.length l1) (hc1 : l1.length ≤ c1) (h : lay_Plain.f k l0 l1 a2 = some (r1, r2, r3)) :
    Calls Try.prog 22 #[.slice A0 l0.length c0, .slice A1 l1.length c1, .int .i64 a2] w fun e w' => ∃ v0_ : Value, e = .returned (.tuple #[v0_, .int .i64 r2, .int .i64 r3]) ∧ Kd.R k39 39 w' w.heap.size (fun _ => True) v0_ r1 ∧ Below w.heap.size w w' := by
  have hu39 := Try.underlying39
  have HR0 := Aside0.mk hr0
  have HC0 := Aside0.mk hc0
  clear hr0 hc0
  have HR1 := Aside0.mk hr1
  have HC1 := Aside0.mk hc1
  clear hr1 hc1
  have HB := Aside0.mk (Below.refl w.heap.size w)
  have H : ((lay_laid.f l0 l1 a2).bind fun t260 => (if t260 = true then (lay_Plain.l0 k l1 a2 ([] : List (S39)) 0 l0 (l0.length : Int) 0) else (some (([] : List (S39)), 0, 73)))) = some (r1, r2, r3) := h
  clear h
  replace H := Option.bind_eq_some_iff.mp H
  obtain ⟨t260, A40, H⟩ := H
  replace H : (if t260 = true then (lay_Plain.l0 k l1 a2 ([] : List (S39)) 0 l0 (l0.length : Int) 0) else (some (([] : List (S39)), 0, 73))) = some (r1, r2, r3) := H
  have A4 := Aside0.mk A40
  clear A40
  by_cases c5 : t260 = true
  · subst c5
    have H1 : (lay_Plain.l0 k l1 a2 ([] : List (S39)) 0 l0 (l0.length : Int) 0) = some (r1, r2, r3) := by rw [if_pos rfl] at H; exact H
    clear H
    have H := H1
    clear H1
    have H' := Aside0.mk H
    clear H
    go_enter Try.func22, Try.ntmps22
    go_wp2_with (first | (go_at_call 31; (with_reducible refine (lay_laid.calls _ _ l0 _ _ l1 a2 true _ ?side1 ?side2 ?side3 ?side4 A4.out).mono ?_); (case side1 => repeat (first | exact HR0.out | (with_reducible refine Kd.C_alloc ?_ _) | (with_reducible refine Kd.C_drewN ?_ _) | (with_reducible refine Kd.C_drew ?_))); (case side2 => exact HC0.out); (case side3 => repeat (first | exact HR1.out | (with_reducible refine Kd.C_alloc ?_ _) | (with_reducible refine Kd.C_drewN ?_ _) | (with_reducible refine Kd.C_drew ?_))); (case side4 => exact HC1.out); rintro e w6 ⟨rfl, hb⟩; have n0_ := Aside0.mk (below_step (by repeat (first | (with_reducible first | exact HB.out | apply below_alloc | apply pw_below_drewN | apply below_drew1) | exact HB.out)) hb); clear HB; have HB := n0_; clear n0_; (try clear hb); (try clear hb2); (try clear hk); (try clear hi)))
    repeat (go_quiet (first | (go_at_call 31; (with_reducible refine (lay_laid.calls _ _ l0 _ _ l1 a2 true _ ?side1 ?side2 ?side3 ?side4 A4.out).mono ?_); (case side1 => repeat (first | exact HR0.out | (with_reducible refine Kd.C_alloc ?_ _) | (with_reducible refine Kd.C_drewN ?_ _) | (with_reducible refine Kd.C_drew ?_))); (case side2 => exact HC0.out); (case side3 => repeat (first | exact HR1.out | (with_reducible refine Kd.C_alloc ?_ _) | (with_reducible refine Kd.C_drewN ?_ _) | (with_reducible refine Kd.C_drew ?_))); (case side4 => exact HC1.out); rintro e w6 ⟨rfl, hb⟩; have n0_ := Aside0.mk (below_step (by repeat (first | (with_reducible first | exact HB.out | apply below_alloc | apply pw_below_drewN | apply below_drew1) | exact HB.out)) hb); clear HB; have HB := n0_; clear n0_; (try clear hb); (try clear hb2); (try clear hk); (try clear hi))); try go_wp2_with (first | (go_at_call 31; (with_reducible refine (lay_laid.calls _ _ l0 _ _ l1 a2 true _ ?side1 ?side2 ?side3 ?side4 A4.out).mono ?_); (case side1 => repeat (first | exact HR0.out | (with_reducible refine Kd.C_alloc ?_ _) | (with_reducible refine Kd.C_drewN ?_ _) | (with_reducible refine Kd.C_drew ?_))); (case side2 => exact HC0.out); (case side3 => repeat (first | exact HR1.out | (with_reducible refine Kd.C_alloc ?_ _) | (with_reducible refine Kd.C_drewN ?_ _) | (with_reducible refine Kd.C_drew ?_))); (case side4 => exact HC1.out); rintro e w6 ⟨rfl, hb⟩; have n0_ := Aside0.mk (below_step (by repeat (first | (with_reducible first | exact HB.out | apply below_alloc | apply pw_below_drewN | apply below_drew1) | exact HB.out)) hb); clear HB; have HB := n0_; clear n0_; (try clear hb); (try clear hb2); (try clear hk); (try clear hi))))
    go_loopg [9, 10, 21] k (fun kq v9 v10 v21 w' => ∃ (x9_1 : List (S39)) (x10_1 : Int) (x21_1 : Int), v10 = .int .i64 x10_1 ∧ v21 = .int .i64 x21_1 ∧ Aside0 (lay_Plain.l0 kq l1 a2 x9_1 x10_1 l0 (l0.length : Int) x21_1 = some (r1, r2, r3)) ∧ Aside0 (kq ≤ k) ∧ Aside0 (Kd.R k39 39 w' w.heap.size (fun _ => True) v9 x9_1) ∧ Aside0 (Below w.heap.size w w'))
    case atStart => exact ⟨(([] : List (S39))), (0), (0), (by first | rfl | (simp; done) | (simp [*]; done)), (by first | rfl | (simp; done) | (simp [*]; done)), H', ⟨Nat.le_refl _⟩, ⟨by first | exact Kd.R_nil _ _ _ _ _ | exact Kd.N_nil _ _ _ _ _ | exact Kd.V_nil _ _ _ _ _ | exact Kd.Q_nil _ _ _ _ _ | exact Kd.S_nil _ _ _ _ _⟩, ⟨by repeat (first | (with_reducible first | exact HB.out | apply below_alloc | apply pw_below_drewN | apply below_drew1) | exact HB.out)⟩⟩
    case round =>
      clear H'
      try clear c1
      try clear c2
      try clear p2
      try clear c5
      obtain ⟨x9_1, x10_1, x21_1, rfl, rfl, HA, HK1, HO_9, HB⟩ := hrel
      cases gk with
      | zero => exact absurd HA.out (by simp [lay_Plain.l0])
      | succ k1 =>
        have H := HA.out
        clear HA
        simp only [lay_Plain.l0] at H
        by_cases c7 : x21_1 < (l0.length : Int)
        · rw [if_pos c7] at H
          have c7b0 : decide (x21_1 < (l0.length : Int)) = true := decide_eq_true c7
          clear c7
          by_cases c8 : 0 ≤ x21_1
          · rw [if_pos c8] at H
            have c8b0 : decide (0 ≤ x21_1) = true := decide_eq_true c8
            clear c8
            by_cases c9 : x21_1 < (l0.length : Int)
            · rw [if_pos c9] at H
              have c9b0 : decide (x21_1 < (l0.length : Int)) = true := decide_eq_true c9
              clear c9
              by_cases c10 : x21_1 < (l1.length : Int)
              · rw [if_pos c10] at H
                have c10b0 : decide (x21_1 < (l1.length : Int)) = true := decide_eq_true c10
                clear c10
                by_cases c11 : (rd l1 x21_1) = x10_1
                · rw [if_pos c11] at H
                  have c11b0 : ((rd l1 x21_1) == x10_1) = true := beq_iff_eq.mpr c11
                  have c11b1 : ((rd l1 x21_1) != x10_1) = false := bne_eq_false_iff_eq.mpr c11
                  clear c11
                  by_cases c12 : x9_1.length < 8796093022208
                  · rw [if_pos c12] at H
                    have LMc12 := Aside0.mk c12
                    clear c12
                    obtain ⟨y264, hy264⟩ : ∃ y_ : List (S39), y_ = (x9_1 ++ [(⟨(rd_T39 l0 x21_1).f0, (-1)⟩ : S39)]) := ⟨_, rfl⟩
                    replace H : (lay_Plain.l0 k1 l1 a2 y264 (wrap64 ((rd l1 x21_1) + ((rd_T39 l0 x21_1).f0))) l0 (l0.length : Int) (wrap64 (x21_1 + 1))) = some (r1, r2, r3) := by first | (rw [hy264]; with_reducible exact H) | (have H2_ := (Option.bind_some _ _).symm.trans H; rw [hy264]; with_reducible exact H2_) | (have H2_ := (Option.bind_some _ _).symm.trans H; with_reducible exact H2_) | with_reducible exact H | (rw [hy264]; exact H) | exact H
                    have Ny264 := Aside0.mk hy264
                    clear hy264
                    have H' := Aside0.mk H
                    clear H
                    have p261 : 0 ≤ (x21_1 : Int) := of_decide_eq_true (by first | (with_reducible assumption) | assumption)
                    have q261 : x21_1 < (l0.length : Int) := of_decide_eq_true (by first | (with_reducible assumption) | assumption)
                    obtain ⟨ad261, e261, hx261_0, hx261_1⟩ := at_T39 HR0.out x21_1 p261 q261
                    cases e261
                    replace hx261_0 := (HB.out.cell (World.block_lt_of_cell? w _ hx261_0)).trans hx261_0
                    replace hx261_1 := (HB.out.cell (World.block_lt_of_cell? w _ hx261_1)).trans hx261_1
                    replace p261 := eq_true p261
                    replace q261 := eq_true q261
                    go_wp2_with (first | ((with_reducible refine gate_dst (N := 12) rfl ?_); refine box_event ?hg (N := 12) ?hd (cs := #[.int .i64 0, .int .i64 0]) (t := 39) ?hr ?_; (case hd => rfl); (case hg => rfl); (case hr => first | (go_simp; done) | (go_simp; rfl)); intro gb262 hg w13 hbox hb; have n0_ := Aside0.mk (Kd.R_below (Kd.R_elderB (by (with_reducible repeat (first | apply Kd.R_alloc | apply Kd.R_drewN | apply Kd.R_drew)); exact HO_9.out) gb262 (Nat.le_of_eq hg.symm)) hb); have n1_ := Aside0.mk (below_step (by repeat (first | (with_reducible first | exact HB.out | apply below_alloc | apply pw_below_drewN | apply below_drew1) | exact HB.out)) hb); have n2_ := Aside0.mk (hbox); have n3_ := Aside0.mk ((by rw [hg]; exact (below_size (by repeat (first | (with_reducible first | exact HB.out | apply below_alloc | apply pw_below_drewN | apply below_drew1) | exact HB.out))) : w.heap.size ≤ gb262)); have n4_ := Aside0.mk ((by rw [hg]; exact (below_size (by repeat (first | (with_reducible first | exact HB.out | apply below_alloc | apply pw_below_drewN | apply below_drew1) | exact HB.out))) : w.heap.size ≤ gb262)); clear HO_9; clear HB; have HO_9 := n0_; have HB := n1_; have BK262 := n2_; have GW262 := n3_; have GE262 := n4_; clear n0_ n1_ n2_ n3_ n4_; clear hb hbox hg; have hcz14_0 : w13.cell? ⟨gb262, 0, none⟩ = some (.int .i64 0) := (blk_cell BK262.out 0).trans rfl; have hcz14_1 : w13.cell? ⟨gb262, 1, none⟩ = some (.int .i64 0) := (blk_cell BK262.out 1).trans rfl; have hfz14_0 := blk_frozen BK262.out 0; have hfz14_1 := blk_frozen BK262.out 1; have p263 : 0 ≤ (x21_1 : Int) := of_decide_eq_true (by first | (with_reducible assumption) | assumption); have q263 : x21_1 < (l1.length : Int) := of_decide_eq_true (by first | (with_reducible assumption) | assumption); obtain ⟨ad263, e263, hx263_0⟩ := Kd.at_int HR1.out x21_1 p263 q263; cases e263; have hn263_0 : ad263.block ≠ gb262 := Nat.ne_of_lt (Nat.lt_of_lt_of_le (by have := World.block_lt_of_cell? _ _ hx263_0; first | rwa [add_block] at this | exact this) GW262.out); have hn263_1 : ad263.block ≠ gb262 := Nat.ne_of_lt (Nat.lt_of_lt_of_le (by have := World.block_lt_of_cell? _ _ hx263_0; first | rwa [add_block] at this | exact this) GW262.out); replace hx263_0 := (HB.out.cell (World.block_lt_of_cell? w _ hx263_0)).trans hx263_0; replace hx263_0 := (cell_far (p := ⟨gb262, 0, none⟩) (by first | (rw [add_block]; exact hn263_0) | (show (Addr.add _ _).block ≠ _; rw [add_block]; exact hn263_0) | exact hn263_0) (.int .i64 ((rd_T39 l0 x21_1).f0))).trans hx263_0; replace hx263_0 := (cell_far (p := ⟨gb262, 1, none⟩) (by first | (rw [add_block]; exact hn263_1) | (show (Addr.add _ _).block ≠ _; rw [add_block]; exact hn263_1) | exact hn263_1) (.int .i64 ((rd_T39 l0 x21_1).f1))).trans hx263_0; (try have hy263_0 := fun (n_ : Nat) => (show ((((w13.drewN n_).setCell ⟨gb262, 0, none⟩ (.int .i64 ((rd_T39 l0 x21_1).f0))).setCell ⟨gb262, 1, none⟩ (.int .i64 ((rd_T39 l0 x21_1).f1)))).cell? _ = some _ from hx263_0)); clear hn263_0; clear hn263_1; replace p263 := eq_true p263; replace q263 := eq_true q263) | ((with_reducible refine gate_builtin (b := .append) (xs := #[.tmp 33, .tmp 38]) rfl ?_); at_builtin; refine Kd.R_append k39 (w0 := w) w.heap.size rfl (.tmp 33) (.tmp 38) 22 39 (.agg #[(.int .i64 0), (.int .i64 0)]) 16 rfl Try.underlying22 info39 rfl (by decide) (by omega) u9 x9_1 (⟨(rd_T39 l0 x21_1).f0, (-1)⟩ : S39) [.int .i64 ((rd_T39 l0 x21_1).f0), .int .i64 (-1)] (fun k_ => k_ ≠ gb262) (fun _ => False) rfl (by first | (go_simp; done) | (go_simp; rfl)) ?aP (fun _ hk => hk.elim) ?aF ?aO ?aB ?aS ?aL ?_; (case aP => exact k39_mkM _ _ _ (⟨(rd_T39 l0 x21_1).f0, (-1)⟩ : S39)); (case aB => exact (by repeat (first | (with_reducible first | exact HB.out | apply below_alloc | apply pw_below_drewN | apply below_drew1 | refine below_set ?_ GE262.out) | exact HB.out))); (case aF => exact (fun k_ hk => Kd.freshB (g := gb262) (o := .cells #[.int .i64 ((rd_T39 l0 x21_1).f0), .int .i64 ((rd_T39 l0 x21_1).f1)] 39 (0, 0)) (by (with_reducible repeat (first | refine blk_drewN ?_ _ | refine blk_drew ?_ | refine blk_alloc ?_ _)); refine blk_put (cs := #[.int .i64 ((rd_T39 l0 x21_1).f0), .int .i64 0]) ?_ 1 _ rfl; (with_reducible repeat (first | refine blk_drewN ?_ _ | refine blk_drew ?_ | refine blk_alloc ?_ _)); refine blk_put (cs := #[.int .i64 0, .int .i64 0]) ?_ 0 _ rfl; (with_reducible repeat (first | refine blk_drewN ?_ _ | refine blk_drew ?_ | refine blk_alloc ?_ _)); exact BK262.out) k_ hk)); (case aO => exact (by (with_reducible repeat (first | apply Kd.R_alloc | apply Kd.R_drewN | apply Kd.R_drew)); exact Kd.R_mono (Kd.R_far (p := ⟨gb262, 1, none⟩) (Kd.R_far (p := ⟨gb262, 0, none⟩) (Kd.R_mono HO_9.out (fun k_ hk => (⟨hk, hk.2⟩ : _ ∧ k_ ≠ gb262))) (fun _ hk => hk.2) (.int .i64 ((rd_T39 l0 x21_1).f0))) (fun _ hk => hk.2) (.int .i64 ((rd_T39 l0 x21_1).f1))) (fun _ hk => hk.1.2))); (case aS => exact (below_size (by repeat (first | (with_reducible first | exact HB.out | apply below_alloc | apply pw_below_drewN | apply below_drew1 | refine below_set ?_ GE262.out) | exact HB.out)))); (case aL => have := LMc12.out; omega); intro v265 w15 ho hb hg hat; rw [← Ny264.out] at ho; have n0_ := Aside0.mk (blk_grown (g := gb262) (o := .cells #[.int .i64 ((rd_T39 l0 x21_1).f0), .int .i64 ((rd_T39 l0 x21_1).f1)] 39 (0, 0)) (by (with_reducible repeat (first | refine blk_drewN ?_ _ | refine blk_drew ?_ | refine blk_alloc ?_ _)); refine blk_put (cs := #[.int .i64 ((rd_T39 l0 x21_1).f0), .int .i64 0]) ?_ 1 _ rfl; (with_reducible repeat (first | refine blk_drewN ?_ _ | refine blk_drew ?_ | refine blk_alloc ?_ _)); refine blk_put (cs := #[.int .i64 0, .int .i64 0]) ?_ 0 _ rfl; (with_reducible repeat (first | refine blk_drewN ?_ _ | refine blk_drew ?_ | refine blk_alloc ?_ _)); exact BK262.out) hg (Kd.R_away HO_9.out (fun _ hk => hk.2))); have n1_ := Aside0.mk (hb); have n2_ := Aside0.mk (ho); clear BK262; clear HB; clear HO_9; have BK262 := n0_; have HB := n1_; have HO266 := n2_; clear n0_ n1_ n2_; clear ho hb hg hat; have p267 : 0 ≤ (x21_1 : Int) := of_decide_eq_true (by first | (with_reducible assumption) | assumption); have q267 : x21_1 < (l1.length : Int) := of_decide_eq_true (by first | (with_reducible assumption) | assumption); obtain ⟨ad267, e267, hx267_0⟩ := Kd.at_int HR1.out x21_1 p267 q267; obtain rfl : ad263 = ad267 := (by injection e267); replace hx267_0 := (HB.out.cell (World.block_lt_of_cell? w _ hx267_0)).trans hx267_0; replace p267 := eq_true p267; replace q267 := eq_true q267; have hcz16_0 : w15.cell? ⟨gb262, 0, none⟩ = some (.int .i64 ((rd_T39 l0 x21_1).f0)) := (blk_cell BK262.out 0).trans rfl; have hcz16_1 : w15.cell? ⟨gb262, 1, none⟩ = some (.int .i64 ((rd_T39 l0 x21_1).f1)) := (blk_cell BK262.out 1).trans rfl; have hfz16_0 := blk_frozen BK262.out 0; have hfz16_1 := blk_frozen BK262.out 1))
                    repeat (go_quiet (first | ((with_reducible refine gate_dst (N := 12) rfl ?_); refine box_event ?hg (N := 12) ?hd (cs := #[.int .i64 0, .int .i64 0]) (t := 39) ?hr ?_; (case hd => rfl); (case hg => rfl); (case hr => first | (go_simp; done) | (go_simp; rfl)); intro gb262 hg w13 hbox hb; have n0_ := Aside0.mk (Kd.R_below (Kd.R_elderB (by (with_reducible repeat (first | apply Kd.R_alloc | apply Kd.R_drewN | apply Kd.R_drew)); exact HO_9.out) gb262 (Nat.le_of_eq hg.symm)) hb); have n1_ := Aside0.mk (below_step (by repeat (first | (with_reducible first | exact HB.out | apply below_alloc | apply pw_below_drewN | apply below_drew1) | exact HB.out)) hb); have n2_ := Aside0.mk (hbox); have n3_ := Aside0.mk ((by rw [hg]; exact (below_size (by repeat (first | (with_reducible first | exact HB.out | apply below_alloc | apply pw_below_drewN | apply below_drew1) | exact HB.out))) : w.heap.size ≤ gb262)); have n4_ := Aside0.mk ((by rw [hg]; exact (below_size (by repeat (first | (with_reducible first | exact HB.out | apply below_alloc | apply pw_below_drewN | apply below_drew1) | exact HB.out))) : w.heap.size ≤ gb262)); clear HO_9; clear HB; have HO_9 := n0_; have HB := n1_; have BK262 := n2_; have GW262 := n3_; have GE262 := n4_; clear n0_ n1_ n2_ n3_ n4_; clear hb hbox hg; have hcz14_0 : w13.cell? ⟨gb262, 0, none⟩ = some (.int .i64 0) := (blk_cell BK262.out 0).trans rfl; have hcz14_1 : w13.cell? ⟨gb262, 1, none⟩ = some (.int .i64 0) := (blk_cell BK262.out 1).trans rfl; have hfz14_0 := blk_frozen BK262.out 0; have hfz14_1 := blk_frozen BK262.out 1; have p263 : 0 ≤ (x21_1 : Int) := of_decide_eq_true (by first | (with_reducible assumption) | assumption); have q263 : x21_1 < (l1.length : Int) := of_decide_eq_true (by first | (with_reducible assumption) | assumption); obtain ⟨ad263, e263, hx263_0⟩ := Kd.at_int HR1.out x21_1 p263 q263; cases e263; have hn263_0 : ad263.block ≠ gb262 := Nat.ne_of_lt (Nat.lt_of_lt_of_le (by have := World.block_lt_of_cell? _ _ hx263_0; first | rwa [add_block] at this | exact this) GW262.out); have hn263_1 : ad263.block ≠ gb262 := Nat.ne_of_lt (Nat.lt_of_lt_of_le (by have := World.block_lt_of_cell? _ _ hx263_0; first | rwa [add_block] at this | exact this) GW262.out); replace hx263_0 := (HB.out.cell (World.block_lt_of_cell? w _ hx263_0)).trans hx263_0; replace hx263_0 := (cell_far (p := ⟨gb262, 0, none⟩) (by first | (rw [add_block]; exact hn263_0) | (show (Addr.add _ _).block ≠ _; rw [add_block]; exact hn263_0) | exact hn263_0) (.int .i64 ((rd_T39 l0 x21_1).f0))).trans hx263_0; replace hx263_0 := (cell_far (p := ⟨gb262, 1, none⟩) (by first | (rw [add_block]; exact hn263_1) | (show (Addr.add _ _).block ≠ _; rw [add_block]; exact hn263_1) | exact hn263_1) (.int .i64 ((rd_T39 l0 x21_1).f1))).trans hx263_0; (try have hy263_0 := fun (n_ : Nat) => (show ((((w13.drewN n_).setCell ⟨gb262, 0, none⟩ (.int .i64 ((rd_T39 l0 x21_1).f0))).setCell ⟨gb262, 1, none⟩ (.int .i64 ((rd_T39 l0 x21_1).f1)))).cell? _ = some _ from hx263_0)); clear hn263_0; clear hn263_1; replace p263 := eq_true p263; replace q263 := eq_true q263) | ((with_reducible refine gate_builtin (b := .append) (xs := #[.tmp 33, .tmp 38]) rfl ?_); at_builtin; refine Kd.R_append k39 (w0 := w) w.heap.size rfl (.tmp 33) (.tmp 38) 22 39 (.agg #[(.int .i64 0), (.int .i64 0)]) 16 rfl Try.underlying22 info39 rfl (by decide) (by omega) u9 x9_1 (⟨(rd_T39 l0 x21_1).f0, (-1)⟩ : S39) [.int .i64 ((rd_T39 l0 x21_1).f0), .int .i64 (-1)] (fun k_ => k_ ≠ gb262) (fun _ => False) rfl (by first | (go_simp; done) | (go_simp; rfl)) ?aP (fun _ hk => hk.elim) ?aF ?aO ?aB ?aS ?aL ?_; (case aP => exact k39_mkM _ _ _ (⟨(rd_T39 l0 x21_1).f0, (-1)⟩ : S39)); (case aB => exact (by repeat (first | (with_reducible first | exact HB.out | apply below_alloc | apply pw_below_drewN | apply below_drew1 | refine below_set ?_ GE262.out) | exact HB.out))); (case aF => exact (fun k_ hk => Kd.freshB (g := gb262) (o := .cells #[.int .i64 ((rd_T39 l0 x21_1).f0), .int .i64 ((rd_T39 l0 x21_1).f1)] 39 (0, 0)) (by (with_reducible repeat (first | refine blk_drewN ?_ _ | refine blk_drew ?_ | refine blk_alloc ?_ _)); refine blk_put (cs := #[.int .i64 ((rd_T39 l0 x21_1).f0), .int .i64 0]) ?_ 1 _ rfl; (with_reducible repeat (first | refine blk_drewN ?_ _ | refine blk_drew ?_ | refine blk_alloc ?_ _)); refine blk_put (cs := #[.int .i64 0, .int .i64 0]) ?_ 0 _ rfl; (with_reducible repeat (first | refine blk_drewN ?_ _ | refine blk_drew ?_ | refine blk_alloc ?_ _)); exact BK262.out) k_ hk)); (case aO => exact (by (with_reducible repeat (first | apply Kd.R_alloc | apply Kd.R_drewN | apply Kd.R_drew)); exact Kd.R_mono (Kd.R_far (p := ⟨gb262, 1, none⟩) (Kd.R_far (p := ⟨gb262, 0, none⟩) (Kd.R_mono HO_9.out (fun k_ hk => (⟨hk, hk.2⟩ : _ ∧ k_ ≠ gb262))) (fun _ hk => hk.2) (.int .i64 ((rd_T39 l0 x21_1).f0))) (fun _ hk => hk.2) (.int .i64 ((rd_T39 l0 x21_1).f1))) (fun _ hk => hk.1.2))); (case aS => exact (below_size (by repeat (first | (with_reducible first | exact HB.out | apply below_alloc | apply pw_below_drewN | apply below_drew1 | refine below_set ?_ GE262.out) | exact HB.out)))); (case aL => have := LMc12.out; omega); intro v265 w15 ho hb hg hat; rw [← Ny264.out] at ho; have n0_ := Aside0.mk (blk_grown (g := gb262) (o := .cells #[.int .i64 ((rd_T39 l0 x21_1).f0), .int .i64 ((rd_T39 l0 x21_1).f1)] 39 (0, 0)) (by (with_reducible repeat (first | refine blk_drewN ?_ _ | refine blk_drew ?_ | refine blk_alloc ?_ _)); refine blk_put (cs := #[.int .i64 ((rd_T39 l0 x21_1).f0), .int .i64 0]) ?_ 1 _ rfl; (with_reducible repeat (first | refine blk_drewN ?_ _ | refine blk_drew ?_ | refine blk_alloc ?_ _)); refine blk_put (cs := #[.int .i64 0, .int .i64 0]) ?_ 0 _ rfl; (with_reducible repeat (first | refine blk_drewN ?_ _ | refine blk_drew ?_ | refine blk_alloc ?_ _)); exact BK262.out) hg (Kd.R_away HO_9.out (fun _ hk => hk.2))); have n1_ := Aside0.mk (hb); have n2_ := Aside0.mk (ho); clear BK262; clear HB; clear HO_9; have BK262 := n0_; have HB := n1_; have HO266 := n2_; clear n0_ n1_ n2_; clear ho hb hg hat; have p267 : 0 ≤ (x21_1 : Int) := of_decide_eq_true (by first | (with_reducible assumption) | assumption); have q267 : x21_1 < (l1.length : Int) := of_decide_eq_true (by first | (with_reducible assumption) | assumption); obtain ⟨ad267, e267, hx267_0⟩ := Kd.at_int HR1.out x21_1 p267 q267; obtain rfl : ad263 = ad267 := (by injection e267); replace hx267_0 := (HB.out.cell (World.block_lt_of_cell? w _ hx267_0)).trans hx267_0; replace p267 := eq_true p267; replace q267 := eq_true q267; have hcz16_0 : w15.cell? ⟨gb262, 0, none⟩ = some (.int .i64 ((rd_T39 l0 x21_1).f0)) := (blk_cell BK262.out 0).trans rfl; have hcz16_1 : w15.cell? ⟨gb262, 1, none⟩ = some (.int .i64 ((rd_T39 l0 x21_1).f1)) := (blk_cell BK262.out 1).trans rfl; have hfz16_0 := blk_frozen BK262.out 0; have hfz16_1 := blk_frozen BK262.out 1)); try go_wp2_with (first | ((with_reducible refine gate_dst (N := 12) rfl ?_); refine box_event ?hg (N := 12) ?hd (cs := #[.int .i64 0, .int .i64 0]) (t := 39) ?hr ?_; (case hd => rfl); (case hg => rfl); (case hr => first | (go_simp; done) | (go_simp; rfl)); intro gb262 hg w13 hbox hb; have n0_ := Aside0.mk (Kd.R_below (Kd.R_elderB (by (with_reducible repeat (first | apply Kd.R_alloc | apply Kd.R_drewN | apply Kd.R_drew)); exact HO_9.out) gb262 (Nat.le_of_eq hg.symm)) hb); have n1_ := Aside0.mk (below_step (by repeat (first | (with_reducible first | exact HB.out | apply below_alloc | apply pw_below_drewN | apply below_drew1) | exact HB.out)) hb); have n2_ := Aside0.mk (hbox); have n3_ := Aside0.mk ((by rw [hg]; exact (below_size (by repeat (first | (with_reducible first | exact HB.out | apply below_alloc | apply pw_below_drewN | apply below_drew1) | exact HB.out))) : w.heap.size ≤ gb262)); have n4_ := Aside0.mk ((by rw [hg]; exact (below_size (by repeat (first | (with_reducible first | exact HB.out | apply below_alloc | apply pw_below_drewN | apply below_drew1) | exact HB.out))) : w.heap.size ≤ gb262)); clear HO_9; clear HB; have HO_9 := n0_; have HB := n1_; have BK262 := n2_; have GW262 := n3_; have GE262 := n4_; clear n0_ n1_ n2_ n3_ n4_; clear hb hbox hg; have hcz14_0 : w13.cell? ⟨gb262, 0, none⟩ = some (.int .i64 0) := (blk_cell BK262.out 0).trans rfl; have hcz14_1 : w13.cell? ⟨gb262, 1, none⟩ = some (.int .i64 0) := (blk_cell BK262.out 1).trans rfl; have hfz14_0 := blk_frozen BK262.out 0; have hfz14_1 := blk_frozen BK262.out 1; have p263 : 0 ≤ (x21_1 : Int) := of_decide_eq_true (by first | (with_reducible assumption) | assumption); have q263 : x21_1 < (l1.length : Int) := of_decide_eq_true (by first | (with_reducible assumption) | assumption); obtain ⟨ad263, e263, hx263_0⟩ := Kd.at_int HR1.out x21_1 p263 q263; cases e263; have hn263_0 : ad263.block ≠ gb262 := Nat.ne_of_lt (Nat.lt_of_lt_of_le (by have := World.block_lt_of_cell? _ _ hx263_0; first | rwa [add_block] at this | exact this) GW262.out); have hn263_1 : ad263.block ≠ gb262 := Nat.ne_of_lt (Nat.lt_of_lt_of_le (by have := World.block_lt_of_cell? _ _ hx263_0; first | rwa [add_block] at this | exact this) GW262.out); replace hx263_0 := (HB.out.cell (World.block_lt_of_cell? w _ hx263_0)).trans hx263_0; replace hx263_0 := (cell_far (p := ⟨gb262, 0, none⟩) (by first | (rw [add_block]; exact hn263_0) | (show (Addr.add _ _).block ≠ _; rw [add_block]; exact hn263_0) | exact hn263_0) (.int .i64 ((rd_T39 l0 x21_1).f0))).trans hx263_0; replace hx263_0 := (cell_far (p := ⟨gb262, 1, none⟩) (by first | (rw [add_block]; exact hn263_1) | (show (Addr.add _ _).block ≠ _; rw [add_block]; exact hn263_1) | exact hn263_1) (.int .i64 ((rd_T39 l0 x21_1).f1))).trans hx263_0; (try have hy263_0 := fun (n_ : Nat) => (show ((((w13.drewN n_).setCell ⟨gb262, 0, none⟩ (.int .i64 ((rd_T39 l0 x21_1).f0))).setCell ⟨gb262, 1, none⟩ (.int .i64 ((rd_T39 l0 x21_1).f1)))).cell? _ = some _ from hx263_0)); clear hn263_0; clear hn263_1; replace p263 := eq_true p263; replace q263 := eq_true q263) | ((with_reducible refine gate_builtin (b := .append) (xs := #[.tmp 33, .tmp 38]) rfl ?_); at_builtin; refine Kd.R_append k39 (w0 := w) w.heap.size rfl (.tmp 33) (.tmp 38) 22 39 (.agg #[(.int .i64 0), (.int .i64 0)]) 16 rfl Try.underlying22 info39 rfl (by decide) (by omega) u9 x9_1 (⟨(rd_T39 l0 x21_1).f0, (-1)⟩ : S39) [.int .i64 ((rd_T39 l0 x21_1).f0), .int .i64 (-1)] (fun k_ => k_ ≠ gb262) (fun _ => False) rfl (by first | (go_simp; done) | (go_simp; rfl)) ?aP (fun _ hk => hk.elim) ?aF ?aO ?aB ?aS ?aL ?_; (case aP => exact k39_mkM _ _ _ (⟨(rd_T39 l0 x21_1).f0, (-1)⟩ : S39)); (case aB => exact (by repeat (first | (with_reducible first | exact HB.out | apply below_alloc | apply pw_below_drewN | apply below_drew1 | refine below_set ?_ GE262.out) | exact HB.out))); (case aF => exact (fun k_ hk => Kd.freshB (g := gb262) (o := .cells #[.int .i64 ((rd_T39 l0 x21_1).f0), .int .i64 ((rd_T39 l0 x21_1).f1)] 39 (0, 0)) (by (with_reducible repeat (first | refine blk_drewN ?_ _ | refine blk_drew ?_ | refine blk_alloc ?_ _)); refine blk_put (cs := #[.int .i64 ((rd_T39 l0 x21_1).f0), .int .i64 0]) ?_ 1 _ rfl; (with_reducible repeat (first | refine blk_drewN ?_ _ | refine blk_drew ?_ | refine blk_alloc ?_ _)); refine blk_put (cs := #[.int .i64 0, .int .i64 0]) ?_ 0 _ rfl; (with_reducible repeat (first | refine blk_drewN ?_ _ | refine blk_drew ?_ | refine blk_alloc ?_ _)); exact BK262.out) k_ hk)); (case aO => exact (by (with_reducible repeat (first | apply Kd.R_alloc | apply Kd.R_drewN | apply Kd.R_drew)); exact Kd.R_mono (Kd.R_far (p := ⟨gb262, 1, none⟩) (Kd.R_far (p := ⟨gb262, 0, none⟩) (Kd.R_mono HO_9.out (fun k_ hk => (⟨hk, hk.2⟩ : _ ∧ k_ ≠ gb262))) (fun _ hk => hk.2) (.int .i64 ((rd_T39 l0 x21_1).f0))) (fun _ hk => hk.2) (.int .i64 ((rd_T39 l0 x21_1).f1))) (fun _ hk => hk.1.2))); (case aS => exact (below_size (by repeat (first | (with_reducible first | exact HB.out | apply below_alloc | apply pw_below_drewN | apply below_drew1 | refine below_set ?_ GE262.out) | exact HB.out)))); (case aL => have := LMc12.out; omega); intro v265 w15 ho hb hg hat; rw [← Ny264.out] at ho; have n0_ := Aside0.mk (blk_grown (g := gb262) (o := .cells #[.int .i64 ((rd_T39 l0 x21_1).f0), .int .i64 ((rd_T39 l0 x21_1).f1)] 39 (0, 0)) (by (with_reducible repeat (first | refine blk_drewN ?_ _ | refine blk_drew ?_ | refine blk_alloc ?_ _)); refine blk_put (cs := #[.int .i64 ((rd_T39 l0 x21_1).f0), .int .i64 0]) ?_ 1 _ rfl; (with_reducible repeat (first | refine blk_drewN ?_ _ | refine blk_drew ?_ | refine blk_alloc ?_ _)); refine blk_put (cs := #[.int .i64 0, .int .i64 0]) ?_ 0 _ rfl; (with_reducible repeat (first | refine blk_drewN ?_ _ | refine blk_drew ?_ | refine blk_alloc ?_ _)); exact BK262.out) hg (Kd.R_away HO_9.out (fun _ hk => hk.2))); have n1_ := Aside0.mk (hb); have n2_ := Aside0.mk (ho); clear BK262; clear HB; clear HO_9; have BK262 := n0_; have HB := n1_; have HO266 := n2_; clear n0_ n1_ n2_; clear ho hb hg hat; have p267 : 0 ≤ (x21_1 : Int) := of_decide_eq_true (by first | (with_reducible assumption) | assumption); have q267 : x21_1 < (l1.length : Int) := of_decide_eq_true (by first | (with_reducible assumption) | assumption); obtain ⟨ad267, e267, hx267_0⟩ := Kd.at_int HR1.out x21_1 p267 q267; obtain rfl : ad263 = ad267 := (by injection e267); replace hx267_0 := (HB.out.cell (World.block_lt_of_cell? w _ hx267_0)).trans hx267_0; replace p267 := eq_true p267; replace q267 := eq_true q267; have hcz16_0 : w15.cell? ⟨gb262, 0, none⟩ = some (.int .i64 ((rd_T39 l0 x21_1).f0)) := (blk_cell BK262.out 0).trans rfl; have hcz16_1 : w15.cell? ⟨gb262, 1, none⟩ = some (.int .i64 ((rd_T39 l0 x21_1).f1)) := (blk_cell BK262.out 1).trans rfl; have hfz16_0 := blk_frozen BK262.out 0; have hfz16_1 := blk_frozen BK262.out 1)))
                    go_roundg k1
                    case measure => have := HK1.out; omega
                    case rel => exact ⟨(y264), (wrap64 ((rd l1 x21_1) + ((rd_T39 l0 x21_1).f0))), (wrap64 (x21_1 + 1)), (by first | rfl | (simp; done) | (simp [*]; done)), (by first | rfl | (simp; done) | (simp [*]; done)), H', ⟨by have := HK1.out; omega⟩, ⟨by (with_reducible repeat (first | apply Kd.R_alloc | apply Kd.R_drewN | apply Kd.R_drew)); exact Kd.R_mono HO266.out (fun _ hk => trivial)⟩, ⟨by repeat (first | (with_reducible first | exact HB.out | apply below_alloc | apply pw_below_drewN | apply below_drew1 | refine below_set ?_ GE262.out) | exact HB.out)⟩⟩
                  · rw [if_neg c12] at H
                    exact absurd H (by simp)
                · rw [if_neg c11] at H
                  have c11b0 : ((rd l1 x21_1) == x10_1) = false := beq_eq_false_iff_ne.mpr c11
                  have c11b1 : ((rd l1 x21_1) != x10_1) = true := bne_iff_ne.mpr c11
                  by_cases c17 : x9_1.length < 8796093022208
                  · rw [if_pos c17] at H
                    have LMc17 := Aside0.mk c17
                    clear c17
                    obtain ⟨y268, hy268⟩ : ∃ y_ : List (S39), y_ = (x9_1 ++ [(⟨(rd_T39 l0 x21_1).f0, rd l1 x21_1⟩ : S39)]) := ⟨_, rfl⟩
                    replace H : (lay_Plain.l0 k1 l1 a2 y268 (wrap64 ((rd l1 x21_1) + ((rd_T39 l0 x21_1).f0))) l0 (l0.length : Int) (wrap64 (x21_1 + 1))) = some (r1, r2, r3) := by first | (rw [hy268]; with_reducible exact H) | (have H2_ := (Option.bind_some _ _).symm.trans H; rw [hy268]; with_reducible exact H2_) | (have H2_ := (Option.bind_some _ _).symm.trans H; with_reducible exact H2_) | with_reducible exact H | (rw [hy268]; exact H) | exact H
                    have Ny268 := Aside0.mk hy268
                    clear hy268
                    have H' := Aside0.mk H
                    clear H
                    have p261 : 0 ≤ (x21_1 : Int) := of_decide_eq_true (by first | (with_reducible assumption) | assumption)
                    have q261 : x21_1 < (l0.length : Int) := of_decide_eq_true (by first | (with_reducible assumption) | assumption)
                    obtain ⟨ad261, e261, hx261_0, hx261_1⟩ := at_T39 HR0.out x21_1 p261 q261
                    cases e261
                    replace hx261_0 := (HB.out.cell (World.block_lt_of_cell? w _ hx261_0)).trans hx261_0
                    replace hx261_1 := (HB.out.cell (World.block_lt_of_cell? w _ hx261_1)).trans hx261_1
                    replace p261 := eq_true p261
                    replace q261 := eq_true q261
                    go_wp2_with (first | ((with_reducible refine gate_dst (N := 12) rfl ?_); refine box_event ?hg (N := 12) ?hd (cs := #[.int .i64 0, .int .i64 0]) (t := 39) ?hr ?_; (case hd => rfl); (case hg => rfl); (case hr => first | (go_simp; done) | (go_simp; rfl)); intro gb262 hg w18 hbox hb; have n0_ := Aside0.mk (Kd.R_below (Kd.R_elderB (by (with_reducible repeat (first | apply Kd.R_alloc | apply Kd.R_drewN | apply Kd.R_drew)); exact HO_9.out) gb262 (Nat.le_of_eq hg.symm)) hb); have n1_ := Aside0.mk (below_step (by repeat (first | (with_reducible first | exact HB.out | apply below_alloc | apply pw_below_drewN | apply below_drew1) | exact HB.out)) hb); have n2_ := Aside0.mk (hbox); have n3_ := Aside0.mk ((by rw [hg]; exact (below_size (by repeat (first | (with_reducible first | exact HB.out | apply below_alloc | apply pw_below_drewN | apply below_drew1) | exact HB.out))) : w.heap.size ≤ gb262)); have n4_ := Aside0.mk ((by rw [hg]; exact (below_size (by repeat (first | (with_reducible first | exact HB.out | apply below_alloc | apply pw_below_drewN | apply below_drew1) | exact HB.out))) : w.heap.size ≤ gb262)); clear HO_9; clear HB; have HO_9 := n0_; have HB := n1_; have BK262 := n2_; have GW262 := n3_; have GE262 := n4_; clear n0_ n1_ n2_ n3_ n4_; clear hb hbox hg; have hcz19_0 : w18.cell? ⟨gb262, 0, none⟩ = some (.int .i64 0) := (blk_cell BK262.out 0).trans rfl; have hcz19_1 : w18.cell? ⟨gb262, 1, none⟩ = some (.int .i64 0) := (blk_cell BK262.out 1).trans rfl; have hfz19_0 := blk_frozen BK262.out 0; have hfz19_1 := blk_frozen BK262.out 1; have p263 : 0 ≤ (x21_1 : Int) := of_decide_eq_true (by first | (with_reducible assumption) | assumption); have q263 : x21_1 < (l1.length : Int) := of_decide_eq_true (by first | (with_reducible assumption) | assumption); obtain ⟨ad263, e263, hx263_0⟩ := Kd.at_int HR1.out x21_1 p263 q263; cases e263; have hn263_0 : ad263.block ≠ gb262 := Nat.ne_of_lt (Nat.lt_of_lt_of_le (by have := World.block_lt_of_cell? _ _ hx263_0; first | rwa [add_block] at this | exact this) GW262.out); have hn263_1 : ad263.block ≠ gb262 := Nat.ne_of_lt (Nat.lt_of_lt_of_le (by have := World.block_lt_of_cell? _ _ hx263_0; first | rwa [add_block] at this | exact this) GW262.out); replace hx263_0 := (HB.out.cell (World.block_lt_of_cell? w _ hx263_0)).trans hx263_0; replace hx263_0 := (cell_far (p := ⟨gb262, 0, none⟩) (by first | (rw [add_block]; exact hn263_0) | (show (Addr.add _ _).block ≠ _; rw [add_block]; exact hn263_0) | exact hn263_0) (.int .i64 ((rd_T39 l0 x21_1).f0))).trans hx263_0; replace hx263_0 := (cell_far (p := ⟨gb262, 1, none⟩) (by first | (rw [add_block]; exact hn263_1) | (show (Addr.add _ _).block ≠ _; rw [add_block]; exact hn263_1) | exact hn263_1) (.int .i64 ((rd_T39 l0 x21_1).f1))).trans hx263_0; (try have hy263_0 := fun (n_ : Nat) => (show ((((w18.drewN n_).setCell ⟨gb262, 0, none⟩ (.int .i64 ((rd_T39 l0 x21_1).f0))).setCell ⟨gb262, 1, none⟩ (.int .i64 ((rd_T39 l0 x21_1).f1)))).cell? _ = some _ from hx263_0)); clear hn263_0; clear hn263_1; replace p263 := eq_true p263; replace q263 := eq_true q263) | ((with_reducible refine gate_builtin (b := .append) (xs := #[.tmp 33, .tmp 38]) rfl ?_); at_builtin; refine Kd.R_append k39 (w0 := w) w.heap.size rfl (.tmp 33) (.tmp 38) 22 39 (.agg #[(.int .i64 0), (.int .i64 0)]) 16 rfl Try.underlying22 info39 rfl (by decide) (by omega) u9 x9_1 (⟨(rd_T39 l0 x21_1).f0, rd l1 x21_1⟩ : S39) [.int .i64 ((rd_T39 l0 x21_1).f0), .int .i64 (rd l1 x21_1)] (fun k_ => k_ ≠ gb262) (fun _ => False) rfl (by first | (go_simp; done) | (go_simp; rfl)) ?aP (fun _ hk => hk.elim) ?aF ?aO ?aB ?aS ?aL ?_; (case aP => exact k39_mkM _ _ _ (⟨(rd_T39 l0 x21_1).f0, rd l1 x21_1⟩ : S39)); (case aB => exact (by repeat (first | (with_reducible first | exact HB.out | apply below_alloc | apply pw_below_drewN | apply below_drew1 | refine below_set ?_ GE262.out) | exact HB.out))); (case aF => exact (fun k_ hk => Kd.freshB (g := gb262) (o := .cells #[.int .i64 ((rd_T39 l0 x21_1).f0), .int .i64 ((rd_T39 l0 x21_1).f1)] 39 (0, 0)) (by (with_reducible repeat (first | refine blk_drewN ?_ _ | refine blk_drew ?_ | refine blk_alloc ?_ _)); refine blk_put (cs := #[.int .i64 ((rd_T39 l0 x21_1).f0), .int .i64 0]) ?_ 1 _ rfl; (with_reducible repeat (first | refine blk_drewN ?_ _ | refine blk_drew ?_ | refine blk_alloc ?_ _)); refine blk_put (cs := #[.int .i64 0, .int .i64 0]) ?_ 0 _ rfl; (with_reducible repeat (first | refine blk_drewN ?_ _ | refine blk_drew ?_ | refine blk_alloc ?_ _)); exact BK262.out) k_ hk)); (case aO => exact (by (with_reducible repeat (first | apply Kd.R_alloc | apply Kd.R_drewN | apply Kd.R_drew)); exact Kd.R_mono (Kd.R_far (p := ⟨gb262, 1, none⟩) (Kd.R_far (p := ⟨gb262, 0, none⟩) (Kd.R_mono HO_9.out (fun k_ hk => (⟨hk, hk.2⟩ : _ ∧ k_ ≠ gb262))) (fun _ hk => hk.2) (.int .i64 ((rd_T39 l0 x21_1).f0))) (fun _ hk => hk.2) (.int .i64 ((rd_T39 l0 x21_1).f1))) (fun _ hk => hk.1.2))); (case aS => exact (below_size (by repeat (first | (with_reducible first | exact HB.out | apply below_alloc | apply pw_below_drewN | apply below_drew1 | refine below_set ?_ GE262.out) | exact HB.out)))); (case aL => have := LMc17.out; omega); intro v269 w20 ho hb hg hat; rw [← Ny268.out] at ho; have n0_ := Aside0.mk (blk_grown (g := gb262) (o := .cells #[.int .i64 ((rd_T39 l0 x21_1).f0), .int .i64 ((rd_T39 l0 x21_1).f1)] 39 (0, 0)) (by (with_reducible repeat (first | refine blk_drewN ?_ _ | refine blk_drew ?_ | refine blk_alloc ?_ _)); refine blk_put (cs := #[.int .i64 ((rd_T39 l0 x21_1).f0), .int .i64 0]) ?_ 1 _ rfl; (with_reducible repeat (first | refine blk_drewN ?_ _ | refine blk_drew ?_ | refine blk_alloc ?_ _)); refine blk_put (cs := #[.int .i64 0, .int .i64 0]) ?_ 0 _ rfl; (with_reducible repeat (first | refine blk_drewN ?_ _ | refine blk_drew ?_ | refine blk_alloc ?_ _)); exact BK262.out) hg (Kd.R_away HO_9.out (fun _ hk => hk.2))); have n1_ := Aside0.mk (hb); have n2_ := Aside0.mk (ho); clear BK262; clear HB; clear HO_9; have BK262 := n0_; have HB := n1_; have HO270 := n2_; clear n0_ n1_ n2_; clear ho hb hg hat; have p271 : 0 ≤ (x21_1 : Int) := of_decide_eq_true (by first | (with_reducible assumption) | assumption); have q271 : x21_1 < (l1.length : Int) := of_decide_eq_true (by first | (with_reducible assumption) | assumption); obtain ⟨ad271, e271, hx271_0⟩ := Kd.at_int HR1.out x21_1 p271 q271; obtain rfl : ad263 = ad271 := (by injection e271); replace hx271_0 := (HB.out.cell (World.block_lt_of_cell? w _ hx271_0)).trans hx271_0; replace p271 := eq_true p271; replace q271 := eq_true q271; have hcz21_0 : w20.cell? ⟨gb262, 0, none⟩ = some (.int .i64 ((rd_T39 l0 x21_1).f0)) := (blk_cell BK262.out 0).trans rfl; have hcz21_1 : w20.cell? ⟨gb262, 1, none⟩ = some (.int .i64 ((rd_T39 l0 x21_1).f1)) := (blk_cell BK262.out 1).trans rfl; have hfz21_0 := blk_frozen BK262.out 0; have hfz21_1 := blk_frozen BK262.out 1))
                    repeat (go_quiet (first | ((with_reducible refine gate_dst (N := 12) rfl ?_); refine box_event ?hg (N := 12) ?hd (cs := #[.int .i64 0, .int .i64 0]) (t := 39) ?hr ?_; (case hd => rfl); (case hg => rfl); (case hr => first | (go_simp; done) | (go_simp; rfl)); intro gb262 hg w18 hbox hb; have n0_ := Aside0.mk (Kd.R_below (Kd.R_elderB (by (with_reducible repeat (first | apply Kd.R_alloc | apply Kd.R_drewN | apply Kd.R_drew)); exact HO_9.out) gb262 (Nat.le_of_eq hg.symm)) hb); have n1_ := Aside0.mk (below_step (by repeat (first | (with_reducible first | exact HB.out | apply below_alloc | apply pw_below_drewN | apply below_drew1) | exact HB.out)) hb); have n2_ := Aside0.mk (hbox); have n3_ := Aside0.mk ((by rw [hg]; exact (below_size (by repeat (first | (with_reducible first | exact HB.out | apply below_alloc | apply pw_below_drewN | apply below_drew1) | exact HB.out))) : w.heap.size ≤ gb262)); have n4_ := Aside0.mk ((by rw [hg]; exact (below_size (by repeat (first | (with_reducible first | exact HB.out | apply below_alloc | apply pw_below_drewN | apply below_drew1) | exact HB.out))) : w.heap.size ≤ gb262)); clear HO_9; clear HB; have HO_9 := n0_; have HB := n1_; have BK262 := n2_; have GW262 := n3_; have GE262 := n4_; clear n0_ n1_ n2_ n3_ n4_; clear hb hbox hg; have hcz19_0 : w18.cell? ⟨gb262, 0, none⟩ = some (.int .i64 0) := (blk_cell BK262.out 0).trans rfl; have hcz19_1 : w18.cell? ⟨gb262, 1, none⟩ = some (.int .i64 0) := (blk_cell BK262.out 1).trans rfl; have hfz19_0 := blk_frozen BK262.out 0; have hfz19_1 := blk_frozen BK262.out 1; have p263 : 0 ≤ (x21_1 : Int) := of_decide_eq_true (by first | (with_reducible assumption) | assumption); have q263 : x21_1 < (l1.length : Int) := of_decide_eq_true (by first | (with_reducible assumption) | assumption); obtain ⟨ad263, e263, hx263_0⟩ := Kd.at_int HR1.out x21_1 p263 q263; cases e263; have hn263_0 : ad263.block ≠ gb262 := Nat.ne_of_lt (Nat.lt_of_lt_of_le (by have := World.block_lt_of_cell? _ _ hx263_0; first | rwa [add_block] at this | exact this) GW262.out); have hn263_1 : ad263.block ≠ gb262 := Nat.ne_of_lt (Nat.lt_of_lt_of_le (by have := World.block_lt_of_cell? _ _ hx263_0; first | rwa [add_block] at this | exact this) GW262.out); replace hx263_0 := (HB.out.cell (World.block_lt_of_cell? w _ hx263_0)).trans hx263_0; replace hx263_0 := (cell_far (p := ⟨gb262, 0, none⟩) (by first | (rw [add_block]; exact hn263_0) | (show (Addr.add _ _).block ≠ _; rw [add_block]; exact hn263_0) | exact hn263_0) (.int .i64 ((rd_T39 l0 x21_1).f0))).trans hx263_0; replace hx263_0 := (cell_far (p := ⟨gb262, 1, none⟩) (by first | (rw [add_block]; exact hn263_1) | (show (Addr.add _ _).block ≠ _; rw [add_block]; exact hn263_1) | exact hn263_1) (.int .i64 ((rd_T39 l0 x21_1).f1))).trans hx263_0; (try have hy263_0 := fun (n_ : Nat) => (show ((((w18.drewN n_).setCell ⟨gb262, 0, none⟩ (.int .i64 ((rd_T39 l0 x21_1).f0))).setCell ⟨gb262, 1, none⟩ (.int .i64 ((rd_T39 l0 x21_1).f1)))).cell? _ = some _ from hx263_0)); clear hn263_0; clear hn263_1; replace p263 := eq_true p263; replace q263 := eq_true q263) | ((with_reducible refine gate_builtin (b := .append) (xs := #[.tmp 33, .tmp 38]) rfl ?_); at_builtin; refine Kd.R_append k39 (w0 := w) w.heap.size rfl (.tmp 33) (.tmp 38) 22 39 (.agg #[(.int .i64 0), (.int .i64 0)]) 16 rfl Try.underlying22 info39 rfl (by decide) (by omega) u9 x9_1 (⟨(rd_T39 l0 x21_1).f0, rd l1 x21_1⟩ : S39) [.int .i64 ((rd_T39 l0 x21_1).f0), .int .i64 (rd l1 x21_1)] (fun k_ => k_ ≠ gb262) (fun _ => False) rfl (by first | (go_simp; done) | (go_simp; rfl)) ?aP (fun _ hk => hk.elim) ?aF ?aO ?aB ?aS ?aL ?_; (case aP => exact k39_mkM _ _ _ (⟨(rd_T39 l0 x21_1).f0, rd l1 x21_1⟩ : S39)); (case aB => exact (by repeat (first | (with_reducible first | exact HB.out | apply below_alloc | apply pw_below_drewN | apply below_drew1 | refine below_set ?_ GE262.out) | exact HB.out))); (case aF => exact (fun k_ hk => Kd.freshB (g := gb262) (o := .cells #[.int .i64 ((rd_T39 l0 x21_1).f0), .int .i64 ((rd_T39 l0 x21_1).f1)] 39 (0, 0)) (by (with_reducible repeat (first | refine blk_drewN ?_ _ | refine blk_drew ?_ | refine blk_alloc ?_ _)); refine blk_put (cs := #[.int .i64 ((rd_T39 l0 x21_1).f0), .int .i64 0]) ?_ 1 _ rfl; (with_reducible repeat (first | refine blk_drewN ?_ _ | refine blk_drew ?_ | refine blk_alloc ?_ _)); refine blk_put (cs := #[.int .i64 0, .int .i64 0]) ?_ 0 _ rfl; (with_reducible repeat (first | refine blk_drewN ?_ _ | refine blk_drew ?_ | refine blk_alloc ?_ _)); exact BK262.out) k_ hk)); (case aO => exact (by (with_reducible repeat (first | apply Kd.R_alloc | apply Kd.R_drewN | apply Kd.R_drew)); exact Kd.R_mono (Kd.R_far (p := ⟨gb262, 1, none⟩) (Kd.R_far (p := ⟨gb262, 0, none⟩) (Kd.R_mono HO_9.out (fun k_ hk => (⟨hk, hk.2⟩ : _ ∧ k_ ≠ gb262))) (fun _ hk => hk.2) (.int .i64 ((rd_T39 l0 x21_1).f0))) (fun _ hk => hk.2) (.int .i64 ((rd_T39 l0 x21_1).f1))) (fun _ hk => hk.1.2))); (case aS => exact (below_size (by repeat (first | (with_reducible first | exact HB.out | apply below_alloc | apply pw_below_drewN | apply below_drew1 | refine below_set ?_ GE262.out) | exact HB.out)))); (case aL => have := LMc17.out; omega); intro v269 w20 ho hb hg hat; rw [← Ny268.out] at ho; have n0_ := Aside0.mk (blk_grown (g := gb262) (o := .cells #[.int .i64 ((rd_T39 l0 x21_1).f0), .int .i64 ((rd_T39 l0 x21_1).f1)] 39 (0, 0)) (by (with_reducible repeat (first | refine blk_drewN ?_ _ | refine blk_drew ?_ | refine blk_alloc ?_ _)); refine blk_put (cs := #[.int .i64 ((rd_T39 l0 x21_1).f0), .int .i64 0]) ?_ 1 _ rfl; (with_reducible repeat (first | refine blk_drewN ?_ _ | refine blk_drew ?_ | refine blk_alloc ?_ _)); refine blk_put (cs := #[.int .i64 0, .int .i64 0]) ?_ 0 _ rfl; (with_reducible repeat (first | refine blk_drewN ?_ _ | refine blk_drew ?_ | refine blk_alloc ?_ _)); exact BK262.out) hg (Kd.R_away HO_9.out (fun _ hk => hk.2))); have n1_ := Aside0.mk (hb); have n2_ := Aside0.mk (ho); clear BK262; clear HB; clear HO_9; have BK262 := n0_; have HB := n1_; have HO270 := n2_; clear n0_ n1_ n2_; clear ho hb hg hat; have p271 : 0 ≤ (x21_1 : Int) := of_decide_eq_true (by first | (with_reducible assumption) | assumption); have q271 : x21_1 < (l1.length : Int) := of_decide_eq_true (by first | (with_reducible assumption) | assumption); obtain ⟨ad271, e271, hx271_0⟩ := Kd.at_int HR1.out x21_1 p271 q271; obtain rfl : ad263 = ad271 := (by injection e271); replace hx271_0 := (HB.out.cell (World.block_lt_of_cell? w _ hx271_0)).trans hx271_0; replace p271 := eq_true p271; replace q271 := eq_true q271; have hcz21_0 : w20.cell? ⟨gb262, 0, none⟩ = some (.int .i64 ((rd_T39 l0 x21_1).f0)) := (blk_cell BK262.out 0).trans rfl; have hcz21_1 : w20.cell? ⟨gb262, 1, none⟩ = some (.int .i64 ((rd_T39 l0 x21_1).f1)) := (blk_cell BK262.out 1).trans rfl; have hfz21_0 := blk_frozen BK262.out 0; have hfz21_1 := blk_frozen BK262.out 1)); try go_wp2_with (first | ((with_reducible refine gate_dst (N := 12) rfl ?_); refine box_event ?hg (N := 12) ?hd (cs := #[.int .i64 0, .int .i64 0]) (t := 39) ?hr ?_; (case hd => rfl); (case hg => rfl); (case hr => first | (go_simp; done) | (go_simp; rfl)); intro gb262 hg w18 hbox hb; have n0_ := Aside0.mk (Kd.R_below (Kd.R_elderB (by (with_reducible repeat (first | apply Kd.R_alloc | apply Kd.R_drewN | apply Kd.R_drew)); exact HO_9.out) gb262 (Nat.le_of_eq hg.symm)) hb); have n1_ := Aside0.mk (below_step (by repeat (first | (with_reducible first | exact HB.out | apply below_alloc | apply pw_below_drewN | apply below_drew1) | exact HB.out)) hb); have n2_ := Aside0.mk (hbox); have n3_ := Aside0.mk ((by rw [hg]; exact (below_size (by repeat (first | (with_reducible first | exact HB.out | apply below_alloc | apply pw_below_drewN | apply below_drew1) | exact HB.out))) : w.heap.size ≤ gb262)); have n4_ := Aside0.mk ((by rw [hg]; exact (below_size (by repeat (first | (with_reducible first | exact HB.out | apply below_alloc | apply pw_below_drewN | apply below_drew1) | exact HB.out))) : w.heap.size ≤ gb262)); clear HO_9; clear HB; have HO_9 := n0_; have HB := n1_; have BK262 := n2_; have GW262 := n3_; have GE262 := n4_; clear n0_ n1_ n2_ n3_ n4_; clear hb hbox hg; have hcz19_0 : w18.cell? ⟨gb262, 0, none⟩ = some (.int .i64 0) := (blk_cell BK262.out 0).trans rfl; have hcz19_1 : w18.cell? ⟨gb262, 1, none⟩ = some (.int .i64 0) := (blk_cell BK262.out 1).trans rfl; have hfz19_0 := blk_frozen BK262.out 0; have hfz19_1 := blk_frozen BK262.out 1; have p263 : 0 ≤ (x21_1 : Int) := of_decide_eq_true (by first | (with_reducible assumption) | assumption); have q263 : x21_1 < (l1.length : Int) := of_decide_eq_true (by first | (with_reducible assumption) | assumption); obtain ⟨ad263, e263, hx263_0⟩ := Kd.at_int HR1.out x21_1 p263 q263; cases e263; have hn263_0 : ad263.block ≠ gb262 := Nat.ne_of_lt (Nat.lt_of_lt_of_le (by have := World.block_lt_of_cell? _ _ hx263_0; first | rwa [add_block] at this | exact this) GW262.out); have hn263_1 : ad263.block ≠ gb262 := Nat.ne_of_lt (Nat.lt_of_lt_of_le (by have := World.block_lt_of_cell? _ _ hx263_0; first | rwa [add_block] at this | exact this) GW262.out); replace hx263_0 := (HB.out.cell (World.block_lt_of_cell? w _ hx263_0)).trans hx263_0; replace hx263_0 := (cell_far (p := ⟨gb262, 0, none⟩) (by first | (rw [add_block]; exact hn263_0) | (show (Addr.add _ _).block ≠ _; rw [add_block]; exact hn263_0) | exact hn263_0) (.int .i64 ((rd_T39 l0 x21_1).f0))).trans hx263_0; replace hx263_0 := (cell_far (p := ⟨gb262, 1, none⟩) (by first | (rw [add_block]; exact hn263_1) | (show (Addr.add _ _).block ≠ _; rw [add_block]; exact hn263_1) | exact hn263_1) (.int .i64 ((rd_T39 l0 x21_1).f1))).trans hx263_0; (try have hy263_0 := fun (n_ : Nat) => (show ((((w18.drewN n_).setCell ⟨gb262, 0, none⟩ (.int .i64 ((rd_T39 l0 x21_1).f0))).setCell ⟨gb262, 1, none⟩ (.int .i64 ((rd_T39 l0 x21_1).f1)))).cell? _ = some _ from hx263_0)); clear hn263_0; clear hn263_1; replace p263 := eq_true p263; replace q263 := eq_true q263) | ((with_reducible refine gate_builtin (b := .append) (xs := #[.tmp 33, .tmp 38]) rfl ?_); at_builtin; refine Kd.R_append k39 (w0 := w) w.heap.size rfl (.tmp 33) (.tmp 38) 22 39 (.agg #[(.int .i64 0), (.int .i64 0)]) 16 rfl Try.underlying22 info39 rfl (by decide) (by omega) u9 x9_1 (⟨(rd_T39 l0 x21_1).f0, rd l1 x21_1⟩ : S39) [.int .i64 ((rd_T39 l0 x21_1).f0), .int .i64 (rd l1 x21_1)] (fun k_ => k_ ≠ gb262) (fun _ => False) rfl (by first | (go_simp; done) | (go_simp; rfl)) ?aP (fun _ hk => hk.elim) ?aF ?aO ?aB ?aS ?aL ?_; (case aP => exact k39_mkM _ _ _ (⟨(rd_T39 l0 x21_1).f0, rd l1 x21_1⟩ : S39)); (case aB => exact (by repeat (first | (with_reducible first | exact HB.out | apply below_alloc | apply pw_below_drewN | apply below_drew1 | refine below_set ?_ GE262.out) | exact HB.out))); (case aF => exact (fun k_ hk => Kd.freshB (g := gb262) (o := .cells #[.int .i64 ((rd_T39 l0 x21_1).f0), .int .i64 ((rd_T39 l0 x21_1).f1)] 39 (0, 0)) (by (with_reducible repeat (first | refine blk_drewN ?_ _ | refine blk_drew ?_ | refine blk_alloc ?_ _)); refine blk_put (cs := #[.int .i64 ((rd_T39 l0 x21_1).f0), .int .i64 0]) ?_ 1 _ rfl; (with_reducible repeat (first | refine blk_drewN ?_ _ | refine blk_drew ?_ | refine blk_alloc ?_ _)); refine blk_put (cs := #[.int .i64 0, .int .i64 0]) ?_ 0 _ rfl; (with_reducible repeat (first | refine blk_drewN ?_ _ | refine blk_drew ?_ | refine blk_alloc ?_ _)); exact BK262.out) k_ hk)); (case aO => exact (by (with_reducible repeat (first | apply Kd.R_alloc | apply Kd.R_drewN | apply Kd.R_drew)); exact Kd.R_mono (Kd.R_far (p := ⟨gb262, 1, none⟩) (Kd.R_far (p := ⟨gb262, 0, none⟩) (Kd.R_mono HO_9.out (fun k_ hk => (⟨hk, hk.2⟩ : _ ∧ k_ ≠ gb262))) (fun _ hk => hk.2) (.int .i64 ((rd_T39 l0 x21_1).f0))) (fun _ hk => hk.2) (.int .i64 ((rd_T39 l0 x21_1).f1))) (fun _ hk => hk.1.2))); (case aS => exact (below_size (by repeat (first | (with_reducible first | exact HB.out | apply below_alloc | apply pw_below_drewN | apply below_drew1 | refine below_set ?_ GE262.out) | exact HB.out)))); (case aL => have := LMc17.out; omega); intro v269 w20 ho hb hg hat; rw [← Ny268.out] at ho; have n0_ := Aside0.mk (blk_grown (g := gb262) (o := .cells #[.int .i64 ((rd_T39 l0 x21_1).f0), .int .i64 ((rd_T39 l0 x21_1).f1)] 39 (0, 0)) (by (with_reducible repeat (first | refine blk_drewN ?_ _ | refine blk_drew ?_ | refine blk_alloc ?_ _)); refine blk_put (cs := #[.int .i64 ((rd_T39 l0 x21_1).f0), .int .i64 0]) ?_ 1 _ rfl; (with_reducible repeat (first | refine blk_drewN ?_ _ | refine blk_drew ?_ | refine blk_alloc ?_ _)); refine blk_put (cs := #[.int .i64 0, .int .i64 0]) ?_ 0 _ rfl; (with_reducible repeat (first | refine blk_drewN ?_ _ | refine blk_drew ?_ | refine blk_alloc ?_ _)); exact BK262.out) hg (Kd.R_away HO_9.out (fun _ hk => hk.2))); have n1_ := Aside0.mk (hb); have n2_ := Aside0.mk (ho); clear BK262; clear HB; clear HO_9; have BK262 := n0_; have HB := n1_; have HO270 := n2_; clear n0_ n1_ n2_; clear ho hb hg hat; have p271 : 0 ≤ (x21_1 : Int) := of_decide_eq_true (by first | (with_reducible assumption) | assumption); have q271 : x21_1 < (l1.length : Int) := of_decide_eq_true (by first | (with_reducible assumption) | assumption); obtain ⟨ad271, e271, hx271_0⟩ := Kd.at_int HR1.out x21_1 p271 q271; obtain rfl : ad263 = ad271 := (by injection e271); replace hx271_0 := (HB.out.cell (World.block_lt_of_cell? w _ hx271_0)).trans hx271_0; replace p271 := eq_true p271; replace q271 := eq_true q271; have hcz21_0 : w20.cell? ⟨gb262, 0, none⟩ = some (.int .i64 ((rd_T39 l0 x21_1).f0)) := (blk_cell BK262.out 0).trans rfl; have hcz21_1 : w20.cell? ⟨gb262, 1, none⟩ = some (.int .i64 ((rd_T39 l0 x21_1).f1)) := (blk_cell BK262.out 1).trans rfl; have hfz21_0 := blk_frozen BK262.out 0; have hfz21_1 := blk_frozen BK262.out 1)))
                    go_roundg k1
                    case measure => have := HK1.out; omega
                    case rel => exact ⟨(y268), (wrap64 ((rd l1 x21_1) + ((rd_T39 l0 x21_1).f0))), (wrap64 (x21_1 + 1)), (by first | rfl | (simp; done) | (simp [*]; done)), (by first | rfl | (simp; done) | (simp [*]; done)), H', ⟨by have := HK1.out; omega⟩, ⟨by (with_reducible repeat (first | apply Kd.R_alloc | apply Kd.R_drewN | apply Kd.R_drew)); exact Kd.R_mono HO270.out (fun _ hk => trivial)⟩, ⟨by repeat (first | (with_reducible first | exact HB.out | apply below_alloc | apply pw_below_drewN | apply below_drew1 | refine below_set ?_ GE262.out) | exact HB.out)⟩⟩
                  · rw [if_neg c17] at H
                    exact absurd H (by simp)
              · rw [if_neg c10] at H
                exact absurd H (by simp)
            · rw [if_neg c9] at H
              exact absurd H (by simp)
          · rw [if_neg c8] at H
            exact absurd H (by simp)
        · rw [if_neg c7] at H
          have c7b0 : decide (x21_1 < (l0.length : Int)) = false := decide_eq_false c7
          clear c7
          by_cases c22 : a2 = x10_1
          · rw [if_pos c22] at H
            have c22b0 : (a2 == x10_1) = true := beq_iff_eq.mpr c22
            have c22b1 : (a2 != x10_1) = false := bne_eq_false_iff_eq.mpr c22
            clear c22
            simp only [Option.some.injEq, Prod.mk.injEq] at H
            obtain ⟨rfl, rfl, rfl⟩ := H
            go_wp2
            repeat (go_quiet (fail); try go_wp2)
            go_ret3
            exact ⟨_, by first | rfl | (simp [errW_none, errW_some] <;> rfl) | (simp [*, errW_none, errW_some] <;> rfl), by (with_reducible repeat (first | apply Kd.R_alloc | apply Kd.R_drewN | apply Kd.R_drew)); exact HO_9.out, by repeat (first | (with_reducible first | exact HB.out | apply below_alloc | apply pw_below_drewN | apply below_drew1) | exact HB.out)⟩
          · rw [if_neg c22] at H
            have c22b0 : (a2 == x10_1) = false := beq_eq_false_iff_ne.mpr c22
            have c22b1 : (a2 != x10_1) = true := bne_iff_ne.mpr c22
            simp only [Option.some.injEq, Prod.mk.injEq] at H
            obtain ⟨rfl, rfl, rfl⟩ := H
            go_wp2
            repeat (go_quiet (fail); try go_wp2)
            go_ret3
            exact ⟨_, by first | rfl | (simp [errW_none, errW_some] <;> rfl) | (simp [*, errW_none, errW_some] <;> rfl), by (with_reducible repeat (first | apply Kd.R_alloc | apply Kd.R_drewN | apply Kd.R_drew)); exact HO_9.out, by repeat (first | (with_reducible first | exact HB.out | apply below_alloc | apply pw_below_drewN | apply below_drew1) | exact HB.out)⟩
  · replace c5 := Bool.eq_false_iff.mpr c5
    subst c5
    have H1 : (some (([] : List (S39)), 0, 73)) = some (r1, r2, r3) := by rw [if_neg (show ¬ (false = true) by decide)] at H; exact H
    clear H
    have H := H1
    clear H1
    simp only [Option.some.injEq, Prod.mk.injEq] at H
    obtain ⟨rfl, rfl, rfl⟩ := H
    go_enter Try.func22, Try.ntmps22
    go_wp2_with (first | (go_at_call 31; (with_reducible refine (lay_laid.calls _ _ l0 _ _ l1 a2 false _ ?side1 ?side2 ?side3 ?side4 A4.out).mono ?_); (case side1 => repeat (first | exact HR0.out | (with_reducible refine Kd.C_alloc ?_ _) | (with_reducible refine Kd.C_drewN ?_ _) | (with_reducible refine Kd.C_drew ?_))); (case side2 => exact HC0.out); (case side3 => repeat (first | exact HR1.out | (with_reducible refine Kd.C_alloc ?_ _) | (with_reducible refine Kd.C_drewN ?_ _) | (with_reducible refine Kd.C_drew ?_))); (case side4 => exact HC1.out); rintro e w23 ⟨rfl, hb⟩; have n0_ := Aside0.mk (below_step (by repeat (first | (with_reducible first | exact HB.out | apply below_alloc | apply pw_below_drewN | apply below_drew1) | exact HB.out)) hb); clear HB; have HB := n0_; clear n0_; (try clear hb); (try clear hb2); (try clear hk); (try clear hi)))
    repeat (go_quiet (first | (go_at_call 31; (with_reducible refine (lay_laid.calls _ _ l0 _ _ l1 a2 false _ ?side1 ?side2 ?side3 ?side4 A4.out).mono ?_); (case side1 => repeat (first | exact HR0.out | (with_reducible refine Kd.C_alloc ?_ _) | (with_reducible refine Kd.C_drewN ?_ _) | (with_reducible refine Kd.C_drew ?_))); (case side2 => exact HC0.out); (case side3 => repeat (first | exact HR1.out | (with_reducible refine Kd.C_alloc ?_ _) | (with_reducible refine Kd.C_drewN ?_ _) | (with_reducible refine Kd.C_drew ?_))); (case side4 => exact HC1.out); rintro e w23 ⟨rfl, hb⟩; have n0_ := Aside0.mk (below_step (by repeat (first | (with_reducible first | exact HB.out | apply below_alloc | apply pw_below_drewN | apply below_drew1) | exact HB.out)) hb); clear HB; have HB := n0_; clear n0_; (try clear hb); (try clear hb2); (try clear hk); (try clear hi))); try go_wp2_with (first | (go_at_call 31; (with_reducible refine (lay_laid.calls _ _ l0 _ _ l1 a2 false _ ?side1 ?side2 ?side3 ?side4 A4.out).mono ?_); (case side1 => repeat (first | exact HR0.out | (with_reducible refine Kd.C_alloc ?_ _) | (with_reducible refine Kd.C_drewN ?_ _) | (with_reducible refine Kd.C_drew ?_))); (case side2 => exact HC0.out); (case side3 => repeat (first | exact HR1.out | (with_reducible refine Kd.C_alloc ?_ _) | (with_reducible refine Kd.C_drewN ?_ _) | (with_reducible refine Kd.C_drew ?_))); (case side4 => exact HC1.out); rintro e w23 ⟨rfl, hb⟩; have n0_ := Aside0.mk (below_step (by repeat (first | (with_reducible first | exact HB.out | apply below_alloc | apply pw_below_drewN | apply below_drew1) | exact HB.out)) hb); clear HB; have HB := n0_; clear n0_; (try clear hb); (try clear hb2); (try clear hk); (try clear hi))))
    go_ret3
    exact ⟨_, by first | rfl | (simp [errW_none, errW_some] <;> rfl) | (simp [*, errW_none, errW_some] <;> rfl), by first | exact Kd.R_nil _ _ _ _ _ | exact Kd.N_nil _ _ _ _ _ | exact Kd.V_nil _ _ _ _ _ | exact Kd.Q_nil _ _ _ _ _ | exact Kd.S_nil _ _ _ _ _, by repeat (first | (with_reducible first | exact HB.out | apply below_alloc | apply pw_below_drewN | apply below_drew1) | exact HB.out)⟩

/-! ### lay_At: function 24 -/
mutual
def lay_At.l0 : Nat → List (S39) → List Int → Int → Int → Int → Option (Int)
  | 0, _, _, _, _, _ => none
  | k + 1, x0, x1, x2, x12, x13 => if x13 < x12 then (if 0 ≤ x13 then (if x13 < (x1.length : Int) then (if (rd x1 x13) ≤ x2 then (if x13 < (x0.length : Int) then (if ((rd_T39 x0 x13).f0) > 0 then (lay_At.j1 k x0 x1 x2 x13 x12 x13 (decide ((IntKind.u64.wrap ((IntKind.u64.wrap (x2)) - (IntKind.u64.wrap (rd x1 x13)))) < (IntKind.u64.wrap ((rd_T39 x0 x13).f0))))) else (lay_At.j1 k x0 x1 x2 x13 x12 x13 false)) else (none)) else (lay_At.j1 k x0 x1 x2 x13 x12 x13 false)) else (none)) else (none)) else (some (-1))
def lay_At.j1 : Nat → List (S39) → List Int → Int → Int → Int → Int → Bool → Option (Int)
  | 0, _, _, _, _, _, _, _ => none
  | k + 1, x0, x1, x2, x7, x12, x13, x46 => if x46 = true then (some x7) else (lay_At.l0 k x0 x1 x2 x12 (wrap64 (x13 + 1)))
end
def lay_At.f (k : Nat) (l0 : List (S39)) (l1 : List Int) (a2 : Int) : Option (Int) := lay_At.l0 k l0 l1 a2 (mn (l0.length : Int) (l1.length : Int)) 0
theorem lay_At.mono_l : ∀ k, (∀ y0 y1 y2 y3 y4, LeO (lay_At.l0 k y0 y1 y2 y3 y4) (lay_At.l0 (k + 1) y0 y1 y2 y3 y4)) ∧ (∀ y0 y1 y2 y3 y4 y5 y6, LeO (lay_At.j1 k y0 y1 y2 y3 y4 y5 y6) (lay_At.j1 (k + 1) y0 y1 y2 y3 y4 y5 y6))
  | 0 => ⟨fun _ _ _ _ _ r h => by simp [lay_At.l0] at h, fun _ _ _ _ _ _ _ r h => by simp [lay_At.j1] at h⟩
  | k + 1 => by
    obtain ⟨ih0, ih1⟩ := lay_At.mono_l k
    refine ⟨?_, ?_⟩
    · intro y0 y1 y2 y3 y4
      unfold lay_At.l0
      repeat' first
      | (with_reducible exact ih0 _ _ _ _ _)
      | (with_reducible exact ih1 _ _ _ _ _ _ _)
      | (with_reducible exact LeO.refl _)
      | (with_reducible exact LeO.none _)
      | (with_reducible refine LeO.ite ?_ ?_)
      | (with_reducible refine LeO.bind ?_ (fun _ => ?_))
      | exact ih0 _ _ _ _ _
      | exact ih1 _ _ _ _ _ _ _
      | exact LeO.none _
      | refine LeO.ite ?_ ?_
      | refine LeO.bind ?_ (fun _ => ?_)
    · intro y0 y1 y2 y3 y4 y5 y6
      unfold lay_At.j1
      repeat' first
      | (with_reducible exact ih0 _ _ _ _ _)
      | (with_reducible exact ih1 _ _ _ _ _ _ _)
      | (with_reducible exact LeO.refl _)
      | (with_reducible exact LeO.none _)
      | (with_reducible refine LeO.ite ?_ ?_)
      | (with_reducible refine LeO.bind ?_ (fun _ => ?_))
      | exact ih0 _ _ _ _ _
      | exact ih1 _ _ _ _ _ _ _
      | exact LeO.none _
      | refine LeO.ite ?_ ?_
      | refine LeO.bind ?_ (fun _ => ?_)
theorem lay_At.mono : ∀ a0 a1 a2 k, LeO (lay_At.f k a0 a1 a2) (lay_At.f (k + 1) a0 a1 a2) := by
  intro a0 a1 a2 k
  obtain ⟨ih0, ih1⟩ := lay_At.mono_l k
  unfold lay_At.f
  repeat' first
      | (with_reducible exact ih0 _ _ _ _ _)
      | (with_reducible exact ih1 _ _ _ _ _ _ _)
      | (with_reducible exact LeO.refl _)
      | (with_reducible exact LeO.none _)
      | (with_reducible refine LeO.ite ?_ ?_)
      | (with_reducible refine LeO.bind ?_ (fun _ => ?_))
      | exact ih0 _ _ _ _ _
      | exact ih1 _ _ _ _ _ _ _
      | exact LeO.none _
      | refine LeO.ite ?_ ?_
      | refine LeO.bind ?_ (fun _ => ?_)
set_option maxHeartbeats 8000000 in
set_option maxRecDepth 100000 in
theorem lay_At.calls (k : Nat) (A0 : Option Addr) (c0 : Nat) (l0 : List (S39)) (A1 : Option Addr) (c1 : Nat) (l1 : List Int) (a2 : Int) (r : Int) (w : World) (hr0 : Kd.C k39 w A0 l0.length l0) (hc0 : l0.length ≤ c0) (hr1 : Kd.C (Kd.int .i64) w A1 l1.length l1) (hc1 : l1.length ≤ c1) (h : lay_At.f k l0 l1 a2 = some r) :
    Calls Try.prog 24 #[.slice A0 l0.length c0, .slice A1 l1.length c1, .int .i64 a2] w fun e w' => e = .returned (.int .i64 r) ∧ Below w.heap.size w w' := by
  have HR0 := Aside0.mk hr0
  have HC0 := Aside0.mk hc0
  clear hr0 hc0
  have HR1 := Aside0.mk hr1
  have HC1 := Aside0.mk hc1
  clear hr1 hc1
  have HB := Aside0.mk (Below.refl w.heap.size w)
  have H : (lay_At.l0 k l0 l1 a2 (mn (l0.length : Int) (l1.length : Int)) 0) = some r := h
  clear h
  obtain ⟨ji4, hji4⟩ : ∃ j_ : Int, (mn (l0.length : Int) (l1.length : Int)) = j_ := ⟨_, rfl⟩
  replace H : (lay_At.l0 k l0 l1 a2 ji4 0) = some r := by first | (rw [hji4] at H; exact H) | (simp only [hji4] at H ⊢; exact H)
  (try (have hji4l : 0 ≤ ji4 := by (rw [← hji4]; unfold mn; (repeat' split) <;> omega)))
  (try (have hji4m : 0 ≤ ji4 := by omega))
  have hji4_ : (if (l1.length : Int) < (l0.length : Int) then (l1.length : Int) else (l0.length : Int)) = ji4 := hji4
  have hji4n : (if l1.length < l0.length then (l1.length : Int) else (l0.length : Int)) = ji4 := by rw [← hji4_]; simp only [Int.ofNat_lt]
  have H' := Aside0.mk H
  clear H
  go_enter Try.func24, Try.ntmps24
  go_wp2
  repeat (go_quiet (fail); try go_wp2)
  go_loopg [13] k (fun kq v13 w' => ∃ (x13_1 : Int), v13 = .int .i64 x13_1 ∧ Aside0 (lay_At.l0 kq l0 l1 a2 ji4 x13_1 = some r) ∧ Aside0 (kq ≤ k) ∧ Aside0 (Below w.heap.size w w'))
  case atStart => exact ⟨(0), (by first | rfl | (simp; done) | (simp [*]; done)), H', ⟨Nat.le_refl _⟩, ⟨by repeat (first | (with_reducible first | exact HB.out | apply below_alloc | apply pw_below_drewN | apply below_drew1) | exact HB.out)⟩⟩
  case round =>
    clear H'
    try clear c1
    try clear c2
    try clear p2
    obtain ⟨x13_1, rfl, HA, HK1, HB⟩ := hrel
    cases gk with
    | zero => exact absurd HA.out (by simp [lay_At.l0])
    | succ k1 =>
      have H := HA.out
      clear HA
      simp only [lay_At.l0] at H
      by_cases c5 : x13_1 < ji4
      · rw [if_pos c5] at H
        have c5b0 : decide (x13_1 < ji4) = true := decide_eq_true c5
        clear c5
        have HC6 := Aside0.mk H
        clear H
        go_upto_region 4 with (fail)
        repeat (go_quiet (fail); go_upto_region 4 with (fail))
        go_cut [46] (fun v46 wc => ∃ (kq : Nat) (x46_5 : Bool), v46 = .bool x46_5 ∧ Aside0 (lay_At.j1 kq l0 l1 a2 x13_1 ji4 x13_1 x46_5 = some r) ∧ Aside0 (kq ≤ k1) ∧ Aside0 (Below w.heap.size w wc))
        case first =>
          have H := HC6.out
          clear HC6
          by_cases c7 : 0 ≤ x13_1
          · rw [if_pos c7] at H
            have c7b0 : decide (0 ≤ x13_1) = true := decide_eq_true c7
            clear c7
            (first | rw [c7b0] | (simp only [i64_w, i32_w]; rw [c7b0]) | skip)
            by_cases c8 : x13_1 < (l1.length : Int)
            · rw [if_pos c8] at H
              have c8b0 : decide (x13_1 < (l1.length : Int)) = true := decide_eq_true c8
              clear c8
              by_cases c9 : (rd l1 x13_1) ≤ a2
              · rw [if_pos c9] at H
                have c9b0 : decide ((rd l1 x13_1) ≤ a2) = true := decide_eq_true c9
                clear c9
                by_cases c10 : x13_1 < (l0.length : Int)
                · rw [if_pos c10] at H
                  have c10b0 : decide (x13_1 < (l0.length : Int)) = true := decide_eq_true c10
                  clear c10
                  by_cases c11 : ((rd_T39 l0 x13_1).f0) > 0
                  · rw [if_pos c11] at H
                    have c11b0 : decide (0 < ((rd_T39 l0 x13_1).f0)) = true := decide_eq_true c11
                    clear c11
                    have H' := Aside0.mk H
                    clear H
                    have p272 : 0 ≤ (x13_1 : Int) := of_decide_eq_true (by first | (with_reducible assumption) | assumption)
                    have q272 : x13_1 < (l1.length : Int) := of_decide_eq_true (by first | (with_reducible assumption) | assumption)
                    obtain ⟨ad272, e272, hx272_0⟩ := Kd.at_int HR1.out x13_1 p272 q272
                    cases e272
                    replace hx272_0 := (HB.out.cell (World.block_lt_of_cell? w _ hx272_0)).trans hx272_0
                    replace p272 := eq_true p272
                    replace q272 := eq_true q272
                    have p273 : 0 ≤ (x13_1 : Int) := of_decide_eq_true (by first | (with_reducible assumption) | assumption)
                    have q273 : x13_1 < (l0.length : Int) := of_decide_eq_true (by first | (with_reducible assumption) | assumption)
                    obtain ⟨ad273, e273, hx273_0, hx273_1⟩ := at_T39 HR0.out x13_1 p273 q273
                    cases e273
                    replace hx273_0 := (HB.out.cell (World.block_lt_of_cell? w _ hx273_0)).trans hx273_0
                    replace hx273_1 := (HB.out.cell (World.block_lt_of_cell? w _ hx273_1)).trans hx273_1
                    replace p273 := eq_true p273
                    replace q273 := eq_true q273
                    have p274 : 0 ≤ (x13_1 : Int) := of_decide_eq_true (by first | (with_reducible assumption) | assumption)
                    have q274 : x13_1 < (l1.length : Int) := of_decide_eq_true (by first | (with_reducible assumption) | assumption)
                    obtain ⟨ad274, e274, hx274_0⟩ := Kd.at_int HR1.out x13_1 p274 q274
                    obtain rfl : ad272 = ad274 := (by injection e274)
                    replace hx274_0 := (HB.out.cell (World.block_lt_of_cell? w _ hx274_0)).trans hx274_0
                    replace p274 := eq_true p274
                    replace q274 := eq_true q274
                    have p275 : 0 ≤ (x13_1 : Int) := of_decide_eq_true (by first | (with_reducible assumption) | assumption)
                    have q275 : x13_1 < (l0.length : Int) := of_decide_eq_true (by first | (with_reducible assumption) | assumption)
                    obtain ⟨ad275, e275, hx275_0, hx275_1⟩ := at_T39 HR0.out x13_1 p275 q275
                    obtain rfl : ad273 = ad275 := (by injection e275)
                    replace hx275_0 := (HB.out.cell (World.block_lt_of_cell? w _ hx275_0)).trans hx275_0
                    replace hx275_1 := (HB.out.cell (World.block_lt_of_cell? w _ hx275_1)).trans hx275_1
                    replace p275 := eq_true p275
                    replace q275 := eq_true q275
                    go_wp2
                    repeat (go_quiet (fail); try go_wp2)
                    go_meet
                    case rel => exact ⟨_, (decide ((IntKind.u64.wrap ((IntKind.u64.wrap (a2)) - (IntKind.u64.wrap (rd l1 x13_1)))) < (IntKind.u64.wrap ((rd_T39 l0 x13_1).f0)))), (by first | rfl | (simp; done) | (simp [*]; done)), H', ⟨by have := HK1.out; first | omega | exact Nat.le_refl _⟩, ⟨by repeat (first | (with_reducible first | exact HB.out | apply below_alloc | apply pw_below_drewN | apply below_drew1) | exact HB.out)⟩⟩
                  · rw [if_neg c11] at H
                    have c11b0 : decide (0 < ((rd_T39 l0 x13_1).f0)) = false := decide_eq_false c11
                    clear c11
                    have H' := Aside0.mk H
                    clear H
                    have p272 : 0 ≤ (x13_1 : Int) := of_decide_eq_true (by first | (with_reducible assumption) | assumption)
                    have q272 : x13_1 < (l1.length : Int) := of_decide_eq_true (by first | (with_reducible assumption) | assumption)
                    obtain ⟨ad272, e272, hx272_0⟩ := Kd.at_int HR1.out x13_1 p272 q272
                    cases e272
                    replace hx272_0 := (HB.out.cell (World.block_lt_of_cell? w _ hx272_0)).trans hx272_0
                    replace p272 := eq_true p272
                    replace q272 := eq_true q272
                    have p273 : 0 ≤ (x13_1 : Int) := of_decide_eq_true (by first | (with_reducible assumption) | assumption)
                    have q273 : x13_1 < (l0.length : Int) := of_decide_eq_true (by first | (with_reducible assumption) | assumption)
                    obtain ⟨ad273, e273, hx273_0, hx273_1⟩ := at_T39 HR0.out x13_1 p273 q273
                    cases e273
                    replace hx273_0 := (HB.out.cell (World.block_lt_of_cell? w _ hx273_0)).trans hx273_0
                    replace hx273_1 := (HB.out.cell (World.block_lt_of_cell? w _ hx273_1)).trans hx273_1
                    replace p273 := eq_true p273
                    replace q273 := eq_true q273
                    go_wp2
                    repeat (go_quiet (fail); try go_wp2)
                    go_meet
                    case rel => exact ⟨_, (false), (by first | rfl | (simp; done) | (simp [*]; done)), H', ⟨by have := HK1.out; first | omega | exact Nat.le_refl _⟩, ⟨by repeat (first | (with_reducible first | exact HB.out | apply below_alloc | apply pw_below_drewN | apply below_drew1) | exact HB.out)⟩⟩
                · rw [if_neg c10] at H
                  exact absurd H (by simp)
              · rw [if_neg c9] at H
                have c9b0 : decide ((rd l1 x13_1) ≤ a2) = false := decide_eq_false c9
                clear c9
                have H' := Aside0.mk H
                clear H
                have p272 : 0 ≤ (x13_1 : Int) := of_decide_eq_true (by first | (with_reducible assumption) | assumption)
                have q272 : x13_1 < (l1.length : Int) := of_decide_eq_true (by first | (with_reducible assumption) | assumption)
                obtain ⟨ad272, e272, hx272_0⟩ := Kd.at_int HR1.out x13_1 p272 q272
                cases e272
                replace hx272_0 := (HB.out.cell (World.block_lt_of_cell? w _ hx272_0)).trans hx272_0
                replace p272 := eq_true p272
                replace q272 := eq_true q272
                go_wp2
                repeat (go_quiet (fail); try go_wp2)
                go_meet
                case rel => exact ⟨_, (false), (by first | rfl | (simp; done) | (simp [*]; done)), H', ⟨by have := HK1.out; first | omega | exact Nat.le_refl _⟩, ⟨by repeat (first | (with_reducible first | exact HB.out | apply below_alloc | apply pw_below_drewN | apply below_drew1) | exact HB.out)⟩⟩
            · rw [if_neg c8] at H
              exact absurd H (by simp)
          · rw [if_neg c7] at H
            exact absurd H (by simp)
        case rest =>
          clear HC6
          try clear c1
          try clear c2
          try clear p2
          try clear q2
          try clear hx2
          try clear c5
          try clear c5b0
          try clear c7
          try clear c7b0
          try clear c8
          try clear c8b0
          try clear c9
          try clear c9b0
          try clear c10
          try clear c10b0
          try clear c11
          try clear c11b0
          try clear hx272_0
          try clear hx273_0
          try clear hx273_1
          try clear hx274_0
          try clear hx275_0
          try clear hx275_1
          try clear p2
          try clear p272
          try clear p273
          try clear p274
          try clear p275
          try clear q272
          try clear q273
          try clear q274
          try clear q275
          obtain ⟨kq, x46_5, rfl, HA, HJ5, HB⟩ := hcut
          cases kq with
          | zero => exact absurd HA.out (by simp [lay_At.j1])
          | succ kj5 =>
            have H := HA.out
            clear HA
            simp only [lay_At.j1] at H
            by_cases c12 : x46_5 = true
            · subst c12
              have H1 : (some x13_1) = some r := by rw [if_pos rfl] at H; exact H
              clear H
              have H := H1
              clear H1
              obtain rfl := Option.some.inj H
              go_wp2
              repeat (go_quiet (fail); try go_wp2)
              go_ret
              exact ⟨by first | rfl | (simp [errW_none, errW_some] <;> rfl) | (simp only [← hji4]; first | rfl | (simp [errW_none, errW_some] <;> rfl)) | (simp [*, errW_none, errW_some] <;> rfl), by repeat (first | (with_reducible first | exact HB.out | apply below_alloc | apply pw_below_drewN | apply below_drew1) | exact HB.out)⟩
            · replace c12 := Bool.eq_false_iff.mpr c12
              subst c12
              have H1 : (lay_At.l0 kj5 l0 l1 a2 ji4 (wrap64 (x13_1 + 1))) = some r := by rw [if_neg (show ¬ (false = true) by decide)] at H; exact H
              clear H
              have H := H1
              clear H1
              have H' := Aside0.mk H
              clear H
              go_wp2
              repeat (go_quiet (fail); try go_wp2)
              go_roundg kj5
              case measure => have := HK1.out; have := HJ5.out; omega
              case rel => exact ⟨(wrap64 (x13_1 + 1)), (by first | rfl | (simp; done) | (simp [*]; done)), H', ⟨by have := HK1.out; have := HJ5.out; omega⟩, ⟨by repeat (first | (with_reducible first | exact HB.out | apply below_alloc | apply pw_below_drewN | apply below_drew1) | exact HB.out)⟩⟩
      · rw [if_neg c5] at H
        have c5b0 : decide (x13_1 < ji4) = false := decide_eq_false c5
        clear c5
        obtain rfl := Option.some.inj H
        go_wp2
        repeat (go_quiet (fail); try go_wp2)
        go_ret
        exact ⟨by first | rfl | (simp [errW_none, errW_some] <;> rfl) | (simp only [← hji4]; first | rfl | (simp [errW_none, errW_some] <;> rfl)) | (simp [*, errW_none, errW_some] <;> rfl), by repeat (first | (with_reducible first | exact HB.out | apply below_alloc | apply pw_below_drewN | apply below_drew1) | exact HB.out)⟩

/-! ### stencilref07_At: function 25 -/
mutual
def stencilref07_At.l0 : Nat → List (S39) → List Int → Int → Int → Option (Int)
  | 0, _, _, _, _ => none
  | k + 1, x0, x1, x2, x7 => if x7 < (x0.length : Int) then (stencilref07_At.j1 k x0 x1 x2 x7 (decide (x7 < (x1.length : Int)))) else (stencilref07_At.j1 k x0 x1 x2 x7 false)
def stencilref07_At.j1 : Nat → List (S39) → List Int → Int → Int → Bool → Option (Int)
  | 0, _, _, _, _, _ => none
  | k + 1, x0, x1, x2, x7, x18 => if x18 = true then (if 0 ≤ x7 then (if x7 < (x1.length : Int) then (if x2 < (rd x1 x7) then (stencilref07_At.l0 k x0 x1 x2 (wrap64 (x7 + 1))) else (if (rd x1 x7) < 0 then (stencilref07_At.j2 k x0 x1 x2 x7 (rd x1 x7) (decide (x2 ≥ 0))) else (stencilref07_At.j2 k x0 x1 x2 x7 (rd x1 x7) false))) else (none)) else (none)) else (some (-1))
def stencilref07_At.j2 : Nat → List (S39) → List Int → Int → Int → Int → Bool → Option (Int)
  | 0, _, _, _, _, _, _ => none
  | k + 1, x0, x1, x2, x7, x8, x33 => if x33 = true then (if 0 ≤ x7 then (if x7 < (x0.length : Int) then (if ((rd_T39 x0 x7).f0) > 0 then (if x2 < (wrap64 (((rd_T39 x0 x7).f0) + x8)) then (some x7) else (stencilref07_At.l0 k x0 x1 x2 (wrap64 (x7 + 1)))) else (stencilref07_At.l0 k x0 x1 x2 (wrap64 (x7 + 1)))) else (none)) else (none)) else (if 0 ≤ x7 then (if x7 < (x0.length : Int) then (if (wrap64 (x2 - x8)) < ((rd_T39 x0 x7).f0) then (some x7) else (stencilref07_At.l0 k x0 x1 x2 (wrap64 (x7 + 1)))) else (none)) else (none))
end
def stencilref07_At.f (k : Nat) (l0 : List (S39)) (l1 : List Int) (a2 : Int) : Option (Int) := stencilref07_At.l0 k l0 l1 a2 0
theorem stencilref07_At.mono_l : ∀ k, (∀ y0 y1 y2 y3, LeO (stencilref07_At.l0 k y0 y1 y2 y3) (stencilref07_At.l0 (k + 1) y0 y1 y2 y3)) ∧ (∀ y0 y1 y2 y3 y4, LeO (stencilref07_At.j1 k y0 y1 y2 y3 y4) (stencilref07_At.j1 (k + 1) y0 y1 y2 y3 y4)) ∧ (∀ y0 y1 y2 y3 y4 y5, LeO (stencilref07_At.j2 k y0 y1 y2 y3 y4 y5) (stencilref07_At.j2 (k + 1) y0 y1 y2 y3 y4 y5))
  | 0 => ⟨fun _ _ _ _ r h => by simp [stencilref07_At.l0] at h, fun _ _ _ _ _ r h => by simp [stencilref07_At.j1] at h, fun _ _ _ _ _ _ r h => by simp [stencilref07_At.j2] at h⟩
  | k + 1 => by
    obtain ⟨ih0, ih1, ih2⟩ := stencilref07_At.mono_l k
    refine ⟨?_, ?_, ?_⟩
    · intro y0 y1 y2 y3
      unfold stencilref07_At.l0
      repeat' first
      | (with_reducible exact ih0 _ _ _ _)
      | (with_reducible exact ih1 _ _ _ _ _)
      | (with_reducible exact ih2 _ _ _ _ _ _)
      | (with_reducible exact LeO.refl _)
      | (with_reducible exact LeO.none _)
      | (with_reducible refine LeO.ite ?_ ?_)
      | (with_reducible refine LeO.bind ?_ (fun _ => ?_))
      | exact ih0 _ _ _ _
      | exact ih1 _ _ _ _ _
      | exact ih2 _ _ _ _ _ _
      | exact LeO.none _
      | refine LeO.ite ?_ ?_
      | refine LeO.bind ?_ (fun _ => ?_)
    · intro y0 y1 y2 y3 y4
      unfold stencilref07_At.j1
      repeat' first
      | (with_reducible exact ih0 _ _ _ _)
      | (with_reducible exact ih1 _ _ _ _ _)
      | (with_reducible exact ih2 _ _ _ _ _ _)
      | (with_reducible exact LeO.refl _)
      | (with_reducible exact LeO.none _)
      | (with_reducible refine LeO.ite ?_ ?_)
      | (with_reducible refine LeO.bind ?_ (fun _ => ?_))
      | exact ih0 _ _ _ _
      | exact ih1 _ _ _ _ _
      | exact ih2 _ _ _ _ _ _
      | exact LeO.none _
      | refine LeO.ite ?_ ?_
      | refine LeO.bind ?_ (fun _ => ?_)
    · intro y0 y1 y2 y3 y4 y5
      unfold stencilref07_At.j2
      repeat' first
      | (with_reducible exact ih0 _ _ _ _)
      | (with_reducible exact ih1 _ _ _ _ _)
      | (with_reducible exact ih2 _ _ _ _ _ _)
      | (with_reducible exact LeO.refl _)
      | (with_reducible exact LeO.none _)
      | (with_reducible refine LeO.ite ?_ ?_)
      | (with_reducible refine LeO.bind ?_ (fun _ => ?_))
      | exact ih0 _ _ _ _
      | exact ih1 _ _ _ _ _
      | exact ih2 _ _ _ _ _ _
      | exact LeO.none _
      | refine LeO.ite ?_ ?_
      | refine LeO.bind ?_ (fun _ => ?_)
theorem stencilref07_At.mono : ∀ a0 a1 a2 k, LeO (stencilref07_At.f k a0 a1 a2) (stencilref07_At.f (k + 1) a0 a1 a2) := by
  intro a0 a1 a2 k
  obtain ⟨ih0, ih1, ih2⟩ := stencilref07_At.mono_l k
  unfold stencilref07_At.f
  repeat' first
      | (with_reducible exact ih0 _ _ _ _)
      | (with_reducible exact ih1 _ _ _ _ _)
      | (with_reducible exact ih2 _ _ _ _ _ _)
      | (with_reducible exact LeO.refl _)
      | (with_reducible exact LeO.none _)
      | (with_reducible refine LeO.ite ?_ ?_)
      | (with_reducible refine LeO.bind ?_ (fun _ => ?_))
      | exact ih0 _ _ _ _
      | exact ih1 _ _ _ _ _
      | exact ih2 _ _ _ _ _ _
      | exact LeO.none _
      | refine LeO.ite ?_ ?_
      | refine LeO.bind ?_ (fun _ => ?_)
set_option maxHeartbeats 8000000 in
set_option maxRecDepth 100000 in
theorem stencilref07_At.calls (k : Nat) (A0 : Option Addr) (c0 : Nat) (l0 : List (S39)) (A1 : Option Addr) (c1 : Nat) (l1 : List Int) (a2 : Int) (r : Int) (w : World) (hr0 : Kd.C k39 w A0 l0.length l0) (hc0 : l0.length ≤ c0) (hr1 : Kd.C (Kd.int .i64) w A1 l1.length l1) (hc1 : l1.length ≤ c1) (h : stencilref07_At.f k l0 l1 a2 = some r) :
    Calls Try.prog 25 #[.slice A0 l0.length c0, .slice A1 l1.length c1, .int .i64 a2] w fun e w' => e = .returned (.int .i64 r) ∧ Drawn0 w w' := by
  have HR0 := Aside0.mk hr0
  have HC0 := Aside0.mk hc0
  clear hr0 hc0
  have HR1 := Aside0.mk hr1
  have HC1 := Aside0.mk hc1
  clear hr1 hc1
  have H : (stencilref07_At.l0 k l0 l1 a2 0) = some r := h
  clear h
  have H' := Aside0.mk H
  clear H
  go_enter Try.func25, Try.ntmps25
  go_wp2
  go_loopg [7] k (fun kq v7 w' => ∃ (x7_1 : Int), v7 = .int .i64 x7_1 ∧ Aside0 (stencilref07_At.l0 kq l0 l1 a2 x7_1 = some r) ∧ Aside0 (kq ≤ k) ∧ Drawn0 w w')
  case atStart => exact ⟨(0), (by first | rfl | (simp; done) | (simp [*]; done)), H', ⟨Nat.le_refl _⟩, by repeat (first | exact Drawn0.refl _ | apply Drawn0.step)⟩
  case round =>
    clear H'
    try clear c1
    try clear c2
    try clear p2
    obtain ⟨x7_1, rfl, HA, HK1, ⟨m1, rfl⟩⟩ := hrel
    cases gk with
    | zero => exact absurd HA.out (by simp [stencilref07_At.l0])
    | succ k1 =>
      have H := HA.out
      clear HA
      simp only [stencilref07_At.l0] at H
      have HC4 := Aside0.mk H
      clear H
      go_upto_region 2 with (fail)
      go_cut [18] (fun v18 wc => ∃ (kq : Nat) (x18_3 : Bool), v18 = .bool x18_3 ∧ Aside0 (stencilref07_At.j1 kq l0 l1 a2 x7_1 x18_3 = some r) ∧ Aside0 (kq ≤ k1) ∧ Drawn0 w wc)
      case first =>
        have H := HC4.out
        clear HC4
        by_cases c5 : x7_1 < (l0.length : Int)
        · rw [if_pos c5] at H
          have c5b0 : decide (x7_1 < (l0.length : Int)) = true := decide_eq_true c5
          clear c5
          (first | rw [c5b0] | (simp only [i64_w, i32_w]; rw [c5b0]) | skip)
          have H' := Aside0.mk H
          clear H
          go_wp2
          go_meet
          case rel => exact ⟨_, (decide (x7_1 < (l1.length : Int))), (by first | rfl | (simp; done) | (simp [*]; done)), H', ⟨by have := HK1.out; first | omega | exact Nat.le_refl _⟩, by repeat (first | exact Drawn0.refl _ | apply Drawn0.step)⟩
        · rw [if_neg c5] at H
          have c5b0 : decide (x7_1 < (l0.length : Int)) = false := decide_eq_false c5
          clear c5
          (first | rw [c5b0] | (simp only [i64_w, i32_w]; rw [c5b0]) | skip)
          have H' := Aside0.mk H
          clear H
          go_wp2
          go_meet
          case rel => exact ⟨_, (false), (by first | rfl | (simp; done) | (simp [*]; done)), H', ⟨by have := HK1.out; first | omega | exact Nat.le_refl _⟩, by repeat (first | exact Drawn0.refl _ | apply Drawn0.step)⟩
      case rest =>
        clear HC4
        try clear c1
        try clear c2
        try clear p2
        try clear c5
        try clear c5b0
        try clear p2
        obtain ⟨kq, x18_3, rfl, HA, HJ3, ⟨mc3, rfl⟩⟩ := hcut
        cases kq with
        | zero => exact absurd HA.out (by simp [stencilref07_At.j1])
        | succ kj3 =>
          have H := HA.out
          clear HA
          simp only [stencilref07_At.j1] at H
          by_cases c6 : x18_3 = true
          · subst c6
            have H1 : (if 0 ≤ x7_1 then (if x7_1 < (l1.length : Int) then (if a2 < (rd l1 x7_1) then (stencilref07_At.l0 kj3 l0 l1 a2 (wrap64 (x7_1 + 1))) else (if (rd l1 x7_1) < 0 then (stencilref07_At.j2 kj3 l0 l1 a2 x7_1 (rd l1 x7_1) (decide (a2 ≥ 0))) else (stencilref07_At.j2 kj3 l0 l1 a2 x7_1 (rd l1 x7_1) false))) else (none)) else (none)) = some r := by rw [if_pos rfl] at H; exact H
            clear H
            have H := H1
            clear H1
            by_cases c7 : 0 ≤ x7_1
            · rw [if_pos c7] at H
              have c7b0 : decide (0 ≤ x7_1) = true := decide_eq_true c7
              clear c7
              by_cases c8 : x7_1 < (l1.length : Int)
              · rw [if_pos c8] at H
                have c8b0 : decide (x7_1 < (l1.length : Int)) = true := decide_eq_true c8
                clear c8
                by_cases c9 : a2 < (rd l1 x7_1)
                · rw [if_pos c9] at H
                  have c9b0 : decide (a2 < (rd l1 x7_1)) = true := decide_eq_true c9
                  clear c9
                  have H' := Aside0.mk H
                  clear H
                  have p276 : 0 ≤ (x7_1 : Int) := of_decide_eq_true (by first | (with_reducible assumption) | assumption)
                  have q276 : x7_1 < (l1.length : Int) := of_decide_eq_true (by first | (with_reducible assumption) | assumption)
                  obtain ⟨ad276, e276, hx276_0⟩ := Kd.at_int HR1.out x7_1 p276 q276
                  cases e276
                  replace p276 := eq_true p276
                  replace q276 := eq_true q276
                  go_wp2
                  go_roundg kj3
                  case measure => have := HK1.out; have := HJ3.out; omega
                  case rel => exact ⟨(wrap64 (x7_1 + 1)), (by first | rfl | (simp; done) | (simp [*]; done)), H', ⟨by have := HK1.out; have := HJ3.out; omega⟩, by repeat (first | exact Drawn0.refl _ | apply Drawn0.step)⟩
                · rw [if_neg c9] at H
                  have c9b0 : decide (a2 < (rd l1 x7_1)) = false := decide_eq_false c9
                  clear c9
                  have HC10 := Aside0.mk H
                  clear H
                  have p276 : 0 ≤ (x7_1 : Int) := of_decide_eq_true (by first | (with_reducible assumption) | assumption)
                  have q276 : x7_1 < (l1.length : Int) := of_decide_eq_true (by first | (with_reducible assumption) | assumption)
                  obtain ⟨ad276, e276, hx276_0⟩ := Kd.at_int HR1.out x7_1 p276 q276
                  cases e276
                  replace p276 := eq_true p276
                  replace q276 := eq_true q276
                  go_upto_region 6 with (fail)
                  go_cut [33] (fun v33 wc => ∃ (kq : Nat) (x33_9 : Bool), v33 = .bool x33_9 ∧ Aside0 (stencilref07_At.j2 kq l0 l1 a2 x7_1 (rd l1 x7_1) x33_9 = some r) ∧ Aside0 (kq ≤ kj3) ∧ Drawn0 w wc)
                  case first =>
                    have H := HC10.out
                    clear HC10
                    by_cases c11 : (rd l1 x7_1) < 0
                    · rw [if_pos c11] at H
                      have c11b0 : decide ((rd l1 x7_1) < 0) = true := decide_eq_true c11
                      clear c11
                      (first | rw [c11b0] | (simp only [i64_w, i32_w]; rw [c11b0]) | skip)
                      have H' := Aside0.mk H
                      clear H
                      go_wp2
                      go_meet
                      case rel => exact ⟨_, (decide (a2 ≥ 0)), (by first | rfl | (simp; done) | (simp [*]; done)), H', ⟨by have := HK1.out; have := HJ3.out; first | omega | exact Nat.le_refl _⟩, by repeat (first | exact Drawn0.refl _ | apply Drawn0.step)⟩
                    · rw [if_neg c11] at H
                      have c11b0 : decide ((rd l1 x7_1) < 0) = false := decide_eq_false c11
                      clear c11
                      (first | rw [c11b0] | (simp only [i64_w, i32_w]; rw [c11b0]) | skip)
                      have H' := Aside0.mk H
                      clear H
                      go_wp2
                      go_meet
                      case rel => exact ⟨_, (false), (by first | rfl | (simp; done) | (simp [*]; done)), H', ⟨by have := HK1.out; have := HJ3.out; first | omega | exact Nat.le_refl _⟩, by repeat (first | exact Drawn0.refl _ | apply Drawn0.step)⟩
                  case rest =>
                    clear HC10
                    try clear c1
                    try clear c2
                    try clear p2
                    try clear q2
                    try clear hx2
                    try clear c3
                    try clear c5
                    try clear c5b0
                    try clear c6
                    try clear p6
                    try clear c7
                    try clear c7b0
                    try clear c8
                    try clear c8b0
                    try clear c9
                    try clear c9b0
                    try clear c11
                    try clear c11b0
                    try clear hx276_0
                    try clear p2
                    try clear p276
                    try clear q276
                    obtain ⟨kq, x33_9, rfl, HA, HJ9, ⟨mc9, rfl⟩⟩ := hcut
                    cases kq with
                    | zero => exact absurd HA.out (by simp [stencilref07_At.j2])
                    | succ kj9 =>
                      have H := HA.out
                      clear HA
                      simp only [stencilref07_At.j2] at H
                      by_cases c12 : x33_9 = true
                      · subst c12
                        have H1 : (if 0 ≤ x7_1 then (if x7_1 < (l0.length : Int) then (if ((rd_T39 l0 x7_1).f0) > 0 then (if a2 < (wrap64 (((rd_T39 l0 x7_1).f0) + (rd l1 x7_1))) then (some x7_1) else (stencilref07_At.l0 kj9 l0 l1 a2 (wrap64 (x7_1 + 1)))) else (stencilref07_At.l0 kj9 l0 l1 a2 (wrap64 (x7_1 + 1)))) else (none)) else (none)) = some r := by rw [if_pos rfl] at H; exact H
                        clear H
                        have H := H1
                        clear H1
                        by_cases c13 : 0 ≤ x7_1
                        · rw [if_pos c13] at H
                          have c13b0 : decide (0 ≤ x7_1) = true := decide_eq_true c13
                          clear c13
                          by_cases c14 : x7_1 < (l0.length : Int)
                          · rw [if_pos c14] at H
                            have c14b0 : decide (x7_1 < (l0.length : Int)) = true := decide_eq_true c14
                            clear c14
                            by_cases c15 : ((rd_T39 l0 x7_1).f0) > 0
                            · rw [if_pos c15] at H
                              have c15b0 : decide (0 < ((rd_T39 l0 x7_1).f0)) = true := decide_eq_true c15
                              clear c15
                              by_cases c16 : a2 < (wrap64 (((rd_T39 l0 x7_1).f0) + (rd l1 x7_1)))
                              · rw [if_pos c16] at H
                                have c16b0 : decide (a2 < (wrap64 (((rd_T39 l0 x7_1).f0) + (rd l1 x7_1)))) = true := decide_eq_true c16
                                clear c16
                                obtain rfl := Option.some.inj H
                                have p277 : 0 ≤ (x7_1 : Int) := of_decide_eq_true (by first | (with_reducible assumption) | assumption)
                                have q277 : x7_1 < (l0.length : Int) := of_decide_eq_true (by first | (with_reducible assumption) | assumption)
                                obtain ⟨ad277, e277, hx277_0, hx277_1⟩ := at_T39 HR0.out x7_1 p277 q277
                                cases e277
                                replace p277 := eq_true p277
                                replace q277 := eq_true q277
                                have p278 : 0 ≤ (x7_1 : Int) := of_decide_eq_true (by first | (with_reducible assumption) | assumption)
                                have q278 : x7_1 < (l0.length : Int) := of_decide_eq_true (by first | (with_reducible assumption) | assumption)
                                obtain ⟨ad278, e278, hx278_0, hx278_1⟩ := at_T39 HR0.out x7_1 p278 q278
                                obtain rfl : ad277 = ad278 := (by injection e278)
                                replace p278 := eq_true p278
                                replace q278 := eq_true q278
                                go_wp2
                                go_ret
                                exact ⟨by first | rfl | (simp; done) | (simp [*]; done), by repeat (first | exact Drawn0.refl _ | apply Drawn0.step)⟩
                              · rw [if_neg c16] at H
                                have c16b0 : decide (a2 < (wrap64 (((rd_T39 l0 x7_1).f0) + (rd l1 x7_1)))) = false := decide_eq_false c16
                                clear c16
                                have H' := Aside0.mk H
                                clear H
                                have p277 : 0 ≤ (x7_1 : Int) := of_decide_eq_true (by first | (with_reducible assumption) | assumption)
                                have q277 : x7_1 < (l0.length : Int) := of_decide_eq_true (by first | (with_reducible assumption) | assumption)
                                obtain ⟨ad277, e277, hx277_0, hx277_1⟩ := at_T39 HR0.out x7_1 p277 q277
                                cases e277
                                replace p277 := eq_true p277
                                replace q277 := eq_true q277
                                have p278 : 0 ≤ (x7_1 : Int) := of_decide_eq_true (by first | (with_reducible assumption) | assumption)
                                have q278 : x7_1 < (l0.length : Int) := of_decide_eq_true (by first | (with_reducible assumption) | assumption)
                                obtain ⟨ad278, e278, hx278_0, hx278_1⟩ := at_T39 HR0.out x7_1 p278 q278
                                obtain rfl : ad277 = ad278 := (by injection e278)
                                replace p278 := eq_true p278
                                replace q278 := eq_true q278
                                go_wp2
                                go_roundg kj9
                                case measure => have := HK1.out; have := HJ3.out; have := HJ9.out; omega
                                case rel => exact ⟨(wrap64 (x7_1 + 1)), (by first | rfl | (simp; done) | (simp [*]; done)), H', ⟨by have := HK1.out; have := HJ3.out; have := HJ9.out; omega⟩, by repeat (first | exact Drawn0.refl _ | apply Drawn0.step)⟩
                            · rw [if_neg c15] at H
                              have c15b0 : decide (0 < ((rd_T39 l0 x7_1).f0)) = false := decide_eq_false c15
                              clear c15
                              have H' := Aside0.mk H
                              clear H
                              have p277 : 0 ≤ (x7_1 : Int) := of_decide_eq_true (by first | (with_reducible assumption) | assumption)
                              have q277 : x7_1 < (l0.length : Int) := of_decide_eq_true (by first | (with_reducible assumption) | assumption)
                              obtain ⟨ad277, e277, hx277_0, hx277_1⟩ := at_T39 HR0.out x7_1 p277 q277
                              cases e277
                              replace p277 := eq_true p277
                              replace q277 := eq_true q277
                              go_wp2
                              go_roundg kj9
                              case measure => have := HK1.out; have := HJ3.out; have := HJ9.out; omega
                              case rel => exact ⟨(wrap64 (x7_1 + 1)), (by first | rfl | (simp; done) | (simp [*]; done)), H', ⟨by have := HK1.out; have := HJ3.out; have := HJ9.out; omega⟩, by repeat (first | exact Drawn0.refl _ | apply Drawn0.step)⟩
                          · rw [if_neg c14] at H
                            exact absurd H (by simp)
                        · rw [if_neg c13] at H
                          exact absurd H (by simp)
                      · replace c12 := Bool.eq_false_iff.mpr c12
                        subst c12
                        have H1 : (if 0 ≤ x7_1 then (if x7_1 < (l0.length : Int) then (if (wrap64 (a2 - (rd l1 x7_1))) < ((rd_T39 l0 x7_1).f0) then (some x7_1) else (stencilref07_At.l0 kj9 l0 l1 a2 (wrap64 (x7_1 + 1)))) else (none)) else (none)) = some r := by rw [if_neg (show ¬ (false = true) by decide)] at H; exact H
                        clear H
                        have H := H1
                        clear H1
                        by_cases c17 : 0 ≤ x7_1
                        · rw [if_pos c17] at H
                          have c17b0 : decide (0 ≤ x7_1) = true := decide_eq_true c17
                          clear c17
                          by_cases c18 : x7_1 < (l0.length : Int)
                          · rw [if_pos c18] at H
                            have c18b0 : decide (x7_1 < (l0.length : Int)) = true := decide_eq_true c18
                            clear c18
                            by_cases c19 : (wrap64 (a2 - (rd l1 x7_1))) < ((rd_T39 l0 x7_1).f0)
                            · rw [if_pos c19] at H
                              have c19b0 : decide ((wrap64 (a2 - (rd l1 x7_1))) < ((rd_T39 l0 x7_1).f0)) = true := decide_eq_true c19
                              clear c19
                              obtain rfl := Option.some.inj H
                              have p279 : 0 ≤ (x7_1 : Int) := of_decide_eq_true (by first | (with_reducible assumption) | assumption)
                              have q279 : x7_1 < (l0.length : Int) := of_decide_eq_true (by first | (with_reducible assumption) | assumption)
                              obtain ⟨ad279, e279, hx279_0, hx279_1⟩ := at_T39 HR0.out x7_1 p279 q279
                              cases e279
                              replace p279 := eq_true p279
                              replace q279 := eq_true q279
                              go_wp2
                              go_ret
                              exact ⟨by first | rfl | (simp; done) | (simp [*]; done), by repeat (first | exact Drawn0.refl _ | apply Drawn0.step)⟩
                            · rw [if_neg c19] at H
                              have c19b0 : decide ((wrap64 (a2 - (rd l1 x7_1))) < ((rd_T39 l0 x7_1).f0)) = false := decide_eq_false c19
                              clear c19
                              have H' := Aside0.mk H
                              clear H
                              have p279 : 0 ≤ (x7_1 : Int) := of_decide_eq_true (by first | (with_reducible assumption) | assumption)
                              have q279 : x7_1 < (l0.length : Int) := of_decide_eq_true (by first | (with_reducible assumption) | assumption)
                              obtain ⟨ad279, e279, hx279_0, hx279_1⟩ := at_T39 HR0.out x7_1 p279 q279
                              cases e279
                              replace p279 := eq_true p279
                              replace q279 := eq_true q279
                              go_wp2
                              go_roundg kj9
                              case measure => have := HK1.out; have := HJ3.out; have := HJ9.out; omega
                              case rel => exact ⟨(wrap64 (x7_1 + 1)), (by first | rfl | (simp; done) | (simp [*]; done)), H', ⟨by have := HK1.out; have := HJ3.out; have := HJ9.out; omega⟩, by repeat (first | exact Drawn0.refl _ | apply Drawn0.step)⟩
                          · rw [if_neg c18] at H
                            exact absurd H (by simp)
                        · rw [if_neg c17] at H
                          exact absurd H (by simp)
              · rw [if_neg c8] at H
                exact absurd H (by simp)
            · rw [if_neg c7] at H
              exact absurd H (by simp)
          · replace c6 := Bool.eq_false_iff.mpr c6
            subst c6
            have H1 : (some (-1)) = some r := by rw [if_neg (show ¬ (false = true) by decide)] at H; exact H
            clear H
            have H := H1
            clear H1
            obtain rfl := Option.some.inj H
            go_wp2
            go_ret
            exact ⟨by first | rfl | (simp; done) | (simp [*]; done), by repeat (first | exact Drawn0.refl _ | apply Drawn0.step)⟩

-- NOT PRINTED: function 5 (stencillaw07_LayLooks)

end Go.Proofs.Ythckejcoekhdjaa.Q
