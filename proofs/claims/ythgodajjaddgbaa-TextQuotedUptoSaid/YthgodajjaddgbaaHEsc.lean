/- text.unquoter's escaped and hex (layer 2), by hand: an item whole, or cut short at the text's end. Written by gen_esc.py. -/
import Derived.Test.YthgodajjaddgbaaTx0
import Derived.Test.YthgodajjaddgbaaTx2
import Derived.Test.YthgodajjaddgbaaHUnq
import Derived.IntWalk
import Derived.StillTailTactics
import Derived.Deep.RegionLaw
import Derived.Deep.AppendLies
import Derived.BigQuiet
namespace Go.Proofs.Ythgodajjaddgbaa.T
open Go.RowKit Go.Proofs.YthgodajjaddgbaaW.PrintWords Go.Proofs.YthgodajjaddgbaaW.PrintLast Go.Proofs.YthgodajjaddgbaaW.PrintMore
attribute [local go_sem] max2_int min2_int max_two min_two max_three min_three max_four min_four   -- for this text's walks alone
set_option linter.unusedVariables false
set_option linter.unusedSimpArgs false

theorem or16 {x y : Int} (hx0 : 0 ≤ x) (hx1 : x < 16) (h0 : 0 ≤ y) (h1 : y < 16) : bits .or .i64 (wrap64 (x * 16)) y = x * 16 + y := by
  have e : wrap64 (x * 16) = x * 16 := by unfold wrap64; omega
  rw [e]
  exact bits_join .i64 31 (by decide) (fun n h0 h1 => by rw [IntKind.wrap_i64]; omega) 4 (x * 16) y (by omega) (by omega) (by omega) h0 h1 (by omega)
set_option maxHeartbeats 4000000 in
set_option maxRecDepth 100000 in
theorem uq_esc92 (w0 w : World) (g : Nat) (S : ByteArray) (out : List Int) (p : Int) (hU : UqO w w0.heap.size g S p out) (hB : Below w0.heap.size w0 w) (hg : w0.heap.size ≤ g) (hl : out.length < 100000000000000) (p1 p2 : Int) (e1 : wrap64 (p + 1) = p1) (e2 : wrap64 (p1 + 1) = p2) (h0 : 0 ≤ p1) (h1 : p1 < (S.size : Int)) (hyp1 : bt S p1 = 92) :
    Calls Try.prog 36 #[.pointer (some ⟨g, 0, none⟩)] w fun e w' => e = .returned (.bool true) ∧ UqO w' w0.heap.size g S p2 (out ++ [92]) ∧ Below w0.heap.size w0 w' := by
  have HU := Aside0.mk hU
  have HB := Aside0.mk hB
  have HG := Aside0.mk hg
  have HL := Aside0.mk hl
  clear hU hB hg hl
  have hxp1 := bt_at S p1
  rw [hyp1] at hxp1
  have i0p1 := eq_true (show 0 ≤ p1 by assumption)
  have i1p1 := eq_true (show p1 < (S.size : Int) by assumption)
  have dn : (p1 == (S.size : Int)) = false := beq_eq_false_iff_ne.mpr (by omega)
  clear h0 h1 hyp1
  go_enter Try.func36, Try.ntmps36
  go_upto_region 1 with (fail)
  go_cut [10] (fun v10 wc => Aside0 (UqO wc w0.heap.size g S p1 out) ∧ Aside0 (Below w0.heap.size w0 wc))
  case first =>
    obtain ⟨v, c0_, c1_, c2_, f1_, f2_, hR_, hb_⟩ := HU.out.cells
    have HR := Aside0.mk hR_
    have HBK := Aside0.mk hb_
    clear hR_ hb_
    go_wp2
    go_meet
    case rel => exact ⟨⟨by (try rw [e1]); exact UqO.at_ (by (with_reducible repeat (first | exact HU.out | apply UqO.drewN | apply UqO.drew))) _⟩, ⟨Below.setCell (by repeat (first | (with_reducible first | exact HB.out | apply below_alloc | apply pw_below_drewN | apply below_drew1 | apply below_drew) | exact HB.out)) HG.out _⟩⟩
  clear HU HB
  obtain ⟨HU, HB⟩ := hcut
  go_upto_region 2 with (fail)
  go_cut [20] (fun v20 wc => v20 = .bool false ∧ Aside0 (UqO wc w0.heap.size g S p1 out) ∧ Aside0 (Below w0.heap.size w0 wc))
  case first =>
    obtain ⟨v, c0_, c1_, c2_, f1_, f2_, hR_, hb_⟩ := HU.out.cells
    have HR := Aside0.mk hR_
    have HBK := Aside0.mk hb_
    clear hR_ hb_
    go_wp2
    repeat (go_quiet (fail); try go_wp2)
    all_goals
      go_meet
      case rel => exact ⟨rfl, ⟨(by (with_reducible repeat (first | exact HU.out | apply UqO.drewN | apply UqO.drew)))⟩, ⟨(by repeat (first | (with_reducible first | exact HB.out | apply below_alloc | apply pw_below_drewN | apply below_drew1 | apply below_drew) | exact HB.out))⟩⟩
  clear HU HB
  obtain ⟨rfl, HU, HB⟩ := hcut
  go_upto_region 4 with (fail)
  go_cut [3] (fun v3 wc => v3 = .int .u8 92 ∧ Aside0 (UqO wc w0.heap.size g S p1 out) ∧ Aside0 (Below w0.heap.size w0 wc))
  case first =>
    obtain ⟨v, c0_, c1_, c2_, f1_, f2_, hR_, hb_⟩ := HU.out.cells
    have HR := Aside0.mk hR_
    have HBK := Aside0.mk hb_
    clear hR_ hb_
    go_wp2
    repeat (go_quiet (fail); try go_wp2)
    all_goals
      go_meet
      case rel => exact ⟨rfl, ⟨(by (with_reducible repeat (first | exact HU.out | apply UqO.drewN | apply UqO.drew)))⟩, ⟨(by repeat (first | (with_reducible first | exact HB.out | apply below_alloc | apply pw_below_drewN | apply below_drew1 | apply below_drew) | exact HB.out))⟩⟩
  clear HU HB
  obtain ⟨rfl, HU, HB⟩ := hcut
  obtain ⟨v, c0_, c1_, c2_, f1_, f2_, hR_, hb_⟩ := HU.out.cells
  have HR := Aside0.mk hR_
  have HBK := Aside0.mk hb_
  clear hR_ hb_
  go_upto_region 18 with (first | ((with_reducible refine gate_builtin (b := .append) (xs := #[.tmp 38, .tmp 40]) rfl ?_); at_builtin; refine Kd.R_append (Kd.int .u8) (w0 := w0) w0.heap.size rfl (.tmp 38) (.tmp 40) 23 5 (.int .u8 0) 1 rfl Try.underlying23 info5 rfl (by decide) (by decide) v out 92 [.int .u8 92] (fun k => k ≠ g) (fun _ => False) rfl rfl rfl (fun _ hk => hk.elim) (fun k hk => Nat.ne_of_gt (Nat.lt_of_lt_of_le (blk_lt HBK.out) hk)) HR.out HB.out HB.out.size (by have := HL.out; omega) ?_; intro v4 w4 ho hb4 hg4 hat4; obtain ⟨A4, c4, rfl⟩ := Kd.R_slice ho; rw [List.length_append, List.length_singleton] at ho; have HB4 := Aside0.mk hb4; have HO4 := Aside0.mk ho; have HBK4 := Aside0.mk ((hg4.block g (blk_lt HBK.out) (fun e => HR.out.1 g e.symm rfl)).trans HBK.out); clear ho hb4 hg4 hat4; have d1_ := blk_cell HBK4.out 1; have d2_ := blk_cell HBK4.out 2; have df_ := blk_frozen HBK4.out 2; have dg_ := blk_frozen HBK4.out 1; simp only [List.getElem?_toArray, List.getElem?_cons_zero, List.getElem?_cons_succ] at d1_ d2_))
  have HU4 := Aside0.mk (UqO.put HBK4.out HO4.out)
  have HB5 := Aside0.mk (HB4.out.setCell HG.out (p := ⟨g, 2, none⟩) (.slice A4 (out.length + 1) c4))
  clear HU HB c0_ c1_ c2_ f1_ f2_ HR HBK HO4 HB4 HBK4 d1_ d2_ df_ dg_
  obtain ⟨v9, c0_, c1_, c2_, f1_, f2_, hR_, hb_⟩ := HU4.out.cells
  clear hR_ hb_
  go_wp2
  go_ret
  exact ⟨rfl, by (try rw [e2]); exact UqO.at_ HU4.out _, Below.setCell HB5.out HG.out _⟩
set_option maxHeartbeats 4000000 in
set_option maxRecDepth 100000 in
theorem uq_esc34 (w0 w : World) (g : Nat) (S : ByteArray) (out : List Int) (p : Int) (hU : UqO w w0.heap.size g S p out) (hB : Below w0.heap.size w0 w) (hg : w0.heap.size ≤ g) (hl : out.length < 100000000000000) (p1 p2 : Int) (e1 : wrap64 (p + 1) = p1) (e2 : wrap64 (p1 + 1) = p2) (h0 : 0 ≤ p1) (h1 : p1 < (S.size : Int)) (hyp1 : bt S p1 = 34) :
    Calls Try.prog 36 #[.pointer (some ⟨g, 0, none⟩)] w fun e w' => e = .returned (.bool true) ∧ UqO w' w0.heap.size g S p2 (out ++ [34]) ∧ Below w0.heap.size w0 w' := by
  have HU := Aside0.mk hU
  have HB := Aside0.mk hB
  have HG := Aside0.mk hg
  have HL := Aside0.mk hl
  clear hU hB hg hl
  have hxp1 := bt_at S p1
  rw [hyp1] at hxp1
  have i0p1 := eq_true (show 0 ≤ p1 by assumption)
  have i1p1 := eq_true (show p1 < (S.size : Int) by assumption)
  have dn : (p1 == (S.size : Int)) = false := beq_eq_false_iff_ne.mpr (by omega)
  clear h0 h1 hyp1
  go_enter Try.func36, Try.ntmps36
  go_upto_region 1 with (fail)
  go_cut [10] (fun v10 wc => Aside0 (UqO wc w0.heap.size g S p1 out) ∧ Aside0 (Below w0.heap.size w0 wc))
  case first =>
    obtain ⟨v, c0_, c1_, c2_, f1_, f2_, hR_, hb_⟩ := HU.out.cells
    have HR := Aside0.mk hR_
    have HBK := Aside0.mk hb_
    clear hR_ hb_
    go_wp2
    go_meet
    case rel => exact ⟨⟨by (try rw [e1]); exact UqO.at_ (by (with_reducible repeat (first | exact HU.out | apply UqO.drewN | apply UqO.drew))) _⟩, ⟨Below.setCell (by repeat (first | (with_reducible first | exact HB.out | apply below_alloc | apply pw_below_drewN | apply below_drew1 | apply below_drew) | exact HB.out)) HG.out _⟩⟩
  clear HU HB
  obtain ⟨HU, HB⟩ := hcut
  go_upto_region 2 with (fail)
  go_cut [20] (fun v20 wc => v20 = .bool false ∧ Aside0 (UqO wc w0.heap.size g S p1 out) ∧ Aside0 (Below w0.heap.size w0 wc))
  case first =>
    obtain ⟨v, c0_, c1_, c2_, f1_, f2_, hR_, hb_⟩ := HU.out.cells
    have HR := Aside0.mk hR_
    have HBK := Aside0.mk hb_
    clear hR_ hb_
    go_wp2
    repeat (go_quiet (fail); try go_wp2)
    all_goals
      go_meet
      case rel => exact ⟨rfl, ⟨(by (with_reducible repeat (first | exact HU.out | apply UqO.drewN | apply UqO.drew)))⟩, ⟨(by repeat (first | (with_reducible first | exact HB.out | apply below_alloc | apply pw_below_drewN | apply below_drew1 | apply below_drew) | exact HB.out))⟩⟩
  clear HU HB
  obtain ⟨rfl, HU, HB⟩ := hcut
  go_upto_region 4 with (fail)
  go_cut [3] (fun v3 wc => v3 = .int .u8 34 ∧ Aside0 (UqO wc w0.heap.size g S p1 out) ∧ Aside0 (Below w0.heap.size w0 wc))
  case first =>
    obtain ⟨v, c0_, c1_, c2_, f1_, f2_, hR_, hb_⟩ := HU.out.cells
    have HR := Aside0.mk hR_
    have HBK := Aside0.mk hb_
    clear hR_ hb_
    go_wp2
    repeat (go_quiet (fail); try go_wp2)
    all_goals
      go_meet
      case rel => exact ⟨rfl, ⟨(by (with_reducible repeat (first | exact HU.out | apply UqO.drewN | apply UqO.drew)))⟩, ⟨(by repeat (first | (with_reducible first | exact HB.out | apply below_alloc | apply pw_below_drewN | apply below_drew1 | apply below_drew) | exact HB.out))⟩⟩
  clear HU HB
  obtain ⟨rfl, HU, HB⟩ := hcut
  obtain ⟨v, c0_, c1_, c2_, f1_, f2_, hR_, hb_⟩ := HU.out.cells
  have HR := Aside0.mk hR_
  have HBK := Aside0.mk hb_
  clear hR_ hb_
  go_upto_region 18 with (first | ((with_reducible refine gate_builtin (b := .append) (xs := #[.tmp 38, .tmp 40]) rfl ?_); at_builtin; refine Kd.R_append (Kd.int .u8) (w0 := w0) w0.heap.size rfl (.tmp 38) (.tmp 40) 23 5 (.int .u8 0) 1 rfl Try.underlying23 info5 rfl (by decide) (by decide) v out 34 [.int .u8 34] (fun k => k ≠ g) (fun _ => False) rfl rfl rfl (fun _ hk => hk.elim) (fun k hk => Nat.ne_of_gt (Nat.lt_of_lt_of_le (blk_lt HBK.out) hk)) HR.out HB.out HB.out.size (by have := HL.out; omega) ?_; intro v4 w4 ho hb4 hg4 hat4; obtain ⟨A4, c4, rfl⟩ := Kd.R_slice ho; rw [List.length_append, List.length_singleton] at ho; have HB4 := Aside0.mk hb4; have HO4 := Aside0.mk ho; have HBK4 := Aside0.mk ((hg4.block g (blk_lt HBK.out) (fun e => HR.out.1 g e.symm rfl)).trans HBK.out); clear ho hb4 hg4 hat4; have d1_ := blk_cell HBK4.out 1; have d2_ := blk_cell HBK4.out 2; have df_ := blk_frozen HBK4.out 2; have dg_ := blk_frozen HBK4.out 1; simp only [List.getElem?_toArray, List.getElem?_cons_zero, List.getElem?_cons_succ] at d1_ d2_))
  have HU4 := Aside0.mk (UqO.put HBK4.out HO4.out)
  have HB5 := Aside0.mk (HB4.out.setCell HG.out (p := ⟨g, 2, none⟩) (.slice A4 (out.length + 1) c4))
  clear HU HB c0_ c1_ c2_ f1_ f2_ HR HBK HO4 HB4 HBK4 d1_ d2_ df_ dg_
  obtain ⟨v9, c0_, c1_, c2_, f1_, f2_, hR_, hb_⟩ := HU4.out.cells
  clear hR_ hb_
  go_wp2
  go_ret
  exact ⟨rfl, by (try rw [e2]); exact UqO.at_ HU4.out _, Below.setCell HB5.out HG.out _⟩
set_option maxHeartbeats 4000000 in
set_option maxRecDepth 100000 in
theorem uq_esc110 (w0 w : World) (g : Nat) (S : ByteArray) (out : List Int) (p : Int) (hU : UqO w w0.heap.size g S p out) (hB : Below w0.heap.size w0 w) (hg : w0.heap.size ≤ g) (hl : out.length < 100000000000000) (p1 p2 : Int) (e1 : wrap64 (p + 1) = p1) (e2 : wrap64 (p1 + 1) = p2) (h0 : 0 ≤ p1) (h1 : p1 < (S.size : Int)) (hyp1 : bt S p1 = 110) :
    Calls Try.prog 36 #[.pointer (some ⟨g, 0, none⟩)] w fun e w' => e = .returned (.bool true) ∧ UqO w' w0.heap.size g S p2 (out ++ [10]) ∧ Below w0.heap.size w0 w' := by
  have HU := Aside0.mk hU
  have HB := Aside0.mk hB
  have HG := Aside0.mk hg
  have HL := Aside0.mk hl
  clear hU hB hg hl
  have hxp1 := bt_at S p1
  rw [hyp1] at hxp1
  have i0p1 := eq_true (show 0 ≤ p1 by assumption)
  have i1p1 := eq_true (show p1 < (S.size : Int) by assumption)
  have dn : (p1 == (S.size : Int)) = false := beq_eq_false_iff_ne.mpr (by omega)
  clear h0 h1 hyp1
  go_enter Try.func36, Try.ntmps36
  go_upto_region 1 with (fail)
  go_cut [10] (fun v10 wc => Aside0 (UqO wc w0.heap.size g S p1 out) ∧ Aside0 (Below w0.heap.size w0 wc))
  case first =>
    obtain ⟨v, c0_, c1_, c2_, f1_, f2_, hR_, hb_⟩ := HU.out.cells
    have HR := Aside0.mk hR_
    have HBK := Aside0.mk hb_
    clear hR_ hb_
    go_wp2
    go_meet
    case rel => exact ⟨⟨by (try rw [e1]); exact UqO.at_ (by (with_reducible repeat (first | exact HU.out | apply UqO.drewN | apply UqO.drew))) _⟩, ⟨Below.setCell (by repeat (first | (with_reducible first | exact HB.out | apply below_alloc | apply pw_below_drewN | apply below_drew1 | apply below_drew) | exact HB.out)) HG.out _⟩⟩
  clear HU HB
  obtain ⟨HU, HB⟩ := hcut
  go_upto_region 2 with (fail)
  go_cut [20] (fun v20 wc => v20 = .bool false ∧ Aside0 (UqO wc w0.heap.size g S p1 out) ∧ Aside0 (Below w0.heap.size w0 wc))
  case first =>
    obtain ⟨v, c0_, c1_, c2_, f1_, f2_, hR_, hb_⟩ := HU.out.cells
    have HR := Aside0.mk hR_
    have HBK := Aside0.mk hb_
    clear hR_ hb_
    go_wp2
    repeat (go_quiet (fail); try go_wp2)
    all_goals
      go_meet
      case rel => exact ⟨rfl, ⟨(by (with_reducible repeat (first | exact HU.out | apply UqO.drewN | apply UqO.drew)))⟩, ⟨(by repeat (first | (with_reducible first | exact HB.out | apply below_alloc | apply pw_below_drewN | apply below_drew1 | apply below_drew) | exact HB.out))⟩⟩
  clear HU HB
  obtain ⟨rfl, HU, HB⟩ := hcut
  go_upto_region 4 with (fail)
  go_cut [3] (fun v3 wc => v3 = .int .u8 110 ∧ Aside0 (UqO wc w0.heap.size g S p1 out) ∧ Aside0 (Below w0.heap.size w0 wc))
  case first =>
    obtain ⟨v, c0_, c1_, c2_, f1_, f2_, hR_, hb_⟩ := HU.out.cells
    have HR := Aside0.mk hR_
    have HBK := Aside0.mk hb_
    clear hR_ hb_
    go_wp2
    repeat (go_quiet (fail); try go_wp2)
    all_goals
      go_meet
      case rel => exact ⟨rfl, ⟨(by (with_reducible repeat (first | exact HU.out | apply UqO.drewN | apply UqO.drew)))⟩, ⟨(by repeat (first | (with_reducible first | exact HB.out | apply below_alloc | apply pw_below_drewN | apply below_drew1 | apply below_drew) | exact HB.out))⟩⟩
  clear HU HB
  obtain ⟨rfl, HU, HB⟩ := hcut
  obtain ⟨v, c0_, c1_, c2_, f1_, f2_, hR_, hb_⟩ := HU.out.cells
  have HR := Aside0.mk hR_
  have HBK := Aside0.mk hb_
  clear hR_ hb_
  go_upto_region 18 with (first | ((with_reducible refine gate_builtin (b := .append) (xs := #[.tmp 50, .tmp 51]) rfl ?_); at_builtin; refine Kd.R_append (Kd.int .u8) (w0 := w0) w0.heap.size rfl (.tmp 50) (.tmp 51) 23 5 (.int .u8 0) 1 rfl Try.underlying23 info5 rfl (by decide) (by decide) v out 10 [.int .u8 10] (fun k => k ≠ g) (fun _ => False) rfl rfl rfl (fun _ hk => hk.elim) (fun k hk => Nat.ne_of_gt (Nat.lt_of_lt_of_le (blk_lt HBK.out) hk)) HR.out HB.out HB.out.size (by have := HL.out; omega) ?_; intro v4 w4 ho hb4 hg4 hat4; obtain ⟨A4, c4, rfl⟩ := Kd.R_slice ho; rw [List.length_append, List.length_singleton] at ho; have HB4 := Aside0.mk hb4; have HO4 := Aside0.mk ho; have HBK4 := Aside0.mk ((hg4.block g (blk_lt HBK.out) (fun e => HR.out.1 g e.symm rfl)).trans HBK.out); clear ho hb4 hg4 hat4; have d1_ := blk_cell HBK4.out 1; have d2_ := blk_cell HBK4.out 2; have df_ := blk_frozen HBK4.out 2; have dg_ := blk_frozen HBK4.out 1; simp only [List.getElem?_toArray, List.getElem?_cons_zero, List.getElem?_cons_succ] at d1_ d2_))
  have HU4 := Aside0.mk (UqO.put HBK4.out HO4.out)
  have HB5 := Aside0.mk (HB4.out.setCell HG.out (p := ⟨g, 2, none⟩) (.slice A4 (out.length + 1) c4))
  clear HU HB c0_ c1_ c2_ f1_ f2_ HR HBK HO4 HB4 HBK4 d1_ d2_ df_ dg_
  obtain ⟨v9, c0_, c1_, c2_, f1_, f2_, hR_, hb_⟩ := HU4.out.cells
  clear hR_ hb_
  go_wp2
  go_ret
  exact ⟨rfl, by (try rw [e2]); exact UqO.at_ HU4.out _, Below.setCell HB5.out HG.out _⟩
set_option maxHeartbeats 4000000 in
set_option maxRecDepth 100000 in
theorem uq_esc114 (w0 w : World) (g : Nat) (S : ByteArray) (out : List Int) (p : Int) (hU : UqO w w0.heap.size g S p out) (hB : Below w0.heap.size w0 w) (hg : w0.heap.size ≤ g) (hl : out.length < 100000000000000) (p1 p2 : Int) (e1 : wrap64 (p + 1) = p1) (e2 : wrap64 (p1 + 1) = p2) (h0 : 0 ≤ p1) (h1 : p1 < (S.size : Int)) (hyp1 : bt S p1 = 114) :
    Calls Try.prog 36 #[.pointer (some ⟨g, 0, none⟩)] w fun e w' => e = .returned (.bool true) ∧ UqO w' w0.heap.size g S p2 (out ++ [13]) ∧ Below w0.heap.size w0 w' := by
  have HU := Aside0.mk hU
  have HB := Aside0.mk hB
  have HG := Aside0.mk hg
  have HL := Aside0.mk hl
  clear hU hB hg hl
  have hxp1 := bt_at S p1
  rw [hyp1] at hxp1
  have i0p1 := eq_true (show 0 ≤ p1 by assumption)
  have i1p1 := eq_true (show p1 < (S.size : Int) by assumption)
  have dn : (p1 == (S.size : Int)) = false := beq_eq_false_iff_ne.mpr (by omega)
  clear h0 h1 hyp1
  go_enter Try.func36, Try.ntmps36
  go_upto_region 1 with (fail)
  go_cut [10] (fun v10 wc => Aside0 (UqO wc w0.heap.size g S p1 out) ∧ Aside0 (Below w0.heap.size w0 wc))
  case first =>
    obtain ⟨v, c0_, c1_, c2_, f1_, f2_, hR_, hb_⟩ := HU.out.cells
    have HR := Aside0.mk hR_
    have HBK := Aside0.mk hb_
    clear hR_ hb_
    go_wp2
    go_meet
    case rel => exact ⟨⟨by (try rw [e1]); exact UqO.at_ (by (with_reducible repeat (first | exact HU.out | apply UqO.drewN | apply UqO.drew))) _⟩, ⟨Below.setCell (by repeat (first | (with_reducible first | exact HB.out | apply below_alloc | apply pw_below_drewN | apply below_drew1 | apply below_drew) | exact HB.out)) HG.out _⟩⟩
  clear HU HB
  obtain ⟨HU, HB⟩ := hcut
  go_upto_region 2 with (fail)
  go_cut [20] (fun v20 wc => v20 = .bool false ∧ Aside0 (UqO wc w0.heap.size g S p1 out) ∧ Aside0 (Below w0.heap.size w0 wc))
  case first =>
    obtain ⟨v, c0_, c1_, c2_, f1_, f2_, hR_, hb_⟩ := HU.out.cells
    have HR := Aside0.mk hR_
    have HBK := Aside0.mk hb_
    clear hR_ hb_
    go_wp2
    repeat (go_quiet (fail); try go_wp2)
    all_goals
      go_meet
      case rel => exact ⟨rfl, ⟨(by (with_reducible repeat (first | exact HU.out | apply UqO.drewN | apply UqO.drew)))⟩, ⟨(by repeat (first | (with_reducible first | exact HB.out | apply below_alloc | apply pw_below_drewN | apply below_drew1 | apply below_drew) | exact HB.out))⟩⟩
  clear HU HB
  obtain ⟨rfl, HU, HB⟩ := hcut
  go_upto_region 4 with (fail)
  go_cut [3] (fun v3 wc => v3 = .int .u8 114 ∧ Aside0 (UqO wc w0.heap.size g S p1 out) ∧ Aside0 (Below w0.heap.size w0 wc))
  case first =>
    obtain ⟨v, c0_, c1_, c2_, f1_, f2_, hR_, hb_⟩ := HU.out.cells
    have HR := Aside0.mk hR_
    have HBK := Aside0.mk hb_
    clear hR_ hb_
    go_wp2
    repeat (go_quiet (fail); try go_wp2)
    all_goals
      go_meet
      case rel => exact ⟨rfl, ⟨(by (with_reducible repeat (first | exact HU.out | apply UqO.drewN | apply UqO.drew)))⟩, ⟨(by repeat (first | (with_reducible first | exact HB.out | apply below_alloc | apply pw_below_drewN | apply below_drew1 | apply below_drew) | exact HB.out))⟩⟩
  clear HU HB
  obtain ⟨rfl, HU, HB⟩ := hcut
  obtain ⟨v, c0_, c1_, c2_, f1_, f2_, hR_, hb_⟩ := HU.out.cells
  have HR := Aside0.mk hR_
  have HBK := Aside0.mk hb_
  clear hR_ hb_
  go_upto_region 18 with (first | ((with_reducible refine gate_builtin (b := .append) (xs := #[.tmp 61, .tmp 62]) rfl ?_); at_builtin; refine Kd.R_append (Kd.int .u8) (w0 := w0) w0.heap.size rfl (.tmp 61) (.tmp 62) 23 5 (.int .u8 0) 1 rfl Try.underlying23 info5 rfl (by decide) (by decide) v out 13 [.int .u8 13] (fun k => k ≠ g) (fun _ => False) rfl rfl rfl (fun _ hk => hk.elim) (fun k hk => Nat.ne_of_gt (Nat.lt_of_lt_of_le (blk_lt HBK.out) hk)) HR.out HB.out HB.out.size (by have := HL.out; omega) ?_; intro v4 w4 ho hb4 hg4 hat4; obtain ⟨A4, c4, rfl⟩ := Kd.R_slice ho; rw [List.length_append, List.length_singleton] at ho; have HB4 := Aside0.mk hb4; have HO4 := Aside0.mk ho; have HBK4 := Aside0.mk ((hg4.block g (blk_lt HBK.out) (fun e => HR.out.1 g e.symm rfl)).trans HBK.out); clear ho hb4 hg4 hat4; have d1_ := blk_cell HBK4.out 1; have d2_ := blk_cell HBK4.out 2; have df_ := blk_frozen HBK4.out 2; have dg_ := blk_frozen HBK4.out 1; simp only [List.getElem?_toArray, List.getElem?_cons_zero, List.getElem?_cons_succ] at d1_ d2_))
  have HU4 := Aside0.mk (UqO.put HBK4.out HO4.out)
  have HB5 := Aside0.mk (HB4.out.setCell HG.out (p := ⟨g, 2, none⟩) (.slice A4 (out.length + 1) c4))
  clear HU HB c0_ c1_ c2_ f1_ f2_ HR HBK HO4 HB4 HBK4 d1_ d2_ df_ dg_
  obtain ⟨v9, c0_, c1_, c2_, f1_, f2_, hR_, hb_⟩ := HU4.out.cells
  clear hR_ hb_
  go_wp2
  go_ret
  exact ⟨rfl, by (try rw [e2]); exact UqO.at_ HU4.out _, Below.setCell HB5.out HG.out _⟩
set_option maxHeartbeats 4000000 in
set_option maxRecDepth 100000 in
theorem uq_esc116 (w0 w : World) (g : Nat) (S : ByteArray) (out : List Int) (p : Int) (hU : UqO w w0.heap.size g S p out) (hB : Below w0.heap.size w0 w) (hg : w0.heap.size ≤ g) (hl : out.length < 100000000000000) (p1 p2 : Int) (e1 : wrap64 (p + 1) = p1) (e2 : wrap64 (p1 + 1) = p2) (h0 : 0 ≤ p1) (h1 : p1 < (S.size : Int)) (hyp1 : bt S p1 = 116) :
    Calls Try.prog 36 #[.pointer (some ⟨g, 0, none⟩)] w fun e w' => e = .returned (.bool true) ∧ UqO w' w0.heap.size g S p2 (out ++ [9]) ∧ Below w0.heap.size w0 w' := by
  have HU := Aside0.mk hU
  have HB := Aside0.mk hB
  have HG := Aside0.mk hg
  have HL := Aside0.mk hl
  clear hU hB hg hl
  have hxp1 := bt_at S p1
  rw [hyp1] at hxp1
  have i0p1 := eq_true (show 0 ≤ p1 by assumption)
  have i1p1 := eq_true (show p1 < (S.size : Int) by assumption)
  have dn : (p1 == (S.size : Int)) = false := beq_eq_false_iff_ne.mpr (by omega)
  clear h0 h1 hyp1
  go_enter Try.func36, Try.ntmps36
  go_upto_region 1 with (fail)
  go_cut [10] (fun v10 wc => Aside0 (UqO wc w0.heap.size g S p1 out) ∧ Aside0 (Below w0.heap.size w0 wc))
  case first =>
    obtain ⟨v, c0_, c1_, c2_, f1_, f2_, hR_, hb_⟩ := HU.out.cells
    have HR := Aside0.mk hR_
    have HBK := Aside0.mk hb_
    clear hR_ hb_
    go_wp2
    go_meet
    case rel => exact ⟨⟨by (try rw [e1]); exact UqO.at_ (by (with_reducible repeat (first | exact HU.out | apply UqO.drewN | apply UqO.drew))) _⟩, ⟨Below.setCell (by repeat (first | (with_reducible first | exact HB.out | apply below_alloc | apply pw_below_drewN | apply below_drew1 | apply below_drew) | exact HB.out)) HG.out _⟩⟩
  clear HU HB
  obtain ⟨HU, HB⟩ := hcut
  go_upto_region 2 with (fail)
  go_cut [20] (fun v20 wc => v20 = .bool false ∧ Aside0 (UqO wc w0.heap.size g S p1 out) ∧ Aside0 (Below w0.heap.size w0 wc))
  case first =>
    obtain ⟨v, c0_, c1_, c2_, f1_, f2_, hR_, hb_⟩ := HU.out.cells
    have HR := Aside0.mk hR_
    have HBK := Aside0.mk hb_
    clear hR_ hb_
    go_wp2
    repeat (go_quiet (fail); try go_wp2)
    all_goals
      go_meet
      case rel => exact ⟨rfl, ⟨(by (with_reducible repeat (first | exact HU.out | apply UqO.drewN | apply UqO.drew)))⟩, ⟨(by repeat (first | (with_reducible first | exact HB.out | apply below_alloc | apply pw_below_drewN | apply below_drew1 | apply below_drew) | exact HB.out))⟩⟩
  clear HU HB
  obtain ⟨rfl, HU, HB⟩ := hcut
  go_upto_region 4 with (fail)
  go_cut [3] (fun v3 wc => v3 = .int .u8 116 ∧ Aside0 (UqO wc w0.heap.size g S p1 out) ∧ Aside0 (Below w0.heap.size w0 wc))
  case first =>
    obtain ⟨v, c0_, c1_, c2_, f1_, f2_, hR_, hb_⟩ := HU.out.cells
    have HR := Aside0.mk hR_
    have HBK := Aside0.mk hb_
    clear hR_ hb_
    go_wp2
    repeat (go_quiet (fail); try go_wp2)
    all_goals
      go_meet
      case rel => exact ⟨rfl, ⟨(by (with_reducible repeat (first | exact HU.out | apply UqO.drewN | apply UqO.drew)))⟩, ⟨(by repeat (first | (with_reducible first | exact HB.out | apply below_alloc | apply pw_below_drewN | apply below_drew1 | apply below_drew) | exact HB.out))⟩⟩
  clear HU HB
  obtain ⟨rfl, HU, HB⟩ := hcut
  obtain ⟨v, c0_, c1_, c2_, f1_, f2_, hR_, hb_⟩ := HU.out.cells
  have HR := Aside0.mk hR_
  have HBK := Aside0.mk hb_
  clear hR_ hb_
  go_upto_region 18 with (first | ((with_reducible refine gate_builtin (b := .append) (xs := #[.tmp 72, .tmp 73]) rfl ?_); at_builtin; refine Kd.R_append (Kd.int .u8) (w0 := w0) w0.heap.size rfl (.tmp 72) (.tmp 73) 23 5 (.int .u8 0) 1 rfl Try.underlying23 info5 rfl (by decide) (by decide) v out 9 [.int .u8 9] (fun k => k ≠ g) (fun _ => False) rfl rfl rfl (fun _ hk => hk.elim) (fun k hk => Nat.ne_of_gt (Nat.lt_of_lt_of_le (blk_lt HBK.out) hk)) HR.out HB.out HB.out.size (by have := HL.out; omega) ?_; intro v4 w4 ho hb4 hg4 hat4; obtain ⟨A4, c4, rfl⟩ := Kd.R_slice ho; rw [List.length_append, List.length_singleton] at ho; have HB4 := Aside0.mk hb4; have HO4 := Aside0.mk ho; have HBK4 := Aside0.mk ((hg4.block g (blk_lt HBK.out) (fun e => HR.out.1 g e.symm rfl)).trans HBK.out); clear ho hb4 hg4 hat4; have d1_ := blk_cell HBK4.out 1; have d2_ := blk_cell HBK4.out 2; have df_ := blk_frozen HBK4.out 2; have dg_ := blk_frozen HBK4.out 1; simp only [List.getElem?_toArray, List.getElem?_cons_zero, List.getElem?_cons_succ] at d1_ d2_))
  have HU4 := Aside0.mk (UqO.put HBK4.out HO4.out)
  have HB5 := Aside0.mk (HB4.out.setCell HG.out (p := ⟨g, 2, none⟩) (.slice A4 (out.length + 1) c4))
  clear HU HB c0_ c1_ c2_ f1_ f2_ HR HBK HO4 HB4 HBK4 d1_ d2_ df_ dg_
  obtain ⟨v9, c0_, c1_, c2_, f1_, f2_, hR_, hb_⟩ := HU4.out.cells
  clear hR_ hb_
  go_wp2
  go_ret
  exact ⟨rfl, by (try rw [e2]); exact UqO.at_ HU4.out _, Below.setCell HB5.out HG.out _⟩
set_option maxHeartbeats 4000000 in
set_option maxRecDepth 100000 in
theorem uq_esc_end (w0 w : World) (g : Nat) (S : ByteArray) (out : List Int) (p : Int) (hU : UqO w w0.heap.size g S p out) (hB : Below w0.heap.size w0 w) (hg : w0.heap.size ≤ g) (hl : out.length < 100000000000000) (p1 : Int) (e1 : wrap64 (p + 1) = p1) (h1 : p1 = (S.size : Int)) :
    Calls Try.prog 36 #[.pointer (some ⟨g, 0, none⟩)] w fun e w' => e = .returned (.bool false) ∧ UqO w' w0.heap.size g S p1 (out) ∧ Below w0.heap.size w0 w' := by
  have HU := Aside0.mk hU
  have HB := Aside0.mk hB
  have HG := Aside0.mk hg
  have HL := Aside0.mk hl
  clear hU hB hg hl
  have dn : (p1 == (S.size : Int)) = true := beq_iff_eq.mpr h1
  clear h1
  go_enter Try.func36, Try.ntmps36
  go_upto_region 1 with (fail)
  go_cut [10] (fun v10 wc => Aside0 (UqO wc w0.heap.size g S p1 out) ∧ Aside0 (Below w0.heap.size w0 wc))
  case first =>
    obtain ⟨v, c0_, c1_, c2_, f1_, f2_, hR_, hb_⟩ := HU.out.cells
    have HR := Aside0.mk hR_
    have HBK := Aside0.mk hb_
    clear hR_ hb_
    go_wp2
    go_meet
    case rel => exact ⟨⟨by (try rw [e1]); exact UqO.at_ (by (with_reducible repeat (first | exact HU.out | apply UqO.drewN | apply UqO.drew))) _⟩, ⟨Below.setCell (by repeat (first | (with_reducible first | exact HB.out | apply below_alloc | apply pw_below_drewN | apply below_drew1 | apply below_drew) | exact HB.out)) HG.out _⟩⟩
  clear HU HB
  obtain ⟨HU, HB⟩ := hcut
  go_upto_region 2 with (fail)
  go_cut [20] (fun v20 wc => v20 = .bool true ∧ Aside0 (UqO wc w0.heap.size g S p1 out) ∧ Aside0 (Below w0.heap.size w0 wc))
  case first =>
    obtain ⟨v, c0_, c1_, c2_, f1_, f2_, hR_, hb_⟩ := HU.out.cells
    have HR := Aside0.mk hR_
    have HBK := Aside0.mk hb_
    clear hR_ hb_
    go_wp2
    repeat (go_quiet (fail); try go_wp2)
    all_goals
      go_meet
      case rel => exact ⟨rfl, ⟨(by (with_reducible repeat (first | exact HU.out | apply UqO.drewN | apply UqO.drew)))⟩, ⟨(by repeat (first | (with_reducible first | exact HB.out | apply below_alloc | apply pw_below_drewN | apply below_drew1 | apply below_drew) | exact HB.out))⟩⟩
  clear HU HB
  obtain ⟨rfl, HU, HB⟩ := hcut
  go_wp2
  go_ret
  exact ⟨rfl, (by (with_reducible repeat (first | exact HU.out | apply UqO.drewN | apply UqO.drew))), (by repeat (first | (with_reducible first | exact HB.out | apply below_alloc | apply pw_below_drewN | apply below_drew1 | apply below_drew) | exact HB.out))⟩
theorem wr_k (k : Nat) (h : k < 1000) : wrap64 ((k : Int) + 1) = ((k + 1 : Nat) : Int) := by unfold wrap64; omega
theorem meas_hex (k : Nat) (h : k < 2) (x : Int) (hx : x = ((k + 1 : Nat) : Int)) : 3 - (intOf (.int .i64 x)).toNat < 3 - (intOf (.int .i64 (k : Int))).toNat := by
  subst hx
  show 3 - (((k + 1 : Nat) : Int)).toNat < 3 - ((k : Int)).toNat
  omega
set_option maxHeartbeats 4000000 in
set_option maxRecDepth 100000 in
theorem uq_hex (w0 w : World) (g : Nat) (S : ByteArray) (out : List Int) (p : Int) (hU : UqO w w0.heap.size g S p out) (hB : Below w0.heap.size w0 w) (hg : w0.heap.size ≤ g) (hl : out.length < 100000000000000) (m : Nat) (N Pl D V : Nat → Int) (kn : Nat) (hk : ∀ k, k < m → wrap64 (Pl k + 1) = Pl (k + 1) ∧ 0 ≤ Pl (k + 1) ∧ Pl (k + 1) < (S.size : Int) ∧ bt S (Pl (k + 1)) = D k ∧ text_nibble.f kn (D k) = some (V k, true) ∧ bits .or .i64 (wrap64 (N k * 16)) (V k) = N (k + 1)) (hp : Pl 0 = p) (hn : N 0 = 0) (hm : m = 2) (p3 x : Int) (e3 : wrap64 (Pl 2 + 1) = p3) (hx : IntKind.u8.wrap (N 2) = x) :
    Calls Try.prog 57 #[.pointer (some ⟨g, 0, none⟩)] w fun e w' => e = .returned (.bool true) ∧ UqO w' w0.heap.size g S p3 (out ++ [x]) ∧ Below w0.heap.size w0 w' := by
  have HU := Aside0.mk hU
  have HB := Aside0.mk hB
  have HG := Aside0.mk hg
  have HL := Aside0.mk hl
  clear hU hB hg hl
  subst hp
  have HK := Aside0.mk hk
  have HM := Aside0.mk hm
  clear hk hm
  go_enter Try.func57, Try.ntmps57
  go_wp2
  go_loopw [3, 6] (fun v3 v6 wr => ∃ (k : Nat) (n q : Int), v3 = .int .i64 n ∧ v6 = .int .i64 k ∧ Aside0 (k ≤ m ∧ n = N k ∧ q = Pl k) ∧ Aside0 (UqO wr w0.heap.size g S q out) ∧ Aside0 (Below w0.heap.size w0 wr)) (fun _ v6 _ => 3 - (intOf v6).toNat)
  case atStart => exact ⟨0, 0, Pl 0, rfl, rfl, ⟨Nat.zero_le _, hn.symm, rfl⟩, ⟨(by (with_reducible repeat (first | exact HU.out | apply UqO.drewN | apply UqO.drew)))⟩, ⟨(by repeat (first | (with_reducible first | exact HB.out | apply below_alloc | apply pw_below_drewN | apply below_drew1 | apply below_drew) | exact HB.out))⟩⟩
  case round =>
  clear HU HB hn
  obtain ⟨k, n, q, rfl, rfl, HQ, HU, HB⟩ := hrel
  by_cases hlt : k < m
  case pos => as_aux_lemma =>
    have hk2 := Aside0.mk (show k < 2 by have := HM.out; omega)
    have hk9 := Aside0.mk (show k < 1000 by have := HM.out; omega)
    obtain ⟨a1, a2, a3, a4, a5, a6⟩ := HK.out k hlt
    obtain ⟨q1, hq1⟩ : ∃ x, x = Pl (k + 1) := ⟨_, rfl⟩
    obtain ⟨n1, hn1⟩ : ∃ x, x = N (k + 1) := ⟨_, rfl⟩
    obtain ⟨dk, hdk⟩ : ∃ x, x = D k := ⟨_, rfl⟩
    obtain ⟨vk, hvk⟩ : ∃ x, x = V k := ⟨_, rfl⟩
    rw [← hq1, ← HQ.out.2.2] at a1
    rw [← hq1] at a2 a3 a4
    rw [← hdk] at a4 a5
    rw [← hvk] at a5 a6
    rw [← HQ.out.2.1, ← hn1] at a6
    have hyq1 := a4
    have HN := Aside0.mk a5
    have HQ1 := Aside0.mk (show k < m ∧ n1 = N (k + 1) ∧ q1 = Pl (k + 1) from ⟨hlt, hn1, hq1⟩)
    have hxq1 := bt_at S q1
    rw [hyq1] at hxq1
    have i0q1 := eq_true (show 0 ≤ q1 by assumption)
    have i1q1 := eq_true (show q1 < (S.size : Int) by assumption)
    have dn : (q1 == (S.size : Int)) = false := beq_eq_false_iff_ne.mpr (by omega)
    have d2 : decide ((k : Int) < 2) = true := decide_eq_true (Int.ofNat_lt.2 hk2.out)
    clear a2 a3 a4 a5 hyq1 hlt hq1 hn1 hdk hvk HK
    go_upto_region 4 with (fail)
    go_cut [13] (fun v13 wc => Aside0 (UqO wc w0.heap.size g S q1 out) ∧ Aside0 (Below w0.heap.size w0 wc))
    case first =>
      obtain ⟨v, c0_, c1_, c2_, f1_, f2_, hR_, hb_⟩ := HU.out.cells
      have HR := Aside0.mk hR_
      have HBK := Aside0.mk hb_
      clear hR_ hb_
      go_wp2
      go_meet
      case rel => exact ⟨⟨by (try rw [a1]); exact UqO.at_ (by (with_reducible repeat (first | exact HU.out | apply UqO.drewN | apply UqO.drew))) _⟩, ⟨Below.setCell (by repeat (first | (with_reducible first | exact HB.out | apply below_alloc | apply pw_below_drewN | apply below_drew1 | apply below_drew) | exact HB.out)) HG.out _⟩⟩
    clear HU HB
    obtain ⟨HU, HB⟩ := hcut
    go_upto_region 5 with (fail)
    go_cut [24] (fun v24 wc => v24 = .bool false ∧ Aside0 (UqO wc w0.heap.size g S q1 out) ∧ Aside0 (Below w0.heap.size w0 wc))
    case first =>
      obtain ⟨v, c0_, c1_, c2_, f1_, f2_, hR_, hb_⟩ := HU.out.cells
      have HR := Aside0.mk hR_
      have HBK := Aside0.mk hb_
      clear hR_ hb_
      go_wp2
      repeat (go_quiet (fail); try go_wp2)
      all_goals
        go_meet
        case rel => exact ⟨rfl, ⟨(by (with_reducible repeat (first | exact HU.out | apply UqO.drewN | apply UqO.drew)))⟩, ⟨(by repeat (first | (with_reducible first | exact HB.out | apply below_alloc | apply pw_below_drewN | apply below_drew1 | apply below_drew) | exact HB.out))⟩⟩
    clear HU HB
    obtain ⟨rfl, HU, HB⟩ := hcut
    go_upto_region 7 with (fail)
    go_cut [4, 5] (fun v4 v5 wc => v4 = .int .i64 vk ∧ v5 = .bool true ∧ Aside0 (UqO wc w0.heap.size g S q1 out) ∧ Aside0 (Below w0.heap.size w0 wc))
    case first =>
      obtain ⟨v, c0_, c1_, c2_, f1_, f2_, hR_, hb_⟩ := HU.out.cells
      have HR := Aside0.mk hR_
      have HBK := Aside0.mk hb_
      clear hR_ hb_
      have TN := Aside0.mk (fun W => text_nibble.calls kn dk vk true W HN.out)
      go_wp2
      repeat (go_quiet ((go_at_call 37; exact Calls.quiet_of ((TN.out _).mono (fun _ _ h => ⟨h.1, h.2.out⟩)))); try go_wp2)
      go_meet
      case rel => exact ⟨rfl, rfl, ⟨(by (with_reducible repeat (first | exact HU.out | apply UqO.drewN | apply UqO.drew)))⟩, ⟨(by repeat (first | (with_reducible first | exact HB.out | apply below_alloc | apply pw_below_drewN | apply below_drew1 | apply below_drew) | exact HB.out))⟩⟩
    clear HU HB
    obtain ⟨rfl, rfl, HU, HB⟩ := hcut
    have w5 : wrap64 ((k : Int) + 1) = ((k + 1 : Nat) : Int) := wr_k k hk9.out
    go_wp2
    go_roundw
    case rel => exact ⟨k + 1, n1, q1, by first | with_reducible rfl | rw [a6], by first | with_reducible rfl | rw [w5], ⟨HQ1.out.1, HQ1.out.2.1, HQ1.out.2.2⟩, ⟨(by (with_reducible repeat (first | exact HU.out | apply UqO.drewN | apply UqO.drew)))⟩, ⟨(by repeat (first | (with_reducible first | exact HB.out | apply below_alloc | apply pw_below_drewN | apply below_drew1 | apply below_drew) | exact HB.out))⟩⟩
    case measure => exact meas_hex k hk2.out _ w5
  case neg =>
    have hk2 : k = 2 := by have := HQ.out; have := HM.out; omega
    have d2 : decide ((k : Int) < 2) = false := decide_eq_false (by omega)
    have e3' : wrap64 (q + 1) = p3 := by rw [HQ.out.2.2, hk2]; exact e3
    have hx' : IntKind.u8.wrap n = x := by rw [HQ.out.2.1, hk2]; exact hx
    clear e3 hx HK hlt HQ hk2
    go_upto_region 12 with (fail)
    go_cut [50] (fun v50 wc => Aside0 (UqO wc w0.heap.size g S p3 out) ∧ Aside0 (Below w0.heap.size w0 wc))
    case first =>
      obtain ⟨v, c0_, c1_, c2_, f1_, f2_, hR_, hb_⟩ := HU.out.cells
      have HR := Aside0.mk hR_
      have HBK := Aside0.mk hb_
      clear hR_ hb_
      go_wp2
      go_meet
      case rel => exact ⟨⟨by (try rw [e3']); exact UqO.at_ (by (with_reducible repeat (first | exact HU.out | apply UqO.drewN | apply UqO.drew))) _⟩, ⟨Below.setCell (by repeat (first | (with_reducible first | exact HB.out | apply below_alloc | apply pw_below_drewN | apply below_drew1 | apply below_drew) | exact HB.out)) HG.out _⟩⟩
    clear HU HB
    obtain ⟨HU, HB⟩ := hcut
    obtain ⟨v, c0_, c1_, c2_, f1_, f2_, hR_, hb_⟩ := HU.out.cells
    have HR := Aside0.mk hR_
    have HBK := Aside0.mk hb_
    clear hR_ hb_
    have u1 : n % 256 = x := by rw [← hx', IntKind.wrap_u8]
    go_wp2_with (first | ((with_reducible refine gate_builtin (b := .append) (xs := #[.tmp 56, .tmp 59]) rfl ?_); at_builtin; refine Kd.R_append (Kd.int .u8) (w0 := w0) w0.heap.size rfl (.tmp 56) (.tmp 59) 23 5 (.int .u8 0) 1 rfl Try.underlying23 info5 rfl (by decide) (by decide) v out x [.int .u8 x] (fun k => k ≠ g) (fun _ => False) rfl rfl rfl (fun _ hk => hk.elim) (fun k hk => Nat.ne_of_gt (Nat.lt_of_lt_of_le (blk_lt HBK.out) hk)) HR.out HB.out HB.out.size (by have := HL.out; omega) ?_; intro v4 w4 ho hb4 hg4 hat4; obtain ⟨A4, c4, rfl⟩ := Kd.R_slice ho; rw [List.length_append, List.length_singleton] at ho; have HB4 := Aside0.mk hb4; have HO4 := Aside0.mk ho; have HBK4 := Aside0.mk ((hg4.block g (blk_lt HBK.out) (fun e => HR.out.1 g e.symm rfl)).trans HBK.out); clear ho hb4 hg4 hat4; have d1_ := blk_cell HBK4.out 1; have d2_ := blk_cell HBK4.out 2; have df_ := blk_frozen HBK4.out 2; have dg_ := blk_frozen HBK4.out 1; simp only [List.getElem?_toArray, List.getElem?_cons_zero, List.getElem?_cons_succ] at d1_ d2_))
    go_ret
    exact ⟨rfl, UqO.put HBK4.out HO4.out, HB4.out.setCell HG.out _⟩
set_option maxHeartbeats 4000000 in
set_option maxRecDepth 100000 in
theorem uq_hex_end (w0 w : World) (g : Nat) (S : ByteArray) (out : List Int) (p : Int) (hU : UqO w w0.heap.size g S p out) (hB : Below w0.heap.size w0 w) (hg : w0.heap.size ≤ g) (hl : out.length < 100000000000000) (m : Nat) (N Pl D V : Nat → Int) (kn : Nat) (hk : ∀ k, k < m → wrap64 (Pl k + 1) = Pl (k + 1) ∧ 0 ≤ Pl (k + 1) ∧ Pl (k + 1) < (S.size : Int) ∧ bt S (Pl (k + 1)) = D k ∧ text_nibble.f kn (D k) = some (V k, true) ∧ bits .or .i64 (wrap64 (N k * 16)) (V k) = N (k + 1)) (hp : Pl 0 = p) (hn : N 0 = 0) (hm : m < 2) (he : wrap64 (Pl m + 1) = Pl (m + 1) ∧ Pl (m + 1) = (S.size : Int)) :
    Calls Try.prog 57 #[.pointer (some ⟨g, 0, none⟩)] w fun e w' => e = .returned (.bool false) ∧ UqO w' w0.heap.size g S (Pl (m + 1)) (out) ∧ Below w0.heap.size w0 w' := by
  have HU := Aside0.mk hU
  have HB := Aside0.mk hB
  have HG := Aside0.mk hg
  have HL := Aside0.mk hl
  clear hU hB hg hl
  subst hp
  have HK := Aside0.mk hk
  have HM := Aside0.mk hm
  have HE := Aside0.mk he
  clear hk hm he
  go_enter Try.func57, Try.ntmps57
  go_wp2
  go_loopw [3, 6] (fun v3 v6 wr => ∃ (k : Nat) (n q : Int), v3 = .int .i64 n ∧ v6 = .int .i64 k ∧ Aside0 (k ≤ m ∧ n = N k ∧ q = Pl k) ∧ Aside0 (UqO wr w0.heap.size g S q out) ∧ Aside0 (Below w0.heap.size w0 wr)) (fun _ v6 _ => 3 - (intOf v6).toNat)
  case atStart => exact ⟨0, 0, Pl 0, rfl, rfl, ⟨Nat.zero_le _, hn.symm, rfl⟩, ⟨(by (with_reducible repeat (first | exact HU.out | apply UqO.drewN | apply UqO.drew)))⟩, ⟨(by repeat (first | (with_reducible first | exact HB.out | apply below_alloc | apply pw_below_drewN | apply below_drew1 | apply below_drew) | exact HB.out))⟩⟩
  case round =>
  clear HU HB hn
  obtain ⟨k, n, q, rfl, rfl, HQ, HU, HB⟩ := hrel
  by_cases hlt : k < m
  case pos => as_aux_lemma =>
    have hk2 := Aside0.mk (show k < 2 by have := HM.out; omega)
    have hk9 := Aside0.mk (show k < 1000 by have := HM.out; omega)
    obtain ⟨a1, a2, a3, a4, a5, a6⟩ := HK.out k hlt
    obtain ⟨q1, hq1⟩ : ∃ x, x = Pl (k + 1) := ⟨_, rfl⟩
    obtain ⟨n1, hn1⟩ : ∃ x, x = N (k + 1) := ⟨_, rfl⟩
    obtain ⟨dk, hdk⟩ : ∃ x, x = D k := ⟨_, rfl⟩
    obtain ⟨vk, hvk⟩ : ∃ x, x = V k := ⟨_, rfl⟩
    rw [← hq1, ← HQ.out.2.2] at a1
    rw [← hq1] at a2 a3 a4
    rw [← hdk] at a4 a5
    rw [← hvk] at a5 a6
    rw [← HQ.out.2.1, ← hn1] at a6
    have hyq1 := a4
    have HN := Aside0.mk a5
    have HQ1 := Aside0.mk (show k < m ∧ n1 = N (k + 1) ∧ q1 = Pl (k + 1) from ⟨hlt, hn1, hq1⟩)
    have hxq1 := bt_at S q1
    rw [hyq1] at hxq1
    have i0q1 := eq_true (show 0 ≤ q1 by assumption)
    have i1q1 := eq_true (show q1 < (S.size : Int) by assumption)
    have dn : (q1 == (S.size : Int)) = false := beq_eq_false_iff_ne.mpr (by omega)
    have d2 : decide ((k : Int) < 2) = true := decide_eq_true (Int.ofNat_lt.2 hk2.out)
    clear a2 a3 a4 a5 hyq1 hlt hq1 hn1 hdk hvk HK
    go_upto_region 4 with (fail)
    go_cut [13] (fun v13 wc => Aside0 (UqO wc w0.heap.size g S q1 out) ∧ Aside0 (Below w0.heap.size w0 wc))
    case first =>
      obtain ⟨v, c0_, c1_, c2_, f1_, f2_, hR_, hb_⟩ := HU.out.cells
      have HR := Aside0.mk hR_
      have HBK := Aside0.mk hb_
      clear hR_ hb_
      go_wp2
      go_meet
      case rel => exact ⟨⟨by (try rw [a1]); exact UqO.at_ (by (with_reducible repeat (first | exact HU.out | apply UqO.drewN | apply UqO.drew))) _⟩, ⟨Below.setCell (by repeat (first | (with_reducible first | exact HB.out | apply below_alloc | apply pw_below_drewN | apply below_drew1 | apply below_drew) | exact HB.out)) HG.out _⟩⟩
    clear HU HB
    obtain ⟨HU, HB⟩ := hcut
    go_upto_region 5 with (fail)
    go_cut [24] (fun v24 wc => v24 = .bool false ∧ Aside0 (UqO wc w0.heap.size g S q1 out) ∧ Aside0 (Below w0.heap.size w0 wc))
    case first =>
      obtain ⟨v, c0_, c1_, c2_, f1_, f2_, hR_, hb_⟩ := HU.out.cells
      have HR := Aside0.mk hR_
      have HBK := Aside0.mk hb_
      clear hR_ hb_
      go_wp2
      repeat (go_quiet (fail); try go_wp2)
      all_goals
        go_meet
        case rel => exact ⟨rfl, ⟨(by (with_reducible repeat (first | exact HU.out | apply UqO.drewN | apply UqO.drew)))⟩, ⟨(by repeat (first | (with_reducible first | exact HB.out | apply below_alloc | apply pw_below_drewN | apply below_drew1 | apply below_drew) | exact HB.out))⟩⟩
    clear HU HB
    obtain ⟨rfl, HU, HB⟩ := hcut
    go_upto_region 7 with (fail)
    go_cut [4, 5] (fun v4 v5 wc => v4 = .int .i64 vk ∧ v5 = .bool true ∧ Aside0 (UqO wc w0.heap.size g S q1 out) ∧ Aside0 (Below w0.heap.size w0 wc))
    case first =>
      obtain ⟨v, c0_, c1_, c2_, f1_, f2_, hR_, hb_⟩ := HU.out.cells
      have HR := Aside0.mk hR_
      have HBK := Aside0.mk hb_
      clear hR_ hb_
      have TN := Aside0.mk (fun W => text_nibble.calls kn dk vk true W HN.out)
      go_wp2
      repeat (go_quiet ((go_at_call 37; exact Calls.quiet_of ((TN.out _).mono (fun _ _ h => ⟨h.1, h.2.out⟩)))); try go_wp2)
      go_meet
      case rel => exact ⟨rfl, rfl, ⟨(by (with_reducible repeat (first | exact HU.out | apply UqO.drewN | apply UqO.drew)))⟩, ⟨(by repeat (first | (with_reducible first | exact HB.out | apply below_alloc | apply pw_below_drewN | apply below_drew1 | apply below_drew) | exact HB.out))⟩⟩
    clear HU HB
    obtain ⟨rfl, rfl, HU, HB⟩ := hcut
    have w5 : wrap64 ((k : Int) + 1) = ((k + 1 : Nat) : Int) := wr_k k hk9.out
    go_wp2
    go_roundw
    case rel => exact ⟨k + 1, n1, q1, by first | with_reducible rfl | rw [a6], by first | with_reducible rfl | rw [w5], ⟨HQ1.out.1, HQ1.out.2.1, HQ1.out.2.2⟩, ⟨(by (with_reducible repeat (first | exact HU.out | apply UqO.drewN | apply UqO.drew)))⟩, ⟨(by repeat (first | (with_reducible first | exact HB.out | apply below_alloc | apply pw_below_drewN | apply below_drew1 | apply below_drew) | exact HB.out))⟩⟩
    case measure => exact meas_hex k hk2.out _ w5
  case neg =>
    obtain rfl : k = m := by have := HQ.out; omega
    have d2 : decide ((k : Int) < 2) = true := decide_eq_true (by have := HM.out; omega)
    obtain ⟨x1, x2⟩ := HE.out
    rw [← HQ.out.2.2] at x1
    clear HK hlt
    obtain ⟨q1, hq1⟩ : ∃ x, x = Pl (k + 1) := ⟨_, rfl⟩
    rw [← hq1] at x1 x2
    have HQ1 := Aside0.mk hq1
    have dn : (q1 == (S.size : Int)) = true := beq_iff_eq.mpr x2
    clear hq1 x2
    go_upto_region 4 with (fail)
    go_cut [13] (fun v13 wc => Aside0 (UqO wc w0.heap.size g S q1 out) ∧ Aside0 (Below w0.heap.size w0 wc))
    case first =>
      obtain ⟨v, c0_, c1_, c2_, f1_, f2_, hR_, hb_⟩ := HU.out.cells
      have HR := Aside0.mk hR_
      have HBK := Aside0.mk hb_
      clear hR_ hb_
      go_wp2
      go_meet
      case rel => exact ⟨⟨by (try rw [x1]); exact UqO.at_ (by (with_reducible repeat (first | exact HU.out | apply UqO.drewN | apply UqO.drew))) _⟩, ⟨Below.setCell (by repeat (first | (with_reducible first | exact HB.out | apply below_alloc | apply pw_below_drewN | apply below_drew1 | apply below_drew) | exact HB.out)) HG.out _⟩⟩
    clear HU HB
    obtain ⟨HU, HB⟩ := hcut
    go_upto_region 5 with (fail)
    go_cut [24] (fun v24 wc => v24 = .bool true ∧ Aside0 (UqO wc w0.heap.size g S q1 out) ∧ Aside0 (Below w0.heap.size w0 wc))
    case first =>
      obtain ⟨v, c0_, c1_, c2_, f1_, f2_, hR_, hb_⟩ := HU.out.cells
      have HR := Aside0.mk hR_
      have HBK := Aside0.mk hb_
      clear hR_ hb_
      go_wp2
      repeat (go_quiet (fail); try go_wp2)
      all_goals
        go_meet
        case rel => exact ⟨rfl, ⟨(by (with_reducible repeat (first | exact HU.out | apply UqO.drewN | apply UqO.drew)))⟩, ⟨(by repeat (first | (with_reducible first | exact HB.out | apply below_alloc | apply pw_below_drewN | apply below_drew1 | apply below_drew) | exact HB.out))⟩⟩
    clear HU HB
    obtain ⟨rfl, HU, HB⟩ := hcut
    go_wp2
    go_ret
    exact ⟨rfl, by rw [← HQ1.out]; exact (by (with_reducible repeat (first | exact HU.out | apply UqO.drewN | apply UqO.drew))), (by repeat (first | (with_reducible first | exact HB.out | apply below_alloc | apply pw_below_drewN | apply below_drew1 | apply below_drew) | exact HB.out))⟩
set_option maxHeartbeats 4000000 in
set_option maxRecDepth 100000 in
theorem uq_escx (w0 w : World) (g : Nat) (S : ByteArray) (out : List Int) (p : Int) (hU : UqO w w0.heap.size g S p out) (hB : Below w0.heap.size w0 w) (hg : w0.heap.size ≤ g) (hl : out.length < 100000000000000) (p1 q : Int) (out2 : List Int) (r : Bool) (e1 : wrap64 (p + 1) = p1) (h0 : 0 ≤ p1) (h1 : p1 < (S.size : Int)) (hyp1 : bt S p1 = 120) (HX : ∀ W, UqO W w0.heap.size g S p1 out → Below w0.heap.size w0 W → Calls Try.prog 57 #[.pointer (some ⟨g, 0, none⟩)] W fun e w' => e = .returned (.bool r) ∧ UqO w' w0.heap.size g S q out2 ∧ Below w0.heap.size w0 w') :
    Calls Try.prog 36 #[.pointer (some ⟨g, 0, none⟩)] w fun e w' => e = .returned (.bool r) ∧ UqO w' w0.heap.size g S q (out2) ∧ Below w0.heap.size w0 w' := by
  have HU := Aside0.mk hU
  have HB := Aside0.mk hB
  have HG := Aside0.mk hg
  have HL := Aside0.mk hl
  clear hU hB hg hl
  have hxp1 := bt_at S p1
  rw [hyp1] at hxp1
  have i0p1 := eq_true (show 0 ≤ p1 by assumption)
  have i1p1 := eq_true (show p1 < (S.size : Int) by assumption)
  have dn : (p1 == (S.size : Int)) = false := beq_eq_false_iff_ne.mpr (by omega)
  have HX' := Aside0.mk HX
  clear h0 h1 hyp1 HX
  go_enter Try.func36, Try.ntmps36
  go_upto_region 1 with (fail)
  go_cut [10] (fun v10 wc => Aside0 (UqO wc w0.heap.size g S p1 out) ∧ Aside0 (Below w0.heap.size w0 wc))
  case first =>
    obtain ⟨v, c0_, c1_, c2_, f1_, f2_, hR_, hb_⟩ := HU.out.cells
    have HR := Aside0.mk hR_
    have HBK := Aside0.mk hb_
    clear hR_ hb_
    go_wp2
    go_meet
    case rel => exact ⟨⟨by (try rw [e1]); exact UqO.at_ (by (with_reducible repeat (first | exact HU.out | apply UqO.drewN | apply UqO.drew))) _⟩, ⟨Below.setCell (by repeat (first | (with_reducible first | exact HB.out | apply below_alloc | apply pw_below_drewN | apply below_drew1 | apply below_drew) | exact HB.out)) HG.out _⟩⟩
  clear HU HB
  obtain ⟨HU, HB⟩ := hcut
  go_upto_region 2 with (fail)
  go_cut [20] (fun v20 wc => v20 = .bool false ∧ Aside0 (UqO wc w0.heap.size g S p1 out) ∧ Aside0 (Below w0.heap.size w0 wc))
  case first =>
    obtain ⟨v, c0_, c1_, c2_, f1_, f2_, hR_, hb_⟩ := HU.out.cells
    have HR := Aside0.mk hR_
    have HBK := Aside0.mk hb_
    clear hR_ hb_
    go_wp2
    repeat (go_quiet (fail); try go_wp2)
    all_goals
      go_meet
      case rel => exact ⟨rfl, ⟨(by (with_reducible repeat (first | exact HU.out | apply UqO.drewN | apply UqO.drew)))⟩, ⟨(by repeat (first | (with_reducible first | exact HB.out | apply below_alloc | apply pw_below_drewN | apply below_drew1 | apply below_drew) | exact HB.out))⟩⟩
  clear HU HB
  obtain ⟨rfl, HU, HB⟩ := hcut
  go_upto_region 4 with (fail)
  go_cut [3] (fun v3 wc => v3 = .int .u8 120 ∧ Aside0 (UqO wc w0.heap.size g S p1 out) ∧ Aside0 (Below w0.heap.size w0 wc))
  case first =>
    obtain ⟨v, c0_, c1_, c2_, f1_, f2_, hR_, hb_⟩ := HU.out.cells
    have HR := Aside0.mk hR_
    have HBK := Aside0.mk hb_
    clear hR_ hb_
    go_wp2
    repeat (go_quiet (fail); try go_wp2)
    all_goals
      go_meet
      case rel => exact ⟨rfl, ⟨(by (with_reducible repeat (first | exact HU.out | apply UqO.drewN | apply UqO.drew)))⟩, ⟨(by repeat (first | (with_reducible first | exact HB.out | apply below_alloc | apply pw_below_drewN | apply below_drew1 | apply below_drew) | exact HB.out))⟩⟩
  clear HU HB
  obtain ⟨rfl, HU, HB⟩ := hcut
  go_wp2_with (first | (go_at_call 57; (with_reducible refine (HX'.out _ (by (with_reducible repeat (first | exact HU.out | apply UqO.drewN | apply UqO.drew))) (by repeat (first | (with_reducible first | exact HB.out | apply below_alloc | apply pw_below_drewN | apply below_drew1 | apply below_drew) | exact HB.out))).mono ?_); rintro e_ w_ ⟨rfl, hu_, hb_⟩))
  go_ret
  exact ⟨rfl, hu_, hb_⟩

end Go.Proofs.Ythgodajjaddgbaa.T
