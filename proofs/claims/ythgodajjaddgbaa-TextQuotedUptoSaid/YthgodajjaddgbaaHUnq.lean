/- The methods of text.unquoter (layer 2), by hand: on what a quoted text holds, whole or cut short. Written by gen_unq.py. -/
import Derived.Test.YthgodajjaddgbaaTx0
import Derived.Test.YthgodajjaddgbaaTx2
import Derived.Test.YthgodajjaddgbaaHQuotes
import Derived.IntWalk
import Derived.StillTailTactics
import Derived.Deep.RegionLaw
import Derived.Deep.AppendLies
import Derived.BigQuiet
namespace Go.Proofs.Ythgodajjaddgbaa.T
open Go.RowKit Go.Proofs.YthgodajjaddgbaaW.PrintWords Go.Proofs.YthgodajjaddgbaaW.PrintLast Go.Proofs.YthgodajjaddgbaaW.PrintMore
attribute [local go_sem] max2_int min2_int max_two min_two max_three min_three max_four min_four   -- for this text's walks alone
set_option linter.unusedVariables false
set_option linter.unusedSimpArgs false

/-- An unquoter in memory: its text, its place, its bytes so far in a row of its own. -/
def UqO (w : World) (base g : Nat) (S : ByteArray) (p : Int) (out : List Int) : Prop := ∃ v, w.heap[g]? = some (.cells #[.string S, .int .i64 p, v] 61 (0, 0)) ∧ Kd.R (Kd.int .u8) 5 w base (fun k => k ≠ g) v out
theorem UqO.lt {w : World} {base g : Nat} {S : ByteArray} {p : Int} {out : List Int} (h : UqO w base g S p out) : g < w.heap.size := by obtain ⟨v, h, _⟩ := h; exact blk_lt h
theorem UqO.below {w w1 : World} {base g : Nat} {S : ByteArray} {p : Int} {out : List Int} (h : UqO w base g S p out) (hb : Below w.heap.size w w1) : UqO w1 base g S p out := by
  obtain ⟨v, h1, h2⟩ := h
  exact ⟨v, blk_below h1 hb, Kd.R_below h2 hb⟩
theorem UqO.drewN {w : World} {base g : Nat} {S : ByteArray} {p : Int} {out : List Int} (h : UqO w base g S p out) (n : Nat) : UqO (w.drewN n) base g S p out := h.below (pw_below_drewN (Below.refl _ _) n)
theorem UqO.drew {w : World} {base g : Nat} {S : ByteArray} {p : Int} {out : List Int} (h : UqO w base g S p out) : UqO w.drew base g S p out := h.below (below_drew (Below.refl _ _))
theorem UqO.at_ {w : World} {base g : Nat} {S : ByteArray} {p : Int} {out : List Int} (h : UqO w base g S p out) (q : Int) : UqO (w.setCell ⟨g, 1, none⟩ (.int .i64 q)) base g S q out := by
  obtain ⟨v, h1, h2⟩ := h
  exact ⟨v, by simpa using blk_set h1 1 (.int .i64 q), Kd.R_far h2 (p := ⟨g, 1, none⟩) (fun k hk => hk) _⟩
theorem UqO.cells {w : World} {base g : Nat} {S : ByteArray} {p : Int} {out : List Int} (h : UqO w base g S p out) : ∃ v, w.cell? ⟨g, 0, none⟩ = some (.string S) ∧ w.cell? ⟨g, 1, none⟩ = some (.int .i64 p) ∧ w.cell? ⟨g, 2, none⟩ = some v ∧ w.frozen? ⟨g, 1, none⟩ = false ∧ w.frozen? ⟨g, 2, none⟩ = false ∧ Kd.R (Kd.int .u8) 5 w base (fun k => k ≠ g) v out ∧ w.heap[g]? = some (.cells #[.string S, .int .i64 p, v] 61 (0, 0)) := by
  obtain ⟨v, h1, h2⟩ := h
  exact ⟨v, by simpa using blk_cell h1 0, by simpa using blk_cell h1 1, by simpa using blk_cell h1 2, blk_frozen h1 1, blk_frozen h1 2, h2, h1⟩
theorem UqO.put {w : World} {base g : Nat} {S : ByteArray} {p : Int} {v v1 : Value} {out : List Int} (h1 : w.heap[g]? = some (.cells #[.string S, .int .i64 p, v] 61 (0, 0))) (h2 : Kd.R (Kd.int .u8) 5 w base (fun k => k ≠ g) v1 out) : UqO (w.setCell ⟨g, 2, none⟩ v1) base g S p out :=
  ⟨v1, by simpa using blk_set h1 2 v1, Kd.R_far h2 (p := ⟨g, 2, none⟩) (fun k hk => hk) _⟩
set_option maxHeartbeats 4000000 in
theorem uq_plain (w0 w : World) (g : Nat) (S : ByteArray) (out : List Int) (p : Int) (hU : UqO w w0.heap.size g S p out) (hB : Below w0.heap.size w0 w) (hg : w0.heap.size ≤ g) (hl : out.length < 100000000000000) (p1 y : Int) (e1 : wrap64 (p + 1) = p1) (h0 : 0 ≤ p) (h1 : p < (S.size : Int)) (hyp : bt S p = y) (h32 : 32 ≤ y) :
    Calls Try.prog 35 #[.pointer (some ⟨g, 0, none⟩)] w fun e w' => e = .returned (.bool true) ∧ UqO w' w0.heap.size g S p1 (out ++ [y]) ∧ Below w0.heap.size w0 w' := by
  have HU := Aside0.mk hU
  have HB := Aside0.mk hB
  have HG := Aside0.mk hg
  have HL := Aside0.mk hl
  clear hU hB hg hl
  have d32 : decide (y < 32) = false := decide_eq_false (by omega)
  have hxp := bt_at S p
  rw [hyp] at hxp
  have i0p := eq_true (show 0 ≤ p by assumption)
  have i1p := eq_true (show p < (S.size : Int) by assumption)
  clear h32 h0 h1 hyp
  go_enter Try.func35, Try.ntmps35
  obtain ⟨v, c0_, c1_, c2_, f1_, f2_, hR_, hb_⟩ := HU.out.cells
  have HR := Aside0.mk hR_
  have HBK := Aside0.mk hb_
  clear hR_ hb_
  go_upto_region 1 with (fail)
  go_cut [12] (fun v12 wc => v12 = .bool false ∧ Aside0 (UqO wc w0.heap.size g S p out) ∧ Aside0 (Below w0.heap.size w0 wc))
  case first =>
    go_wp2
    repeat (go_quiet (fail); try go_wp2)
    all_goals
      go_meet
      case rel => exact ⟨rfl, ⟨(by (with_reducible repeat (first | exact HU.out | apply UqO.drewN | apply UqO.drew)))⟩, ⟨(by repeat (first | (with_reducible first | exact HB.out | apply below_alloc | apply pw_below_drewN | apply below_drew1 | apply below_drew) | exact HB.out))⟩⟩
  clear HU HB c0_ c1_ c2_ f1_ f2_ HR HBK
  clear v
  obtain ⟨rfl, HU, HB⟩ := hcut
  obtain ⟨w1, hw_⟩ : ∃ x, x = wc := ⟨_, rfl⟩
  subst hw_
  obtain ⟨v, c0_, c1_, c2_, f1_, f2_, hR_, hb_⟩ := HU.out.cells
  have HR := Aside0.mk hR_
  have HBK := Aside0.mk hb_
  clear hR_ hb_
  go_upto_region 3 with (fail)
  have al_ := fun o => blk_below HBK.out (below_alloc (Below.refl w1.heap.size w1) o)
  have a0_ : ∀ o, (w1.alloc o).cell? ⟨g, 0, none⟩ = some (.string S) := fun o => by simpa using blk_cell (al_ o) 0
  have a1_ : ∀ o, (w1.alloc o).cell? ⟨g, 1, none⟩ = some (.int .i64 p) := fun o => by simpa using blk_cell (al_ o) 1
  have a2_ : ∀ o, (w1.alloc o).cell? ⟨g, 2, none⟩ = some v := fun o => by simpa using blk_cell (al_ o) 2
  clear al_
  have HR3 := Aside0.mk (Kd.R_drew HR.out)
  have HB3 := Aside0.mk (below_drew HB.out)
  go_cut [28] (fun v28 wc => Aside0 (UqO wc w0.heap.size g S p (out ++ [y])) ∧ Aside0 (Below w0.heap.size w0 wc))
  case first =>
    go_region_law (first | (refine Kd.R_append_step (Kd.int .u8) (w0 := w0) (W := w1.drew) w0.heap.size (by simp [Region.wanted]) (.tmp 17) (.tmp 27) 23 5 (.int .u8 0) 1 rfl Try.underlying23 info5 rfl (by decide) (by decide) v out y [.int .u8 y] (fun k => k ≠ g) (fun _ => False) rfl rfl rfl (fun _ hk => hk.elim) (fun k hk => Nat.ne_of_gt (Nat.lt_of_lt_of_le (blk_lt HBK.out) hk)) HR3.out HB3.out HB3.out.size (by have := HL.out; omega) ?_; intro v4 w4 ho hb4 hg4 hat4; obtain ⟨A4, c4, rfl⟩ := Kd.R_slice ho; rw [List.length_append, List.length_singleton] at ho; have HB4 := Aside0.mk hb4; have HO4 := Aside0.mk ho; have HBK4 := Aside0.mk ((hg4.block g (blk_lt HBK.out) (fun e => HR.out.1 g e.symm rfl)).trans HBK.out); clear ho hb4 hg4 hat4; have d0_ := blk_cell HBK4.out 0; have d1_ := blk_cell HBK4.out 1; have d2_ := blk_cell HBK4.out 2; have df_ := blk_frozen HBK4.out 2; simp only [List.getElem?_toArray, List.getElem?_cons_zero, List.getElem?_cons_succ] at d0_ d1_ d2_))
    all_goals
      go_wp2
      go_meet
      case rel => exact ⟨⟨UqO.put HBK4.out HO4.out⟩, ⟨HB4.out.setCell HG.out _⟩⟩
  clear HU HB c0_ c1_ c2_ f1_ f2_ HR HBK HR3 HB3 a0_ a1_ a2_
  clear v
  obtain ⟨HU, HB⟩ := hcut
  obtain ⟨v, c0_, c1_, c2_, f1_, f2_, hR_, hb_⟩ := HU.out.cells
  have HR := Aside0.mk hR_
  have HBK := Aside0.mk hb_
  clear hR_ hb_
  go_wp2
  go_ret
  exact ⟨rfl, by (try rw [e1]); exact UqO.at_ (by (with_reducible repeat (first | exact HU.out | apply UqO.drewN | apply UqO.drew))) _, Below.setCell (by repeat (first | (with_reducible first | exact HB.out | apply below_alloc | apply pw_below_drewN | apply below_drew1 | apply below_drew) | exact HB.out)) HG.out _⟩

end Go.Proofs.Ythgodajjaddgbaa.T
