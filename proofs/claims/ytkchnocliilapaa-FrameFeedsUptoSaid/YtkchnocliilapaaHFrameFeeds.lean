/- The walk of FrameFeeds (layer 24), by hand, where what is read is of bulk at most 1048576. -/
import Derived.Test.YtkchnocliilapaaQx0
import Derived.Test.YtkchnocliilapaaQx2
import Derived.Test.YtkchnocliilapaaQx3
import Derived.Test.YtkchnocliilapaaHFeeds4
import Derived.Test.YtkchnocliilapaaHFeeds5
import Derived.Test.YtkchnocliilapaaHFeeds6
import Derived.IntWalk
import Derived.BigQuiet
import Derived.StillTailTactics
namespace Go.Proofs.Ytkchnocliilapaa.Q
open Go.RowKit Go.Proofs.YtkchnocliilapaaW.PrintWords Go.Proofs.YtkchnocliilapaaW.PrintLast Go.Proofs.YtkchnocliilapaaW.PrintMore
attribute [local go_sem] max2_int min2_int max_two min_two max_three min_three max_four min_four   -- for this text's walks alone
set_option linter.unusedVariables false
set_option linter.unusedSimpArgs false

def OkOp (o : S47) : Prop := o.f3.length ≤ 1048576 ∧ ∀ b ∈ o.f3, 0 ≤ b ∧ b < 256
def OkOpB (o : S47) : Bool := decide (o.f3.length ≤ 1048576) && o.f3.all fun b => decide (0 ≤ b) && decide (b < 256)
theorem okOpB (o : S47) : OkOpB o = true ↔ OkOp o := by simp [OkOpB, OkOp]
def stencillaw24_FrameFeeds.f (a0 : Int) (l1 : List S47) : Option Bool := if l1.all OkOpB = true then some true else none
theorem IsRef.drewN {w : World} {h : Nat} {lim err : Int} {S : ByteArray} (hI : IsRef w h lim S err) (n : Nat) : IsRef (w.drewN n) h lim S err := ((pw_below_drewN (Below.refl w.heap.size w) n).block h (blk_lt hI)).trans hI
theorem IsRef.drew {w : World} {h : Nat} {lim err : Int} {S : ByteArray} (hI : IsRef w h lim S err) : IsRef w.drew h lim S err := ((below_drew (Below.refl w.heap.size w)).block h (blk_lt hI)).trans hI
def IniP (w : World) (base gp g0 g1 : Nat) (lim : Int) : Prop := Arr w gp 40 0 g0 g1 ∧ IsNil w g0 lim ∧ IsNil w g1 lim ∧ g0 ≠ g1 ∧ base ≤ g0 ∧ base ≤ g1 ∧ base ≤ gp
def IniR (w : World) (base gp g0 g1 : Nat) (lim : Int) : Prop := Arr w gp 43 0 g0 g1 ∧ IsRef w g0 lim (strOfNums []) 0 ∧ IsRef w g1 lim (strOfNums []) 0 ∧ g0 ≠ g1 ∧ base ≤ g0 ∧ base ≤ g1 ∧ base ≤ gp
theorem IniP.below {w w1 : World} {base gp g0 g1 : Nat} {lim : Int} (h : IniP w base gp g0 g1 lim) (hb : Below w.heap.size w w1) : IniP w1 base gp g0 g1 lim :=
  ⟨h.1.keep (hb.block _ (arr_lt h.1)), (hb.block _ (blk_lt h.2.1)).trans h.2.1, (hb.block _ (blk_lt h.2.2.1)).trans h.2.2.1, h.2.2.2⟩
theorem arr_made {w : World} {gp t x y : Nat} (h : w.heap[gp]? = some (.cells #[.pointer none, .pointer none] t (0, 0))) : Arr ((w.setCell ⟨gp, 0, none⟩ (.pointer (some ⟨x, 0, none⟩))).setCell ⟨gp, 1, none⟩ (.pointer (some ⟨y, 0, none⟩))) gp t 0 x y := by
  have q := blk_set (blk_set h 0 (.pointer (some ⟨x, 0, none⟩))) 1 (.pointer (some ⟨y, 0, none⟩))
  simpa [Arr] using q
theorem two_far {w : World} {gp k : Nat} {u v : Value} (h : k ≠ gp) : ((w.setCell ⟨gp, 0, none⟩ u).setCell ⟨gp, 1, none⟩ v).heap[k]? = w.heap[k]? :=
  (Below.heap_setCell _ ⟨gp, 1, none⟩ _ k h).trans (Below.heap_setCell _ ⟨gp, 0, none⟩ _ k h)
theorem bcell {W w1 : World} {base : Nat} (hb : Below base W w1) : (∀ p : Addr, p.block < base → w1.cell? p = W.cell? p) ∧ (∀ p : Addr, p.block < base → w1.frozen? p = W.frozen? p) :=
  ⟨fun p h => World.cell?_of_block (hb.block p.block h), fun p h => World.frozen?_of_block (hb.block p.block h)⟩
set_option maxHeartbeats 4000000 in
set_option maxRecDepth 100000 in
theorem feeds_main (a0 : Int) (A1 : Option Addr) (c1 : Nat) (l1 : List S47) (w : World) (hr1 : Kd.C k47 w A1 l1.length l1) (hok : ∀ o ∈ l1, OkOp o) :
    Calls Try.prog 4 #[.int .i64 a0, .slice A1 l1.length c1] w fun e w' => e = .returned (.bool true) ∧ Below w.heap.size w w' := by
  have HR1 := Aside0.mk hr1
  have HOK := Aside0.mk hok
  have HB := Aside0.mk (Below.refl w.heap.size w)
  clear hr1 hok
  go_enter Try.func4, Try.ntmps4
  go_upto_region 1 with (fail)
  go_cut [5] (fun v5 wc => ∃ gp g0 g1, v5 = .pointer (some ⟨gp, 0, none⟩) ∧ Aside0 (IniP wc w.heap.size gp g0 g1 a0) ∧ Aside0 (Below w.heap.size w wc))
  case first => as_aux_lemma =>
    have tk1 : Aside0 True := ⟨trivial⟩
    go_wp2_with (first| (go_at_call 15; clear tk1; have tk2 : Aside0 True := ⟨trivial⟩; (with_reducible refine (new_step _ a0).mono ?_); rintro e w1 ⟨g0, rfl, hq, hn, hb_⟩; have HN0 := Aside0.mk hn; have HQ0 := Aside0.mk (Nat.le_of_eq hq.symm); have n0_ := Aside0.mk (below_step HB.out hb_); clear HB; have HB := n0_; clear n0_ hq hn hb_) | (go_at_call 15; clear tk2; (with_reducible refine (new_step _ a0).mono ?_); rintro e w2 ⟨g1, rfl, hq, hn, hb_⟩; have HN1 := Aside0.mk hn; have HQ1 := Aside0.mk (Nat.le_of_eq hq.symm); have HM0 := Aside0.mk (show IsNil w2 g0 a0 from (hb_.block _ (blk_lt HN0.out)).trans HN0.out); have HL0 := Aside0.mk (blk_lt HN0.out); have n0_ := Aside0.mk (below_step HB.out hb_); have HSZ := Aside0.mk (show w.heap.size ≤ w1.heap.size from HB.out.size); clear HB; have HB := n0_; clear n0_ hq hn hb_ HN0) | ((with_reducible refine gate_dst (N := 5) rfl ?_); refine box_event ?hg (N := 5) ?hd (cs := #[.pointer none, .pointer none]) (t := 40) ?hr ?_; (case hd => rfl); (case hg => rfl); (case hr => first | (go_simp; done) | (go_simp; rfl)); intro gp hgx w5 hbox hbw; have BX := Aside0.mk hbox; have hz0 := blk_cell hbox 0; have hz1 := blk_cell hbox 1; have hy0 := blk_frozen hbox 0; have hy1 := blk_frozen hbox 1; have HGP := Aside0.mk (Nat.le_of_eq hgx.symm); have K0 := Aside0.mk ((hbw.block _ (blk_lt HM0.out)).trans HM0.out); have K1 := Aside0.mk ((hbw.block _ (blk_lt HN1.out)).trans HN1.out); have M1 := Aside0.mk (blk_lt HN1.out); have M0 := Aside0.mk (blk_lt HM0.out); have HX0 := Aside0.mk (show w.heap.size ≤ w2.heap.size from HB.out.size); have n0_ := Aside0.mk (below_step HB.out hbw); clear HB HM0 HN1; have HB := n0_; clear n0_; clear hgx hbox hbw))
    go_meet
    case rel =>
      have e0 := HL0.out
      have e1 := HQ1.out
      have e2 := HQ0.out
      have e3 := HSZ.out
      have e4 := HGP.out
      have e5 := M0.out
      have e6 := M1.out
      have e7 := HX0.out
      exact ⟨gp, g0, g1, rfl, ⟨arr_made BX.out, (two_far (by omega)).trans K0.out, (two_far (by omega)).trans K1.out, by omega, by omega, by omega, by omega⟩, ⟨(HB.out.setCell (by show w.heap.size ≤ gp; omega) _).setCell (by show w.heap.size ≤ gp; omega) _⟩⟩
  obtain ⟨gp, g0, g1, rfl, HP0, HB1⟩ := hcut
  obtain ⟨wa, hw_⟩ : ∃ x, x = wc := ⟨_, rfl⟩
  subst hw_
  clear HB
  have HB := Aside0.mk HB1.out
  clear HB1
  go_upto_region 2 with (fail)
  go_cut [6] (fun v6 wc => ∃ gr h0 h1, v6 = .pointer (some ⟨gr, 0, none⟩) ∧ Aside0 (IniP wc w.heap.size gp g0 g1 a0) ∧ Aside0 (IniR wc w.heap.size gr h0 h1 a0) ∧ Aside0 (Below w.heap.size w wc))
  case first => as_aux_lemma =>
    have tk1 : Aside0 True := ⟨trivial⟩
    go_wp2_with (first| (go_at_call 16; clear tk1; have tk2 : Aside0 True := ⟨trivial⟩; (with_reducible refine (ref_New.calls _ a0).mono ?_); rintro e w1 ⟨h0, rfl, hq, hn, hb_⟩; have HN0 := Aside0.mk hn; have HQ0 := Aside0.mk (Nat.le_of_eq hq.symm); have HP1 := Aside0.mk (HP0.out.below hb_); have n0_ := Aside0.mk (below_step HB.out hb_); have HS0 := Aside0.mk (show w.heap.size ≤ wa.heap.size from HB.out.size); clear HB HP0; have HB := n0_; clear n0_ hq hn hb_) | (go_at_call 16; clear tk2; (with_reducible refine (ref_New.calls _ a0).mono ?_); rintro e w2 ⟨h1, rfl, hq, hn, hb_⟩; have HN1 := Aside0.mk hn; have HQ1 := Aside0.mk (Nat.le_of_eq hq.symm); have HP2 := Aside0.mk (HP1.out.below hb_); have HM0 := Aside0.mk (show IsRef w2 h0 a0 (strOfNums []) 0 from (hb_.block _ (blk_lt HN0.out)).trans HN0.out); have HL0 := Aside0.mk (blk_lt HN0.out); have n0_ := Aside0.mk (below_step HB.out hb_); have HSZ := Aside0.mk (show w.heap.size ≤ w1.heap.size from HB.out.size); clear HB HP1; have HB := n0_; clear n0_ hq hn hb_ HN0) | ((with_reducible refine gate_dst (N := 6) rfl ?_); refine box_event ?hg (N := 6) ?hd (cs := #[.pointer none, .pointer none]) (t := 43) ?hr ?_; (case hd => rfl); (case hg => rfl); (case hr => first | (go_simp; done) | (go_simp; rfl)); intro gr hgx w5 hbox hbw; have BX := Aside0.mk hbox; have hz0 := blk_cell hbox 0; have hz1 := blk_cell hbox 1; have hy0 := blk_frozen hbox 0; have hy1 := blk_frozen hbox 1; have HGP := Aside0.mk (Nat.le_of_eq hgx.symm); have HP3 := Aside0.mk (HP2.out.below hbw); have K0 := Aside0.mk ((hbw.block _ (blk_lt HM0.out)).trans HM0.out); have K1 := Aside0.mk ((hbw.block _ (blk_lt HN1.out)).trans HN1.out); have M1 := Aside0.mk (blk_lt HN1.out); have M0 := Aside0.mk (blk_lt HM0.out); have HX0 := Aside0.mk (show w.heap.size ≤ w2.heap.size from HB.out.size); have n0_ := Aside0.mk (below_step HB.out hbw); clear HB HM0 HN1 HP2; have HB := n0_; clear n0_; clear hgx hbox hbw))
    go_meet
    case rel =>
      have e0 := HL0.out
      have e1 := HQ1.out
      have e2 := HQ0.out
      have e3 := HSZ.out
      have e4 := HGP.out
      have e5 := M0.out
      have e6 := M1.out
      have e7 := HX0.out
      have e8 := HS0.out
      have hp := HP3.out
      have n1 := blk_ne hp.1 BX.out (by decide)
      have n2 := blk_ne hp.2.1 BX.out (by decide)
      have n3 := blk_ne hp.2.2.1 BX.out (by decide)
      exact ⟨gr, h0, h1, rfl, ⟨hp.1.keep (two_far n1), (two_far n2).trans hp.2.1, (two_far n3).trans hp.2.2.1, hp.2.2.2⟩, ⟨arr_made BX.out, (two_far (by omega)).trans K0.out, (two_far (by omega)).trans K1.out, by omega, by omega, by omega, by omega⟩, ⟨(HB.out.setCell (by show w.heap.size ≤ gr; omega) _).setCell (by show w.heap.size ≤ gr; omega) _⟩⟩
  obtain ⟨gr, h0, h1, rfl, HP1, HR2, HB1⟩ := hcut
  obtain ⟨wb, hw_⟩ : ∃ x, x = wc := ⟨_, rfl⟩
  subst hw_
  clear HB HP0
  have HB := Aside0.mk HB1.out
  have HST := Aside0.mk (fun hs : 0 < w.heap.size => St.init (w0 := w) hs HP1.out.1 HR2.out.1 HP1.out.2.1 HP1.out.2.2.1 HR2.out.2.1 HR2.out.2.2.1 HP1.out.2.2.2.1 HR2.out.2.2.2.1 ⟨HP1.out.2.2.2.2.1, HP1.out.2.2.2.2.2.1, HR2.out.2.2.2.2.1, HR2.out.2.2.2.2.2.1, HP1.out.2.2.2.2.2.2, HR2.out.2.2.2.2.2.2⟩)
  clear HB1 HP1 HR2
  go_wp2
  go_loopw [7, 8] (fun v7 v8 wr => ∃ (x y : FS) (bk : List (Nat × Int)) (xi : Int) (i : Nat) (A7 : Option Addr) (c7 : Nat), v7 = .slice A7 bk.length c7 ∧ v8 = .int .i64 xi ∧ Aside0 (xi = (i : Int) ∧ i ≤ 200 ∧ i ≤ l1.length + 1) ∧ Aside0 (NumS i x y bk) ∧ Aside0 (0 < w.heap.size → St wr w.heap.size gp gr 0 x y (.slice A7 bk.length c7) bk (fun _ => False)) ∧ Aside0 (Kd.C kB wr A7 bk.length bk) ∧ Aside0 (Below w.heap.size w wr)) (fun _ v8 _ => 201 - (intOf v8).toNat)
  case atStart => exact ⟨_, _, [], 0, 0, none, 0, rfl, rfl, ⟨rfl, Nat.zero_le _, Nat.zero_le _⟩, ⟨NumS.nil _ _ _ _ _ _ _ _⟩, HST, ⟨Kd.C_nil _ _⟩, HB⟩
  case round =>
  clear HST HB
  obtain ⟨x, y, bk, xi, i, A7, c7, rfl, rfl, HI, HN, HSTi, HC, HB⟩ := hrel
  by_cases hi : xi < (l1.length : Int) ∧ xi < 200
  case neg => as_aux_lemma =>
    have hlast : (decide (xi < (l1.length : Int)) = false) ∨ (decide (xi < (l1.length : Int)) = true ∧ decide (xi < 200) = false) := by
      by_cases c : xi < (l1.length : Int)
      · exact .inr ⟨decide_eq_true c, decide_eq_false (fun h => hi ⟨c, h⟩)⟩
      · exact .inl (decide_eq_false c)
    have HNB := Aside0.mk HN.out.2.2.2
    have HBL := Aside0.mk (show bk.length ≤ 200 from by have := HN.out.2.2.1; have := HI.out; omega)
    clear hi HSTi HI HN
    rcases hlast with d1 | ⟨d1, d2⟩
    all_goals
      go_wp2
      go_loopw [18] (fun v18 wr2 => ∃ (xj : Int) (j : Nat), v18 = .int .i64 xj ∧ Aside0 (xj = (j : Int) ∧ j ≤ bk.length) ∧ Aside0 (Kd.C kB wr2 A7 bk.length bk) ∧ Aside0 (Below w.heap.size w wr2)) (fun v18 _ => 201 - (intOf v18).toNat)
      case atStart => exact ⟨0, 0, rfl, ⟨rfl, Nat.zero_le _⟩, HC, HB⟩
      case round =>
      clear HC HB
      obtain ⟨xj, j, rfl, HJ, HC, HB⟩ := hrel
      by_cases hj : xj < (bk.length : Int)
      · have j0 : 0 ≤ xj := by have := HJ.out; omega
        obtain ⟨ad, B1, B2, c1', c2', ea, x0, x1, x2, cs, hb⟩ := at_kB HC.out xj j0 hj
        subst ea
        have hm := HNB.out _ (getD_mem (z := ((0, 0) : Nat × Int)) j0 hj)
        generalize bk.getD xj.toNat ((0, 0) : Nat × Int) = e at *
        obtain ⟨n, m⟩ := e
        have HBK := Aside0.mk hb
        have HM := Aside0.mk hm
        have w1 : wrap64 (xj + 1) = xj + 1 := w64f (by omega) (by have := HBL.out; omega)
        have HJ2 := Aside0.mk (show xj + 1 = ((j + 1 : Nat) : Int) ∧ j + 1 ≤ bk.length by have := HJ.out; omega)
        have HJ3 := Aside0.mk (show xj < 200 ∧ 0 ≤ xj by have := HBL.out; omega)
        have d3 := decide_eq_true hj
        have p0 := eq_true j0
        have p1 := eq_true hj
        clear hb hm hj j0 HJ
        go_wp2_with (first | (go_at_call 12; (with_reducible refine (holds_entry _ _ (n, m) B1 B2 c1' c2' _ HM.out.1 HM.out.2.1 HM.out.2.2 HBK.out (by first | exact Below.refl _ _ | repeat (first | exact Below.refl _ _ | apply below_alloc | apply pw_below_drewN | apply below_drew1))).mono ?_); rintro e w12 ⟨rfl, hb_⟩; have HC12 := Aside0.mk (Kd.C_below HC.out hb_); have HB12 := Aside0.mk (below_step HB.out hb_); clear hb_))
        go_roundw
        case rel => exact ⟨xj + 1, j + 1, by first | rfl | rw [w1], HJ2, HC12, HB12⟩
        case measure => have := HJ3.out; simp [intOf, w1]; omega
      · have d3 := decide_eq_false hj
        clear hj
        go_wp2
        go_ret
        exact ⟨rfl, HB.out⟩
  case pos => as_aux_lemma =>
    obtain ⟨hi1, hi2⟩ := hi
    have j0 : 0 ≤ xi := by have := HI.out; omega
    obtain ⟨ad, Ab, cb, ea, x0, x1, x2, x3, lb, gb⟩ := at_T47 HR1.out xi j0 hi1
    subst ea
    have hm := HOK.out _ (getD_mem (z := z47) j0 hi1)
    rw [show l1.getD xi.toNat z47 = rd_T47 l1 xi from rfl] at hm
    generalize rd_T47 l1 xi = o at *
    obtain ⟨K, Aa, Nn, ch⟩ := o
    have HOP := Aside0.mk (show ch.length ≤ 1048576 ∧ ∀ b ∈ ch, 0 ≤ b ∧ b < 256 from hm)
    have GB := Aside0.mk (show Kd.C (Kd.int .u8) w Ab ch.length ch from gb)
    have LB := Aside0.mk (show ch.length ≤ cb from lb)
    have cl := bcell HB.out
    have HS := Aside0.mk (show 0 < w.heap.size from Nat.lt_of_le_of_lt (Nat.zero_le _) (World.block_lt_of_cell? w _ x0))
    have HST := Aside0.mk (HSTi.out HS.out)
    clear HSTi HC
    have X0 := (cl.1 _ (World.block_lt_of_cell? w _ x0)).trans x0
    have X1 := (cl.1 _ (World.block_lt_of_cell? w _ x1)).trans x1
    have X2 := (cl.1 _ (World.block_lt_of_cell? w _ x2)).trans x2
    have X3 := (cl.1 _ (World.block_lt_of_cell? w _ x3)).trans x3
    have HI2 := Aside0.mk (show xi + 1 = ((i + 1 : Nat) : Int) ∧ i + 1 ≤ 200 ∧ i + 1 ≤ l1.length + 1 by have := HI.out; omega)
    have HI3 := Aside0.mk (show 0 ≤ xi ∧ xi < 200 from ⟨j0, hi2⟩)
    have d1 := decide_eq_true hi1
    have d2 := decide_eq_true hi2
    have p0 := eq_true j0
    have p1 := eq_true hi1
    clear hm gb lb cl x0 x1 x2 x3 j0 hi1 hi2 HI
    go_upto_region 7 with (fail)
    clear d1 d2
    go_cut [9] (fun v9 wc => ∃ g9, v9 = .pointer (some ⟨g9, 0, none⟩) ∧ Aside0 (wc.heap[g9]? = some (.cells #[.int .i64 K, .int .i64 Aa, .int .i64 Nn, .slice Ab ch.length cb] 47 (0, 0))) ∧ Aside0 (St wc w.heap.size gp gr 0 x y (.slice A7 bk.length c7) bk (fun k => k = g9)) ∧ Aside0 (Below w.heap.size w wc) ∧ Aside0 (w.heap.size ≤ g9))
    case first => as_aux_lemma =>
      go_wp2_with (first | ((with_reducible refine gate_dst (N := 9) rfl ?_); refine box_event ?hg (N := 9) ?hd (cs := #[.int .i64 0, .int .i64 0, .int .i64 0, .slice none 0 0]) (t := 47) ?hr ?_; (case hd => rfl); (case hg => rfl); (case hr => first | (go_simp; done) | (go_simp; rfl)); intro g9 hgx w9 hbox hbw; have BX := Aside0.mk hbox; have HGP := Aside0.mk (show w.heap.size ≤ g9 by rw [hgx]; exact HB.out.size); have HB9 := Aside0.mk (below_step HB.out hbw); have S9 := Aside0.mk (((HST.out.avoid (fun k => k = g9) (fun k hk => .inr (by rw [hk, hgx]; exact Nat.le_refl _)))).below hbw HB.out HB9.out); have hz0 := blk_cell hbox 0; have hz1 := blk_cell hbox 1; have hz2 := blk_cell hbox 2; have hz3 := blk_cell hbox 3; have hy0 := blk_frozen hbox 0; have hy1 := blk_frozen hbox 1; have hy2 := blk_frozen hbox 2; have hy3 := blk_frozen hbox 3; clear hgx hbox hbw))
      go_meet
      case rel =>
        have e0 := HGP.out
        have b4 := (((HB9.out.setCell (p := ⟨g9, 0, none⟩) e0 (.int .i64 K)).setCell (p := ⟨g9, 1, none⟩) e0 (.int .i64 Aa)).setCell (p := ⟨g9, 2, none⟩) e0 (.int .i64 Nn)).setCell (p := ⟨g9, 3, none⟩) e0 (.slice Ab ch.length cb)
        refine ⟨g9, rfl, ⟨?_⟩, ⟨S9.out.move ?_ HB9.out b4⟩, ⟨b4⟩, HGP⟩
        · have z := blk_set (blk_set (blk_set (blk_set BX.out 0 (.int .i64 K)) 1 (.int .i64 Aa)) 2 (.int .i64 Nn)) 3 (.slice Ab ch.length cb)
          simpa using z
        · exact kept_set (S := fun k => k = g9) (kept_set (S := fun k => k = g9) (kept_set (S := fun k => k = g9) (kept_set (S := fun k => k = g9) (Kept.refl _ _) rfl _ _) rfl _ _) rfl _ _) rfl _ _
    obtain ⟨g9, rfl, HX9, HST', HB', HG9⟩ := hcut
    obtain ⟨wa, hw_⟩ : ∃ x, x = wc := ⟨_, rfl⟩
    subst hw_
    clear HST HB X0 X1 X2 X3 p0 p1
    have HST := Aside0.mk HST'.out
    have HB := Aside0.mk HB'.out
    clear HST' HB'
    obtain ⟨a, ha, hbit⟩ := and_one Aa
    have hsw : ∃ x' y', St wa w.heap.size gp gr a x' y' (.slice A7 bk.length c7) bk (fun k => k = g9) ∧ NumS i x' y' bk := by
      rcases HST.out.swap (by decide) a ha with ⟨_, h⟩ | h
      · exact ⟨x, y, h, HN.out⟩
      · exact ⟨y, x, h, HN.out.2.1, HN.out.1, HN.out.2.2⟩
    clear HST HN
    obtain ⟨x', y', hst, hn⟩ := hsw
    have HST := Aside0.mk hst
    have HN := Aside0.mk hn
    have HA := Aside0.mk ha
    clear hst hn x y ha
    obtain ⟨x, hx_⟩ : ∃ x, x = x' := ⟨_, rfl⟩
    subst hx_
    obtain ⟨y, hy_⟩ : ∃ y, y = y' := ⟨_, rfl⟩
    subst hy_
    have c0 := blk_cell HX9.out 0
    have c1_ := blk_cell HX9.out 1
    have c2 := blk_cell HX9.out 2
    have c3 := blk_cell HX9.out 3
    simp only [List.getElem?_toArray, List.getElem?_cons_zero, List.getElem?_cons_succ] at c0 c1_ c2 c3
    have pa := (HST.out.ap.at_ HA.out).1
    have b0 := eq_true (show (0 : Int) ≤ (a : Int) by omega)
    have b1 := eq_true (show (a : Int) < 2 by have := HA.out; omega)
    go_upto_block 2 with (fail)
    go_cut [7] (fun v7 wc => ∃ (x y : FS) (bk : List (Nat × Int)) (A7 : Option Addr) (c7 : Nat), v7 = .slice A7 bk.length c7 ∧ Aside0 (NumS (i + 1) x y bk) ∧ Aside0 (St wc w.heap.size gp gr a x y (.slice A7 bk.length c7) bk (fun _ => False)) ∧ Aside0 (Below w.heap.size w wc))
    case first => as_aux_lemma =>
      have HMO := Aside0.mk (HN.out.more)
      by_cases hK : K = 0
      case neg => as_aux_lemma =>
        have e0 := beq_eq_false_iff_ne.mpr hK
        by_cases hK1 : K = 1
        case neg => as_aux_lemma =>
          have e1 := beq_eq_false_iff_ne.mpr hK1
          clear hK hK1
          go_wp2
          go_meet
          case rel => exact ⟨x, y, bk, A7, c7, rfl, HMO, ⟨HST.out.lim _ (fun _ h => h.elim)⟩, HB⟩
        case pos => as_aux_lemma =>
          subst hK1
          clear hK
          have LT := Aside0.mk HST.out.lt
          have L9 := Aside0.mk (blk_lt HX9.out)
          have N9 := Aside0.mk (show g9 ≠ gp ∧ g9 ≠ gr from ⟨blk_ne HX9.out HST.out.ap (by decide), blk_ne HX9.out HST.out.ar (by decide)⟩)
          have PA := Aside0.mk (HST.out.ap.at_ HA.out)
          have PR := Aside0.mk (HST.out.ar.at_ HA.out)
          go_wp2_with (first | (go_at_call 15; (with_reducible refine (new_step _ Nn).mono ?_); rintro e w1 ⟨g, rfl, hq, hn, hb_⟩; have HN1 := Aside0.mk hn; have HG1 := Aside0.mk (Nat.le_of_eq hq.symm); have B1 := Aside0.mk hb_; have X1 := Aside0.mk (blk_below HX9.out hb_); have pc1 := ((bcell hb_).1 ⟨gp, a, none⟩ LT.out.2.2.2.2.2.2.1).trans PA.out.1; have pf1 := ((bcell hb_).2 ⟨gp, a, none⟩ LT.out.2.2.2.2.2.2.1).trans PA.out.2; have PR1 := Aside0.mk (((bcell hb_).1 ⟨gr, a, none⟩ LT.out.2.2.2.2.2.2.2).trans PR.out.1); have PQ1 := Aside0.mk (((bcell hb_).2 ⟨gr, a, none⟩ LT.out.2.2.2.2.2.2.2).trans PR.out.2); have c2' : (w1.setCell ⟨gp, a, none⟩ (.pointer (some ⟨g, 0, none⟩))).cell? ⟨g9, 2, none⟩ = some (.int .i64 Nn) := blk_cell (blk_far X1.out N9.out.1 _) 2; clear hq hn hb_) | (go_at_call 16; (with_reducible refine (ref_New.calls _ Nn).mono ?_); rintro e w2 ⟨h, rfl, hq, hn, hb_⟩; have HN2 := Aside0.mk hn; have HG2 := Aside0.mk (show w1.heap.size ≤ h by rw [hq, sc_size]; exact Nat.le_refl _); have B2 := Aside0.mk (show Below w1.heap.size _ w2 by rw [sc_size] at hb_; exact hb_); have LR := Aside0.mk (Nat.lt_of_lt_of_le LT.out.2.2.2.2.2.2.2 B1.out.size); have pr1 : w2.cell? ⟨gr, a, none⟩ = some (.pointer (some ⟨x.h, 0, none⟩)) := ((bcell B2.out).1 ⟨gr, a, none⟩ LR.out).trans ((World.cell?_of_block (Below.heap_setCell w1 ⟨gp, a, none⟩ _ gr HST.out.nh.2.2.2.2.2.symm)).trans PR1.out); have pr2 : w2.frozen? ⟨gr, a, none⟩ = false := ((bcell B2.out).2 ⟨gr, a, none⟩ LR.out).trans ((World.frozen?_of_block (Below.heap_setCell w1 ⟨gp, a, none⟩ _ gr HST.out.nh.2.2.2.2.2.symm)).trans PQ1.out); clear hq hn hb_))
          go_meet
          case rel =>
            have z := St.renew (w0 := w) (sb := 0) (HST.out.lim (fun _ => False) (fun _ h => h.elim)) HA.out HB.out HS.out B1.out HG1.out HN1.out B2.out HG2.out HN2.out
            exact ⟨⟨g, 0, h, [], Nn, 0⟩, y, bk, A7, c7, rfl, ⟨⟨Nat.zero_le _, HMO.out.2⟩⟩, ⟨z.1⟩, ⟨z.2⟩⟩
      case pos => as_aux_lemma =>
        subst hK
        have LT := Aside0.mk HST.out.lt
        have L9 := Aside0.mk (blk_lt HX9.out)
        have PA := Aside0.mk (HST.out.ap.at_ HA.out)
        have hpr := (HST.out.ar.at_ HA.out).1
        have HLEN := Aside0.mk (show x.bs.length + ch.length < 1000000000 by have h1 := HN.out.1; have h2 := HOP.out.1; have h3 : i * 1048576 ≤ 209715200 := by have h := HI2.out.2.1; omega
                                                                             omega)
        have HRG := Aside0.mk HST.out.rg.1
        have GBA := Aside0.mk (Kd.C_below GB.out HB.out)
        clear pa
        go_upto_region 13 with (fail)
        go_cut [11, 12] (fun v11 v12 wc => ∃ A11 c11, v11 = .slice A11 (stepL x ch).length c11 ∧ v12 = .int .i64 (stepE x ch) ∧ Aside0 (Kd.R k23 23 wc w.heap.size (fun k => wa.heap.size ≤ k) (.slice A11 (stepL x ch).length c11) (stepL x ch)) ∧ Aside0 (IsRef wc x.h x.lim (strOfNums (stepB x ch)) (stepE x ch)) ∧ Aside0 (Below w.heap.size w wc) ∧ Aside0 (Kept wa wc (fun k => k = x.h)))
        case first => as_aux_lemma =>
          have hpr' : wa.drew.cell? ⟨gr, a, none⟩ = some (.pointer (some ⟨x.h, 0, none⟩)) := hpr
          have c3' : wa.drew.cell? ⟨g9, 3, none⟩ = some (.slice Ab ch.length cb) := c3
          have hstr := Kd.C_string (P := Try.prog) (c := cb) Try.underlying45 Try.underlying5 Try.underlying9 GBA.out
          have hstr' := Kd.C_string (P := Try.prog) (c := cb) Try.underlying45 Try.underlying5 Try.underlying9 (Kd.C_drew GBA.out)
          have HI := Aside0.mk (show IsRef wa.drew x.h x.lim (strOfNums x.bs) x.ref from HST.out.rx.drew)
          have HBD := Aside0.mk (below_drew HB.out)
          have HC17 := Aside0.mk (ref_step w wa.drew x ch (strOfNums ch) HI.out rfl HRG.out HOP.out.2 (by have := HLEN.out; omega) HBD.out HST.out.low.2.2.1)
          refine start_ (n := 12) (S := fun w' => w'.cell? ⟨gr, a, none⟩ = some (.pointer (some ⟨x.h, 0, none⟩)) ∧ w'.cell? ⟨g9, 3, none⟩ = some (.slice Ab ch.length cb) ∧ (convert 45 9 (.slice Ab ch.length cb)).run Try.prog w' = .ok (.string (strOfNums ch)) w') (ds := [6]) #[false, false, false, false, false, false, false, false, false, false, false, false] (by kernel_rfl) rfl rfl ⟨hpr', c3', hstr'⟩ (fun hHeld => ?_)
          refine pure_ (i := 0) (N := some 56) (v := ?_) (a' := ?_) #[true, false, false, false, false, false, false, false, false, false, false, false] rfl rfl (by kernel_rfl) (fun _ _ _ h => h) (Or.inl ⟨by rfl, ?_⟩) ?_ ?_
          rotate_left
          · intro w'
            go_simp
            with_reducible rfl
          rotate_left
          · simp only [Act.put, List.setIfInBounds_toArray, List.set_cons_zero, List.set_cons_succ, i64_w, i32_w]
            rfl
          refine pure_ (i := 1) (N := some 57) (v := ?_) (a' := ?_) #[true, true, false, false, false, false, false, false, false, false, false, false] rfl rfl (by kernel_rfl) (fun _ _ _ h => h) (Or.inl ⟨by rfl, ?_⟩) ?_ ?_
          rotate_left
          · intro w'
            go_simp
            with_reducible rfl
          rotate_left
          · simp only [Act.put, List.setIfInBounds_toArray, List.set_cons_zero, List.set_cons_succ, i64_w, i32_w]
            rfl
          refine pure_ (i := 3) (N := some 59) (v := ?_) (a' := ?_) #[true, true, false, true, false, false, false, false, false, false, false, false] rfl rfl (by kernel_rfl) (fun _ _ _ h => h) (Or.inl ⟨by rfl, ?_⟩) ?_ ?_
          rotate_left
          · intro w'
            go_simp
            with_reducible rfl
          rotate_left
          · simp only [Act.put, List.setIfInBounds_toArray, List.set_cons_zero, List.set_cons_succ, i64_w, i32_w]
            rfl
          refine take_ (i := 2) (N := some 58) (v := ?_) (a' := ?_) #[true, true, true, true, false, false, false, false, false, false, false, false] rfl rfl (by kernel_rfl) (fun _ _ _ h => h) (Or.inl ⟨by rfl, ?_⟩) hHeld ?_ ?_
          rotate_left
          · rintro w' ⟨s0, s1, s2⟩
            go_simp
            with_reducible rfl
          rotate_left
          · simp only [Act.put, List.setIfInBounds_toArray, List.set_cons_zero, List.set_cons_succ, i64_w, i32_w]
            rfl
          refine take_ (i := 4) (N := some 60) (v := ?_) (a' := ?_) #[true, true, true, true, true, false, false, false, false, false, false, false] rfl rfl (by kernel_rfl) (fun _ _ _ h => h) (Or.inl ⟨by rfl, ?_⟩) hHeld ?_ ?_
          rotate_left
          · rintro w' ⟨s0, s1, s2⟩
            go_simp
            with_reducible rfl
          rotate_left
          · simp only [Act.put, List.setIfInBounds_toArray, List.set_cons_zero, List.set_cons_succ, i64_w, i32_w]
            rfl
          refine take_ (i := 5) (N := some 61) (v := ?_) (a' := ?_) #[true, true, true, true, true, true, false, false, false, false, false, false] rfl rfl (by kernel_rfl) (fun _ _ _ h => h) (Or.inl ⟨by rfl, ?_⟩) hHeld ?_ ?_
          rotate_left
          · rintro w' ⟨s0, s1, s2⟩
            go_simp
            with_reducible rfl
          rotate_left
          · simp only [Act.put, List.setIfInBounds_toArray, List.set_cons_zero, List.set_cons_succ, i64_w, i32_w]
            rfl
          refine last_ (i := 6) (N := some 62) #[true, true, true, true, true, true, true, false, false, false, false, false] rfl rfl (by kernel_rfl) (by decide) (fun K hK => ?_)
          refine goes_ Try.func17 (by kernel_rfl) rfl #[.pointer (some ⟨x.h, 0, none⟩), .string (strOfNums ch)] (by rfl) rfl rfl (by simp only [List.map_toArray, List.map_cons, List.map_nil]; rfl) ?_
          with_reducible refine (HC17.out).mono ?_
          rintro e w17 ⟨v, rfl, ho, hi, hb, hk⟩
          refine ⟨_, rfl, ?_⟩
          have HO := Aside0.mk ho
          have HI2 := Aside0.mk hi
          have HB2 := Aside0.mk hb
          have HK2 := Aside0.mk (show Kept wa w17 (fun k => k = x.h) from hk)
          clear ho hi hb hk
          refine hK.out _ _ ?_
          clear hK K
          refine norm_ (a' := ?_) ?_ ?_
          rotate_left
          · show Act.put _ (some 62) _ = _
            simp only [Act.put, List.setIfInBounds_toArray, List.set_cons_zero, List.set_cons_succ, i64_w, i32_w]
            rfl
          refine pure_ (i := 7) (N := some 55) (v := ?_) (a' := ?_) #[true, true, true, true, true, true, true, true, false, false, false, false] rfl rfl (by kernel_rfl) (fun _ _ _ h => h) (Or.inl ⟨by rfl, ?_⟩) ?_ ?_
          rotate_left
          · intro w'
            go_simp
            with_reducible rfl
          rotate_left
          · simp only [Act.put, List.setIfInBounds_toArray, List.set_cons_zero, List.set_cons_succ, i64_w, i32_w]
            rfl
          refine pure_ (i := 8) (N := some 63) (v := ?_) (a' := ?_) #[true, true, true, true, true, true, true, true, true, false, false, false] rfl rfl (by kernel_rfl) (fun _ _ _ h => h) (Or.inl ⟨by rfl, ?_⟩) ?_ ?_
          rotate_left
          · intro w'
            go_simp
            with_reducible rfl
          rotate_left
          · simp only [Act.put, List.setIfInBounds_toArray, List.set_cons_zero, List.set_cons_succ, i64_w, i32_w]
            rfl
          refine pure_ (i := 9) (N := some 64) (v := ?_) (a' := ?_) #[true, true, true, true, true, true, true, true, true, true, false, false] rfl rfl (by kernel_rfl) (fun _ _ _ h => h) (Or.inl ⟨by rfl, ?_⟩) ?_ ?_
          rotate_left
          · intro w'
            go_simp
            with_reducible rfl
          rotate_left
          · simp only [Act.put, List.setIfInBounds_toArray, List.set_cons_zero, List.set_cons_succ, i64_w, i32_w]
            rfl
          refine pure_ (i := 10) (N := some 11) (v := ?_) (a' := ?_) #[true, true, true, true, true, true, true, true, true, true, true, false] rfl rfl (by kernel_rfl) (fun _ _ _ h => h) (Or.inl ⟨by rfl, ?_⟩) ?_ ?_
          rotate_left
          · intro w'
            go_simp
            with_reducible rfl
          rotate_left
          · simp only [Act.put, List.setIfInBounds_toArray, List.set_cons_zero, List.set_cons_succ, i64_w, i32_w]
            rfl
          refine pure_ (i := 11) (N := some 12) (v := ?_) (a' := ?_) #[true, true, true, true, true, true, true, true, true, true, true, true] rfl rfl (by kernel_rfl) (fun _ _ _ h => h) (Or.inl ⟨by rfl, ?_⟩) ?_ ?_
          rotate_left
          · intro w'
            go_simp
            with_reducible rfl
          rotate_left
          · simp only [Act.put, List.setIfInBounds_toArray, List.set_cons_zero, List.set_cons_succ, i64_w, i32_w]
            rfl
          refine done_ (by kernel_rfl) ?_
          go_wp2
          go_meet
          case rel =>
            have ho := HO.out
            obtain ⟨A11, c11, rfl⟩ := Kd.R_slice ho
            exact ⟨A11, c11, rfl, rfl, ⟨ho⟩, HI2, HB2, HK2⟩
        obtain ⟨A11, c11, rfl, rfl, HO11, HI11, HB11, HK11⟩ := hcut
        obtain ⟨wb, hw_⟩ : ∃ z, z = wc := ⟨_, rfl⟩
        subst hw_
        clear c0 c1_ c2 c3 hpr GBA
        have HXB := Aside0.mk ((HK11.out.2 g9 L9.out (fun e => HST.out.nh.2.1 e.symm)).trans HX9.out)
        have c0 := blk_cell HXB.out 0
        have c3 := blk_cell HXB.out 3
        simp only [List.getElem?_toArray, List.getElem?_cons_zero, List.getElem?_cons_succ] at c0 c3
        have GBB := Aside0.mk (Kd.C_below GB.out HB11.out)
        have HBW := Aside0.mk HB.out
        have HBWA := Aside0.mk HB.out
        clear HB
        have HB := Aside0.mk (Below.refl wb.heap.size wb)
        go_upto_region 17 with (first | ((with_reducible refine gate_builtin (b := .append) (xs := #[.tmp 65, .tmp 67]) rfl ?_); at_builtin; refine Kd.R_append_rows ((Kd.int .u8)) (w0 := wb) wb.heap.size rfl (.tmp 65) (.tmp 67) 45 5 (.int .u8 0) 1 rfl Try.underlying45 info5 rfl (by decide) (by omega) ((.slice none 0 0)) (([] : List Int)) (ch) _ _ _ (fun _ => True) (fun _ => False) rfl rfl ?aO ?aR (fun _ _ h => h) (fun _ h => h.elim) ?aF ?aB ?aS ?aL ?_; (case aR => repeat (first | exact GBB.out | (with_reducible refine Kd.C_alloc ?_ _) | (with_reducible refine Kd.C_drewN ?_ _) | (with_reducible refine Kd.C_drew ?_))); (case aB => exact (by repeat (first | (with_reducible first | exact HB.out | apply below_alloc | apply pw_below_drewN | apply below_drew1) | exact HB.out))); (case aF => exact (fun _ _ => trivial)); (case aO => exact ((Kd.R_nil _ _ _ _ (fun _ => True)))); (case aS => exact (below_size (by repeat (first | (with_reducible first | exact HB.out | apply below_alloc | apply pw_below_drewN | apply below_drew1) | exact HB.out)))); (case aL => have h1 := HOP.out.1; simp; omega); intro v1 w_v1 ho hb hg hat; have n0_ := Aside0.mk (hb); have HO1 := Aside0.mk ho; clear HB; have HB := n0_; clear n0_; clear ho hb hg hat; have q_ := HO1.out; rw [List.nil_append] at q_; clear HO1; have HO1 := Aside0.mk q_; clear q_; clear c0 c3; have HXB1 := Aside0.mk (blk_below HXB.out HB.out); have c0 := blk_cell HXB1.out 0; have c3 := blk_cell HXB1.out 3; simp only [List.getElem?_toArray, List.getElem?_cons_zero, List.getElem?_cons_succ] at c0 c3) | ((with_reducible refine gate_builtin (b := .append) (xs := #[.tmp 69, .tmp 70]) rfl ?_); at_builtin; refine Kd.R_append ((Kd.int .u8)) (w0 := wb) wb.heap.size rfl (.tmp 69) (.tmp 70) 45 5 (.int .u8 0) 1 rfl Try.underlying45 info5 rfl (by decide) (by omega) (v1) (ch) (201) [.int .u8 201] (fun _ => True) (fun _ => False) rfl rfl ?aP (fun _ hk => hk.elim) ?aF ?aO ?aB ?aS ?aL ?_; (case aP => exact rfl); (case aB => exact (by repeat (first | (with_reducible first | exact HB.out | apply below_alloc | apply pw_below_drewN | apply below_drew1) | exact HB.out))); (case aF => exact (fun _ _ => trivial)); (case aO => exact (by (with_reducible repeat (first | apply Kd.R_alloc | apply Kd.R_drewN | apply Kd.R_drew)); exact HO1.out)); (case aS => exact (below_size (by repeat (first | (with_reducible first | exact HB.out | apply below_alloc | apply pw_below_drewN | apply below_drew1) | exact HB.out)))); (case aL => have h1 := HOP.out.1; omega); intro v2 w_v2 ho hb hg hat; have n0_ := Aside0.mk (hb); have HO2 := Aside0.mk (ho); clear HB; have HB := n0_; clear n0_; clear ho hb hg hat; clear c0 c3 HO1; obtain ⟨go, co, hv_, hgo, hgl, hcl_⟩ := Kd.R_form HO2.out (by simp); have hv2_ : v2 = .slice (some ⟨go, 0, none⟩) (ch.length + 1) co := (by rw [hv_]; simp); clear hv_; subst hv2_; have HGO := Aside0.mk hgo; have HGL := Aside0.mk hgl; have HCO := Aside0.mk (Kd.R_reads' HO2.out).2.1; have HXB2 := Aside0.mk (blk_below HXB.out HB.out); have c0 := blk_cell HXB2.out 0; have c3 := blk_cell HXB2.out 3; simp only [List.getElem?_toArray, List.getElem?_cons_zero, List.getElem?_cons_succ] at c0 c3; clear hgo hgl hcl_))
        obtain ⟨wq, hwq_⟩ : ∃ z, z = w_v2 := ⟨_, rfl⟩
        subst hwq_
        have HBQ := Aside0.mk (below_then HB11.out HB11.out.size HB.out)
        have HKQ := Aside0.mk (HK11.out.below HB.out)
        have FXQ := Aside0.mk (HST.out.fx_kept HKQ.out HBWA.out HBQ.out)
        have PAQ := Aside0.mk (HST.out.ap_kept HA.out HKQ.out)
        have LOW := Aside0.mk HST.out.low.1
        have CHQ := Aside0.mk (row_front HO2.out)
        have GBQ := Aside0.mk (Kd.C_below GB.out HBQ.out)
        clear GBB HXB HXB1 HBW PA
        go_cut [14, 15] (fun v14 v15 wd => ∃ A14 c14 bb', v14 = .slice A14 (stepL x ch).length c14 ∧ v15 = .int .i64 (stepE x ch) ∧ Aside0 (St wd w.heap.size gp gr a { x with bb := bb', bs := stepB x ch, ref := stepE x ch } y (.slice A7 bk.length c7) bk (fun k => k = g9 ∨ k = go ∨ ∃ z, A14 = some z ∧ k = z.block)) ∧ Aside0 (Kd.R k23 23 wd w.heap.size (fun k => k ≠ go ∧ k ≠ g9) (.slice A14 (stepL x ch).length c14) (stepL x ch)) ∧ Aside0 (Kd.R (Kd.int .u8) 5 wd w.heap.size (fun k => k = go) (.slice (some ⟨go, 0, none⟩) (ch.length + 1) co) (ch ++ [201])) ∧ Aside0 (Kd.R k23 23 wd w.heap.size (fun k => wa.heap.size ≤ k) (.slice A11 (stepL x ch).length c11) (stepL x ch)) ∧ Aside0 (wd.heap[g9]? = some (.cells #[.int .i64 0, .int .i64 Aa, .int .i64 Nn, .slice Ab ch.length cb] 47 (0, 0))) ∧ Aside0 (Below w.heap.size w wd))
        case first => as_aux_lemma =>
          have pq := PAQ.out
          have pq' : wq.drew.cell? ⟨gp, a, none⟩ = some (.pointer (some ⟨x.g, 0, none⟩)) := pq
          have c3' : wq.drew.cell? ⟨g9, 3, none⟩ = some (.slice Ab ch.length cb) := c3
          have l0 := eq_true (show (0 : Int) ≤ (ch.length : Int) from Int.natCast_nonneg _)
          have l1' : ch.length ≤ co := Nat.le_of_succ_le CHQ.out.2
          have l2 := eq_true (show (ch.length : Int) ≤ (co : Int) from Int.ofNat_le.2 l1')
          have HC18 := Aside0.mk (feed_step w wq.drew x ch (some ⟨go, 0, none⟩) co ch.length rfl FXQ.out.drew (below_drew HBQ.out) LOW.out (Kd.C_drew CHQ.out.1) l1' HRG.out HOP.out.2 (Nat.lt_of_lt_of_le HLEN.out (by decide)))
          refine start_ (n := 14) (S := fun w' => w'.cell? ⟨gp, a, none⟩ = some (.pointer (some ⟨x.g, 0, none⟩)) ∧ w'.cell? ⟨g9, 3, none⟩ = some (.slice Ab ch.length cb)) (ds := [8]) #[false, false, false, false, false, false, false, false, false, false, false, false, false, false] (by kernel_rfl) rfl rfl ⟨pq', c3'⟩ (fun hHeld => ?_)
          refine pure_ (i := 0) (N := some 73) (v := ?_) (a' := ?_) #[true, false, false, false, false, false, false, false, false, false, false, false, false, false] rfl rfl (by kernel_rfl) (fun _ _ _ h => h) (Or.inl ⟨by rfl, ?_⟩) ?_ ?_
          rotate_left
          · intro w'
            go_simp
            with_reducible rfl
          rotate_left
          · simp only [Act.put, List.setIfInBounds_toArray, List.set_cons_zero, List.set_cons_succ, i64_w, i32_w]
            rfl
          refine pure_ (i := 1) (N := some 74) (v := ?_) (a' := ?_) #[true, true, false, false, false, false, false, false, false, false, false, false, false, false] rfl rfl (by kernel_rfl) (fun _ _ _ h => h) (Or.inl ⟨by rfl, ?_⟩) ?_ ?_
          rotate_left
          · intro w'
            go_simp
            with_reducible rfl
          rotate_left
          · simp only [Act.put, List.setIfInBounds_toArray, List.set_cons_zero, List.set_cons_succ, i64_w, i32_w]
            rfl
          refine pure_ (i := 3) (N := some 76) (v := ?_) (a' := ?_) #[true, true, false, true, false, false, false, false, false, false, false, false, false, false] rfl rfl (by kernel_rfl) (fun _ _ _ h => h) (Or.inl ⟨by rfl, ?_⟩) ?_ ?_
          rotate_left
          · intro w'
            go_simp
            with_reducible rfl
          rotate_left
          · simp only [Act.put, List.setIfInBounds_toArray, List.set_cons_zero, List.set_cons_succ, i64_w, i32_w]
            rfl
          refine pure_ (i := 4) (N := some 77) (v := ?_) (a' := ?_) #[true, true, false, true, true, false, false, false, false, false, false, false, false, false] rfl rfl (by kernel_rfl) (fun _ _ _ h => h) (Or.inl ⟨by rfl, ?_⟩) ?_ ?_
          rotate_left
          · intro w'
            go_simp
            with_reducible rfl
          rotate_left
          · simp only [Act.put, List.setIfInBounds_toArray, List.set_cons_zero, List.set_cons_succ, i64_w, i32_w]
            rfl
          refine take_ (i := 2) (N := some 75) (v := ?_) (a' := ?_) #[true, true, true, true, true, false, false, false, false, false, false, false, false, false] rfl rfl (by kernel_rfl) (fun _ _ _ h => h) (Or.inl ⟨by rfl, ?_⟩) hHeld ?_ ?_
          rotate_left
          · rintro w' ⟨s0, s1⟩
            go_simp
            with_reducible rfl
          rotate_left
          · simp only [Act.put, List.setIfInBounds_toArray, List.set_cons_zero, List.set_cons_succ, i64_w, i32_w]
            rfl
          refine take_ (i := 5) (N := some 78) (v := ?_) (a' := ?_) #[true, true, true, true, true, true, false, false, false, false, false, false, false, false] rfl rfl (by kernel_rfl) (fun _ _ _ h => h) (Or.inl ⟨by rfl, ?_⟩) hHeld ?_ ?_
          rotate_left
          · rintro w' ⟨s0, s1⟩
            go_simp
            with_reducible rfl
          rotate_left
          · simp only [Act.put, List.setIfInBounds_toArray, List.set_cons_zero, List.set_cons_succ, i64_w, i32_w]
            rfl
          refine pure_ (i := 6) (N := some 79) (v := ?_) (a' := ?_) #[true, true, true, true, true, true, true, false, false, false, false, false, false, false] rfl rfl (by kernel_rfl) (fun _ _ _ h => h) (Or.inl ⟨by rfl, ?_⟩) ?_ ?_
          rotate_left
          · intro w'
            go_simp
            with_reducible rfl
          rotate_left
          · simp only [Act.put, List.setIfInBounds_toArray, List.set_cons_zero, List.set_cons_succ, i64_w, i32_w]
            rfl
          refine pure_ (i := 7) (N := some 80) (v := ?_) (a' := ?_) #[true, true, true, true, true, true, true, true, false, false, false, false, false, false] rfl rfl (by kernel_rfl) (fun _ _ _ h => h) (Or.inl ⟨by rfl, ?_⟩) ?_ ?_
          rotate_left
          · intro w'
            go_simp
            with_reducible rfl
          rotate_left
          · simp only [Act.put, List.setIfInBounds_toArray, List.set_cons_zero, List.set_cons_succ, i64_w, i32_w]
            rfl
          refine last_ (i := 8) (N := some 81) #[true, true, true, true, true, true, true, true, true, false, false, false, false, false] rfl rfl (by kernel_rfl) (by decide) (fun K hK => ?_)
          refine goes_ Try.func18 (by kernel_rfl) rfl #[.pointer (some ⟨x.g, 0, none⟩), .slice (some ⟨go, 0, none⟩) ch.length co] (by rfl) rfl rfl (by simp only [List.map_toArray, List.map_cons, List.map_nil]; rfl) ?_
          with_reducible refine (HC18.out).mono ?_
          rintro e w18 ⟨v, bb', rfl, ho, hf, hbb, hb, hk⟩
          refine ⟨_, rfl, ?_⟩
          have HO := Aside0.mk ho
          have HF2 := Aside0.mk hf
          have HBB := Aside0.mk hbb
          have HB2 := Aside0.mk hb
          have HK2 := Aside0.mk (show Kept wq w18 (fun k => k = x.g ∨ k = x.bb) from hk)
          clear ho hf hbb hb hk
          refine hK.out _ _ ?_
          clear hK K
          refine norm_ (a' := ?_) ?_ ?_
          rotate_left
          · show Act.put _ (some 81) _ = _
            simp only [Act.put, List.setIfInBounds_toArray, List.set_cons_zero, List.set_cons_succ, i64_w, i32_w]
            rfl
          refine pure_ (i := 9) (N := some 72) (v := ?_) (a' := ?_) #[true, true, true, true, true, true, true, true, true, true, false, false, false, false] rfl rfl (by kernel_rfl) (fun _ _ _ h => h) (Or.inl ⟨by rfl, ?_⟩) ?_ ?_
          rotate_left
          · intro w'
            go_simp
            with_reducible rfl
          rotate_left
          · simp only [Act.put, List.setIfInBounds_toArray, List.set_cons_zero, List.set_cons_succ, i64_w, i32_w]
            rfl
          refine pure_ (i := 10) (N := some 82) (v := ?_) (a' := ?_) #[true, true, true, true, true, true, true, true, true, true, true, false, false, false] rfl rfl (by kernel_rfl) (fun _ _ _ h => h) (Or.inl ⟨by rfl, ?_⟩) ?_ ?_
          rotate_left
          · intro w'
            go_simp
            with_reducible rfl
          rotate_left
          · simp only [Act.put, List.setIfInBounds_toArray, List.set_cons_zero, List.set_cons_succ, i64_w, i32_w]
            rfl
          refine pure_ (i := 11) (N := some 83) (v := ?_) (a' := ?_) #[true, true, true, true, true, true, true, true, true, true, true, true, false, false] rfl rfl (by kernel_rfl) (fun _ _ _ h => h) (Or.inl ⟨by rfl, ?_⟩) ?_ ?_
          rotate_left
          · intro w'
            go_simp
            with_reducible rfl
          rotate_left
          · simp only [Act.put, List.setIfInBounds_toArray, List.set_cons_zero, List.set_cons_succ, i64_w, i32_w]
            rfl
          refine pure_ (i := 12) (N := some 14) (v := ?_) (a' := ?_) #[true, true, true, true, true, true, true, true, true, true, true, true, true, false] rfl rfl (by kernel_rfl) (fun _ _ _ h => h) (Or.inl ⟨by rfl, ?_⟩) ?_ ?_
          rotate_left
          · intro w'
            go_simp
            with_reducible rfl
          rotate_left
          · simp only [Act.put, List.setIfInBounds_toArray, List.set_cons_zero, List.set_cons_succ, i64_w, i32_w]
            rfl
          refine pure_ (i := 13) (N := some 15) (v := ?_) (a' := ?_) #[true, true, true, true, true, true, true, true, true, true, true, true, true, true] rfl rfl (by kernel_rfl) (fun _ _ _ h => h) (Or.inl ⟨by rfl, ?_⟩) ?_ ?_
          rotate_left
          · intro w'
            go_simp
            with_reducible rfl
          rotate_left
          · simp only [Act.put, List.setIfInBounds_toArray, List.set_cons_zero, List.set_cons_succ, i64_w, i32_w]
            rfl
          refine done_ (by kernel_rfl) ?_
          go_wp2
          go_meet
          case rel =>
            have ho := HO.out
            obtain ⟨A14, c14, rfl⟩ := Kd.R_slice ho
            have z := St.fed_rel (ch := ch) HST.out HBWA.out HBQ.out HB2.out HK11.out HB.out HI11.out HK2.out HF2.out HBB.out (stepB_range x ch HRG.out HOP.out.2) L9.out HG9.out HXB2.out HGO.out HGL.out ho HO11.out HO2.out
            exact ⟨A14, c14, bb', rfl, rfl, ⟨z.1⟩, ⟨z.2.1⟩, ⟨z.2.2.2.1⟩, ⟨z.2.2.1⟩, ⟨z.2.2.2.2⟩, HB2⟩
        obtain ⟨A14, c14, bb', rfl, rfl, HST3, HO14, HOW, HR11, HX3, HB3⟩ := hcut
        obtain ⟨wd, hw_⟩ : ∃ z, z = wc := ⟨_, rfl⟩
        subst hw_
        have HNX := Aside0.mk (NumS.fed (bb' := bb') (E := stepE x ch) HN.out HOP.out.1 (Nat.le_trans (Nat.le_succ i) HI2.out.2.1))
        have GB3 := Aside0.mk (Kd.C_below GB.out HB3.out)
        have HGE := Aside0.mk (show w.heap.size ≤ go from Nat.le_trans HB11.out.size HGO.out)
        have LL := Aside0.mk (show (stepL x ch).length < 1000000000 from Nat.lt_of_le_of_lt (stepL_len x ch) HLEN.out)
        have LB := Aside0.mk (show bk.length ≤ 200 from Nat.le_trans HN.out.2.2.1 (Nat.le_trans (Nat.le_succ i) HI2.out.2.1))
        clear HST HX9 HXB2 c0 c3 HO2 HO11 HI11 HK11 HKQ FXQ PAQ HB HBQ HB11 HBWA LOW CHQ GBQ HRG LT L9 HN HMO HGO HGL HCO HG9 HLEN
        generalize stepL x ch = L at *
        obtain ⟨x3, hx3⟩ : ∃ z : FS, z = { x with bb := bb', bs := stepB x ch, ref := stepE x ch } := ⟨_, rfl⟩
        rw [← hx3] at HST3 HNX
        clear hx3
        generalize stepE x ch = E at *
        have c3 := blk_cell HX3.out 3
        simp only [List.getElem?_toArray, List.getElem?_cons_zero, List.getElem?_cons_succ] at c3
        have C14 := Aside0.mk (Kd.R_reads' HO14.out).2.2
        have C11 := Aside0.mk (Kd.R_reads' HR11.out).2.2
        have T86 := Aside0.mk (fun W h1 h2 => stencillaw24_same.calls _ A14 c14 L A11 c11 L true W h1 (Kd.R_reads' HO14.out).2.1 h2 (Kd.R_reads' HR11.out).2.1 (same_self L (Nat.le_trans (Nat.le_of_lt LL.out) (by decide))))
        have T90 := Aside0.mk (fun W => stencillaw24_num.calls E E W rfl)
        have RF := Aside0.mk (row_front HOW.out)
        have ho201 := row_last HOW.out
        have l0 := eq_true (show (0 : Int) ≤ (ch.length : Int) from Int.natCast_nonneg _)
        have l1' : ch.length ≤ co := Nat.le_of_succ_le RF.out.2
        have l2 := eq_true (show (ch.length : Int) ≤ (co : Int) from Int.ofNat_le.2 l1')
        have l3 := eq_true (show (ch.length : Int) < ((ch.length + 1 : Nat) : Int) from Int.ofNat_lt.2 (Nat.lt_succ_self _))
        have hcv1 := fun (m : Nat) => Kd.C_string (P := Try.prog) (w := wd.drewN m) (c := co) Try.underlying45 Try.underlying5 Try.underlying9 (Kd.C_drewN RF.out.1 m)
        have hcv2 := fun (m : Nat) => Kd.C_string (P := Try.prog) (w := wd.drewN m) (c := cb) Try.underlying45 Try.underlying5 Try.underlying9 (Kd.C_drewN GB3.out m)
        have hcv3 := Kd.C_string (P := Try.prog) (w := wd) (c := co) Try.underlying45 Try.underlying5 Try.underlying9 RF.out.1
        have hcv4 := Kd.C_string (P := Try.prog) (w := wd) (c := cb) Try.underlying45 Try.underlying5 Try.underlying9 GB3.out
        go_upto_region 18 with (fail)
        go_quiet (first | ((go_at_call 9; exact Calls.quiet_of ((T86.out _ (by repeat (first | exact C14.out | apply Kd.C_drewN | apply Kd.C_drew)) (by repeat (first | exact C11.out | apply Kd.C_drewN | apply Kd.C_drew))).mono (fun e w' hq => ⟨hq.1, hq.2.out⟩)))) | ((go_at_call 10; exact Calls.quiet_of ((T90.out _).mono (fun e w' hq => ⟨hq.1, hq.2.out⟩)))))
        clear T86 T90 hcv1 hcv2 hcv3 hcv4 ho201 l0 l2 l3 c3 GB3 RF C14 C11 HR11 HX3
        go_wp2
        go_loopw [16] (fun v16 wr => ∃ k : Nat, v16 = .int .i64 k ∧ k ≤ ch.length + 1 ∧ Aside0 (∃ ob, Kd.R (Kd.int .u8) 5 wr w.heap.size (fun k => k = go) (.slice (some ⟨go, 0, none⟩) (ch.length + 1) co) ob) ∧ Aside0 (Below w.heap.size w wr) ∧ Aside0 (Kept wd wr (fun k => k = go))) (fun v16 _ => ch.length + 2 - (intOf v16).toNat)
        case atStart => exact ⟨0, rfl, Nat.zero_le _, ⟨_, Kd.R_drewN HOW.out _⟩, ⟨pw_below_drewN HB3.out _⟩, ⟨(Kept.refl _ _).drewN _⟩⟩
        case round =>
        clear HOW
        obtain ⟨k, rfl, hk, HOB, HB4, HK4⟩ := hrel
        by_cases hlt : k < ch.length + 1
        case pos => as_aux_lemma =>
          obtain ⟨ob, hob⟩ := HOB.out
          obtain ⟨u, hu, hf, hput⟩ := byte_put hob k hlt
          have HP := Aside0.mk hput
          have HLT := Aside0.mk hlt
          have w1 : wrap64 ((k : Int) + 1) = (k : Int) + 1 := w64f (by omega) (by have h_ := HOP.out.1; omega)
          clear hob hput hk
          go_wp2
          go_roundw
          case rel => exact ⟨k + 1, by first | rfl | (rw [w1]; rfl), HLT.out, ⟨_, HP.out _⟩, ⟨HB4.out.setCell HGE.out _⟩, ⟨kept_set (S := fun k => k = go) HK4.out rfl _ _⟩⟩
          case measure => first | exact meas_go _ _ HLT.out | (rw [w1]; exact meas_go _ _ HLT.out)
        case neg => as_aux_lemma =>
          obtain ⟨we, hw_⟩ : ∃ z, z = wr := ⟨_, rfl⟩
          subst hw_
          have HSE := Aside0.mk (HST3.out.kept_row HK4.out HB3.out HB4.out)
          have HOE := Aside0.mk (Kd.R_mono (ok' := fun _ => True) (Kd.R_step HO14.out (fun k hk hlt => HK4.out.2 k hlt hk.1)) (fun _ _ => trivial))
          clear HST3 HO14 HOB HK4 HB3 hk
          go_wp2_with (first | (go_at_call 11; (with_reducible refine (keep2.calls w _ A14 c14 L (bk.length : Int) HOE.out HB4.out (Nat.lt_trans LL.out (by decide)) (Int.natCast_nonneg _) (Int.lt_of_le_of_lt (Int.ofNat_le.2 LB.out) (by decide))).mono ?_); rintro e w11 ⟨A2, c2, rfl, hl1, hl2, hk1, hk2, hb4, hkp, hwh, hty⟩; have H11 := Aside0.mk (HSE.out.kept_list hkp HB4.out hb4); have HM := Aside0.mk (book_entry (w := w) (we := we) hl1 hl2 hk1 hk2 hwh hty); have HB5 := Aside0.mk hb4; clear hl1 hl2 hk1 hk2 hb4 hkp hwh hty) | ((with_reducible refine gate_builtin (b := .append) (xs := #[.tmp 130, .tmp 135]) rfl ?_); at_builtin; refine Kd.R_append kB (w0 := w) w.heap.size rfl (.tmp 130) (.tmp 135) 44 31 (.agg #[(.slice none 0 0), (.slice none 0 0), (.int .i64 0)]) 56 rfl Try.underlying44 info31 rfl (by decide) (by decide) (.slice A7 bk.length c7) bk (L.length, (bk.length : Int)) [.slice A14 L.length c14, .slice A2 (L.length + 1) c2, .int .i64 (bk.length : Int)] (fun k => ¬ Own w.heap.size x3 k ∧ ¬ Own w.heap.size y k ∧ k ≠ gp ∧ k ≠ gr ∧ k ≠ x3.h ∧ k ≠ y.h ∧ ¬ False) (fun k => (∃ z, A14 = some z ∧ k = z.block) ∨ we.heap.size ≤ k) rfl rfl ?aP ?aK ?aF ?aO ?aB ?aS ?aL ?_; (case aP => exact HM.out); (case aK => exact (fun k hk => HSE.out.okp14 k hk)); (case aF => exact (fun k hk => H11.out.fresh k hk)); (case aO => exact H11.out.bk); (case aB => exact HB5.out); (case aS => exact HB5.out.size); (case aL => have h_ := LB.out; omega); intro v8 w8 ho hb hg hat; obtain ⟨A8, c8, rfl⟩ := Kd.R_slice ho; have HO8 := Aside0.mk ho; have HB8 := Aside0.mk hb; have HG8 := Aside0.mk hg; clear ho hb hg hat))
          go_meet
          case rel => exact ⟨x3, y, _, A8, c8, (by rw [List.length_append]; rfl), HNX, ⟨H11.out.write HB5.out HB8.out HG8.out HO8.out⟩, HB8⟩
    obtain ⟨x', y', bk', A7', c7', rfl, HN', HST', HB'⟩ := hcut
    obtain ⟨wb, hw_⟩ : ∃ x, x = wc := ⟨_, rfl⟩
    subst hw_
    clear HST HB HN c0 c1_ c2 c3 pa
    obtain ⟨x, hx_⟩ : ∃ x, x = x' := ⟨_, rfl⟩
    subst hx_
    obtain ⟨y, hy_⟩ : ∃ y, y = y' := ⟨_, rfl⟩
    subst hy_
    obtain ⟨bk, hbk_⟩ : ∃ z, z = bk' := ⟨_, rfl⟩
    subst hbk_
    have HST := Aside0.mk HST'.out
    have HB := Aside0.mk HB'.out
    have HN := Aside0.mk HN'.out
    have HBS := Aside0.mk (show (i + 1) * 1048576 ≤ 209715200 by have h := HI2.out.2.1; omega)
    clear HST' HB' HN' HX9 HG9 hbit b0 b1 GB LB HOP
    go_wp2
    go_loopw [17] (fun v17 wr2 => ∃ k : Nat, v17 = .int .i64 k ∧ k ≤ 2 ∧ Aside0 (St wr2 w.heap.size gp gr a x y (.slice A7' bk.length c7') bk (fun _ => False)) ∧ Aside0 (Below w.heap.size w wr2)) (fun v17 _ => 3 - (intOf v17).toNat)
    case atStart => exact ⟨0, rfl, Nat.zero_le _, HST, HB⟩
    case round =>
    clear HST HB
    obtain ⟨k, rfl, hk2, HST, HB⟩ := hrel
    obtain ⟨wr2, hw_⟩ : ∃ z, z = wr := ⟨_, rfl⟩
    subst hw_
    by_cases hk : k < 2
    case pos => as_aux_lemma =>
      have hsw : ∃ x' y', St wr2 w.heap.size gp gr k x' y' (.slice A7' bk.length c7') bk (fun _ => False) ∧ NumS (i + 1) x' y' bk := by
        rcases HST.out.swap HA.out k hk with ⟨_, h⟩ | h
        · exact ⟨x, y, h, HN.out⟩
        · exact ⟨y, x, h, HN.out.2.1, HN.out.1, HN.out.2.2⟩
      obtain ⟨x', y', hst, hn⟩ := hsw
      have pa := (hst.ap.at_ hk).1
      have pr := (hst.ar.at_ hk).1
      have hlen : x'.bs.length ≤ 209715200 := Nat.le_trans hn.1 HBS.out
      have T19 := Aside0.mk (fun W hF => Framer_Held.calls W w.heap.size x'.g x'.bb x'.bs x'.lim x'.ref hF)
      have T20 := Aside0.mk (fun W hI => ref_Held.calls W x'.h x'.lim x'.ref (x'.bs.length : Int) (strOfNums x'.bs) hI (by rw [strOf_size]))
      have T21 := Aside0.mk (fun W hF => Framer_Need.calls W w.heap.size x'.g x'.bb x'.bs x'.lim x'.ref hF hst.rg.1 (by omega))
      have T22 := Aside0.mk (fun W hI => ref_Need.calls W x'.h x'.lim x'.ref x'.bs (strOfNums x'.bs) hI rfl hst.rg.1 (by omega))
      have FX := Aside0.mk hst.fx
      have RX := Aside0.mk hst.rx
      clear hst hn hlen hk2
      generalize needF x'.ref x'.bs = nd at *
      generalize (x'.bs.length : Int) = hd at *
      obtain ⟨gx, hgx⟩ : ∃ z, z = x'.g := ⟨_, rfl⟩
      obtain ⟨hx, hhx⟩ : ∃ z, z = x'.h := ⟨_, rfl⟩
      rw [← hgx] at pa T19 T21 FX
      rw [← hhx] at pr T20 T22 RX
      clear hgx hhx
      have q0 := eq_true (show (0 : Int) ≤ (k : Int) by omega)
      have q1 := eq_true (show (k : Int) < 2 by omega)
      go_wp2
      go_quiet (first | ((go_at_call 19; exact Calls.quiet_of ((T19.out _ (by repeat (first | exact FX.out | apply FrO.drewN | apply FrO.drew))).mono (fun e w' hq => ⟨hq.1, hq.2.out⟩)))) | ((go_at_call 20; exact Calls.quiet_of ((T20.out _ (by repeat (first | exact RX.out | apply IsRef.drewN | apply IsRef.drew))).mono (fun e w' hq => ⟨hq.1, hq.2.out⟩)))) | ((go_at_call 21; exact Calls.quiet_of ((T21.out _ (by repeat (first | exact FX.out | apply FrO.drewN | apply FrO.drew))).mono (fun e w' hq => ⟨hq.1, hq.2.out⟩)))) | ((go_at_call 22; exact Calls.quiet_of ((T22.out _ (by repeat (first | exact RX.out | apply IsRef.drewN | apply IsRef.drew))).mono (fun e w' hq => ⟨hq.1, hq.2.out⟩)))))
      go_wp2
      go_roundw
      case rel => exact ⟨k + 1, by go_num, by omega, ⟨HST.out.below (by repeat (first | exact Below.refl _ _ | apply pw_below_drewN | apply below_drew1)) HB.out (by repeat (first | (with_reducible first | exact HB.out | apply below_alloc | apply pw_below_drewN | apply below_drew1) | exact HB.out))⟩, ⟨(by repeat (first | (with_reducible first | exact HB.out | apply below_alloc | apply pw_below_drewN | apply below_drew1) | exact HB.out))⟩⟩
      case measure => simp [intOf]; omega
    case neg => as_aux_lemma =>
      have hsw : ∃ x' y', St wr2 w.heap.size gp gr 0 x' y' (.slice A7' bk.length c7') bk (fun _ => False) ∧ NumS (i + 1) x' y' bk := by
        rcases HST.out.swap HA.out 0 (by decide) with ⟨h0, h⟩ | h
        · exact ⟨x, y, h, HN.out⟩
        · exact ⟨y, x, h, HN.out.2.1, HN.out.1, HN.out.2.2⟩
      obtain ⟨x', y', hst, hn⟩ := hsw
      have w1 : wrap64 (xi + 1) = xi + 1 := w64f (by have := HI3.out; omega) (by have := HI3.out; omega)
      have d1 : ¬ k < 2 := hk
      clear HST HN hk hk2
      have HST := Aside0.mk hst
      have HN := Aside0.mk hn
      clear hst hn
      go_wp2
      go_roundw
      case rel => exact ⟨x', y', bk, xi + 1, i + 1, A7', c7', rfl, by first | rfl | rw [w1], HI2, HN, ⟨fun _ => HST.out⟩, ⟨(Kd.R_reads' HST.out.bk).2.2⟩, HB⟩
      case measure => have := HI3.out; simp [intOf, w1]; omega
theorem stencillaw24_FrameFeeds.calls (a0 : Int) (A1 : Option Addr) (c1 : Nat) (l1 : List S47) (r : Bool) (w : World) (hr1 : Kd.C k47 w A1 l1.length l1) (hc1 : l1.length ≤ c1) (h : stencillaw24_FrameFeeds.f a0 l1 = some r) :
    Calls Try.prog 4 #[.int .i64 a0, .slice A1 l1.length c1] w fun e w' => e = .returned (.bool r) ∧ Below w.heap.size w w' := by
  unfold stencillaw24_FrameFeeds.f at h
  split at h
  case isFalse => cases h
  rename_i hh
  obtain rfl := Option.some.inj h
  exact feeds_main a0 A1 c1 l1 w hr1 (fun o ho => (okOpB o).1 (List.all_eq_true.1 hh o ho))
theorem FrameFeeds_pure (a0 : Int) (l1 : List S47) (h : ∀ o ∈ l1, OkOp o) : stencillaw24_FrameFeeds.f a0 l1 = some true := by
  unfold stencillaw24_FrameFeeds.f
  rw [if_pos (List.all_eq_true.2 fun o ho => (okOpB o).2 (h o ho))]

end Go.Proofs.Ytkchnocliilapaa.Q
