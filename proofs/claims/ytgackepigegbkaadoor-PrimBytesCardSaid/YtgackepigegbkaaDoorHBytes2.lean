/- Get and Put for any argument, and what they leave alone (layer 1), by hand: written by gen_bytes2.py out of Bytes.lean. -/
import Derived.Test.YtgackepigegbkaaDoorBx0
import Derived.Test.YtgackepigegbkaaDoorBx2
import Derived.Test.YtgackepigegbkaaDoorHOf
import Derived.Test.YtgackepigegbkaaDoorHBytes
import Derived.IntWalk
import Derived.StillTailTactics
namespace Go.Proofs.YtgackepigegbkaaDoor.B
open Go.RowKit Go.Proofs.YtgackepigegbkaaDoorW.PrintWords Go.Proofs.YtgackepigegbkaaDoorW.PrintLast Go.Proofs.YtgackepigegbkaaDoorW.PrintMore
attribute [local go_sem] max2_int min2_int max_two min_two max_three min_three max_four min_four   -- for this text's walks alone
set_option linter.unusedVariables false
set_option linter.unusedSimpArgs false

/-- All blocks but g are as they were. -/
def Oth (w wr : World) (g : Nat) : Prop := w.heap.size ≤ wr.heap.size ∧ ∀ k, k < w.heap.size → k ≠ g → wr.heap[k]? = w.heap[k]?
theorem Oth.of_below {w wr : World} {g : Nat} (h : Below w.heap.size w wr) : Oth w wr g := ⟨h.size, fun k hk _ => h.block k hk⟩
theorem Oth.step {w wr w2 : World} {g : Nat} (h : Oth w wr g) (hb : Below wr.heap.size wr w2) : Oth w w2 g := ⟨Nat.le_trans h.1 hb.size, fun k hk hg => (hb.block k (Nat.lt_of_lt_of_le hk h.1)).trans (h.2 k hk hg)⟩
theorem Oth.set {w wr : World} {g : Nat} (h : Oth w wr g) (i : Nat) (v : Value) : Oth w (wr.setCell ⟨g, i, none⟩ v) g := ⟨by have := h.1; simpa [World.setCell] using this, fun k hk hg => (Below.heap_setCell wr ⟨g, i, none⟩ v k hg).trans (h.2 k hk hg)⟩
theorem Oth.row {w wr : World} {g base : Nat} {v : Value} {xs : List Int} (h : Oth w wr g) (hr : Kd.R (Kd.int .u8) 5 w base (fun k => k ≠ g) v xs) : Kd.R (Kd.int .u8) 5 wr base (fun k => k ≠ g) v xs := Kd.R_step hr (fun k ho hk => h.2 k hk ho)
theorem within_yesO (A : Option Addr) (n c : Nat) (a z : Int) (w : World) (h0 : 0 ≤ a) (h1 : 0 ≤ z) (h2 : a + z ≤ n) (h3 : (n : Int) < 4611686018427387904) :
    Calls Tryd.prog 37 #[.slice A n c, .int .i64 a, .int .i64 z] w fun e w' => e = .returned (.bool true) ∧ Drawn0 w w' := by
  have d0 : decide (0 ≤ a) = true := decide_eq_true h0
  have d1 : decide (0 ≤ z) = true := decide_eq_true h1
  have d2 : decide (a ≤ (n : Int)) = true := decide_eq_true (by omega)
  obtain ⟨q, hq⟩ : ∃ q : Int, wrap64 ((n : Int) - a) = q := ⟨_, rfl⟩
  have hq2 : q = n - a := by rw [← hq]; unfold wrap64; omega
  have d3 : decide (z ≤ q) = true := decide_eq_true (by omega)
  clear hq2 h0 h1 h2 h3
  go_enter Tryd.func37, Tryd.ntmps37
  go_wp2
  go_ret
  exact ⟨by first | rfl | (rw [d3]; rfl), by repeat (first | exact Drawn0.refl _ | apply Drawn0.step)⟩
theorem within_no (A : Option Addr) (n c : Nat) (a z : Int) (w : World) (ha : -9223372036854775808 ≤ a ∧ a ≤ 9223372036854775807) (h : ¬ (0 ≤ a ∧ 0 ≤ z ∧ a + z ≤ n)) (h3 : (n : Int) < 4611686018427387904) :
    Calls Tryd.prog 37 #[.slice A n c, .int .i64 a, .int .i64 z] w fun e w' => e = .returned (.bool false) ∧ Drawn0 w w' := by
  by_cases c0 : 0 ≤ a
  · have d0 : decide (0 ≤ a) = true := decide_eq_true c0
    by_cases c1 : 0 ≤ z
    · have d1 : decide (0 ≤ z) = true := decide_eq_true c1
      by_cases c2 : a ≤ (n : Int)
      · have d2 : decide (a ≤ (n : Int)) = true := decide_eq_true c2
        obtain ⟨q, hq⟩ : ∃ q : Int, wrap64 ((n : Int) - a) = q := ⟨_, rfl⟩
        have hq2 : q = n - a := by rw [← hq]; unfold wrap64; omega
        have d3 : decide (z ≤ q) = false := decide_eq_false (by omega)
        clear hq2 c0 c1 c2 h ha h3
        go_enter Tryd.func37, Tryd.ntmps37
        go_wp2
        go_ret
        exact ⟨by first | rfl | (rw [d3]; rfl), by repeat (first | exact Drawn0.refl _ | apply Drawn0.step)⟩
      · have d2 : decide (a ≤ (n : Int)) = false := decide_eq_false c2
        clear c0 c1 c2 h ha h3
        go_enter Tryd.func37, Tryd.ntmps37
        go_wp2
        go_ret
        exact ⟨by first | rfl | (simp; done), by repeat (first | exact Drawn0.refl _ | apply Drawn0.step)⟩
    · have d1 : decide (0 ≤ z) = false := decide_eq_false c1
      clear c0 c1 h ha h3
      go_enter Tryd.func37, Tryd.ntmps37
      go_wp2
      go_ret
      exact ⟨by first | rfl | (simp; done), by repeat (first | exact Drawn0.refl _ | apply Drawn0.step)⟩
  · have d0 : decide (0 ≤ a) = false := decide_eq_false c0
    clear c0 h ha h3
    go_enter Tryd.func37, Tryd.ntmps37
    go_wp2
    go_ret
    exact ⟨by first | rfl | (simp; done), by repeat (first | exact Drawn0.refl _ | apply Drawn0.step)⟩
set_option maxHeartbeats 8000000 in
set_option maxRecDepth 100000 in
theorem prim_Get.okO (w : World) (hT0 : Tab w) (base g N cap n c : Nat) (xs : List Int) (hr : Kd.R (Kd.int .u8) 5 w base (fun _ => True) (.slice (some ⟨g, 0, none⟩) N cap) xs) (hn : n ≤ N) (hx : ∀ x ∈ xs, 0 ≤ x ∧ x ≤ 255) (at_ p o z : Int) (sg fl : Bool) (nu mi ma : Int) (hp : primRow p = (z, sg, fl, nu, mi, ma)) (hz : 1 ≤ z ∧ z ≤ 8) (ho : o = 0 ∨ o = 1) (hat : 0 ≤ at_ ∧ at_ + z ≤ n) (hn2 : (n : Int) < 4611686018427387904)
    (acc r : Int) (ha : acc = gAcc (fun k : Nat => xs.getD (at_ + plc z o (k : Int)).toNat 0) z.toNat) (hw : prim_row_word.f z sg fl nu mi ma acc = some r) :
    Calls Tryd.prog 21 #[.slice (some ⟨g, 0, none⟩) n c, .int .i64 at_, .int .i64 p, .int .i64 o] w fun e w' => e = .returned (.tuple #[.int .u64 r, .int .i64 0]) ∧ Below w.heap.size w w' := by
  have HT := Aside0.mk hT0
  have HR := Aside0.mk hr
  have HP := Aside0.mk hp
  have HX0 := Aside0.mk hx
  have HZ := Aside0.mk hz
  have HN := Aside0.mk (show at_ + z ≤ (n : Int) ∧ n ≤ N ∧ (n : Int) < 4611686018427387904 ∧ 0 ≤ at_ from ⟨hat.2, hn, hn2, hat.1⟩)
  have HB := Aside0.mk (Below.refl w.heap.size w)
  have hmf : ∀ (fn : Fn) (first cap : Array Value) (w : World), (Instr.makeFunc fn first cap).run Tryd.prog w = .ok (.func fn first cap) w := fun _ _ _ _ => rfl
  have hu47 := Tryd.underlying47
  have b0 : (z == 0) = false := beq_eq_false_iff_ne.mpr (by omega)
  have T36 := Aside0.mk (fun W : World => prim_isOrder.calls o true W (by unfold prim_isOrder.f; rcases ho with h | h <;> rw [h] <;> rfl))
  have T37 := Aside0.mk (fun W : World => within_yesO (some ⟨g, 0, none⟩) n c at_ z W hat.1 (by omega) hat.2 hn2)
  have HO := Aside0.mk ho
  have T30 := Aside0.mk (fun (W : World) (hW : Tab W) => prim_of.calls p z sg fl nu mi ma W (by rw [← hp]; rfl) hW)
  clear hT0 hr hp hx hz ho hat hn hn2
  obtain ⟨F, hF⟩ : ∃ F : Nat → Int, F = fun k : Nat => xs.getD (at_ + plc z o (k : Int)).toNat 0 := ⟨_, rfl⟩
  rw [← hF] at ha
  have HF := Aside0.mk hF
  have HA := Aside0.mk ha
  have HW := Aside0.mk hw
  clear ha hw hF
  go_enter Tryd.func21, Tryd.ntmps21
  go_upto_region 1 with (fail)
  go_cut [10] (fun v wc => ∃ g1 : Nat, v = .pointer (some ⟨g1, 0, none⟩) ∧ Aside0 (wc.heap[g1]? = some (.cells #[.int .i64 z, .bool sg, .bool fl, .int .u64 nu, .int .u64 mi, .int .u64 ma] 47 (0, 0))) ∧ Aside0 (w.heap.size ≤ g1) ∧ Aside0 (Below w.heap.size w wc))
  case first => as_aux_lemma =>
    go_wp2_with (first | (go_at_call 30; (with_reducible refine (T30.out _ (tab_below HT.out HB.out)).mono ?_); rintro e_ w1 ⟨rfl, hb_⟩; have n0_ := Aside0.mk (below_step HB.out hb_); clear HB hb_; have HB := n0_; clear n0_) | ((with_reducible refine gate_dst (N := 10) rfl ?_); refine box_event ?hg (N := 10) ?hd (cs := #[.int .i64 0, .bool false, .bool false, .int .u64 0, .int .u64 0, .int .u64 0]) (t := 47) ?hr ?_; (case hd => rfl); (case hg => rfl); (case hr => first | (go_simp; done) | (go_simp; rfl)); intro g1 hgx w2 hbox hbw; have HG1 := Aside0.mk (show w.heap.size ≤ g1 from hgx ▸ below_size HB.out); have n0_ := Aside0.mk (below_step HB.out hbw); clear HB; have HB := n0_; clear n0_; have HX := Aside0.mk hbox; have c0_ : w2.cell? ⟨g1, 0, none⟩ = some (.int .i64 0) := blk_cell hbox 0; have f0_ := blk_frozen hbox 0; have c1_ : w2.cell? ⟨g1, 1, none⟩ = some (.bool false) := blk_cell hbox 1; have f1_ := blk_frozen hbox 1; have c2_ : w2.cell? ⟨g1, 2, none⟩ = some (.bool false) := blk_cell hbox 2; have f2_ := blk_frozen hbox 2; have c3_ : w2.cell? ⟨g1, 3, none⟩ = some (.int .u64 0) := blk_cell hbox 3; have f3_ := blk_frozen hbox 3; have c4_ : w2.cell? ⟨g1, 4, none⟩ = some (.int .u64 0) := blk_cell hbox 4; have f4_ := blk_frozen hbox 4; have c5_ : w2.cell? ⟨g1, 5, none⟩ = some (.int .u64 0) := blk_cell hbox 5; have f5_ := blk_frozen hbox 5; clear hgx hbox hbw))
    go_meet
    case rel => exact ⟨g1, rfl, ⟨(by have z_ := blk_set (blk_set (blk_set (blk_set (blk_set (blk_set HX.out 0 (.int .i64 z)) 1 (.bool sg)) 2 (.bool fl)) 3 (.int .u64 nu)) 4 (.int .u64 mi)) 5 (.int .u64 ma); simpa using z_)⟩, HG1, ⟨(by repeat (first | (with_reducible first | exact HB.out | apply below_alloc | apply pw_below_drewN | apply below_drew1 | refine below_set ?_ HG1.out) | exact HB.out))⟩⟩
  obtain ⟨g1, rfl, HK, HG1, HB'⟩ := hcut
  clear HB
  have HB := HB'
  clear HB'
  have k0_ := blk_cell HK.out 0
  have k1_ := blk_cell HK.out 1
  have k2_ := blk_cell HK.out 2
  have k3_ := blk_cell HK.out 3
  have k4_ := blk_cell HK.out 4
  have k5_ := blk_cell HK.out 5
  have HR1 := Aside0.mk (Kd.R_below HR.out HB.out)
  clear HR
  go_wp2_with (first | (go_at_call 36; (with_reducible refine (T36.out _).mono ?_); rintro e_ w_ ⟨rfl, ⟨m36, rfl⟩⟩) | (go_at_call 37; (with_reducible refine (T37.out _).mono ?_); rintro e_ w_ ⟨rfl, ⟨m37, rfl⟩⟩))
  go_loopw [12, 36] (fun v12 v36 wr => ∃ (k : Nat) (a : Int), v12 = .int .u64 a ∧ v36 = .int .i64 k ∧ Aside0 (a = gAcc F k) ∧ Aside0 ((k : Int) ≤ z) ∧ Aside0 (wr.heap[g1]? = some (.cells #[.int .i64 z, .bool sg, .bool fl, .int .u64 nu, .int .u64 mi, .int .u64 ma] 47 (0, 0))) ∧ Aside0 (Kd.R (Kd.int .u8) 5 wr base (fun _ => True) (.slice (some ⟨g, 0, none⟩) N cap) xs) ∧ Aside0 (Below w.heap.size w wr)) (fun _ v36 _ => 9 - (intOf v36).toNat)
  case atStart => exact ⟨0, 0, rfl, rfl, ⟨rfl⟩, ⟨by have := HZ.out; omega⟩, ⟨by first | exact HK.out | exact blk_drN (blk_drN HK.out _) _⟩, ⟨by first | exact HR1.out | exact Kd.R_drewN (Kd.R_drewN HR1.out _) _⟩, ⟨(by repeat (first | (with_reducible first | exact HB.out | apply below_alloc | apply pw_below_drewN | apply below_drew1 | refine below_set ?_ HG1.out) | exact HB.out))⟩⟩
  case round =>
  clear HK HR1 HB k0_ k1_ k2_ k3_ k4_ k5_
  obtain ⟨k, a, rfl, rfl, HAC, HKZ, HK, HR1, HB⟩ := hrel
  have k0_ := blk_cell HK.out 0
  have k1_ := blk_cell HK.out 1
  have k2_ := blk_cell HK.out 2
  have k3_ := blk_cell HK.out 3
  have k4_ := blk_cell HK.out 4
  have k5_ := blk_cell HK.out 5
  by_cases hlt : (k : Int) < z
  case pos => as_aux_lemma =>
    have d0 : decide ((k : Int) < z) = true := decide_eq_true hlt
    have hpl := plc_bd z o k (by omega) hlt
    have T38 := Aside0.mk (fun W : World => prim_place.calls o k z W ⟨by omega, hlt, HZ.out.2⟩)
    obtain ⟨pk, hpk⟩ : ∃ pk, pk = plc z o k := ⟨_, rfl⟩
    rw [← hpk] at T38 hpl
    obtain ⟨i, hi⟩ : ∃ i, wrap64 (at_ + pk) = i := ⟨_, rfl⟩
    have hi2 : i = at_ + pk := by rw [← hi]; have := HN.out; unfold wrap64; omega
    have i0' : 0 ≤ i := by have := HN.out; omega
    have i1' : i < (n : Int) := by have := HN.out; omega
    have i0 := eq_true i0'
    have i1 := eq_true i1'
    obtain ⟨_, hgb, _, hc, hfz, _⟩ := byte_at HR1.out i i0' (by have := HN.out; omega)
    obtain ⟨x, hxx⟩ : ∃ x, x = xs.getD i.toNat 0 := ⟨_, rfl⟩
    rw [← hxx] at hc
    have hxr : 0 ≤ x ∧ x ≤ 255 := by
      rw [hxx, List.getD_eq_getElem?_getD]
      cases h : xs[i.toNat]? with
      | none => exact ⟨by decide, by decide⟩
      | some y => exact HX0.out y (List.mem_of_getElem? h)
    have e1 : IntKind.u64.wrap x = x := by rw [IntKind.wrap_u64]; omega
    obtain ⟨s, hs⟩ : ∃ s, wrap64 (8 * (k : Int)) = s := ⟨_, rfl⟩
    have hs2 : s = 8 * (k : Int) := by rw [← hs]; have := HZ.out; unfold wrap64; omega
    have s0 := eq_true (show 0 ≤ s by omega)
    obtain ⟨a2, ha2⟩ : ∃ a2, bits .or .u64 a (shl .u64 x s) = a2 := ⟨_, rfl⟩
    have HA2 := Aside0.mk (show a2 = gAcc F (k + 1) by rw [← ha2, hs2, hxx, hi2, hpk, HAC.out]; show _ = bits .or .u64 (gAcc F k) (shl .u64 (F k) (8 * (k : Int))); rw [HF.out])
    have HWK := Aside0.mk (show wrap64 ((k : Int) + 1) = ((k + 1 : Nat) : Int) by have := HZ.out; unfold wrap64; omega)
    have HM := Aside0.mk (show ((k + 1 : Nat) : Int) ≤ z ∧ k < 8 by have := HZ.out; omega)
    clear hpl hpk hi2 i0' i1' hgb hxx hxr hs2 hlt
    go_wp2_with (first | (go_at_call 38; (with_reducible refine (T38.out _).mono ?_); rintro e_ w_ ⟨rfl, rfl⟩))
    go_roundw
    case rel => exact ⟨k + 1, a2, by first | exact congrArg (Value.int .u64) ha2 | rw [ha2], by first | with_reducible rfl | rw [HWK.out], HA2, ⟨HM.out.1⟩, ⟨by first | exact HK.out | exact blk_drN HK.out _⟩, ⟨by first | exact HR1.out | exact Kd.R_drewN HR1.out _⟩, ⟨(by repeat (first | (with_reducible first | exact HB.out | apply below_alloc | apply pw_below_drewN | apply below_drew1 | refine below_set ?_ HG1.out) | exact HB.out))⟩⟩
    case measure =>
      (try rw [HWK.out]); exact meas9 k HM.out.2
  case neg =>
  have d0 : decide ((k : Int) < z) = false := decide_eq_false hlt
  have HW2 := Aside0.mk (show prim_row_word.f z sg fl nu mi ma a = some r by
    have hk : k = z.toNat := by have := HKZ.out; omega
    rw [HAC.out, hk, ← HA.out]; exact HW.out)
  clear hlt
  go_wp2_with (first | (go_at_call 32; (with_reducible refine (prim_row_word.calls z sg fl nu mi ma a r _ HW2.out).mono ?_); rintro e_ w_ ⟨rfl, hb_⟩; have n0_ := Aside0.mk (below_step (by repeat (first | (with_reducible first | exact HB.out | apply below_alloc | apply pw_below_drewN | apply below_drew1 | refine below_set ?_ HG1.out) | exact HB.out)) hb_); clear HB; have HB := n0_; clear n0_ hb_))
  go_ret2
  exact ⟨rfl, (by repeat (first | (with_reducible first | exact HB.out | apply below_alloc | apply pw_below_drewN | apply below_drew1 | refine below_set ?_ HG1.out) | exact HB.out))⟩
set_option maxHeartbeats 8000000 in
set_option maxRecDepth 100000 in
theorem prim_Put.okO (w0 w : World) (hT0 : Tab w0) (hb0 : Below w0.heap.size w0 w) (g N cap n c : Nat) (xs : List Int) (hr : Kd.R (Kd.int .u8) 5 w w0.heap.size (fun _ => True) (.slice (some ⟨g, 0, none⟩) N cap) xs) (hn : n ≤ N) (at_ p o z v : Int) (sg fl : Bool) (nu mi ma : Int) (hp : primRow p = (z, sg, fl, nu, mi, ma)) (hz : 1 ≤ z ∧ z ≤ 8) (ho : o = 0 ∨ o = 1) (hat : 0 ≤ at_ ∧ at_ + z ≤ n) (hn2 : (n : Int) < 4611686018427387904)
    (hf : prim_Fits.f p v = some true) :
    Calls Tryd.prog 25 #[.slice (some ⟨g, 0, none⟩) n c, .int .i64 at_, .int .i64 p, .int .i64 o, .int .u64 v] w fun e w' => e = .returned (.int .i64 0) ∧ Kd.R (Kd.int .u8) 5 w' w0.heap.size (fun _ => True) (.slice (some ⟨g, 0, none⟩) N cap) (putL xs at_ z o v z.toNat) ∧ Below w0.heap.size w0 w' ∧ Oth w w' g := by
  have HB0 := Aside0.mk hb0
  have hx : ∀ x ∈ ([] : List Int), 0 ≤ x ∧ x ≤ 255 := by intro x hx; cases hx
  have HT := Aside0.mk hT0
  have HR := Aside0.mk hr
  have HP := Aside0.mk hp
  have HX0 := Aside0.mk hx
  have HZ := Aside0.mk hz
  have HN := Aside0.mk (show at_ + z ≤ (n : Int) ∧ n ≤ N ∧ (n : Int) < 4611686018427387904 ∧ 0 ≤ at_ from ⟨hat.2, hn, hn2, hat.1⟩)
  have HB := Aside0.mk (Below.refl w.heap.size w)
  have hmf : ∀ (fn : Fn) (first cap : Array Value) (w : World), (Instr.makeFunc fn first cap).run Tryd.prog w = .ok (.func fn first cap) w := fun _ _ _ _ => rfl
  have hu47 := Tryd.underlying47
  have b0 : (z == 0) = false := beq_eq_false_iff_ne.mpr (by omega)
  have T36 := Aside0.mk (fun W : World => prim_isOrder.calls o true W (by unfold prim_isOrder.f; rcases ho with h | h <;> rw [h] <;> rfl))
  have T37 := Aside0.mk (fun W : World => within_yesO (some ⟨g, 0, none⟩) n c at_ z W hat.1 (by omega) hat.2 hn2)
  have HO := Aside0.mk ho
  have T30 := Aside0.mk (fun (W : World) (hW : Tab W) => prim_of.calls p z sg fl nu mi ma W (by rw [← hp]; rfl) hW)
  have T8 := Aside0.mk (fun (W : World) (hW : Tab W) => prim_Fits.calls p v true W hf hW)
  have HGX := Aside0.mk (byte_at hr at_ hat.1 (by omega))
  clear hb0 hf hT0 hr hp hx hz ho hat hn hn2
  go_enter Tryd.func25, Tryd.ntmps25
  go_upto_region 1 with (fail)
  go_cut [11] (fun v wc => ∃ g1 : Nat, v = .pointer (some ⟨g1, 0, none⟩) ∧ Aside0 (wc.heap[g1]? = some (.cells #[.int .i64 z, .bool sg, .bool fl, .int .u64 nu, .int .u64 mi, .int .u64 ma] 47 (0, 0))) ∧ Aside0 (w.heap.size ≤ g1) ∧ Aside0 (Below w.heap.size w wc))
  case first => as_aux_lemma =>
    go_wp2_with (first | (go_at_call 30; (with_reducible refine (T30.out _ (tab_below HT.out (below_step HB0.out HB.out))).mono ?_); rintro e_ w1 ⟨rfl, hb_⟩; have n0_ := Aside0.mk (below_step HB.out hb_); clear HB hb_; have HB := n0_; clear n0_) | ((with_reducible refine gate_dst (N := 11) rfl ?_); refine box_event ?hg (N := 11) ?hd (cs := #[.int .i64 0, .bool false, .bool false, .int .u64 0, .int .u64 0, .int .u64 0]) (t := 47) ?hr ?_; (case hd => rfl); (case hg => rfl); (case hr => first | (go_simp; done) | (go_simp; rfl)); intro g1 hgx w2 hbox hbw; have HG1 := Aside0.mk (show w.heap.size ≤ g1 from hgx ▸ below_size HB.out); have n0_ := Aside0.mk (below_step HB.out hbw); clear HB; have HB := n0_; clear n0_; have HX := Aside0.mk hbox; have c0_ : w2.cell? ⟨g1, 0, none⟩ = some (.int .i64 0) := blk_cell hbox 0; have f0_ := blk_frozen hbox 0; have c1_ : w2.cell? ⟨g1, 1, none⟩ = some (.bool false) := blk_cell hbox 1; have f1_ := blk_frozen hbox 1; have c2_ : w2.cell? ⟨g1, 2, none⟩ = some (.bool false) := blk_cell hbox 2; have f2_ := blk_frozen hbox 2; have c3_ : w2.cell? ⟨g1, 3, none⟩ = some (.int .u64 0) := blk_cell hbox 3; have f3_ := blk_frozen hbox 3; have c4_ : w2.cell? ⟨g1, 4, none⟩ = some (.int .u64 0) := blk_cell hbox 4; have f4_ := blk_frozen hbox 4; have c5_ : w2.cell? ⟨g1, 5, none⟩ = some (.int .u64 0) := blk_cell hbox 5; have f5_ := blk_frozen hbox 5; clear hgx hbox hbw))
    go_meet
    case rel => exact ⟨g1, rfl, ⟨(by have z_ := blk_set (blk_set (blk_set (blk_set (blk_set (blk_set HX.out 0 (.int .i64 z)) 1 (.bool sg)) 2 (.bool fl)) 3 (.int .u64 nu)) 4 (.int .u64 mi)) 5 (.int .u64 ma); simpa using z_)⟩, HG1, ⟨(by repeat (first | (with_reducible first | exact HB.out | apply below_alloc | apply pw_below_drewN | apply below_drew1 | refine below_set ?_ HG1.out) | exact HB.out))⟩⟩
  obtain ⟨g1, rfl, HK, HG1, HB'⟩ := hcut
  clear HB
  have k0_ := blk_cell HK.out 0
  have k1_ := blk_cell HK.out 1
  have k2_ := blk_cell HK.out 2
  have k3_ := blk_cell HK.out 3
  have k4_ := blk_cell HK.out 4
  have k5_ := blk_cell HK.out 5
  have HR1 := Aside0.mk (Kd.R_below HR.out HB'.out)
  have HB := Aside0.mk (below_step HB0.out HB'.out)
  have HGB := Aside0.mk (show w0.heap.size ≤ g from HGX.out.2.1)
  have HNE := Aside0.mk (show g1 ≠ g by have h1 := HGX.out.2.2.1; have h2 := HG1.out; omega)
  have HOT := Aside0.mk (Oth.of_below (g := g) HB'.out)
  clear HR HB' HB0 HGX
  go_wp2_with (first | (go_at_call 36; (with_reducible refine (T36.out _).mono ?_); rintro e_ w_ ⟨rfl, ⟨m36, rfl⟩⟩) | (go_at_call 37; (with_reducible refine (T37.out _).mono ?_); rintro e_ w_ ⟨rfl, ⟨m37, rfl⟩⟩) | (go_at_call 8; (with_reducible refine (T8.out _ (tab_below HT.out (by repeat (first | (with_reducible first | exact HB.out | apply below_alloc | apply pw_below_drewN | apply below_drew1 | refine below_set ?_ HGB.out) | exact HB.out)))).mono ?_); rintro e_ w_ ⟨rfl, hb_⟩; have n0_ := Aside0.mk (below_step (by repeat (first | (with_reducible first | exact HB.out | apply below_alloc | apply pw_below_drewN | apply below_drew1 | refine below_set ?_ HGB.out) | exact HB.out)) hb_); have n1_ := Aside0.mk (blk_below (by first | exact blk_drN HK.out _ | exact HK.out) hb_); have n2_ := Aside0.mk (Kd.R_below (by first | exact Kd.R_drewN HR1.out _ | exact HR1.out) hb_); have n3_ := Aside0.mk (Oth.step (Oth.step HOT.out (by first | exact pw_below_drewN (Below.refl _ _) _ | exact Below.refl _ _)) hb_); clear HOT HB HK HR1 k0_ k1_ k2_ k3_ k4_ k5_; have HOT := n3_; clear n3_; have HB := n0_; have HK := n1_; have HR1 := n2_; clear n0_ n1_ n2_ hb_; have k0_ := blk_cell HK.out 0))
  go_loopw [41] (fun v36 wr => ∃ (k : Nat), v36 = .int .i64 k ∧ Aside0 ((k : Int) ≤ z) ∧ Aside0 (wr.heap[g1]? = some (.cells #[.int .i64 z, .bool sg, .bool fl, .int .u64 nu, .int .u64 mi, .int .u64 ma] 47 (0, 0))) ∧ Aside0 (Kd.R (Kd.int .u8) 5 wr w0.heap.size (fun _ => True) (.slice (some ⟨g, 0, none⟩) N cap) (putL xs at_ z o v k)) ∧ Aside0 (Below w0.heap.size w0 wr) ∧ Aside0 (Oth w wr g)) (fun v36 _ => 9 - (intOf v36).toNat)
  case atStart => exact ⟨0, rfl, ⟨by have := HZ.out; omega⟩, ⟨by first | exact HK.out | exact blk_drN (blk_drN HK.out _) _⟩, ⟨by first | exact HR1.out | exact Kd.R_drewN (Kd.R_drewN HR1.out _) _⟩, ⟨(by repeat (first | (with_reducible first | exact HB.out | apply below_alloc | apply pw_below_drewN | apply below_drew1 | refine below_set ?_ HGB.out) | exact HB.out))⟩, ⟨by first | exact HOT.out | exact Oth.step HOT.out (pw_below_drewN (Below.refl _ _) _) | exact Oth.step (Oth.step HOT.out (pw_below_drewN (Below.refl _ _) _)) (pw_below_drewN (Below.refl _ _) _)⟩⟩
  case round =>
  clear HK HR1 HB HOT k0_
  obtain ⟨k, rfl, HKZ, HK, HR1, HB, HOT⟩ := hrel
  have k0_ := blk_cell HK.out 0
  by_cases hlt : (k : Int) < z
  case pos => as_aux_lemma =>
    have d0 : decide ((k : Int) < z) = true := decide_eq_true hlt
    have hpl := plc_bd z o k (by omega) hlt
    have T38 := Aside0.mk (fun W : World => prim_place.calls o k z W ⟨by omega, hlt, HZ.out.2⟩)
    obtain ⟨pk, hpk⟩ : ∃ pk, pk = plc z o k := ⟨_, rfl⟩
    rw [← hpk] at T38 hpl
    obtain ⟨i, hi⟩ : ∃ i, wrap64 (at_ + pk) = i := ⟨_, rfl⟩
    have hi2 : i = at_ + pk := by rw [← hi]; have := HN.out; unfold wrap64; omega
    have i0' : 0 ≤ i := by have := HN.out; omega
    have i1' : i < (n : Int) := by have := HN.out; omega
    have i0 := eq_true i0'
    have i1 := eq_true i1'
    obtain ⟨_, _, _, hc, hfz, hput⟩ := byte_at HR1.out i i0' (by have := HN.out; omega)
    generalize (putL xs at_ z o v k).getD i.toNat 0 = old at hc
    obtain ⟨s, hs⟩ : ∃ s, wrap64 (8 * (k : Int)) = s := ⟨_, rfl⟩
    have hs2 : s = 8 * (k : Int) := by rw [← hs]; have := HZ.out; unfold wrap64; omega
    have s0 := eq_true (show 0 ≤ s by omega)
    have hs9 : IntKind.i64.wrap (8 * (k : Int)) = s := by rw [IntKind.wrap_i64, hs2]; have := HZ.out; omega
    have hi9 : IntKind.i64.wrap (at_ + pk) = i := by rw [IntKind.wrap_i64, hi2]; have := HN.out; omega
    obtain ⟨b, hbv⟩ : ∃ b, IntKind.u8.wrap (shr .u64 v s) = b := ⟨_, rfl⟩
    have hbv2 : IntKind.u8.wrap (v / 2 ^ min s.toNat 64) = b := hbv
    have hbv3 : v / 2 ^ min s.toNat 64 % 256 = b := by rw [IntKind.wrap_u8] at hbv2; exact hbv2
    have hbp : b = pB v k := by rw [← hbv3, hs2]; unfold pB; rw [show min (8 * (k : Int)).toNat 64 = 8 * k by have := HZ.out; omega]
    have HBP := Aside0.mk (show b = pB v k ∧ i = at_ + plc z o k from ⟨hbp, by rw [hi2, hpk]⟩)
    have HPUT0 := Aside0.mk HR1.out
    have j0' := Aside0.mk i0'
    have j1' := Aside0.mk i1'
    have HWK := Aside0.mk (show wrap64 ((k : Int) + 1) = ((k + 1 : Nat) : Int) by have := HZ.out; unfold wrap64; omega)
    have HM := Aside0.mk (show ((k + 1 : Nat) : Int) ≤ z ∧ k < 8 by have := HZ.out; omega)
    clear hpl hpk hi2 i0' i1' hput hs2 hbp hlt
    have i0' := j0'
    have i1' := j1'
    clear j0' j1'
    go_upto_region 12 with (fail)
    have kd_ : wr.drew.cell? ⟨g1, 0, none⟩ = some (.int .i64 z) := k0_
    go_still_tail 13, (by kernel_rfl)
    still_call (T38.out _)
    repeat still_step
    refine wpStill_nil ?_
    change wpList _ _ _ _ _ wr.drew
    have HB5 := Aside0.mk (below_drew HB.out)
    have HR5 := Aside0.mk (Kd.R_drew HPUT0.out)
    have HO5 := Aside0.mk (Oth.step HOT.out (below_drew (Below.refl wr.heap.size wr)))
    have HK5 : Aside0 (wr.drew.heap[g1]? = some (.cells #[.int .i64 z, .bool sg, .bool fl, .int .u64 nu, .int .u64 mi, .int .u64 ma] 47 (0, 0))) := ⟨HK.out⟩
    clear HPUT0 HB HR1 HK HOT
    have hc5 : wr.drew.cell? ⟨g, i.toNat, none⟩ = some (.int .u8 old) := hc
    have hf5 : wr.drew.frozen? ⟨g, i.toNat, none⟩ = false := hfz
    clear hc hfz k0_ kd_
    generalize wr.drew = w5 at *
    obtain ⟨_, _, _, _, _, hput⟩ := byte_at HR5.out i i0'.out (by have h1 := HN.out; have h2 := i1'.out; omega)
    have HPUT := Aside0.mk (show Kd.R (Kd.int .u8) 5 (w5.setCell ⟨g, i.toNat, none⟩ (.int .u8 b)) w0.heap.size (fun _ => True) (.slice (some ⟨g, 0, none⟩) N cap) (putL xs at_ z o v (k + 1)) by
      have h9 := hput b
      rw [HBP.out.1, HBP.out.2] at h9
      rw [HBP.out.1, HBP.out.2]
      exact h9)
    clear hput
    go_wp2
    go_roundw
    case rel => exact ⟨k + 1, by first | with_reducible rfl | rw [HWK.out], ⟨HM.out.1⟩, ⟨blk_far HK5.out HNE.out _⟩, HPUT, ⟨HB5.out.setCell HGB.out _⟩, ⟨HO5.out.set _ _⟩⟩
    case measure => (try rw [HWK.out]); exact meas9 k HM.out.2
  case neg =>
  have d0 : decide ((k : Int) < z) = false := decide_eq_false hlt
  have HR2 := Aside0.mk (show Kd.R (Kd.int .u8) 5 wr w0.heap.size (fun _ => True) (.slice (some ⟨g, 0, none⟩) N cap) (putL xs at_ z o v z.toNat) by
    have hk : k = z.toNat := by have := HKZ.out; omega
    rw [← hk]; exact HR1.out)
  clear hlt
  go_wp2
  go_ret
  exact ⟨rfl, by first | exact HR2.out | exact Kd.R_drewN HR2.out _, (by repeat (first | (with_reducible first | exact HB.out | apply below_alloc | apply pw_below_drewN | apply below_drew1 | refine below_set ?_ HGB.out) | exact HB.out)), by first | exact HOT.out | exact Oth.step HOT.out (pw_below_drewN (Below.refl _ _) _)⟩
set_option maxHeartbeats 8000000 in
set_option maxRecDepth 100000 in
theorem prim_Get.order (w : World) (hT0 : Tab w) (A : Option Addr) (n c : Nat) (at_ p o z : Int) (sg fl : Bool) (nu mi ma : Int) (hp : primRow p = (z, sg, fl, nu, mi, ma)) (hz : z ≠ 0) (ho0 : ¬ o = 0) (ho1 : ¬ o = 1) :
    Calls Tryd.prog 21 #[.slice A n c, .int .i64 at_, .int .i64 p, .int .i64 o] w fun e w' => e = .returned (.tuple #[.int .u64 0, .int .i64 10]) ∧ Below w.heap.size w w' := by
  have HT := Aside0.mk hT0
  have HP := Aside0.mk hp
  have HB := Aside0.mk (Below.refl w.heap.size w)
  have hmf : ∀ (fn : Fn) (first cap : Array Value) (w : World), (Instr.makeFunc fn first cap).run Tryd.prog w = .ok (.func fn first cap) w := fun _ _ _ _ => rfl
  have hu47 := Tryd.underlying47
  have T30 := Aside0.mk (fun (W : World) (hW : Tab W) => prim_of.calls p z sg fl nu mi ma W (by rw [← hp]; rfl) hW)
  have b0 : (z == 0) = false := beq_eq_false_iff_ne.mpr hz
  have T36 := Aside0.mk (fun W : World => prim_isOrder.calls o false W (by unfold prim_isOrder.f; rw [if_neg ho0]; exact congrArg some (beq_eq_false_iff_ne.mpr ho1)))
  clear hT0 hp hz ho0 ho1
  go_enter Tryd.func21, Tryd.ntmps21
  go_upto_region 1 with (fail)
  go_cut [10] (fun v wc => ∃ g1 : Nat, v = .pointer (some ⟨g1, 0, none⟩) ∧ Aside0 (wc.heap[g1]? = some (.cells #[.int .i64 z, .bool sg, .bool fl, .int .u64 nu, .int .u64 mi, .int .u64 ma] 47 (0, 0))) ∧ Aside0 (w.heap.size ≤ g1) ∧ Aside0 (Below w.heap.size w wc))
  case first => as_aux_lemma =>
    go_wp2_with (first | (go_at_call 30; (with_reducible refine (T30.out _ (tab_below HT.out HB.out)).mono ?_); rintro e_ w1 ⟨rfl, hb_⟩; have n0_ := Aside0.mk (below_step HB.out hb_); clear HB hb_; have HB := n0_; clear n0_) | ((with_reducible refine gate_dst (N := 10) rfl ?_); refine box_event ?hg (N := 10) ?hd (cs := #[.int .i64 0, .bool false, .bool false, .int .u64 0, .int .u64 0, .int .u64 0]) (t := 47) ?hr ?_; (case hd => rfl); (case hg => rfl); (case hr => first | (go_simp; done) | (go_simp; rfl)); intro g1 hgx w2 hbox hbw; have HG1 := Aside0.mk (show w.heap.size ≤ g1 from hgx ▸ below_size HB.out); have n0_ := Aside0.mk (below_step HB.out hbw); clear HB; have HB := n0_; clear n0_; have HX := Aside0.mk hbox; have c0_ : w2.cell? ⟨g1, 0, none⟩ = some (.int .i64 0) := blk_cell hbox 0; have f0_ := blk_frozen hbox 0; have c1_ : w2.cell? ⟨g1, 1, none⟩ = some (.bool false) := blk_cell hbox 1; have f1_ := blk_frozen hbox 1; have c2_ : w2.cell? ⟨g1, 2, none⟩ = some (.bool false) := blk_cell hbox 2; have f2_ := blk_frozen hbox 2; have c3_ : w2.cell? ⟨g1, 3, none⟩ = some (.int .u64 0) := blk_cell hbox 3; have f3_ := blk_frozen hbox 3; have c4_ : w2.cell? ⟨g1, 4, none⟩ = some (.int .u64 0) := blk_cell hbox 4; have f4_ := blk_frozen hbox 4; have c5_ : w2.cell? ⟨g1, 5, none⟩ = some (.int .u64 0) := blk_cell hbox 5; have f5_ := blk_frozen hbox 5; clear hgx hbox hbw))
    go_meet
    case rel => exact ⟨g1, rfl, ⟨(by have z_ := blk_set (blk_set (blk_set (blk_set (blk_set (blk_set HX.out 0 (.int .i64 z)) 1 (.bool sg)) 2 (.bool fl)) 3 (.int .u64 nu)) 4 (.int .u64 mi)) 5 (.int .u64 ma); simpa using z_)⟩, HG1, ⟨(by repeat (first | (with_reducible first | exact HB.out | apply below_alloc | apply pw_below_drewN | apply below_drew1 | refine below_set ?_ HG1.out) | exact HB.out))⟩⟩
  obtain ⟨g1, rfl, HK, HG1, HB'⟩ := hcut
  clear HB
  have HB := HB'
  clear HB'
  have k0_ := blk_cell HK.out 0
  have k1_ := blk_cell HK.out 1
  have k2_ := blk_cell HK.out 2
  have k3_ := blk_cell HK.out 3
  have k4_ := blk_cell HK.out 4
  have k5_ := blk_cell HK.out 5
  go_wp2_with (first | (go_at_call 36; (with_reducible refine (T36.out _).mono ?_); rintro e_ w_ ⟨rfl, ⟨m36, rfl⟩⟩))
  go_ret2
  exact ⟨rfl, (by repeat (first | (with_reducible first | exact HB.out | apply below_alloc | apply pw_below_drewN | apply below_drew1 | refine below_set ?_ HG1.out) | exact HB.out))⟩
set_option maxHeartbeats 8000000 in
set_option maxRecDepth 100000 in
theorem prim_Get.short (w : World) (hT0 : Tab w) (A : Option Addr) (n c : Nat) (at_ p o z : Int) (sg fl : Bool) (nu mi ma : Int) (hp : primRow p = (z, sg, fl, nu, mi, ma)) (hz : z ≠ 0) (ho : o = 0 ∨ o = 1) (ha : -9223372036854775808 ≤ at_ ∧ at_ ≤ 9223372036854775807) (hnw : ¬ (0 ≤ at_ ∧ 0 ≤ z ∧ at_ + z ≤ n)) (hn2 : (n : Int) < 4611686018427387904) :
    Calls Tryd.prog 21 #[.slice A n c, .int .i64 at_, .int .i64 p, .int .i64 o] w fun e w' => e = .returned (.tuple #[.int .u64 0, .int .i64 11]) ∧ Below w.heap.size w w' := by
  have HT := Aside0.mk hT0
  have HP := Aside0.mk hp
  have HB := Aside0.mk (Below.refl w.heap.size w)
  have hmf : ∀ (fn : Fn) (first cap : Array Value) (w : World), (Instr.makeFunc fn first cap).run Tryd.prog w = .ok (.func fn first cap) w := fun _ _ _ _ => rfl
  have hu47 := Tryd.underlying47
  have T30 := Aside0.mk (fun (W : World) (hW : Tab W) => prim_of.calls p z sg fl nu mi ma W (by rw [← hp]; rfl) hW)
  have b0 : (z == 0) = false := beq_eq_false_iff_ne.mpr hz
  have T36 := Aside0.mk (fun W : World => prim_isOrder.calls o true W (by unfold prim_isOrder.f; rcases ho with h | h <;> rw [h] <;> rfl))
  have T37 := Aside0.mk (fun W : World => within_no A n c at_ z W ha hnw hn2)
  clear hT0 hp hz ho ha hnw hn2
  go_enter Tryd.func21, Tryd.ntmps21
  go_upto_region 1 with (fail)
  go_cut [10] (fun v wc => ∃ g1 : Nat, v = .pointer (some ⟨g1, 0, none⟩) ∧ Aside0 (wc.heap[g1]? = some (.cells #[.int .i64 z, .bool sg, .bool fl, .int .u64 nu, .int .u64 mi, .int .u64 ma] 47 (0, 0))) ∧ Aside0 (w.heap.size ≤ g1) ∧ Aside0 (Below w.heap.size w wc))
  case first => as_aux_lemma =>
    go_wp2_with (first | (go_at_call 30; (with_reducible refine (T30.out _ (tab_below HT.out HB.out)).mono ?_); rintro e_ w1 ⟨rfl, hb_⟩; have n0_ := Aside0.mk (below_step HB.out hb_); clear HB hb_; have HB := n0_; clear n0_) | ((with_reducible refine gate_dst (N := 10) rfl ?_); refine box_event ?hg (N := 10) ?hd (cs := #[.int .i64 0, .bool false, .bool false, .int .u64 0, .int .u64 0, .int .u64 0]) (t := 47) ?hr ?_; (case hd => rfl); (case hg => rfl); (case hr => first | (go_simp; done) | (go_simp; rfl)); intro g1 hgx w2 hbox hbw; have HG1 := Aside0.mk (show w.heap.size ≤ g1 from hgx ▸ below_size HB.out); have n0_ := Aside0.mk (below_step HB.out hbw); clear HB; have HB := n0_; clear n0_; have HX := Aside0.mk hbox; have c0_ : w2.cell? ⟨g1, 0, none⟩ = some (.int .i64 0) := blk_cell hbox 0; have f0_ := blk_frozen hbox 0; have c1_ : w2.cell? ⟨g1, 1, none⟩ = some (.bool false) := blk_cell hbox 1; have f1_ := blk_frozen hbox 1; have c2_ : w2.cell? ⟨g1, 2, none⟩ = some (.bool false) := blk_cell hbox 2; have f2_ := blk_frozen hbox 2; have c3_ : w2.cell? ⟨g1, 3, none⟩ = some (.int .u64 0) := blk_cell hbox 3; have f3_ := blk_frozen hbox 3; have c4_ : w2.cell? ⟨g1, 4, none⟩ = some (.int .u64 0) := blk_cell hbox 4; have f4_ := blk_frozen hbox 4; have c5_ : w2.cell? ⟨g1, 5, none⟩ = some (.int .u64 0) := blk_cell hbox 5; have f5_ := blk_frozen hbox 5; clear hgx hbox hbw))
    go_meet
    case rel => exact ⟨g1, rfl, ⟨(by have z_ := blk_set (blk_set (blk_set (blk_set (blk_set (blk_set HX.out 0 (.int .i64 z)) 1 (.bool sg)) 2 (.bool fl)) 3 (.int .u64 nu)) 4 (.int .u64 mi)) 5 (.int .u64 ma); simpa using z_)⟩, HG1, ⟨(by repeat (first | (with_reducible first | exact HB.out | apply below_alloc | apply pw_below_drewN | apply below_drew1 | refine below_set ?_ HG1.out) | exact HB.out))⟩⟩
  obtain ⟨g1, rfl, HK, HG1, HB'⟩ := hcut
  clear HB
  have HB := HB'
  clear HB'
  have k0_ := blk_cell HK.out 0
  have k1_ := blk_cell HK.out 1
  have k2_ := blk_cell HK.out 2
  have k3_ := blk_cell HK.out 3
  have k4_ := blk_cell HK.out 4
  have k5_ := blk_cell HK.out 5
  go_wp2_with (first | (go_at_call 36; (with_reducible refine (T36.out _).mono ?_); rintro e_ w_ ⟨rfl, ⟨m36, rfl⟩⟩) | (go_at_call 37; (with_reducible refine (T37.out _).mono ?_); rintro e_ w_ ⟨rfl, ⟨m37, rfl⟩⟩))
  go_ret2
  exact ⟨rfl, (by repeat (first | (with_reducible first | exact HB.out | apply below_alloc | apply pw_below_drewN | apply below_drew1 | refine below_set ?_ HG1.out) | exact HB.out))⟩
set_option maxHeartbeats 8000000 in
set_option maxRecDepth 100000 in
theorem prim_Put.order (w : World) (hT0 : Tab w) (A : Option Addr) (n c : Nat) (at_ p o v z : Int) (sg fl : Bool) (nu mi ma : Int) (hp : primRow p = (z, sg, fl, nu, mi, ma)) (hz : z ≠ 0) (ho0 : ¬ o = 0) (ho1 : ¬ o = 1) :
    Calls Tryd.prog 25 #[.slice A n c, .int .i64 at_, .int .i64 p, .int .i64 o, .int .u64 v] w fun e w' => e = .returned (.int .i64 10) ∧ Below w.heap.size w w' := by
  have HT := Aside0.mk hT0
  have HP := Aside0.mk hp
  have HB := Aside0.mk (Below.refl w.heap.size w)
  have hmf : ∀ (fn : Fn) (first cap : Array Value) (w : World), (Instr.makeFunc fn first cap).run Tryd.prog w = .ok (.func fn first cap) w := fun _ _ _ _ => rfl
  have hu47 := Tryd.underlying47
  have T30 := Aside0.mk (fun (W : World) (hW : Tab W) => prim_of.calls p z sg fl nu mi ma W (by rw [← hp]; rfl) hW)
  have b0 : (z == 0) = false := beq_eq_false_iff_ne.mpr hz
  have T36 := Aside0.mk (fun W : World => prim_isOrder.calls o false W (by unfold prim_isOrder.f; rw [if_neg ho0]; exact congrArg some (beq_eq_false_iff_ne.mpr ho1)))
  clear hT0 hp hz ho0 ho1
  go_enter Tryd.func25, Tryd.ntmps25
  go_upto_region 1 with (fail)
  go_cut [11] (fun v wc => ∃ g1 : Nat, v = .pointer (some ⟨g1, 0, none⟩) ∧ Aside0 (wc.heap[g1]? = some (.cells #[.int .i64 z, .bool sg, .bool fl, .int .u64 nu, .int .u64 mi, .int .u64 ma] 47 (0, 0))) ∧ Aside0 (w.heap.size ≤ g1) ∧ Aside0 (Below w.heap.size w wc))
  case first => as_aux_lemma =>
    go_wp2_with (first | (go_at_call 30; (with_reducible refine (T30.out _ (tab_below HT.out HB.out)).mono ?_); rintro e_ w1 ⟨rfl, hb_⟩; have n0_ := Aside0.mk (below_step HB.out hb_); clear HB hb_; have HB := n0_; clear n0_) | ((with_reducible refine gate_dst (N := 11) rfl ?_); refine box_event ?hg (N := 11) ?hd (cs := #[.int .i64 0, .bool false, .bool false, .int .u64 0, .int .u64 0, .int .u64 0]) (t := 47) ?hr ?_; (case hd => rfl); (case hg => rfl); (case hr => first | (go_simp; done) | (go_simp; rfl)); intro g1 hgx w2 hbox hbw; have HG1 := Aside0.mk (show w.heap.size ≤ g1 from hgx ▸ below_size HB.out); have n0_ := Aside0.mk (below_step HB.out hbw); clear HB; have HB := n0_; clear n0_; have HX := Aside0.mk hbox; have c0_ : w2.cell? ⟨g1, 0, none⟩ = some (.int .i64 0) := blk_cell hbox 0; have f0_ := blk_frozen hbox 0; have c1_ : w2.cell? ⟨g1, 1, none⟩ = some (.bool false) := blk_cell hbox 1; have f1_ := blk_frozen hbox 1; have c2_ : w2.cell? ⟨g1, 2, none⟩ = some (.bool false) := blk_cell hbox 2; have f2_ := blk_frozen hbox 2; have c3_ : w2.cell? ⟨g1, 3, none⟩ = some (.int .u64 0) := blk_cell hbox 3; have f3_ := blk_frozen hbox 3; have c4_ : w2.cell? ⟨g1, 4, none⟩ = some (.int .u64 0) := blk_cell hbox 4; have f4_ := blk_frozen hbox 4; have c5_ : w2.cell? ⟨g1, 5, none⟩ = some (.int .u64 0) := blk_cell hbox 5; have f5_ := blk_frozen hbox 5; clear hgx hbox hbw))
    go_meet
    case rel => exact ⟨g1, rfl, ⟨(by have z_ := blk_set (blk_set (blk_set (blk_set (blk_set (blk_set HX.out 0 (.int .i64 z)) 1 (.bool sg)) 2 (.bool fl)) 3 (.int .u64 nu)) 4 (.int .u64 mi)) 5 (.int .u64 ma); simpa using z_)⟩, HG1, ⟨(by repeat (first | (with_reducible first | exact HB.out | apply below_alloc | apply pw_below_drewN | apply below_drew1 | refine below_set ?_ HG1.out) | exact HB.out))⟩⟩
  obtain ⟨g1, rfl, HK, HG1, HB'⟩ := hcut
  clear HB
  have HB := HB'
  clear HB'
  have k0_ := blk_cell HK.out 0
  have k1_ := blk_cell HK.out 1
  have k2_ := blk_cell HK.out 2
  have k3_ := blk_cell HK.out 3
  have k4_ := blk_cell HK.out 4
  have k5_ := blk_cell HK.out 5
  go_wp2_with (first | (go_at_call 36; (with_reducible refine (T36.out _).mono ?_); rintro e_ w_ ⟨rfl, ⟨m36, rfl⟩⟩))
  go_ret
  exact ⟨rfl, (by repeat (first | (with_reducible first | exact HB.out | apply below_alloc | apply pw_below_drewN | apply below_drew1 | refine below_set ?_ HG1.out) | exact HB.out))⟩
set_option maxHeartbeats 8000000 in
set_option maxRecDepth 100000 in
theorem prim_Put.short (w : World) (hT0 : Tab w) (A : Option Addr) (n c : Nat) (at_ p o v z : Int) (sg fl : Bool) (nu mi ma : Int) (hp : primRow p = (z, sg, fl, nu, mi, ma)) (hz : z ≠ 0) (ho : o = 0 ∨ o = 1) (ha : -9223372036854775808 ≤ at_ ∧ at_ ≤ 9223372036854775807) (hnw : ¬ (0 ≤ at_ ∧ 0 ≤ z ∧ at_ + z ≤ n)) (hn2 : (n : Int) < 4611686018427387904) (hf : prim_Fits.f p v = some true) :
    Calls Tryd.prog 25 #[.slice A n c, .int .i64 at_, .int .i64 p, .int .i64 o, .int .u64 v] w fun e w' => e = .returned (.int .i64 11) ∧ Below w.heap.size w w' := by
  have HT := Aside0.mk hT0
  have HP := Aside0.mk hp
  have HB := Aside0.mk (Below.refl w.heap.size w)
  have hmf : ∀ (fn : Fn) (first cap : Array Value) (w : World), (Instr.makeFunc fn first cap).run Tryd.prog w = .ok (.func fn first cap) w := fun _ _ _ _ => rfl
  have hu47 := Tryd.underlying47
  have T30 := Aside0.mk (fun (W : World) (hW : Tab W) => prim_of.calls p z sg fl nu mi ma W (by rw [← hp]; rfl) hW)
  have b0 : (z == 0) = false := beq_eq_false_iff_ne.mpr hz
  have T36 := Aside0.mk (fun W : World => prim_isOrder.calls o true W (by unfold prim_isOrder.f; rcases ho with h | h <;> rw [h] <;> rfl))
  have T37 := Aside0.mk (fun W : World => within_no A n c at_ z W ha hnw hn2)
  have T8 := Aside0.mk (fun (W : World) (hW : Tab W) => prim_Fits.calls p v true W hf hW)
  clear hT0 hp hz ho ha hnw hn2 hf
  go_enter Tryd.func25, Tryd.ntmps25
  go_upto_region 1 with (fail)
  go_cut [11] (fun v wc => ∃ g1 : Nat, v = .pointer (some ⟨g1, 0, none⟩) ∧ Aside0 (wc.heap[g1]? = some (.cells #[.int .i64 z, .bool sg, .bool fl, .int .u64 nu, .int .u64 mi, .int .u64 ma] 47 (0, 0))) ∧ Aside0 (w.heap.size ≤ g1) ∧ Aside0 (Below w.heap.size w wc))
  case first => as_aux_lemma =>
    go_wp2_with (first | (go_at_call 30; (with_reducible refine (T30.out _ (tab_below HT.out HB.out)).mono ?_); rintro e_ w1 ⟨rfl, hb_⟩; have n0_ := Aside0.mk (below_step HB.out hb_); clear HB hb_; have HB := n0_; clear n0_) | ((with_reducible refine gate_dst (N := 11) rfl ?_); refine box_event ?hg (N := 11) ?hd (cs := #[.int .i64 0, .bool false, .bool false, .int .u64 0, .int .u64 0, .int .u64 0]) (t := 47) ?hr ?_; (case hd => rfl); (case hg => rfl); (case hr => first | (go_simp; done) | (go_simp; rfl)); intro g1 hgx w2 hbox hbw; have HG1 := Aside0.mk (show w.heap.size ≤ g1 from hgx ▸ below_size HB.out); have n0_ := Aside0.mk (below_step HB.out hbw); clear HB; have HB := n0_; clear n0_; have HX := Aside0.mk hbox; have c0_ : w2.cell? ⟨g1, 0, none⟩ = some (.int .i64 0) := blk_cell hbox 0; have f0_ := blk_frozen hbox 0; have c1_ : w2.cell? ⟨g1, 1, none⟩ = some (.bool false) := blk_cell hbox 1; have f1_ := blk_frozen hbox 1; have c2_ : w2.cell? ⟨g1, 2, none⟩ = some (.bool false) := blk_cell hbox 2; have f2_ := blk_frozen hbox 2; have c3_ : w2.cell? ⟨g1, 3, none⟩ = some (.int .u64 0) := blk_cell hbox 3; have f3_ := blk_frozen hbox 3; have c4_ : w2.cell? ⟨g1, 4, none⟩ = some (.int .u64 0) := blk_cell hbox 4; have f4_ := blk_frozen hbox 4; have c5_ : w2.cell? ⟨g1, 5, none⟩ = some (.int .u64 0) := blk_cell hbox 5; have f5_ := blk_frozen hbox 5; clear hgx hbox hbw))
    go_meet
    case rel => exact ⟨g1, rfl, ⟨(by have z_ := blk_set (blk_set (blk_set (blk_set (blk_set (blk_set HX.out 0 (.int .i64 z)) 1 (.bool sg)) 2 (.bool fl)) 3 (.int .u64 nu)) 4 (.int .u64 mi)) 5 (.int .u64 ma); simpa using z_)⟩, HG1, ⟨(by repeat (first | (with_reducible first | exact HB.out | apply below_alloc | apply pw_below_drewN | apply below_drew1 | refine below_set ?_ HG1.out) | exact HB.out))⟩⟩
  obtain ⟨g1, rfl, HK, HG1, HB'⟩ := hcut
  clear HB
  have HB := HB'
  clear HB'
  have k0_ := blk_cell HK.out 0
  have k1_ := blk_cell HK.out 1
  have k2_ := blk_cell HK.out 2
  have k3_ := blk_cell HK.out 3
  have k4_ := blk_cell HK.out 4
  have k5_ := blk_cell HK.out 5
  go_wp2_with (first | (go_at_call 36; (with_reducible refine (T36.out _).mono ?_); rintro e_ w_ ⟨rfl, ⟨m36, rfl⟩⟩) | (go_at_call 37; (with_reducible refine (T37.out _).mono ?_); rintro e_ w_ ⟨rfl, ⟨m37, rfl⟩⟩) | (go_at_call 8; (with_reducible refine (T8.out _ (tab_below HT.out (by repeat (first | (with_reducible first | exact HB.out | apply below_alloc | apply pw_below_drewN | apply below_drew1 | refine below_set ?_ HG1.out) | exact HB.out)))).mono ?_); rintro e_ w_ ⟨rfl, hb_⟩; have n0_ := Aside0.mk (below_step (by repeat (first | (with_reducible first | exact HB.out | apply below_alloc | apply pw_below_drewN | apply below_drew1 | refine below_set ?_ HG1.out) | exact HB.out)) hb_); have n1_ := blk_cell (blk_below (by first | exact blk_drN HK.out _ | exact HK.out) hb_) 0; clear HB; have HB := n0_; clear n0_ hb_))
  go_ret
  exact ⟨rfl, (by repeat (first | (with_reducible first | exact HB.out | apply below_alloc | apply pw_below_drewN | apply below_drew1 | refine below_set ?_ HG1.out) | exact HB.out))⟩

end Go.Proofs.YtgackepigegbkaaDoor.B
