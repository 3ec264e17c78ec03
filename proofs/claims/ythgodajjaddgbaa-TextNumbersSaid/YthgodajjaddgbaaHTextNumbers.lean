/- The walk of TextNumbers (layer 2), by hand; written by gen_numbers.py. -/
import Derived.Test.YthgodajjaddgbaaVx0
import Derived.Test.YthgodajjaddgbaaVx1
import Derived.Test.YthgodajjaddgbaaHNumPlain
import Derived.IntWalk
import Derived.BigQuiet
namespace Go.Proofs.Ythgodajjaddgbaa.V
open Go.RowKit Go.Proofs.YthgodajjaddgbaaW.PrintWords Go.Proofs.YthgodajjaddgbaaW.PrintLast Go.Proofs.YthgodajjaddgbaaW.PrintMore
attribute [local go_sem] max2_int min2_int max_two min_two max_three min_three max_four min_four   -- for this text's walks alone
set_option linter.unusedVariables false
set_option linter.unusedSimpArgs false

def stencillaw02_TextNumbers.f (a0 a1 : Int) (a2 : ByteArray) : Option Bool := if (-9223372036854775808 ≤ a0 ∧ a0 ≤ 9223372036854775807) ∧ (-9223372036854775808 ≤ a1 ∧ a1 ≤ 9223372036854775807) ∧ a2.size ≤ 140737488351232 then some true else none
def frontL (l : List Int) : List Int := l.filter (fun c => c != 38)
def empV (v : Value) : Nat := match v with | .string s => if s.size = 0 then 1 else 0 | _ => 0
def mDig (v11 v9 : Value) : Nat := (intOf v11).toNat + empV v9
theorem front_step (l : List Int) (k : Nat) (c : Int) (h : l.take (k + 1) = l.take k ++ [c]) : frontL (l.take (k + 1)) = frontL (l.take k) ++ (if c = 38 then [] else [c]) := by
  rw [h]; unfold frontL; rw [List.filter_append]
  by_cases e : c = 38
  · rw [if_pos e, e]; rfl
  · rw [if_neg e, List.filter_cons_of_pos (by simpa using e)]; rfl
/-- One more digit ahead. -/
theorem dig_step (b : Int) (hb : 2 ≤ b) (n m : Int) (ds : List Int) (h0 : 0 ≤ m) (hd : ∀ d ∈ ds, 0 ≤ d ∧ d < b) (hv : valF b m ds = n) (hm : m * 2 ^ ds.length ≤ n) (hn : n < 2097152) (hg : 0 < m ∨ ds = []) :
    0 ≤ m / b ∧ (∀ d ∈ (m % b :: ds), 0 ≤ d ∧ d < b) ∧ valF b (m / b) (m % b :: ds) = n ∧ m / b * 2 ^ (m % b :: ds).length ≤ n ∧ (0 < m → m / b < m) ∧ ds.length ≤ 21 := by
  have hq := Int.ediv_nonneg h0 (by omega : 0 ≤ b)
  have hr0 := Int.emod_nonneg m (by omega : b ≠ 0)
  have hr1 := Int.emod_lt_of_pos m (by omega : 0 < b)
  have he := Int.mul_ediv_add_emod m b
  refine ⟨hq, fun d h => ?_, ?_, ?_, fun h => Int.ediv_lt_self_of_pos_of_ne_one h (by omega), ?_⟩
  · rcases List.mem_cons.1 h with rfl | h
    · exact ⟨hr0, hr1⟩
    · exact hd d h
  · show valF b (m / b * b + m % b) ds = n
    rw [Int.mul_comm (m / b) b, he]; exact hv
  · rw [List.length_cons, Int.pow_succ]
    have hp : (0 : Int) ≤ 2 ^ ds.length := Int.le_of_lt (Int.pow_pos (by decide))
    have h2 : m / b * 2 ≤ m := by
      have : m / b * 2 ≤ m / b * b := Int.mul_le_mul_of_nonneg_left hb hq
      rw [Int.mul_comm (m / b) b] at this
      omega
    have h3 : m / b * 2 * 2 ^ ds.length ≤ m * 2 ^ ds.length := Int.mul_le_mul_of_nonneg_right h2 hp
    have h4 : m / b * (2 ^ ds.length * 2) = m / b * 2 * 2 ^ ds.length := by rw [Int.mul_comm (2 ^ ds.length) 2, Int.mul_assoc]
    omega
  · rcases hg with h | h
    · by_cases c : ds.length ≤ 21
      · exact c
      · exfalso
        have h5 : (2 : Int) ^ 21 ≤ 2 ^ ds.length := by exact_mod_cast Nat.pow_le_pow_right (by decide) (by omega)
        have hp : (0 : Int) ≤ 2 ^ ds.length := Int.le_of_lt (Int.pow_pos (by decide))
        have h6 : 1 * (2 : Int) ^ ds.length ≤ m * 2 ^ ds.length := Int.mul_le_mul_of_nonneg_right (by omega) hp
        have : (2 : Int) ^ 21 = 2097152 := by decide
        omega
    · rw [h]; decide
theorem mDig_lt (m q : Int) (D D2 : ByteArray) (h0 : 0 ≤ m) (h1 : 0 ≤ q) (h2 : 0 < m ∨ D.size = 0) (h3 : 0 < m → q < m) (h4 : D2.size ≠ 0) (h5 : q ≤ m) : mDig (.int .i64 q) (.string D2) < mDig (.int .i64 m) (.string D) := by
  show q.toNat + (if D2.size = 0 then 1 else 0) < m.toNat + (if D.size = 0 then 1 else 0)
  rw [if_neg h4]
  by_cases c : 0 < m
  · have := h3 c; split <;> omega
  · rcases h2 with h | h
    · exact absurd h c
    · rw [if_pos h]; omega
theorem row_slice {w : World} {base e n m : Nat} {v : Value} {cs : List Value} (h : w.ownsRow base e m v n cs) : ∃ A c, v = .slice A n c := by
  rcases h.2 with ⟨rfl, h0⟩ | ⟨g, cap, cur, rfl, _⟩
  · exact ⟨none, 0, by rw [h0]⟩
  · exact ⟨_, _, rfl⟩
theorem wf_64n {x : Int} (h : (Lit.int .i64 x).wf = true) : -9223372036854775808 ≤ x ∧ x ≤ 9223372036854775807 := by
  have z : IntKind.i64.min ≤ x ∧ x ≤ IntKind.i64.max := by simpa [Lit.wf] using h
  have e1 : IntKind.i64.min = -9223372036854775808 := by decide
  have e2 : IntKind.i64.max = 9223372036854775807 := by decide
  rw [e1, e2] at z
  exact z
theorem hx_cut (d : Int) (h : 0 ≤ d ∧ d < 16) : (⟨#[48, 49, 50, 51, 52, 53, 54, 55, 56, 57, 97, 66, 99, 68, 101, 70]⟩ : ByteArray).extract d.toNat (d + 1).toNat = strOfNums [hxM d] := by
  have : d = 0 ∨ d = 1 ∨ d = 2 ∨ d = 3 ∨ d = 4 ∨ d = 5 ∨ d = 6 ∨ d = 7 ∨ d = 8 ∨ d = 9 ∨ d = 10 ∨ d = 11 ∨ d = 12 ∨ d = 13 ∨ d = 14 ∨ d = 15 := by omega
  rcases this with rfl | rfl | rfl | rfl | rfl | rfl | rfl | rfl | rfl | rfl | rfl | rfl | rfl | rfl | rfl | rfl <;> rfl
theorem measN (a : Nat) (x y : Int) (h0 : 0 ≤ x) (h1 : x < (a : Int)) (hy : y = x + 1) : a + 1 - (intOf (.int .i64 y)).toNat < a + 1 - (intOf (.int .i64 x)).toNat := by
  subst hy
  show a + 1 - (x + 1).toNat < a + 1 - x.toNat
  omega
set_option maxHeartbeats 8000000 in
set_option maxRecDepth 100000 in
theorem stencillaw02_TextNumbers.calls (a0 a1 : Int) (a2 : ByteArray) (r : Bool) (w : World) (h : stencillaw02_TextNumbers.f a0 a1 a2 = some r) :
    Calls Try.prog 5 #[.int .i64 a0, .int .i64 a1, .string a2] w fun e w' => e = .returned (.bool r) ∧ Below w.heap.size w w' := by
  unfold stencillaw02_TextNumbers.f at h
  split at h
  case isFalse => cases h
  rename_i hh
  obtain ⟨h1, h2, h3⟩ := hh
  obtain rfl := Option.some.inj h
  clear h
  have H1 := Aside0.mk h1
  have H2 := Aside0.mk h2
  obtain ⟨l, hl⟩ : ∃ l, l = bytesT a2 := ⟨_, rfl⟩
  have HR := Aside0.mk (show ∀ x ∈ l, 0 ≤ x ∧ x ≤ 255 from hl ▸ bytesT_range a2)
  have HLN := Aside0.mk (show l.length = a2.size by rw [hl, bytesT_len])
  have HA := Aside0.mk (show a2 = strOfNums l by rw [hl, strOf_bytesT])
  have HL := Aside0.mk (show l.length ≤ 140737488351232 by rw [hl, bytesT_len]; exact h3)
  clear hl h1 h2 h3
  have HB := Aside0.mk (Below.refl w.heap.size w)
  go_enter Try.func5, Try.ntmps5
  go_upto_if 21 with (fail)
  go_cut [0] (fun v wc => ∃ x : Int, v = .int .i64 x ∧ Aside0 (0 ≤ x ∧ x ≤ 9223372036854775807) ∧ Aside0 (Below w.heap.size w wc))
  case first => as_aux_lemma =>
    by_cases c : a0 < 0
    · have d_ : decide (a0 < 0) = true := decide_eq_true c
      rw [d_]
      obtain ⟨x2, hx2⟩ : ∃ m : Int, wrap64 (-wrap64 (a0 + 1)) = m := ⟨_, rfl⟩
      have HX2 := Aside0.mk (show 0 ≤ x2 ∧ x2 ≤ 9223372036854775807 by have h1 := H1.out; clear d_; rw [← hx2]; unfold wrap64; omega)
      clear c
      go_wp2
      go_meet
      case rel => exact ⟨x2, by first | with_reducible rfl | rw [hx2], HX2, ⟨(by repeat (first | (with_reducible first | exact HB.out | apply below_alloc | apply pw_below_drewN | apply below_drew1) | exact HB.out))⟩⟩
    · have d_ : decide (a0 < 0) = false := decide_eq_false c
      rw [d_]
      have HX2 := Aside0.mk (show 0 ≤ a0 ∧ a0 ≤ 9223372036854775807 by have h1 := H1.out; omega)
      clear c
      go_wp2
      go_meet
      case rel => exact ⟨a0, rfl, HX2, ⟨(by repeat (first | (with_reducible first | exact HB.out | apply below_alloc | apply pw_below_drewN | apply below_drew1) | exact HB.out))⟩⟩
  obtain ⟨x0, rfl, HX0, HB'⟩ := hcut
  clear HB
  have HB := HB'
  clear HB'
  obtain ⟨n, hn⟩ : ∃ m : Int, x0.tmod 1179648 = m := ⟨_, rfl⟩
  have HN := Aside0.mk (show 0 ≤ n ∧ n < 1179648 by rw [← hn, Int.tmod_eq_emod_of_nonneg HX0.out.1]; omega)
  go_upto_if 28 with (fail)
  clear hn
  go_cut [1] (fun v wc => ∃ x : Int, v = .int .i64 x ∧ Aside0 (0 ≤ x ∧ x ≤ 9223372036854775807) ∧ Aside0 (Below w.heap.size w wc))
  case first => as_aux_lemma =>
    by_cases c : a1 < 0
    · have d_ : decide (a1 < 0) = true := decide_eq_true c
      rw [d_]
      obtain ⟨x2, hx2⟩ : ∃ m : Int, wrap64 (-wrap64 (a1 + 1)) = m := ⟨_, rfl⟩
      have HX2 := Aside0.mk (show 0 ≤ x2 ∧ x2 ≤ 9223372036854775807 by have h1 := H2.out; clear d_; rw [← hx2]; unfold wrap64; omega)
      clear c
      go_wp2
      go_meet
      case rel => exact ⟨x2, by first | with_reducible rfl | rw [hx2], HX2, ⟨(by repeat (first | (with_reducible first | exact HB.out | apply below_alloc | apply pw_below_drewN | apply below_drew1) | exact HB.out))⟩⟩
    · have d_ : decide (a1 < 0) = false := decide_eq_false c
      rw [d_]
      have HX2 := Aside0.mk (show 0 ≤ a1 ∧ a1 ≤ 9223372036854775807 by have h1 := H2.out; omega)
      clear c
      go_wp2
      go_meet
      case rel => exact ⟨a1, rfl, HX2, ⟨(by repeat (first | (with_reducible first | exact HB.out | apply below_alloc | apply pw_below_drewN | apply below_drew1) | exact HB.out))⟩⟩
  obtain ⟨z0, rfl, HZ0, HB'⟩ := hcut
  clear HB
  have HB := HB'
  clear HB'
  go_wp2
  go_loopw [7, 8] (fun v7 v8 wr => ∃ (k : Nat) (x : Int), v8 = .int .i64 x ∧ Aside0 (x = (k : Int) ∧ k ≤ l.length ∧ k ≤ 64) ∧ Aside0 (Kd.R (Kd.int .u8) 5 wr w.heap.size (fun _ => True) v7 (frontL (l.take k))) ∧ Aside0 (Below w.heap.size w wr)) (fun _ v8 _ => 64 + 1 - (intOf v8).toNat)
  case atStart => exact ⟨0, 0, rfl, ⟨rfl, Nat.zero_le _, Nat.zero_le _⟩, ⟨Kd.R_nil _ _ _ _ _⟩, ⟨(by repeat (first | (with_reducible first | exact HB.out | apply below_alloc | apply pw_below_drewN | apply below_drew1) | exact HB.out))⟩⟩
  case round =>
  clear HB
  obtain ⟨k, x, rfl, HX, HRW, HB⟩ := hrel
  go_upto_region 8 with (fail)
  go_cut [39] (fun v wc => v = .bool (decide (k < l.length ∧ k < 64)) ∧ Aside0 (Kd.R (Kd.int .u8) 5 wc w.heap.size (fun _ => True) u7 (frontL (l.take k))) ∧ Aside0 (Below w.heap.size w wc))
  case first => as_aux_lemma =>
    by_cases c0 : k < l.length
    · have d0 : decide (x < (a2.size : Int)) = true := decide_eq_true (by have := HX.out; have := HLN.out; omega)
      by_cases c1 : k < 64
      · have d1 : decide (x < 64) = true := decide_eq_true (by have := HX.out; omega)
        have E_ := Aside0.mk (show decide (k < l.length ∧ k < 64) = true from decide_eq_true ⟨c0, c1⟩)
        clear c0 c1
        go_wp2
        go_meet
        case rel => exact ⟨by rw [E_.out], HRW, ⟨(by repeat (first | (with_reducible first | exact HB.out | apply below_alloc | apply pw_below_drewN | apply below_drew1) | exact HB.out))⟩⟩
      · have d1 : decide (x < 64) = false := decide_eq_false (by have := HX.out; omega)
        have E_ := Aside0.mk (show decide (k < l.length ∧ k < 64) = false from decide_eq_false (fun h => c1 h.2))
        clear c0 c1
        go_wp2
        go_meet
        case rel => exact ⟨by rw [E_.out], HRW, ⟨(by repeat (first | (with_reducible first | exact HB.out | apply below_alloc | apply pw_below_drewN | apply below_drew1) | exact HB.out))⟩⟩
    · have d0 : decide (x < (a2.size : Int)) = false := decide_eq_false (by have := HX.out; have := HLN.out; omega)
      have E_ := Aside0.mk (show decide (k < l.length ∧ k < 64) = false from decide_eq_false (fun h => c0 h.1))
      clear c0
      go_wp2
      go_meet
      case rel => exact ⟨by rw [E_.out], HRW, ⟨(by repeat (first | (with_reducible first | exact HB.out | apply below_alloc | apply pw_below_drewN | apply below_drew1) | exact HB.out))⟩⟩
  obtain ⟨rfl, HRW', HB'⟩ := hcut
  clear HRW HB
  have HRW := HRW'
  have HB := HB'
  clear HRW' HB'
  by_cases hlt : k < l.length ∧ k < 64
  case pos => as_aux_lemma =>
    rw [decide_eq_true hlt]
    have hbt : bt a2 x = l[k]'hlt.1 := by rw [HA.out, HX.out.1]; exact bt_of l HR.out k _ (List.getElem?_eq_getElem hlt.1)
    have htk : l.take (k + 1) = l.take k ++ [l[k]'hlt.1] := List.take_succ_eq_append_getElem hlt.1
    generalize l[k]'hlt.1 = c at *
    have HFS := Aside0.mk (front_step l k c htk)
    have hx := bt_at a2 x
    rw [hbt] at hx
    have i0 := eq_true (show 0 ≤ x by have := HX.out; omega)
    have i1' : x < (a2.size : Int) := by have := HX.out; have := HLN.out; omega
    have i1 := eq_true i1'
    have HW := Aside0.mk (show wrap64 (x + 1) = x + 1 from w64q (by have := HX.out; omega) (by have := HX.out; omega))
    have HX2 := Aside0.mk (show x + 1 = ((k + 1 : Nat) : Int) ∧ k + 1 ≤ l.length ∧ k + 1 ≤ 64 ∧ 0 ≤ x ∧ x < ((64 : Nat) : Int) by have := HX.out; omega)
    have HLR := Aside0.mk (show (frontL (l.take k)).length ≤ 1000 by have h1 := List.length_filter_le (fun c : Int => c != 38) (l.take k); rw [List.length_take] at h1; unfold frontL; omega)
    obtain ⟨rw_, hrw⟩ : ∃ y, y = frontL (l.take k) := ⟨_, rfl⟩
    rw [← hrw] at HRW HFS HLR
    clear hbt htk i1' hlt hrw
    by_cases c38 : c = 38
    · have b38 : (c != 38) = false := bne_eq_false_iff_eq.mpr c38
      have HF2 := Aside0.mk (show frontL (l.take (k + 1)) = rw_ by rw [HFS.out, if_pos c38, List.append_nil])
      clear c38
      go_wp2
      go_roundw
      case rel => exact ⟨k + 1, x + 1, by first | with_reducible rfl | rw [HW.out], ⟨HX2.out.1, HX2.out.2.1, HX2.out.2.2.1⟩, by rw [HF2.out]; exact HRW, HB⟩
      case measure => exact measN _ x _ HX2.out.2.2.2.1 HX2.out.2.2.2.2 (by first | exact HW.out | rfl)
    · have b38 : (c != 38) = true := bne_iff_ne.mpr c38
      have HF2 := Aside0.mk (show frontL (l.take (k + 1)) = rw_ ++ [c] by rw [HFS.out, if_neg c38])
      clear c38
      go_wp2_with (first | ((with_reducible refine gate_builtin (b := .append) (xs := #[.tmp 46, .tmp 50]) rfl ?_); at_builtin; refine Kd.R_append (Kd.int .u8) (w0 := w) w.heap.size rfl (.tmp 46) (.tmp 50) 23 5 (.int .u8 0) 1 rfl Try.underlying23 info5 rfl (by decide) (by decide) _ rw_ c [.int .u8 c] (fun _ => True) (fun _ => False) rfl rfl rfl (fun _ hk => hk.elim) (fun _ _ => trivial) HRW.out HB.out HB.out.size (by have := HLR.out; omega) ?_; intro v4 w4 ho hb4 hg4 hat4; rw [← HF2.out] at ho; have HB4 := Aside0.mk hb4; have HO4 := Aside0.mk ho; clear ho hb4 hg4 hat4))
      go_roundw
      case rel => exact ⟨k + 1, x + 1, by first | with_reducible rfl | rw [HW.out], ⟨HX2.out.1, HX2.out.2.1, HX2.out.2.2.1⟩, HO4, HB4⟩
      case measure => exact measN _ x _ HX2.out.2.2.2.1 HX2.out.2.2.2.2 (by first | exact HW.out | rfl)
  case neg =>
  rw [decide_eq_false hlt]
  have HFR := Aside0.mk (show frontL (l.take k) = frontL (l.take 64) by
    have h9 := HX.out
    by_cases c : k = 64
    · rw [c]
    · have e : k = l.length := by omega
      rw [e, List.take_length, List.take_of_length_le (by omega)])
  rw [HFR.out] at HRW
  clear hlt HFR
  obtain ⟨fr, hfr⟩ : ∃ y, y = frontL (l.take 64) := ⟨_, rfl⟩
  have HFR := Aside0.mk hfr
  rw [← hfr] at HRW
  clear hfr
  go_wp2
  go_loopw [9, 11] (fun v9 v11 wr => ∃ (m : Int) (ds : List Int) (D : ByteArray), v9 = .string D ∧ v11 = .int .i64 m ∧ Aside0 (D = strOfNums (ds.map fun d => d + 48)) ∧ Aside0 (0 ≤ m ∧ (∀ d ∈ ds, 0 ≤ d ∧ d < 10) ∧ valF 10 m ds = n ∧ m * 2 ^ ds.length ≤ n) ∧ Aside0 (m ≤ n) ∧ Aside0 (ds.length ≤ 40) ∧ Aside0 (Kd.R (Kd.int .u8) 5 wr w.heap.size (fun _ => True) u7 fr) ∧ Aside0 (Below w.heap.size w wr)) (fun v9 v11 _ => mDig v11 v9)
  case atStart => exact ⟨n, [], _, rfl, rfl, ⟨rfl⟩, ⟨HN.out.1, fun d hd => (by cases hd), rfl, by simp⟩, ⟨Int.le_refl _⟩, ⟨Nat.zero_le _⟩, HRW, ⟨(by repeat (first | (with_reducible first | exact HB.out | apply below_alloc | apply pw_below_drewN | apply below_drew1) | exact HB.out))⟩⟩
  case round =>
  clear HB HRW
  obtain ⟨m, ds, D, rfl, rfl, HD, HM, HMN, HDL, HRW, HB⟩ := hrel
  go_upto_region 15 with (fail)
  go_cut [58] (fun v wc => v = .bool (decide (0 < m ∨ ds = [])) ∧ Aside0 (Kd.R (Kd.int .u8) 5 wc w.heap.size (fun _ => True) u7 fr) ∧ Aside0 (Below w.heap.size w wc))
  case first => as_aux_lemma =>
    by_cases c0 : 0 < m
    · have d0 : decide (0 < m) = true := decide_eq_true c0
      have E_ := Aside0.mk (show decide (0 < m ∨ ds = []) = true from decide_eq_true (.inl c0))
      clear c0
      go_wp2
      go_meet
      case rel => exact ⟨by rw [E_.out], HRW, ⟨(by repeat (first | (with_reducible first | exact HB.out | apply below_alloc | apply pw_below_drewN | apply below_drew1) | exact HB.out))⟩⟩
    · have d0 : decide (0 < m) = false := decide_eq_false c0
      by_cases c1 : ds = []
      · have b1 : (D.toList == ([] : List UInt8)) = true := beq_iff_eq.mpr (by rw [HD.out, c1, ByteArray.toList_eq]; simp [strOfNums])
        have E_ := Aside0.mk (show decide (0 < m ∨ ds = []) = true from decide_eq_true (.inr c1))
        clear c0 c1
        go_wp2
        go_meet
        case rel => exact ⟨by rw [E_.out], HRW, ⟨(by repeat (first | (with_reducible first | exact HB.out | apply below_alloc | apply pw_below_drewN | apply below_drew1) | exact HB.out))⟩⟩
      · have b1 : (D.toList == ([] : List UInt8)) = false := beq_eq_false_iff_ne.mpr (toList_ne D (by rw [HD.out, strOfNums_size, List.length_map]; exact List.length_pos_iff.2 c1))
        have E_ := Aside0.mk (show decide (0 < m ∨ ds = []) = false from decide_eq_false (fun h => h.elim c0 c1))
        clear c0 c1
        go_wp2
        go_meet
        case rel => exact ⟨by rw [E_.out], HRW, ⟨(by repeat (first | (with_reducible first | exact HB.out | apply below_alloc | apply pw_below_drewN | apply below_drew1) | exact HB.out))⟩⟩
  obtain ⟨rfl, HRW', HB'⟩ := hcut
  clear HRW HB
  have HRW := HRW'
  have HB := HB'
  clear HRW' HB'
  by_cases hlt : 0 < m ∨ ds = []
  case pos => as_aux_lemma =>
    rw [decide_eq_true hlt]
    have hs := dig_step 10 (by decide) n m ds HM.out.1 HM.out.2.1 HM.out.2.2.1 HM.out.2.2.2 (by have := HN.out; omega) hlt
    have HS := Aside0.mk hs
    have HM2 := Aside0.mk (show 0 < m ∨ D.size = 0 from hlt.imp id (fun h => by rw [HD.out, h]; rfl))
    obtain ⟨d, hd⟩ : ∃ d, m.tmod 10 = d := ⟨_, rfl⟩
    obtain ⟨q, hq⟩ : ∃ q, m.tdiv 10 = q := ⟨_, rfl⟩
    have hd2 : d = m % 10 := by rw [← hd, Int.tmod_eq_emod_of_nonneg HM.out.1]
    have hq2 : q = m / 10 := by rw [← hq, Int.tdiv_eq_ediv_of_nonneg HM.out.1]
    have hm0 := HM.out.1
    have hdb : 0 ≤ d ∧ d < 10 := by omega
    obtain ⟨e, he⟩ : ∃ e, e = d + 48 := ⟨_, rfl⟩
    have hqm : q ≤ m := by rw [hq2]; exact Int.ediv_le_self 10 hm0
    have HQM := Aside0.mk hqm
    have WQ := Aside0.mk (show wrap64 q = q from w64q (by have := hs.1; omega) (by have := HMN.out; have := HN.out; omega))
    have e1 : wrap64 (48 + d) = e := by rw [w64q (by omega) (by omega), he]; omega
    have e2 : IntKind.u8.wrap e = e := by rw [IntKind.wrap_u8]; omega
    have e3 : e % 256 = e := by omega
    have e4 : (48 + d) % 256 = e := by omega
    have e5 : IntKind.u8.wrap (48 + d) = e := by rw [IntKind.wrap_u8]; omega
    have hDs : D.size = ds.length := by rw [HD.out, strOfNums_size, List.length_map]
    obtain ⟨E1, hE1⟩ : ∃ E1, E1 = strOfNums [e] := ⟨_, rfl⟩
    obtain ⟨D2, hD2⟩ : ∃ D2, E1 ++ D = D2 := ⟨_, rfl⟩
    have HD2 := Aside0.mk (show D2 = strOfNums ((d :: ds).map fun d => d + 48) by rw [← hD2, hE1, HD.out, strOf_appT, he]; rfl)
    have HE1 := Aside0.mk hE1
    have q1_ : E1.size + D.size ≤ 9223372036854775807 := by rw [hE1, strOfNums_size, hDs]; have := hs.2.2.2.2.2; simp only [List.length_cons, List.length_nil]; omega
    have q1t := eq_true q1_
    have q1d := decide_eq_true q1_
    have q1f := eq_false (Nat.not_lt.2 q1_)
    have HQ := Aside0.mk (show q = m / 10 ∧ d = m % 10 from ⟨hq2, hd2⟩)
    have HD3 := Aside0.mk (show D2.size ≠ 0 by rw [HD2.out, strOfNums_size]; simp)
    clear hlt hs hd2 hq2 hm0 hdb hDs hE1 q1_ he hqm
    go_wp2_with (first | ((with_reducible refine gate_dst (N := 65) rfl ?_); refine Kd.R_lit (Kd.int .u8) _ 5 ?hg (N := 65) ?hd (xs := ([e] : List Int)) (inner := [.int .u8 e]) (ok := fun _ => True) (okp := fun _ => True) ?hr ?hp (fun _ hk => hk) trivial (Below.refl _ _) (Nat.le_refl _) (by simp) ?_; (case hd => rfl); (case hg => rfl); (case hr => first | (go_simp; done) | (go_simp; rfl)); (case hp => exact (Reps.one (show Kd.M (Kd.int .u8) _ _ _ e [.int .u8 e] from rfl) (Reps.none _ _))); intro v65 w_65 ho_ hb_ hg_ hnew_; clear hg_ hnew_; have n0_ := Aside0.mk (below_step (by repeat (first | (with_reducible first | exact HB.out | apply below_alloc | apply pw_below_drewN | apply below_drew1) | exact HB.out)) hb_); have n1_ := Aside0.mk (Kd.R_below HRW.out hb_); clear HB HRW; have HB := n0_; have HRW := n1_; clear n0_ n1_; have hcv65 := own_string (P := Try.prog) Try.underlying23 Try.underlying5 Try.underlying9 (Kd.own_of_R ho_); rw [← HE1.out] at hcv65; clear ho_ hb_))
    go_roundw
    case rel => exact ⟨q, d :: ds, D2, rfl, by first | with_reducible rfl | rw [WQ.out], HD2, ⟨by have h1 := HS.out; have h2 := HQ.out; rw [h2.1, h2.2]; exact ⟨h1.1, h1.2.1, h1.2.2.1, h1.2.2.2.1⟩⟩, ⟨Int.le_trans HQM.out HMN.out⟩, ⟨by have := HS.out.2.2.2.2.2; rw [List.length_cons]; omega⟩, HRW, HB⟩
    case measure => (try rw [WQ.out]); exact mDig_lt m q D D2 (by have := HM.out; omega) (by have := HS.out.1; have := HQ.out.1; omega) HM2.out (fun h => by have := HS.out.2.2.2.2.1 h; have := HQ.out.1; omega) HD3.out (by have h1 := HQ.out.1; have h2 := HM.out.1; rw [h1]; exact Int.ediv_le_self 10 h2)
  case neg =>
  rw [decide_eq_false hlt]
  have HDEC := Aside0.mk (show D = strOfNums (ds.map fun d => d + 48) ∧ (∀ d ∈ ds, 0 ≤ d ∧ d < 10) ∧ ds ≠ [] ∧ valF 10 0 ds = n ∧ ds.length ≤ 40 by
    have hm0 : m = 0 := by have h1 := HM.out.1; have h2 : ¬ 0 < m := fun h => hlt (.inl h); omega
    refine ⟨HD.out, HM.out.2.1, fun h => hlt (.inr h), ?_, HDL.out⟩
    have := HM.out.2.2.1
    rwa [hm0] at this)
  obtain ⟨decD, decs, hdd⟩ : ∃ (x : ByteArray) (y : List Int), x = D ∧ y = ds := ⟨_, _, rfl, rfl⟩
  rw [← hdd.1, ← hdd.2] at HDEC
  rw [← hdd.1]
  clear hlt HD HM HMN HDL hdd
  go_wp2
  go_loopw [10, 12] (fun v10 v12 wr => ∃ (m : Int) (ds : List Int) (D : ByteArray), v10 = .string D ∧ v12 = .int .i64 m ∧ Aside0 (D = strOfNums (ds.map hxM)) ∧ Aside0 (0 ≤ m ∧ (∀ d ∈ ds, 0 ≤ d ∧ d < 16) ∧ valF 16 m ds = n ∧ m * 2 ^ ds.length ≤ n) ∧ Aside0 (m ≤ n) ∧ Aside0 (ds.length ≤ 40) ∧ Aside0 (Kd.R (Kd.int .u8) 5 wr w.heap.size (fun _ => True) u7 fr) ∧ Aside0 (Below w.heap.size w wr)) (fun v10 v12 _ => mDig v12 v10)
  case atStart => exact ⟨n, [], _, rfl, rfl, ⟨rfl⟩, ⟨HN.out.1, fun d hd => (by cases hd), rfl, by simp⟩, ⟨Int.le_refl _⟩, ⟨Nat.zero_le _⟩, HRW, ⟨(by repeat (first | (with_reducible first | exact HB.out | apply below_alloc | apply pw_below_drewN | apply below_drew1) | exact HB.out))⟩⟩
  case round =>
  clear HB HRW
  obtain ⟨m, ds, D, rfl, rfl, HD, HM, HMN, HDL, HRW, HB⟩ := hrel
  go_upto_region 19 with (fail)
  go_cut [75] (fun v wc => v = .bool (decide (0 < m ∨ ds = [])) ∧ Aside0 (Kd.R (Kd.int .u8) 5 wc w.heap.size (fun _ => True) u7 fr) ∧ Aside0 (Below w.heap.size w wc))
  case first => as_aux_lemma =>
    by_cases c0 : 0 < m
    · have d0 : decide (0 < m) = true := decide_eq_true c0
      have E_ := Aside0.mk (show decide (0 < m ∨ ds = []) = true from decide_eq_true (.inl c0))
      clear c0
      go_wp2
      go_meet
      case rel => exact ⟨by rw [E_.out], HRW, ⟨(by repeat (first | (with_reducible first | exact HB.out | apply below_alloc | apply pw_below_drewN | apply below_drew1) | exact HB.out))⟩⟩
    · have d0 : decide (0 < m) = false := decide_eq_false c0
      by_cases c1 : ds = []
      · have b1 : (D.toList == ([] : List UInt8)) = true := beq_iff_eq.mpr (by rw [HD.out, c1, ByteArray.toList_eq]; simp [strOfNums])
        have E_ := Aside0.mk (show decide (0 < m ∨ ds = []) = true from decide_eq_true (.inr c1))
        clear c0 c1
        go_wp2
        go_meet
        case rel => exact ⟨by rw [E_.out], HRW, ⟨(by repeat (first | (with_reducible first | exact HB.out | apply below_alloc | apply pw_below_drewN | apply below_drew1) | exact HB.out))⟩⟩
      · have b1 : (D.toList == ([] : List UInt8)) = false := beq_eq_false_iff_ne.mpr (toList_ne D (by rw [HD.out, strOfNums_size, List.length_map]; exact List.length_pos_iff.2 c1))
        have E_ := Aside0.mk (show decide (0 < m ∨ ds = []) = false from decide_eq_false (fun h => h.elim c0 c1))
        clear c0 c1
        go_wp2
        go_meet
        case rel => exact ⟨by rw [E_.out], HRW, ⟨(by repeat (first | (with_reducible first | exact HB.out | apply below_alloc | apply pw_below_drewN | apply below_drew1) | exact HB.out))⟩⟩
  obtain ⟨rfl, HRW', HB'⟩ := hcut
  clear HRW HB
  have HRW := HRW'
  have HB := HB'
  clear HRW' HB'
  by_cases hlt : 0 < m ∨ ds = []
  case pos => as_aux_lemma =>
    rw [decide_eq_true hlt]
    have hs := dig_step 16 (by decide) n m ds HM.out.1 HM.out.2.1 HM.out.2.2.1 HM.out.2.2.2 (by have := HN.out; omega) hlt
    have HS := Aside0.mk hs
    have HM2 := Aside0.mk (show 0 < m ∨ D.size = 0 from hlt.imp id (fun h => by rw [HD.out, h]; rfl))
    obtain ⟨d, hd⟩ : ∃ d, m.tmod 16 = d := ⟨_, rfl⟩
    obtain ⟨q, hq⟩ : ∃ q, m.tdiv 16 = q := ⟨_, rfl⟩
    have hd2 : d = m % 16 := by rw [← hd, Int.tmod_eq_emod_of_nonneg HM.out.1]
    have hq2 : q = m / 16 := by rw [← hq, Int.tdiv_eq_ediv_of_nonneg HM.out.1]
    have hm0 := HM.out.1
    have hdb : 0 ≤ d ∧ d < 16 := by omega
    have hqm : q ≤ m := by rw [hq2]; exact Int.ediv_le_self 16 hm0
    have HQM := Aside0.mk hqm
    have WQ := Aside0.mk (show wrap64 q = q from w64q (by have := hs.1; omega) (by have := HMN.out; have := HN.out; omega))
    obtain ⟨d1, hd1⟩ : ∃ d1, wrap64 (d + 1) = d1 := ⟨_, rfl⟩
    have hd1b : d1 = d + 1 := by rw [← hd1, w64q (by omega) (by omega)]
    have j0 := eq_true hdb.1
    have j1 := eq_true (show d ≤ d1 by omega)
    have j2 := eq_true (show d1 ≤ 16 by omega)
    have hDs : D.size = ds.length := by rw [HD.out, strOfNums_size, List.length_map]
    obtain ⟨E1, hE1⟩ : ∃ E1, E1 = strOfNums [hxM d] := ⟨_, rfl⟩
    have hex1 : (⟨#[48, 49, 50, 51, 52, 53, 54, 55, 56, 57, 97, 66, 99, 68, 101, 70]⟩ : ByteArray).extract d.toNat d1.toNat = E1 := by rw [hE1, hd1b]; exact hx_cut d hdb
    obtain ⟨D2, hD2⟩ : ∃ D2, E1 ++ D = D2 := ⟨_, rfl⟩
    have HD2 := Aside0.mk (show D2 = strOfNums ((d :: ds).map hxM) by rw [← hD2, hE1, HD.out, strOf_appT]; rfl)
    have HE1 := Aside0.mk hE1
    have q1_ : E1.size + D.size ≤ 9223372036854775807 := by rw [hE1, strOfNums_size, hDs]; have := hs.2.2.2.2.2; simp only [List.length_cons, List.length_nil]; omega
    have q1t := eq_true q1_
    have q1d := decide_eq_true q1_
    have q1f := eq_false (Nat.not_lt.2 q1_)
    have HQ := Aside0.mk (show q = m / 16 ∧ d = m % 16 from ⟨hq2, hd2⟩)
    have HD3 := Aside0.mk (show D2.size ≠ 0 by rw [HD2.out, strOfNums_size]; simp)
    clear hlt hs hd2 hq2 hm0 hdb hDs hE1 q1_ hqm hd1b
    go_wp2
    go_roundw
    case rel => exact ⟨q, d :: ds, D2, rfl, by first | with_reducible rfl | rw [WQ.out], HD2, ⟨by have h1 := HS.out; have h2 := HQ.out; rw [h2.1, h2.2]; exact ⟨h1.1, h1.2.1, h1.2.2.1, h1.2.2.2.1⟩⟩, ⟨Int.le_trans HQM.out HMN.out⟩, ⟨by have := HS.out.2.2.2.2.2; rw [List.length_cons]; omega⟩, HRW, HB⟩
    case measure => (try rw [WQ.out]); exact mDig_lt m q D D2 (by have := HM.out; omega) (by have := HS.out.1; have := HQ.out.1; omega) HM2.out (fun h => by have := HS.out.2.2.2.2.1 h; have := HQ.out.1; omega) HD3.out (by have h1 := HQ.out.1; have h2 := HM.out.1; rw [h1]; exact Int.ediv_le_self 16 h2)
  case neg =>
  rw [decide_eq_false hlt]
  have HHEX := Aside0.mk (show D = strOfNums (ds.map hxM) ∧ (∀ d ∈ ds, 0 ≤ d ∧ d < 16) ∧ ds ≠ [] ∧ valF 16 0 ds = n ∧ ds.length ≤ 40 by
    have hm0 : m = 0 := by have h1 := HM.out.1; have h2 : ¬ 0 < m := fun h => hlt (.inl h); omega
    refine ⟨HD.out, HM.out.2.1, fun h => hlt (.inr h), ?_, HDL.out⟩
    have := HM.out.2.2.1
    rwa [hm0] at this)
  obtain ⟨hexD, hexs, hdd⟩ : ∃ (x : ByteArray) (y : List Int), x = D ∧ y = ds := ⟨_, _, rfl, rfl⟩
  rw [← hdd.1, ← hdd.2] at HHEX
  rw [← hdd.1]
  clear hlt HD HM HMN HDL hdd
  obtain ⟨z, hz⟩ : ∃ z, z0.tmod 30 = z := ⟨_, rfl⟩
  have HZ := Aside0.mk (show 0 ≤ z ∧ z < 30 by rw [← hz, Int.tmod_eq_emod_of_nonneg HZ0.out.1]; omega)
  go_wp2
  go_loopw [9, 10, 13] (fun v9 v10 v13 wr => ∃ (k : Nat) (y : Int) (D9 D10 : ByteArray), v9 = .string D9 ∧ v10 = .string D10 ∧ v13 = .int .i64 y ∧ Aside0 (y = (k : Int) ∧ y ≤ z) ∧ Aside0 (D9 = strOfNums ((List.replicate k 0 ++ decs).map fun d => d + 48)) ∧ Aside0 (D10 = strOfNums ((List.replicate k 0 ++ hexs).map hxM)) ∧ Aside0 (Kd.R (Kd.int .u8) 5 wr w.heap.size (fun _ => True) u7 fr) ∧ Aside0 (Below w.heap.size w wr)) (fun _ _ v13 _ => 30 + 1 - (intOf v13).toNat)
  case atStart => exact ⟨0, 0, _, _, rfl, rfl, rfl, ⟨rfl, HZ.out.1⟩, ⟨HDEC.out.1⟩, ⟨HHEX.out.1⟩, HRW, ⟨(by repeat (first | (with_reducible first | exact HB.out | apply below_alloc | apply pw_below_drewN | apply below_drew1) | exact HB.out))⟩⟩
  case round =>
  clear HB HRW
  obtain ⟨k, y, D9, D10, rfl, rfl, rfl, HY, HD9, HD10, HRW, HB⟩ := hrel
  by_cases hlt : y < z
  case pos => as_aux_lemma =>
    have d0 : decide (y < z) = true := decide_eq_true hlt
    obtain ⟨E9, hE9⟩ : ∃ E, (⟨#[48]⟩ : ByteArray) ++ D9 = E := ⟨_, rfl⟩
    obtain ⟨E10, hE10⟩ : ∃ E, (⟨#[48]⟩ : ByteArray) ++ D10 = E := ⟨_, rfl⟩
    have HE9 := Aside0.mk (show E9 = strOfNums ((List.replicate (k + 1) 0 ++ decs).map fun d => d + 48) by rw [← hE9, HD9.out, List.replicate_succ, List.cons_append, List.map_cons, show (⟨#[48]⟩ : ByteArray) = strOfNums [0 + 48] from rfl, strOf_appT]; rfl)
    have HE10 := Aside0.mk (show E10 = strOfNums ((List.replicate (k + 1) 0 ++ hexs).map hxM) by rw [← hE10, HD10.out, List.replicate_succ, List.cons_append, List.map_cons, show (⟨#[48]⟩ : ByteArray) = strOfNums [hxM 0] from rfl, strOf_appT]; rfl)
    have hs9 : D9.size ≤ 100 := by rw [HD9.out, strOfNums_size, List.length_map, List.length_append, List.length_replicate]; have := HDEC.out.2.2.2.2; have := HY.out; have := HZ.out; omega
    have hs10 : D10.size ≤ 100 := by rw [HD10.out, strOfNums_size, List.length_map, List.length_append, List.length_replicate]; have := HHEX.out.2.2.2.2; have := HY.out; have := HZ.out; omega
    have q1_ : (⟨#[48]⟩ : ByteArray).size + D9.size ≤ 9223372036854775807 := by have : (⟨#[48]⟩ : ByteArray).size = 1 := rfl; omega
    have q2_ : (⟨#[48]⟩ : ByteArray).size + D10.size ≤ 9223372036854775807 := by have : (⟨#[48]⟩ : ByteArray).size = 1 := rfl; omega
    have r1_ : 1 + D9.size ≤ 9223372036854775807 := by omega
    have r2_ : 1 + D10.size ≤ 9223372036854775807 := by omega
    have q1t := eq_true q1_
    have q2t := eq_true q2_
    have r1t := eq_true r1_
    have r2t := eq_true r2_
    have r1f := eq_false (Nat.not_lt.2 r1_)
    have r2f := eq_false (Nat.not_lt.2 r2_)
    have q1f := eq_false (Nat.not_lt.2 q1_)
    have q2f := eq_false (Nat.not_lt.2 q2_)
    have HW := Aside0.mk (show wrap64 (y + 1) = y + 1 from w64q (by have := HY.out; omega) (by have := HZ.out; omega))
    have HY2 := Aside0.mk (show y + 1 = ((k + 1 : Nat) : Int) ∧ y + 1 ≤ z ∧ 0 ≤ y ∧ y < ((30 : Nat) : Int) by have := HY.out; have := HZ.out; omega)
    clear hlt hs9 hs10 q1_ q2_ r1_ r2_
    go_wp2
    go_roundw
    case rel => exact ⟨k + 1, y + 1, E9, E10, by first | rfl | rw [hE9], by first | rfl | rw [hE10], by first | with_reducible rfl | rw [HW.out], ⟨HY2.out.1, HY2.out.2.1⟩, HE9, HE10, HRW, HB⟩
    case measure => exact measN _ y _ HY2.out.2.2.1 HY2.out.2.2.2 (by first | exact HW.out | rfl)
  case neg =>
  have d0 : decide (y < z) = false := decide_eq_false hlt
  clear hlt
  go_upto_region 27 with (fail)
  clear d0 hz
  go_cut [14] (fun v wc => v = .bool (goodN n) ∧ Aside0 (Kd.R (Kd.int .u8) 5 wc w.heap.size (fun _ => True) u7 fr) ∧ Aside0 (Below w.heap.size w wc))
  case first => as_aux_lemma =>
    by_cases g0 : n = 9
    · have b0 : (n == 9) = true := beq_iff_eq.mpr g0
      have E_ := Aside0.mk (show goodN n = true by unfold goodN; exact decide_eq_true (by omega))
      clear g0
      go_wp2
      go_meet
      case rel => exact ⟨by rw [E_.out], HRW, ⟨(by repeat (first | (with_reducible first | exact HB.out | apply below_alloc | apply pw_below_drewN | apply below_drew1) | exact HB.out))⟩⟩
    · have b0 : (n == 9) = false := beq_eq_false_iff_ne.mpr g0
      by_cases g1 : n = 10
      · have b1 : (n == 10) = true := beq_iff_eq.mpr g1
        have E_ := Aside0.mk (show goodN n = true by unfold goodN; exact decide_eq_true (by omega))
        clear g0 g1
        go_wp2
        go_meet
        case rel => exact ⟨by rw [E_.out], HRW, ⟨(by repeat (first | (with_reducible first | exact HB.out | apply below_alloc | apply pw_below_drewN | apply below_drew1) | exact HB.out))⟩⟩
      · have b1 : (n == 10) = false := beq_eq_false_iff_ne.mpr g1
        by_cases g2 : n = 13
        · have b2 : (n == 13) = true := beq_iff_eq.mpr g2
          have E_ := Aside0.mk (show goodN n = true by unfold goodN; exact decide_eq_true (by omega))
          clear g0 g1 g2
          go_wp2
          go_meet
          case rel => exact ⟨by rw [E_.out], HRW, ⟨(by repeat (first | (with_reducible first | exact HB.out | apply below_alloc | apply pw_below_drewN | apply below_drew1) | exact HB.out))⟩⟩
        · have b2 : (n == 13) = false := beq_eq_false_iff_ne.mpr g2
          by_cases g3 : 32 ≤ n
          · have b3 : decide (32 ≤ n) = true := decide_eq_true g3
            by_cases g4 : n < 55296
            · have b4 : decide (n < 55296) = true := decide_eq_true g4
              have E_ := Aside0.mk (show goodN n = true by unfold goodN; exact decide_eq_true (by omega))
              clear g0 g1 g2 g3 g4
              go_wp2
              go_meet
              case rel => exact ⟨by rw [E_.out], HRW, ⟨(by repeat (first | (with_reducible first | exact HB.out | apply below_alloc | apply pw_below_drewN | apply below_drew1) | exact HB.out))⟩⟩
            · have b4 : decide (n < 55296) = false := decide_eq_false g4
              by_cases g5 : 57343 < n
              · have b5 : decide (57343 < n) = true := decide_eq_true g5
                by_cases g6 : n < 65534
                · have b6 : decide (n < 65534) = true := decide_eq_true g6
                  have E_ := Aside0.mk (show goodN n = true by unfold goodN; exact decide_eq_true (by omega))
                  clear g0 g1 g2 g3 g4 g5 g6
                  go_wp2
                  go_meet
                  case rel => exact ⟨by rw [E_.out], HRW, ⟨(by repeat (first | (with_reducible first | exact HB.out | apply below_alloc | apply pw_below_drewN | apply below_drew1) | exact HB.out))⟩⟩
                · have b6 : decide (n < 65534) = false := decide_eq_false g6
                  by_cases g7 : 65535 < n
                  · have b7 : decide (65535 < n) = true := decide_eq_true g7
                    by_cases g8 : n < 1114112
                    · have b8 : decide (n < 1114112) = true := decide_eq_true g8
                      have E_ := Aside0.mk (show goodN n = true by unfold goodN; exact decide_eq_true (by omega))
                      clear g0 g1 g2 g3 g4 g5 g6 g7 g8
                      go_wp2
                      go_meet
                      case rel => exact ⟨by rw [E_.out], HRW, ⟨(by repeat (first | (with_reducible first | exact HB.out | apply below_alloc | apply pw_below_drewN | apply below_drew1) | exact HB.out))⟩⟩
                    · have b8 : decide (n < 1114112) = false := decide_eq_false g8
                      have E_ := Aside0.mk (show goodN n = false by unfold goodN; exact decide_eq_false (by omega))
                      clear g0 g1 g2 g3 g4 g5 g6 g7 g8
                      go_wp2
                      go_meet
                      case rel => exact ⟨by rw [E_.out], HRW, ⟨(by repeat (first | (with_reducible first | exact HB.out | apply below_alloc | apply pw_below_drewN | apply below_drew1) | exact HB.out))⟩⟩
                  · have b7 : decide (65535 < n) = false := decide_eq_false g7
                    have E_ := Aside0.mk (show goodN n = false by unfold goodN; exact decide_eq_false (by omega))
                    clear g0 g1 g2 g3 g4 g5 g6 g7
                    go_wp2
                    go_meet
                    case rel => exact ⟨by rw [E_.out], HRW, ⟨(by repeat (first | (with_reducible first | exact HB.out | apply below_alloc | apply pw_below_drewN | apply below_drew1) | exact HB.out))⟩⟩
              · have b5 : decide (57343 < n) = false := decide_eq_false g5
                by_cases g6 : 65535 < n
                · have b6 : decide (65535 < n) = true := decide_eq_true g6
                  by_cases g7 : n < 1114112
                  · have b7 : decide (n < 1114112) = true := decide_eq_true g7
                    have E_ := Aside0.mk (show goodN n = true by unfold goodN; exact decide_eq_true (by omega))
                    clear g0 g1 g2 g3 g4 g5 g6 g7
                    go_wp2
                    go_meet
                    case rel => exact ⟨by rw [E_.out], HRW, ⟨(by repeat (first | (with_reducible first | exact HB.out | apply below_alloc | apply pw_below_drewN | apply below_drew1) | exact HB.out))⟩⟩
                  · have b7 : decide (n < 1114112) = false := decide_eq_false g7
                    have E_ := Aside0.mk (show goodN n = false by unfold goodN; exact decide_eq_false (by omega))
                    clear g0 g1 g2 g3 g4 g5 g6 g7
                    go_wp2
                    go_meet
                    case rel => exact ⟨by rw [E_.out], HRW, ⟨(by repeat (first | (with_reducible first | exact HB.out | apply below_alloc | apply pw_below_drewN | apply below_drew1) | exact HB.out))⟩⟩
                · have b6 : decide (65535 < n) = false := decide_eq_false g6
                  have E_ := Aside0.mk (show goodN n = false by unfold goodN; exact decide_eq_false (by omega))
                  clear g0 g1 g2 g3 g4 g5 g6
                  go_wp2
                  go_meet
                  case rel => exact ⟨by rw [E_.out], HRW, ⟨(by repeat (first | (with_reducible first | exact HB.out | apply below_alloc | apply pw_below_drewN | apply below_drew1) | exact HB.out))⟩⟩
          · have b3 : decide (32 ≤ n) = false := decide_eq_false g3
            by_cases g4 : 57343 < n
            · have b4 : decide (57343 < n) = true := decide_eq_true g4
              by_cases g5 : n < 65534
              · have b5 : decide (n < 65534) = true := decide_eq_true g5
                have E_ := Aside0.mk (show goodN n = true by unfold goodN; exact decide_eq_true (by omega))
                clear g0 g1 g2 g3 g4 g5
                go_wp2
                go_meet
                case rel => exact ⟨by rw [E_.out], HRW, ⟨(by repeat (first | (with_reducible first | exact HB.out | apply below_alloc | apply pw_below_drewN | apply below_drew1) | exact HB.out))⟩⟩
              · have b5 : decide (n < 65534) = false := decide_eq_false g5
                by_cases g6 : 65535 < n
                · have b6 : decide (65535 < n) = true := decide_eq_true g6
                  by_cases g7 : n < 1114112
                  · have b7 : decide (n < 1114112) = true := decide_eq_true g7
                    have E_ := Aside0.mk (show goodN n = true by unfold goodN; exact decide_eq_true (by omega))
                    clear g0 g1 g2 g3 g4 g5 g6 g7
                    go_wp2
                    go_meet
                    case rel => exact ⟨by rw [E_.out], HRW, ⟨(by repeat (first | (with_reducible first | exact HB.out | apply below_alloc | apply pw_below_drewN | apply below_drew1) | exact HB.out))⟩⟩
                  · have b7 : decide (n < 1114112) = false := decide_eq_false g7
                    have E_ := Aside0.mk (show goodN n = false by unfold goodN; exact decide_eq_false (by omega))
                    clear g0 g1 g2 g3 g4 g5 g6 g7
                    go_wp2
                    go_meet
                    case rel => exact ⟨by rw [E_.out], HRW, ⟨(by repeat (first | (with_reducible first | exact HB.out | apply below_alloc | apply pw_below_drewN | apply below_drew1) | exact HB.out))⟩⟩
                · have b6 : decide (65535 < n) = false := decide_eq_false g6
                  have E_ := Aside0.mk (show goodN n = false by unfold goodN; exact decide_eq_false (by omega))
                  clear g0 g1 g2 g3 g4 g5 g6
                  go_wp2
                  go_meet
                  case rel => exact ⟨by rw [E_.out], HRW, ⟨(by repeat (first | (with_reducible first | exact HB.out | apply below_alloc | apply pw_below_drewN | apply below_drew1) | exact HB.out))⟩⟩
            · have b4 : decide (57343 < n) = false := decide_eq_false g4
              by_cases g5 : 65535 < n
              · have b5 : decide (65535 < n) = true := decide_eq_true g5
                by_cases g6 : n < 1114112
                · have b6 : decide (n < 1114112) = true := decide_eq_true g6
                  have E_ := Aside0.mk (show goodN n = true by unfold goodN; exact decide_eq_true (by omega))
                  clear g0 g1 g2 g3 g4 g5 g6
                  go_wp2
                  go_meet
                  case rel => exact ⟨by rw [E_.out], HRW, ⟨(by repeat (first | (with_reducible first | exact HB.out | apply below_alloc | apply pw_below_drewN | apply below_drew1) | exact HB.out))⟩⟩
                · have b6 : decide (n < 1114112) = false := decide_eq_false g6
                  have E_ := Aside0.mk (show goodN n = false by unfold goodN; exact decide_eq_false (by omega))
                  clear g0 g1 g2 g3 g4 g5 g6
                  go_wp2
                  go_meet
                  case rel => exact ⟨by rw [E_.out], HRW, ⟨(by repeat (first | (with_reducible first | exact HB.out | apply below_alloc | apply pw_below_drewN | apply below_drew1) | exact HB.out))⟩⟩
              · have b5 : decide (65535 < n) = false := decide_eq_false g5
                have E_ := Aside0.mk (show goodN n = false by unfold goodN; exact decide_eq_false (by omega))
                clear g0 g1 g2 g3 g4 g5
                go_wp2
                go_meet
                case rel => exact ⟨by rw [E_.out], HRW, ⟨(by repeat (first | (with_reducible first | exact HB.out | apply below_alloc | apply pw_below_drewN | apply below_drew1) | exact HB.out))⟩⟩
  obtain ⟨rfl, HRW', HB'⟩ := hcut
  clear HRW HB
  have HRW := HRW'
  have HB := HB'
  clear HRW' HB'
  have HFB := Aside0.mk (show (∀ x ∈ fr, 0 ≤ x ∧ x ≤ 255 ∧ x ≠ 38) ∧ fr.length ≤ 64 by rw [HFR.out]; exact front_rng l HR.out)
  have HKZ := Aside0.mk (show k ≤ 30 by have := HY.out; have := HZ.out; omega)
  have HS9 := Aside0.mk (show D9.size ≤ 100 by rw [HD9.out, strOfNums_size, List.length_map, List.length_append, List.length_replicate]; have := HDEC.out.2.2.2.2; have := HKZ.out; omega)
  have HS10 := Aside0.mk (show D10.size ≤ 100 by rw [HD10.out, strOfNums_size, List.length_map, List.length_append, List.length_replicate]; have := HHEX.out.2.2.2.2; have := HKZ.out; omega)
  have HT9 := Aside0.mk (fun W => uN_dec fr HFB.out.1 HFB.out.2 n HN.out.1 HN.out.2 decs HDEC.out.2.1 HDEC.out.2.2.1 HDEC.out.2.2.2.2 HDEC.out.2.2.2.1 k HKZ.out D9 HD9.out W)
  have HT10 := Aside0.mk (fun W => uN_hex fr HFB.out.1 HFB.out.2 n HN.out.1 HN.out.2 hexs HHEX.out.2.1 HHEX.out.2.2.1 HHEX.out.2.2.2.2 HHEX.out.2.2.2.1 k HKZ.out D10 HD10.out W)
  obtain ⟨FR, hFR⟩ : ∃ FR, FR = strOfNums fr := ⟨_, rfl⟩
  have HFS := Aside0.mk hFR
  have HFZ := Aside0.mk (show FR.size ≤ 64 by rw [hFR, strOfNums_size]; exact HFB.out.2)
  obtain ⟨fl, hfl⟩ : ∃ fl : Int, fl = (fr.length : Int) := ⟨_, rfl⟩
  have HFL := Aside0.mk hfl
  obtain ⟨EN, hEN⟩ : ∃ EN, EN = Utf8.encode n := ⟨_, rfl⟩
  have HEN := Aside0.mk hEN
  have HEZ := Aside0.mk (show EN.size ≤ 4 by rw [hEN]; exact enc_size n)
  obtain ⟨A9, hA9⟩ : ∃ X, (⟨#[38, 35]⟩ : ByteArray) ++ D9 = X := ⟨_, rfl⟩
  obtain ⟨A10, hA10⟩ : ∃ X, (⟨#[38, 35, 120]⟩ : ByteArray) ++ D10 = X := ⟨_, rfl⟩
  obtain ⟨B9, hB9⟩ : ∃ X, A9 ++ (⟨#[59]⟩ : ByteArray) = X := ⟨_, rfl⟩
  obtain ⟨B10, hB10⟩ : ∃ X, A10 ++ (⟨#[59]⟩ : ByteArray) = X := ⟨_, rfl⟩
  obtain ⟨C9, hC9⟩ : ∃ X, FR ++ B9 = X := ⟨_, rfl⟩
  obtain ⟨C10, hC10⟩ : ∃ X, FR ++ B10 = X := ⟨_, rfl⟩
  obtain ⟨S9, hS9⟩ : ∃ X, C9 ++ (⟨#[122, 38, 108, 116, 59]⟩ : ByteArray) = X := ⟨_, rfl⟩
  obtain ⟨S10, hS10⟩ : ∃ X, C10 ++ (⟨#[122, 38, 108, 116, 59]⟩ : ByteArray) = X := ⟨_, rfl⟩
  obtain ⟨Q, hQ⟩ : ∃ X, FR ++ EN = X := ⟨_, rfl⟩
  obtain ⟨RR, hRR⟩ : ∃ X, Q ++ (⟨#[122, 60]⟩ : ByteArray) = X := ⟨_, rfl⟩
  unfold uAns at HT9 HT10
  rw [← hFR, ← hEN, ← hfl, hA9, hB9, hC9, hS9, hQ, hRR] at HT9
  rw [← hFR, ← hEN, ← hfl, hA10, hB10, hC10, hS10, hQ, hRR] at HT10
  have sA9 : A9.size = 2 + D9.size := by rw [← hA9, ByteArray.size_append]; rfl
  have sA10 : A10.size = 3 + D10.size := by rw [← hA10, ByteArray.size_append]; rfl
  have sB9 : B9.size = A9.size + 1 := by rw [← hB9, ByteArray.size_append]; rfl
  have sB10 : B10.size = A10.size + 1 := by rw [← hB10, ByteArray.size_append]; rfl
  have sC9 : C9.size = FR.size + B9.size := by rw [← hC9, ByteArray.size_append]
  have sC10 : C10.size = FR.size + B10.size := by rw [← hC10, ByteArray.size_append]
  have sQ : Q.size = FR.size + EN.size := by rw [← hQ, ByteArray.size_append]
  have z9 := HS9.out
  have z10 := HS10.out
  have zF := HFZ.out
  have zE := HEZ.out
  have q0_ : 2 + D9.size ≤ 9223372036854775807 := by omega
  have q0t := eq_true q0_
  have q0f := eq_false (Nat.not_lt.2 q0_)
  have q1_ : 3 + D10.size ≤ 9223372036854775807 := by omega
  have q1t := eq_true q1_
  have q1f := eq_false (Nat.not_lt.2 q1_)
  have q2_ : A9.size + 1 ≤ 9223372036854775807 := by omega
  have q2t := eq_true q2_
  have q2f := eq_false (Nat.not_lt.2 q2_)
  have q3_ : A10.size + 1 ≤ 9223372036854775807 := by omega
  have q3t := eq_true q3_
  have q3f := eq_false (Nat.not_lt.2 q3_)
  have q4_ : FR.size + B9.size ≤ 9223372036854775807 := by omega
  have q4t := eq_true q4_
  have q4f := eq_false (Nat.not_lt.2 q4_)
  have q5_ : FR.size + B10.size ≤ 9223372036854775807 := by omega
  have q5t := eq_true q5_
  have q5f := eq_false (Nat.not_lt.2 q5_)
  have q6_ : C9.size + 5 ≤ 9223372036854775807 := by omega
  have q6t := eq_true q6_
  have q6f := eq_false (Nat.not_lt.2 q6_)
  have q7_ : C10.size + 5 ≤ 9223372036854775807 := by omega
  have q7t := eq_true q7_
  have q7f := eq_false (Nat.not_lt.2 q7_)
  have q8_ : FR.size + EN.size ≤ 9223372036854775807 := by omega
  have q8t := eq_true q8_
  have q8f := eq_false (Nat.not_lt.2 q8_)
  have q9_ : Q.size + 2 ≤ 9223372036854775807 := by omega
  have q9t := eq_true q9_
  have q9f := eq_false (Nat.not_lt.2 q9_)
  have HW32 : IntKind.i32.wrap n = n := by rw [IntKind.wrap_i32]; have := HN.out; omega
  have HI32 : n % 4294967296 = n := by have := HN.out; omega
  clear sA9 sA10 sB9 sB10 sC9 sC10 sQ z9 z10 zF zE q0_ q1_ q2_ q3_ q4_ q5_ q6_ q7_ q8_ q9_ hfl hFR hEN
  have hEN2 : Utf8.encode n = EN := HEN.out.symm
  cases hgood : goodN n with
  | true => as_aux_lemma =>
    rw [hgood] at HT9 HT10
    rw [if_pos rfl] at HT9 HT10
    clear hgood
    go_wp2
    go_loopw [15] (fun v wr => ∃ x : Int, v = .int .i64 x ∧ Aside0 (x = 0 ∨ x = 1 ∨ x = 2) ∧ Aside0 (Kd.R (Kd.int .u8) 5 wr w.heap.size (fun _ => True) u7 fr) ∧ Aside0 (Below w.heap.size w wr)) (fun v _ => 3 - (intOf v).toNat)
    case atStart => exact ⟨0, rfl, ⟨.inl rfl⟩, HRW, ⟨(by repeat (first | (with_reducible first | exact HB.out | apply below_alloc | apply pw_below_drewN | apply below_drew1) | exact HB.out))⟩⟩
    case round =>
    clear HB HRW
    obtain ⟨x, rfl, HX, HRW, HB⟩ := hrel
    rcases HX.out with rfl | rfl | rfl
    case inl => as_aux_lemma =>
      have hcv := own_string (P := Try.prog) Try.underlying23 Try.underlying5 Try.underlying9 (Kd.own_of_R HRW.out)
      have hcv0 := own_string (P := Try.prog) Try.underlying23 Try.underlying5 Try.underlying9 (Kd.own_of_R (Kd.R_drew HRW.out))
      have hcv1 := fun m => own_string (P := Try.prog) Try.underlying23 Try.underlying5 Try.underlying9 (Kd.own_of_R (Kd.R_drewN HRW.out m))
      rw [← HFS.out] at hcv hcv0
      simp only [← HFS.out] at hcv1
      go_wp2_with (first | (go_at_call 16; (with_reducible refine (HT9.out _).mono ?_); rintro e_ w16 ⟨rfl, hb_⟩; clear hcv hcv0 hcv1; have n0_ := Aside0.mk (below_step (by repeat (first | (with_reducible first | exact HB.out | apply below_alloc | apply pw_below_drewN | apply below_drew1) | exact HB.out)) hb_); have n1_ := Aside0.mk (Kd.R_below HRW.out hb_); clear HB HRW; have HB := n0_; have HRW := n1_; clear n0_ n1_ hb_; have hcv := own_string (P := Try.prog) Try.underlying23 Try.underlying5 Try.underlying9 (Kd.own_of_R HRW.out); have hcv0 := own_string (P := Try.prog) Try.underlying23 Try.underlying5 Try.underlying9 (Kd.own_of_R (Kd.R_drew HRW.out)); have hcv1 := fun m => own_string (P := Try.prog) Try.underlying23 Try.underlying5 Try.underlying9 (Kd.own_of_R (Kd.R_drewN HRW.out m)); rw [← HFS.out] at hcv hcv0; simp only [← HFS.out] at hcv1) | (go_at_call 15; (with_reducible refine (stencillaw02_num.calls 0 0 _ rfl).mono ?_); rintro e_ w15 ⟨rfl, ⟨m15, rfl⟩⟩))
      go_roundw
      case rel => exact ⟨1, by first | with_reducible rfl | (simp; done) | decide, ⟨.inr (.inl rfl)⟩, (by first | exact HRW | exact ⟨Kd.R_drewN HRW.out _⟩ | exact ⟨Kd.R_drew HRW.out⟩), ⟨(by repeat (first | (with_reducible first | exact HB.out | apply below_alloc | apply pw_below_drewN | apply below_drew1) | exact HB.out))⟩⟩
      case measure => first | decide | (simp [intOf]; done) | (simp [intOf, wrap64]; done)
    case inr.inl => as_aux_lemma =>
      have hcv := own_string (P := Try.prog) Try.underlying23 Try.underlying5 Try.underlying9 (Kd.own_of_R HRW.out)
      have hcv0 := own_string (P := Try.prog) Try.underlying23 Try.underlying5 Try.underlying9 (Kd.own_of_R (Kd.R_drew HRW.out))
      have hcv1 := fun m => own_string (P := Try.prog) Try.underlying23 Try.underlying5 Try.underlying9 (Kd.own_of_R (Kd.R_drewN HRW.out m))
      rw [← HFS.out] at hcv hcv0
      simp only [← HFS.out] at hcv1
      go_wp2_with (first | (go_at_call 16; (with_reducible refine (HT10.out _).mono ?_); rintro e_ w16 ⟨rfl, hb_⟩; clear hcv hcv0 hcv1; have n0_ := Aside0.mk (below_step (by repeat (first | (with_reducible first | exact HB.out | apply below_alloc | apply pw_below_drewN | apply below_drew1) | exact HB.out)) hb_); have n1_ := Aside0.mk (Kd.R_below HRW.out hb_); clear HB HRW; have HB := n0_; have HRW := n1_; clear n0_ n1_ hb_; have hcv := own_string (P := Try.prog) Try.underlying23 Try.underlying5 Try.underlying9 (Kd.own_of_R HRW.out); have hcv0 := own_string (P := Try.prog) Try.underlying23 Try.underlying5 Try.underlying9 (Kd.own_of_R (Kd.R_drew HRW.out)); have hcv1 := fun m => own_string (P := Try.prog) Try.underlying23 Try.underlying5 Try.underlying9 (Kd.own_of_R (Kd.R_drewN HRW.out m)); rw [← HFS.out] at hcv hcv0; simp only [← HFS.out] at hcv1) | (go_at_call 15; (with_reducible refine (stencillaw02_num.calls 0 0 _ rfl).mono ?_); rintro e_ w15 ⟨rfl, ⟨m15, rfl⟩⟩))
      go_roundw
      case rel => exact ⟨2, by first | with_reducible rfl | (simp; done) | decide, ⟨.inr (.inr rfl)⟩, (by first | exact HRW | exact ⟨Kd.R_drewN HRW.out _⟩ | exact ⟨Kd.R_drew HRW.out⟩), ⟨(by repeat (first | (with_reducible first | exact HB.out | apply below_alloc | apply pw_below_drewN | apply below_drew1) | exact HB.out))⟩⟩
      case measure => first | decide | (simp [intOf]; done) | (simp [intOf, wrap64]; done)
    case inr.inr =>
      go_wp2
      go_ret
      exact ⟨rfl, (by repeat (first | (with_reducible first | exact HB.out | apply below_alloc | apply pw_below_drewN | apply below_drew1) | exact HB.out))⟩
  | false => as_aux_lemma =>
    rw [hgood] at HT9 HT10
    rw [if_neg (by decide)] at HT9 HT10
    clear hgood
    obtain ⟨A7, c7, rfl⟩ := row_slice (Kd.own_of_R HRW.out)
    have hfl2 : (fr.length : Int) = fl := HFL.out.symm
    go_wp2
    go_loopw [15] (fun v wr => ∃ x : Int, v = .int .i64 x ∧ Aside0 (x = 0 ∨ x = 1 ∨ x = 2) ∧ Aside0 (Kd.R (Kd.int .u8) 5 wr w.heap.size (fun _ => True) (.slice A7 fr.length c7) fr) ∧ Aside0 (Below w.heap.size w wr)) (fun v _ => 3 - (intOf v).toNat)
    case atStart => exact ⟨0, rfl, ⟨.inl rfl⟩, HRW, ⟨(by repeat (first | (with_reducible first | exact HB.out | apply below_alloc | apply pw_below_drewN | apply below_drew1) | exact HB.out))⟩⟩
    case round =>
    clear HB HRW
    obtain ⟨x, rfl, HX, HRW, HB⟩ := hrel
    rcases HX.out with rfl | rfl | rfl
    case inl => as_aux_lemma =>
      have hcv := own_string (P := Try.prog) Try.underlying23 Try.underlying5 Try.underlying9 (Kd.own_of_R HRW.out)
      have hcv0 := own_string (P := Try.prog) Try.underlying23 Try.underlying5 Try.underlying9 (Kd.own_of_R (Kd.R_drew HRW.out))
      have hcv1 := fun m => own_string (P := Try.prog) Try.underlying23 Try.underlying5 Try.underlying9 (Kd.own_of_R (Kd.R_drewN HRW.out m))
      rw [← HFS.out] at hcv hcv0
      simp only [← HFS.out] at hcv1
      go_wp2_with (first | (go_at_call 16; (with_reducible refine (HT9.out _).mono ?_); rintro e_ w16 ⟨rfl, hb_⟩; clear hcv hcv0 hcv1; have n0_ := Aside0.mk (below_step (by repeat (first | (with_reducible first | exact HB.out | apply below_alloc | apply pw_below_drewN | apply below_drew1) | exact HB.out)) hb_); have n1_ := Aside0.mk (Kd.R_below HRW.out hb_); clear HB HRW; have HB := n0_; have HRW := n1_; clear n0_ n1_ hb_; have hcv := own_string (P := Try.prog) Try.underlying23 Try.underlying5 Try.underlying9 (Kd.own_of_R HRW.out); have hcv0 := own_string (P := Try.prog) Try.underlying23 Try.underlying5 Try.underlying9 (Kd.own_of_R (Kd.R_drew HRW.out)); have hcv1 := fun m => own_string (P := Try.prog) Try.underlying23 Try.underlying5 Try.underlying9 (Kd.own_of_R (Kd.R_drewN HRW.out m)); rw [← HFS.out] at hcv hcv0; simp only [← HFS.out] at hcv1) | (go_at_call 15; (with_reducible refine (stencillaw02_num.calls 22 22 _ rfl).mono ?_); rintro e_ w15 ⟨rfl, ⟨m15, rfl⟩⟩))
      go_roundw
      case rel => exact ⟨1, by first | with_reducible rfl | (simp; done) | decide, ⟨.inr (.inl rfl)⟩, (by first | exact HRW | exact ⟨Kd.R_drewN HRW.out _⟩ | exact ⟨Kd.R_drew HRW.out⟩), ⟨(by repeat (first | (with_reducible first | exact HB.out | apply below_alloc | apply pw_below_drewN | apply below_drew1) | exact HB.out))⟩⟩
      case measure => first | decide | (simp [intOf]; done) | (simp [intOf, wrap64]; done)
    case inr.inl => as_aux_lemma =>
      have hcv := own_string (P := Try.prog) Try.underlying23 Try.underlying5 Try.underlying9 (Kd.own_of_R HRW.out)
      have hcv0 := own_string (P := Try.prog) Try.underlying23 Try.underlying5 Try.underlying9 (Kd.own_of_R (Kd.R_drew HRW.out))
      have hcv1 := fun m => own_string (P := Try.prog) Try.underlying23 Try.underlying5 Try.underlying9 (Kd.own_of_R (Kd.R_drewN HRW.out m))
      rw [← HFS.out] at hcv hcv0
      simp only [← HFS.out] at hcv1
      go_wp2_with (first | (go_at_call 16; (with_reducible refine (HT10.out _).mono ?_); rintro e_ w16 ⟨rfl, hb_⟩; clear hcv hcv0 hcv1; have n0_ := Aside0.mk (below_step (by repeat (first | (with_reducible first | exact HB.out | apply below_alloc | apply pw_below_drewN | apply below_drew1) | exact HB.out)) hb_); have n1_ := Aside0.mk (Kd.R_below HRW.out hb_); clear HB HRW; have HB := n0_; have HRW := n1_; clear n0_ n1_ hb_; have hcv := own_string (P := Try.prog) Try.underlying23 Try.underlying5 Try.underlying9 (Kd.own_of_R HRW.out); have hcv0 := own_string (P := Try.prog) Try.underlying23 Try.underlying5 Try.underlying9 (Kd.own_of_R (Kd.R_drew HRW.out)); have hcv1 := fun m => own_string (P := Try.prog) Try.underlying23 Try.underlying5 Try.underlying9 (Kd.own_of_R (Kd.R_drewN HRW.out m)); rw [← HFS.out] at hcv hcv0; simp only [← HFS.out] at hcv1) | (go_at_call 15; (with_reducible refine (stencillaw02_num.calls 22 22 _ rfl).mono ?_); rintro e_ w15 ⟨rfl, ⟨m15, rfl⟩⟩))
      go_roundw
      case rel => exact ⟨2, by first | with_reducible rfl | (simp; done) | decide, ⟨.inr (.inr rfl)⟩, (by first | exact HRW | exact ⟨Kd.R_drewN HRW.out _⟩ | exact ⟨Kd.R_drew HRW.out⟩), ⟨(by repeat (first | (with_reducible first | exact HB.out | apply below_alloc | apply pw_below_drewN | apply below_drew1) | exact HB.out))⟩⟩
      case measure => first | decide | (simp [intOf]; done) | (simp [intOf, wrap64]; done)
    case inr.inr =>
      go_wp2
      go_ret
      exact ⟨rfl, (by repeat (first | (with_reducible first | exact HB.out | apply below_alloc | apply pw_below_drewN | apply below_drew1) | exact HB.out))⟩
theorem TextNumbers_pure (a0 a1 : Int) (a2 : ByteArray) (h0 : (Lit.int .i64 a0).wf = true) (h1 : (Lit.int .i64 a1).wf = true) (h2 : a2.size ≤ 140737488351232) : stencillaw02_TextNumbers.f a0 a1 a2 = some true := by
  unfold stencillaw02_TextNumbers.f
  rw [if_pos ⟨wf_64n h0, wf_64n h1, h2⟩]

end Go.Proofs.Ythgodajjaddgbaa.V
