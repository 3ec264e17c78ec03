/- The walk of TextThere (layer 2), by hand; written by gen_there.py. -/
import Derived.Test.YthgodajjaddgbaaVx0
import Derived.Test.YthgodajjaddgbaaVx1
import Derived.Test.YthgodajjaddgbaaHEscape
import Derived.Test.YthgodajjaddgbaaHUnescape
import Derived.IntWalk
import Derived.BigQuiet
namespace Go.Proofs.Ythgodajjaddgbaa.V
open Go.RowKit Go.Proofs.YthgodajjaddgbaaW.PrintWords Go.Proofs.YthgodajjaddgbaaW.PrintLast Go.Proofs.YthgodajjaddgbaaW.PrintMore
attribute [local go_sem] max2_int min2_int max_two min_two max_three min_three max_four min_four   -- for this text's walks alone
set_option linter.unusedVariables false
set_option linter.unusedSimpArgs false

def stencillaw02_TextThere.f (a0 : ByteArray) : Option Bool := if a0.size ≤ 1048576 then some true else none
theorem esc_none (a : Bool) (l : List Int) : ∀ x ∈ escL a l, x ≠ 60 ∧ x ≠ 62 ∧ x ≠ 13 ∧ (a = true → x ≠ 34 ∧ x ≠ 9 ∧ x ≠ 10) := by
  intro x hx
  unfold escL at hx
  obtain ⟨c, _, hx⟩ := List.mem_flatMap.1 hx
  unfold escI at hx
  repeat' (split at hx)
  all_goals
    simp only [List.mem_cons, List.not_mem_nil, or_false] at hx
  all_goals first | (rcases hx with rfl | rfl | rfl | rfl | rfl | rfl <;> refine ⟨by decide, by decide, by decide, fun _ => ⟨by decide, by decide, by decide⟩⟩) | (rcases hx with rfl | rfl | rfl | rfl | rfl <;> refine ⟨by decide, by decide, by decide, fun _ => ⟨by decide, by decide, by decide⟩⟩) | (rcases hx with rfl | rfl | rfl | rfl <;> refine ⟨by decide, by decide, by decide, fun _ => ⟨by decide, by decide, by decide⟩⟩) | (subst hx; refine ⟨by assumption, by assumption, by assumption, fun ha => ⟨fun e => ?_, fun e => ?_, fun e => ?_⟩⟩ <;> simp_all)
theorem s_byte (l : List Int) (S : ByteArray) (hS : S = strOfNums l) (hr : ∀ x ∈ l, 0 ≤ x ∧ x ≤ 255) (j : Nat) (hj : j < l.length) : ∃ c : Int, bt S (j : Int) = c ∧ c ∈ l ∧ l.take (j + 1) = l.take j ++ [c] := by
  refine ⟨l[j], ?_, List.getElem_mem hj, List.take_succ_eq_append_getElem hj⟩
  rw [hS]; exact bt_of l hr j _ (List.getElem?_eq_getElem hj)
set_option maxHeartbeats 8000000 in
set_option maxRecDepth 100000 in
theorem stencillaw02_TextThere.calls (a0 : ByteArray) (r : Bool) (w : World) (h : stencillaw02_TextThere.f a0 = some r) :
    Calls Try.prog 7 #[.string a0] w fun e w' => e = .returned (.bool r) ∧ Below w.heap.size w w' := by
  unfold stencillaw02_TextThere.f at h
  split at h
  case isFalse => cases h
  rename_i h1
  obtain rfl := Option.some.inj h
  clear h
  obtain ⟨l, hl⟩ : ∃ l, l = bytesT a0 := ⟨_, rfl⟩
  have HR := Aside0.mk (show ∀ x ∈ l, 0 ≤ x ∧ x ≤ 255 from hl ▸ bytesT_range a0)
  have HLN := Aside0.mk (show l.length = a0.size by rw [hl, bytesT_len])
  have HA := Aside0.mk (show a0 = strOfNums l by rw [hl, strOf_bytesT])
  have HL := Aside0.mk (show l.length ≤ 1048576 by rw [hl, bytesT_len]; exact h1)
  clear hl h1
  have HB := Aside0.mk (Below.refl w.heap.size w)
  go_enter Try.func7, Try.ntmps7
  go_wp2
  go_loopw [3] (fun v wr => ∃ x : Int, v = .int .i64 x ∧ Aside0 (x = 0 ∨ x = 1 ∨ x = 2) ∧ Aside0 (Below w.heap.size w wr)) (fun v _ => 3 - (intOf v).toNat)
  case atStart => exact ⟨0, rfl, ⟨.inl rfl⟩, ⟨(by repeat (first | (with_reducible first | exact HB.out | apply below_alloc | apply pw_below_drewN | apply below_drew1) | exact HB.out))⟩⟩
  case round =>
  clear HB
  obtain ⟨x, rfl, HX, HB⟩ := hrel
  rcases HX.out with rfl | rfl | rfl
  case inl => as_aux_lemma =>
    obtain ⟨S1, hS1⟩ : ∃ S, S = strOfNums (escL false l) := ⟨_, rfl⟩
    have HS1 := Aside0.mk hS1
    have HZ := Aside0.mk (show S1.size = (escL false l).length by rw [hS1, strOfNums_size])
    have HE := Aside0.mk (show (escL false l).length ≤ 10000000 by have := (escL_len false l).2; have := HL.out; omega)
    have T20 := Aside0.mk (fun W => text_Escape.calls W l a0 false HA.out HR.out (by have := HL.out; omega))
    have T23 := Aside0.mk (fun W => text_Unescape.calls W l S1 false hS1 HR.out (by have := HL.out; omega))
    rw [← hS1] at T20
    rw [← HA.out] at T23
    clear hS1
    go_wp2_with (first | (go_at_call 21; (with_reducible refine (T20.out _).mono ?_); rintro e_ w20 ⟨rfl, hb_⟩; have n0_ := Aside0.mk (below_step (by repeat (first | (with_reducible first | exact HB.out | apply below_alloc | apply pw_below_drewN | apply below_drew1) | exact HB.out)) hb_); clear HB; have HB := n0_; clear n0_ hb_) | (go_at_call 16; (with_reducible refine (T23.out _).mono ?_); rintro e_ w23 ⟨rfl, hb_⟩; have n0_ := Aside0.mk (below_step (by repeat (first | (with_reducible first | exact HB.out | apply below_alloc | apply pw_below_drewN | apply below_drew1) | exact HB.out)) hb_); clear HB; have HB := n0_; clear n0_ hb_) | (go_at_call 15; (with_reducible refine (stencillaw02_num.calls 0 0 _ rfl).mono ?_); rintro e_ w32 ⟨rfl, ⟨m32, rfl⟩⟩))
    clear T20 T23
    go_loopw [8, 9] (fun v8 v9 wr => ∃ (j : Nat) (n y : Int), v8 = .int .i64 n ∧ v9 = .int .i64 y ∧ Aside0 (y = (j : Int) ∧ j ≤ l.length ∧ n = ((escL false (l.take j)).length : Int)) ∧ Aside0 (Below w.heap.size w wr)) (fun _ v9 _ => a0.size + 1 - (intOf v9).toNat)
    case atStart => exact ⟨0, 0, 0, rfl, rfl, ⟨rfl, Nat.zero_le _, by simp [escL]⟩, ⟨(by repeat (first | (with_reducible first | exact HB.out | apply below_alloc | apply pw_below_drewN | apply below_drew1) | exact HB.out))⟩⟩
    case round =>
    clear HB
    obtain ⟨j, n, y, rfl, rfl, HY, HB⟩ := hrel
    by_cases hlt : j < l.length
    case pos => as_aux_lemma =>
      obtain ⟨c, hc, hm, htk⟩ := s_byte l a0 HA.out HR.out j hlt
      rw [← HY.out.1] at hc
      have hx := bt_at a0 y
      rw [hc] at hx
      have i0 := eq_true (show 0 ≤ y by have := HY.out; omega)
      have i1' : y < (a0.size : Int) := by have h1 := HY.out; have h2 := HLN.out; omega
      have i1 := eq_true i1'
      have i2 := decide_eq_true i1'
      have HW := Aside0.mk (show wrap64 (y + 1) = y + 1 from w64q (by have := HY.out; omega) (by have := HL.out; have := HLN.out; omega))
      have HTK := Aside0.mk (show escL false (l.take (j + 1)) = escL false (l.take j) ++ escI false c by rw [htk, escL_app]; simp [escL])
      have HN := Aside0.mk (show n = ((escL false (l.take j)).length : Int) ∧ 0 ≤ n ∧ n ≤ 6291456 by have h1 := HY.out; have h2 := (escL_len false (l.take j)).2; rw [List.length_take] at h2; have := HL.out; omega)
      have HY2 := Aside0.mk (show y + 1 = ((j + 1 : Nat) : Int) ∧ j + 1 ≤ l.length ∧ 0 ≤ y ∧ y < (a0.size : Int) by have := HY.out; omega)
      clear hc hm htk i1' hlt
      by_cases c38 : c = 38
      · have b38 : (c == 38) = true := beq_iff_eq.mpr c38
        have hd : (escI false c).length = 5 := by unfold escI; simp_all
        have w1 : wrap64 (n + 5) = n + 5 := w64q (by have := HN.out; omega) (by have := HN.out; omega)
        have HD := Aside0.mk (show n + 5 = ((escL false (l.take (j + 1))).length : Int) by rw [HTK.out, List.length_append, hd]; have := HN.out; omega)
        clear hd
        go_wp2
        go_roundw
        case rel => exact ⟨j + 1, n + 5, y + 1, by first | with_reducible rfl | rw [w1], by first | with_reducible rfl | rw [HW.out], ⟨HY2.out.1, HY2.out.2.1, HD.out⟩, HB⟩
        case measure => exact measE _ y _ HY2.out.2.2.1 HY2.out.2.2.2 (by first | exact HW.out | rfl)
      · have b38 : (c == 38) = false := beq_eq_false_iff_ne.mpr c38
        by_cases c13 : c = 13
        · have b13 : (c == 13) = true := beq_iff_eq.mpr c13
          have hd : (escI false c).length = 5 := by unfold escI; simp_all
          have w1 : wrap64 (n + 5) = n + 5 := w64q (by have := HN.out; omega) (by have := HN.out; omega)
          have HD := Aside0.mk (show n + 5 = ((escL false (l.take (j + 1))).length : Int) by rw [HTK.out, List.length_append, hd]; have := HN.out; omega)
          clear hd
          go_wp2
          go_roundw
          case rel => exact ⟨j + 1, n + 5, y + 1, by first | with_reducible rfl | rw [w1], by first | with_reducible rfl | rw [HW.out], ⟨HY2.out.1, HY2.out.2.1, HD.out⟩, HB⟩
          case measure => exact measE _ y _ HY2.out.2.2.1 HY2.out.2.2.2 (by first | exact HW.out | rfl)
        · have b13 : (c == 13) = false := beq_eq_false_iff_ne.mpr c13
          by_cases c60 : c = 60
          · have b60 : (c == 60) = true := beq_iff_eq.mpr c60
            have hd : (escI false c).length = 4 := by unfold escI; simp_all
            have w1 : wrap64 (n + 4) = n + 4 := w64q (by have := HN.out; omega) (by have := HN.out; omega)
            have HD := Aside0.mk (show n + 4 = ((escL false (l.take (j + 1))).length : Int) by rw [HTK.out, List.length_append, hd]; have := HN.out; omega)
            clear hd
            go_wp2
            go_roundw
            case rel => exact ⟨j + 1, n + 4, y + 1, by first | with_reducible rfl | rw [w1], by first | with_reducible rfl | rw [HW.out], ⟨HY2.out.1, HY2.out.2.1, HD.out⟩, HB⟩
            case measure => exact measE _ y _ HY2.out.2.2.1 HY2.out.2.2.2 (by first | exact HW.out | rfl)
          · have b60 : (c == 60) = false := beq_eq_false_iff_ne.mpr c60
            by_cases c62 : c = 62
            · have b62 : (c == 62) = true := beq_iff_eq.mpr c62
              have hd : (escI false c).length = 4 := by unfold escI; simp_all
              have w1 : wrap64 (n + 4) = n + 4 := w64q (by have := HN.out; omega) (by have := HN.out; omega)
              have HD := Aside0.mk (show n + 4 = ((escL false (l.take (j + 1))).length : Int) by rw [HTK.out, List.length_append, hd]; have := HN.out; omega)
              clear hd
              go_wp2
              go_roundw
              case rel => exact ⟨j + 1, n + 4, y + 1, by first | with_reducible rfl | rw [w1], by first | with_reducible rfl | rw [HW.out], ⟨HY2.out.1, HY2.out.2.1, HD.out⟩, HB⟩
              case measure => exact measE _ y _ HY2.out.2.2.1 HY2.out.2.2.2 (by first | exact HW.out | rfl)
            · have b62 : (c == 62) = false := beq_eq_false_iff_ne.mpr c62
              have hd : (escI false c).length = 1 := by unfold escI; simp_all
              have w1 : wrap64 (n + 1) = n + 1 := w64q (by have := HN.out; omega) (by have := HN.out; omega)
              have HD := Aside0.mk (show n + 1 = ((escL false (l.take (j + 1))).length : Int) by rw [HTK.out, List.length_append, hd]; have := HN.out; omega)
              clear hd
              go_wp2
              go_roundw
              case rel => exact ⟨j + 1, n + 1, y + 1, by first | with_reducible rfl | rw [w1], by first | with_reducible rfl | rw [HW.out], ⟨HY2.out.1, HY2.out.2.1, HD.out⟩, HB⟩
              case measure => exact measE _ y _ HY2.out.2.2.1 HY2.out.2.2.2 (by first | exact HW.out | rfl)
    case neg =>
    obtain rfl : j = l.length := by have := HY.out; omega
    rw [List.take_length] at HY
    have i2 : decide (y < (a0.size : Int)) = false := decide_eq_false (by have h1 := HY.out; have h2 := HLN.out; omega)
    have HN := Aside0.mk (show (S1.size : Int) = n by rw [HZ.out]; exact HY.out.2.2.symm)
    clear hlt
    go_wp2
    clear i2
    go_loopw [11] (fun v wr => ∃ (i : Nat) (z : Int), v = .int .i64 z ∧ Aside0 (z = (i : Int) ∧ i ≤ (escL false l).length) ∧ Aside0 (Below w.heap.size w wr)) (fun v _ => S1.size + 1 - (intOf v).toNat)
    case atStart => exact ⟨0, 0, rfl, ⟨rfl, Nat.zero_le _⟩, ⟨(by repeat (first | (with_reducible first | exact HB.out | apply below_alloc | apply pw_below_drewN | apply below_drew1) | exact HB.out))⟩⟩
    case round =>
    clear HB
    obtain ⟨i, z, rfl, HI, HB⟩ := hrel
    by_cases hlt : i < (escL false l).length
    case pos => as_aux_lemma =>
      obtain ⟨c, hc, hm, _⟩ := s_byte (escL false l) S1 HS1.out (escL_range false l HR.out) i hlt
      rw [← HI.out.1] at hc
      obtain ⟨n1, n2, n3, n4⟩ := esc_none false l c hm
      have hx := bt_at S1 z
      rw [hc] at hx
      have i0 := eq_true (show 0 ≤ z by have := HI.out; omega)
      have i1' : z < (S1.size : Int) := by have h1 := HI.out; have h2 := HZ.out; omega
      have i1 := eq_true i1'
      have i2 := decide_eq_true i1'
      have b60 : (c == 60) = false := beq_eq_false_iff_ne.mpr n1
      have b62 : (c == 62) = false := beq_eq_false_iff_ne.mpr n2
      have b13 : (c == 13) = false := beq_eq_false_iff_ne.mpr n3
      have HW := Aside0.mk (show wrap64 (z + 1) = z + 1 from w64q (by have := HI.out; omega) (by have := HI.out; have := HE.out; omega))
      have HY2 := Aside0.mk (show z + 1 = ((i + 1 : Nat) : Int) ∧ i + 1 ≤ (escL false l).length ∧ 0 ≤ z ∧ z < (S1.size : Int) by have := HI.out; omega)
      clear hc hm n1 n2 n3 n4 i1' hlt
      go_wp2
      go_roundw
      case rel => exact ⟨i + 1, z + 1, by first | with_reducible rfl | rw [HW.out], ⟨HY2.out.1, HY2.out.2.1⟩, HB⟩
      case measure => exact measE _ z _ HY2.out.2.2.1 HY2.out.2.2.2 (by first | exact HW.out | rfl)
    case neg =>
    have i2 : decide (z < (S1.size : Int)) = false := decide_eq_false (by have h1 := HI.out; have h2 := HZ.out; omega)
    have bn : ((S1.size : Int) != n) = false := bne_eq_false_iff_eq.mpr HN.out
    clear hlt
    go_wp2
    go_roundw
    case rel => exact ⟨1, by first | with_reducible rfl | (simp; done) | decide, ⟨.inr (.inl rfl)⟩, HB⟩
    case measure => first | decide | (simp [intOf]; done) | (simp [intOf, wrap64]; done)
  case inr.inl => as_aux_lemma =>
    obtain ⟨S1, hS1⟩ : ∃ S, S = strOfNums (escL true l) := ⟨_, rfl⟩
    have HS1 := Aside0.mk hS1
    have HZ := Aside0.mk (show S1.size = (escL true l).length by rw [hS1, strOfNums_size])
    have HE := Aside0.mk (show (escL true l).length ≤ 10000000 by have := (escL_len true l).2; have := HL.out; omega)
    have T20 := Aside0.mk (fun W => text_Escape.calls W l a0 true HA.out HR.out (by have := HL.out; omega))
    have T23 := Aside0.mk (fun W => text_Unescape.calls W l S1 true hS1 HR.out (by have := HL.out; omega))
    rw [← hS1] at T20
    rw [← HA.out] at T23
    clear hS1
    go_wp2_with (first | (go_at_call 21; (with_reducible refine (T20.out _).mono ?_); rintro e_ w20 ⟨rfl, hb_⟩; have n0_ := Aside0.mk (below_step (by repeat (first | (with_reducible first | exact HB.out | apply below_alloc | apply pw_below_drewN | apply below_drew1) | exact HB.out)) hb_); clear HB; have HB := n0_; clear n0_ hb_) | (go_at_call 16; (with_reducible refine (T23.out _).mono ?_); rintro e_ w23 ⟨rfl, hb_⟩; have n0_ := Aside0.mk (below_step (by repeat (first | (with_reducible first | exact HB.out | apply below_alloc | apply pw_below_drewN | apply below_drew1) | exact HB.out)) hb_); clear HB; have HB := n0_; clear n0_ hb_) | (go_at_call 15; (with_reducible refine (stencillaw02_num.calls 0 0 _ rfl).mono ?_); rintro e_ w32 ⟨rfl, ⟨m32, rfl⟩⟩))
    clear T20 T23
    go_loopw [8, 9] (fun v8 v9 wr => ∃ (j : Nat) (n y : Int), v8 = .int .i64 n ∧ v9 = .int .i64 y ∧ Aside0 (y = (j : Int) ∧ j ≤ l.length ∧ n = ((escL true (l.take j)).length : Int)) ∧ Aside0 (Below w.heap.size w wr)) (fun _ v9 _ => a0.size + 1 - (intOf v9).toNat)
    case atStart => exact ⟨0, 0, 0, rfl, rfl, ⟨rfl, Nat.zero_le _, by simp [escL]⟩, ⟨(by repeat (first | (with_reducible first | exact HB.out | apply below_alloc | apply pw_below_drewN | apply below_drew1) | exact HB.out))⟩⟩
    case round =>
    clear HB
    obtain ⟨j, n, y, rfl, rfl, HY, HB⟩ := hrel
    by_cases hlt : j < l.length
    case pos => as_aux_lemma =>
      obtain ⟨c, hc, hm, htk⟩ := s_byte l a0 HA.out HR.out j hlt
      rw [← HY.out.1] at hc
      have hx := bt_at a0 y
      rw [hc] at hx
      have i0 := eq_true (show 0 ≤ y by have := HY.out; omega)
      have i1' : y < (a0.size : Int) := by have h1 := HY.out; have h2 := HLN.out; omega
      have i1 := eq_true i1'
      have i2 := decide_eq_true i1'
      have HW := Aside0.mk (show wrap64 (y + 1) = y + 1 from w64q (by have := HY.out; omega) (by have := HL.out; have := HLN.out; omega))
      have HTK := Aside0.mk (show escL true (l.take (j + 1)) = escL true (l.take j) ++ escI true c by rw [htk, escL_app]; simp [escL])
      have HN := Aside0.mk (show n = ((escL true (l.take j)).length : Int) ∧ 0 ≤ n ∧ n ≤ 6291456 by have h1 := HY.out; have h2 := (escL_len true (l.take j)).2; rw [List.length_take] at h2; have := HL.out; omega)
      have HY2 := Aside0.mk (show y + 1 = ((j + 1 : Nat) : Int) ∧ j + 1 ≤ l.length ∧ 0 ≤ y ∧ y < (a0.size : Int) by have := HY.out; omega)
      clear hc hm htk i1' hlt
      by_cases c38 : c = 38
      · have b38 : (c == 38) = true := beq_iff_eq.mpr c38
        have hd : (escI true c).length = 5 := by unfold escI; simp_all
        have w1 : wrap64 (n + 5) = n + 5 := w64q (by have := HN.out; omega) (by have := HN.out; omega)
        have HD := Aside0.mk (show n + 5 = ((escL true (l.take (j + 1))).length : Int) by rw [HTK.out, List.length_append, hd]; have := HN.out; omega)
        clear hd
        go_wp2
        go_roundw
        case rel => exact ⟨j + 1, n + 5, y + 1, by first | with_reducible rfl | rw [w1], by first | with_reducible rfl | rw [HW.out], ⟨HY2.out.1, HY2.out.2.1, HD.out⟩, HB⟩
        case measure => exact measE _ y _ HY2.out.2.2.1 HY2.out.2.2.2 (by first | exact HW.out | rfl)
      · have b38 : (c == 38) = false := beq_eq_false_iff_ne.mpr c38
        by_cases c13 : c = 13
        · have b13 : (c == 13) = true := beq_iff_eq.mpr c13
          have hd : (escI true c).length = 5 := by unfold escI; simp_all
          have w1 : wrap64 (n + 5) = n + 5 := w64q (by have := HN.out; omega) (by have := HN.out; omega)
          have HD := Aside0.mk (show n + 5 = ((escL true (l.take (j + 1))).length : Int) by rw [HTK.out, List.length_append, hd]; have := HN.out; omega)
          clear hd
          go_wp2
          go_roundw
          case rel => exact ⟨j + 1, n + 5, y + 1, by first | with_reducible rfl | rw [w1], by first | with_reducible rfl | rw [HW.out], ⟨HY2.out.1, HY2.out.2.1, HD.out⟩, HB⟩
          case measure => exact measE _ y _ HY2.out.2.2.1 HY2.out.2.2.2 (by first | exact HW.out | rfl)
        · have b13 : (c == 13) = false := beq_eq_false_iff_ne.mpr c13
          by_cases c60 : c = 60
          · have b60 : (c == 60) = true := beq_iff_eq.mpr c60
            have hd : (escI true c).length = 4 := by unfold escI; simp_all
            have w1 : wrap64 (n + 4) = n + 4 := w64q (by have := HN.out; omega) (by have := HN.out; omega)
            have HD := Aside0.mk (show n + 4 = ((escL true (l.take (j + 1))).length : Int) by rw [HTK.out, List.length_append, hd]; have := HN.out; omega)
            clear hd
            go_wp2
            go_roundw
            case rel => exact ⟨j + 1, n + 4, y + 1, by first | with_reducible rfl | rw [w1], by first | with_reducible rfl | rw [HW.out], ⟨HY2.out.1, HY2.out.2.1, HD.out⟩, HB⟩
            case measure => exact measE _ y _ HY2.out.2.2.1 HY2.out.2.2.2 (by first | exact HW.out | rfl)
          · have b60 : (c == 60) = false := beq_eq_false_iff_ne.mpr c60
            by_cases c62 : c = 62
            · have b62 : (c == 62) = true := beq_iff_eq.mpr c62
              have hd : (escI true c).length = 4 := by unfold escI; simp_all
              have w1 : wrap64 (n + 4) = n + 4 := w64q (by have := HN.out; omega) (by have := HN.out; omega)
              have HD := Aside0.mk (show n + 4 = ((escL true (l.take (j + 1))).length : Int) by rw [HTK.out, List.length_append, hd]; have := HN.out; omega)
              clear hd
              go_wp2
              go_roundw
              case rel => exact ⟨j + 1, n + 4, y + 1, by first | with_reducible rfl | rw [w1], by first | with_reducible rfl | rw [HW.out], ⟨HY2.out.1, HY2.out.2.1, HD.out⟩, HB⟩
              case measure => exact measE _ y _ HY2.out.2.2.1 HY2.out.2.2.2 (by first | exact HW.out | rfl)
            · have b62 : (c == 62) = false := beq_eq_false_iff_ne.mpr c62
              by_cases c34 : c = 34
              · have b34 : (c == 34) = true := beq_iff_eq.mpr c34
                have hd : (escI true c).length = 6 := by unfold escI; simp_all
                have w1 : wrap64 (n + 6) = n + 6 := w64q (by have := HN.out; omega) (by have := HN.out; omega)
                have HD := Aside0.mk (show n + 6 = ((escL true (l.take (j + 1))).length : Int) by rw [HTK.out, List.length_append, hd]; have := HN.out; omega)
                clear hd
                go_wp2
                go_roundw
                case rel => exact ⟨j + 1, n + 6, y + 1, by first | with_reducible rfl | rw [w1], by first | with_reducible rfl | rw [HW.out], ⟨HY2.out.1, HY2.out.2.1, HD.out⟩, HB⟩
                case measure => exact measE _ y _ HY2.out.2.2.1 HY2.out.2.2.2 (by first | exact HW.out | rfl)
              · have b34 : (c == 34) = false := beq_eq_false_iff_ne.mpr c34
                by_cases c9 : c = 9
                · have b9 : (c == 9) = true := beq_iff_eq.mpr c9
                  have hd : (escI true c).length = 4 := by unfold escI; simp_all
                  have w1 : wrap64 (n + 4) = n + 4 := w64q (by have := HN.out; omega) (by have := HN.out; omega)
                  have HD := Aside0.mk (show n + 4 = ((escL true (l.take (j + 1))).length : Int) by rw [HTK.out, List.length_append, hd]; have := HN.out; omega)
                  clear hd
                  go_wp2
                  go_roundw
                  case rel => exact ⟨j + 1, n + 4, y + 1, by first | with_reducible rfl | rw [w1], by first | with_reducible rfl | rw [HW.out], ⟨HY2.out.1, HY2.out.2.1, HD.out⟩, HB⟩
                  case measure => exact measE _ y _ HY2.out.2.2.1 HY2.out.2.2.2 (by first | exact HW.out | rfl)
                · have b9 : (c == 9) = false := beq_eq_false_iff_ne.mpr c9
                  by_cases c10 : c = 10
                  · have b10 : (c == 10) = true := beq_iff_eq.mpr c10
                    have hd : (escI true c).length = 5 := by unfold escI; simp_all
                    have w1 : wrap64 (n + 5) = n + 5 := w64q (by have := HN.out; omega) (by have := HN.out; omega)
                    have HD := Aside0.mk (show n + 5 = ((escL true (l.take (j + 1))).length : Int) by rw [HTK.out, List.length_append, hd]; have := HN.out; omega)
                    clear hd
                    go_wp2
                    go_roundw
                    case rel => exact ⟨j + 1, n + 5, y + 1, by first | with_reducible rfl | rw [w1], by first | with_reducible rfl | rw [HW.out], ⟨HY2.out.1, HY2.out.2.1, HD.out⟩, HB⟩
                    case measure => exact measE _ y _ HY2.out.2.2.1 HY2.out.2.2.2 (by first | exact HW.out | rfl)
                  · have b10 : (c == 10) = false := beq_eq_false_iff_ne.mpr c10
                    have hd : (escI true c).length = 1 := by unfold escI; simp_all
                    have w1 : wrap64 (n + 1) = n + 1 := w64q (by have := HN.out; omega) (by have := HN.out; omega)
                    have HD := Aside0.mk (show n + 1 = ((escL true (l.take (j + 1))).length : Int) by rw [HTK.out, List.length_append, hd]; have := HN.out; omega)
                    clear hd
                    go_wp2
                    go_roundw
                    case rel => exact ⟨j + 1, n + 1, y + 1, by first | with_reducible rfl | rw [w1], by first | with_reducible rfl | rw [HW.out], ⟨HY2.out.1, HY2.out.2.1, HD.out⟩, HB⟩
                    case measure => exact measE _ y _ HY2.out.2.2.1 HY2.out.2.2.2 (by first | exact HW.out | rfl)
    case neg =>
    obtain rfl : j = l.length := by have := HY.out; omega
    rw [List.take_length] at HY
    have i2 : decide (y < (a0.size : Int)) = false := decide_eq_false (by have h1 := HY.out; have h2 := HLN.out; omega)
    have HN := Aside0.mk (show (S1.size : Int) = n by rw [HZ.out]; exact HY.out.2.2.symm)
    clear hlt
    go_wp2
    clear i2
    go_loopw [11] (fun v wr => ∃ (i : Nat) (z : Int), v = .int .i64 z ∧ Aside0 (z = (i : Int) ∧ i ≤ (escL true l).length) ∧ Aside0 (Below w.heap.size w wr)) (fun v _ => S1.size + 1 - (intOf v).toNat)
    case atStart => exact ⟨0, 0, rfl, ⟨rfl, Nat.zero_le _⟩, ⟨(by repeat (first | (with_reducible first | exact HB.out | apply below_alloc | apply pw_below_drewN | apply below_drew1) | exact HB.out))⟩⟩
    case round =>
    clear HB
    obtain ⟨i, z, rfl, HI, HB⟩ := hrel
    by_cases hlt : i < (escL true l).length
    case pos => as_aux_lemma =>
      obtain ⟨c, hc, hm, _⟩ := s_byte (escL true l) S1 HS1.out (escL_range true l HR.out) i hlt
      rw [← HI.out.1] at hc
      obtain ⟨n1, n2, n3, n4⟩ := esc_none true l c hm
      have hx := bt_at S1 z
      rw [hc] at hx
      have i0 := eq_true (show 0 ≤ z by have := HI.out; omega)
      have i1' : z < (S1.size : Int) := by have h1 := HI.out; have h2 := HZ.out; omega
      have i1 := eq_true i1'
      have i2 := decide_eq_true i1'
      have b60 : (c == 60) = false := beq_eq_false_iff_ne.mpr n1
      have b62 : (c == 62) = false := beq_eq_false_iff_ne.mpr n2
      have b13 : (c == 13) = false := beq_eq_false_iff_ne.mpr n3
      have b34 : (c == 34) = false := beq_eq_false_iff_ne.mpr (n4 rfl).1
      have b9 : (c == 9) = false := beq_eq_false_iff_ne.mpr (n4 rfl).2.1
      have b10 : (c == 10) = false := beq_eq_false_iff_ne.mpr (n4 rfl).2.2
      have HW := Aside0.mk (show wrap64 (z + 1) = z + 1 from w64q (by have := HI.out; omega) (by have := HI.out; have := HE.out; omega))
      have HY2 := Aside0.mk (show z + 1 = ((i + 1 : Nat) : Int) ∧ i + 1 ≤ (escL true l).length ∧ 0 ≤ z ∧ z < (S1.size : Int) by have := HI.out; omega)
      clear hc hm n1 n2 n3 n4 i1' hlt
      go_wp2
      go_roundw
      case rel => exact ⟨i + 1, z + 1, by first | with_reducible rfl | rw [HW.out], ⟨HY2.out.1, HY2.out.2.1⟩, HB⟩
      case measure => exact measE _ z _ HY2.out.2.2.1 HY2.out.2.2.2 (by first | exact HW.out | rfl)
    case neg =>
    have i2 : decide (z < (S1.size : Int)) = false := decide_eq_false (by have h1 := HI.out; have h2 := HZ.out; omega)
    have bn : ((S1.size : Int) != n) = false := bne_eq_false_iff_eq.mpr HN.out
    clear hlt
    go_wp2
    go_roundw
    case rel => exact ⟨2, by first | with_reducible rfl | (simp; done) | decide, ⟨.inr (.inr rfl)⟩, HB⟩
    case measure => first | decide | (simp [intOf]; done) | (simp [intOf, wrap64]; done)
  case inr.inr =>
    go_wp2
    go_ret
    exact ⟨rfl, (by repeat (first | (with_reducible first | exact HB.out | apply below_alloc | apply pw_below_drewN | apply below_drew1) | exact HB.out))⟩
theorem TextThere_pure (a0 : ByteArray) (h0 : a0.size ≤ 1048576) : stencillaw02_TextThere.f a0 = some true := by
  unfold stencillaw02_TextThere.f
  rw [if_pos h0]

end Go.Proofs.Ythgodajjaddgbaa.V
