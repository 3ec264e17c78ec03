/- The walk of TextQuoted (layer 2), by hand; written by gen_quoted.py. -/
import Derived.Test.YthgodajjaddgbaaTx0
import Derived.Test.YthgodajjaddgbaaTx1
import Derived.Test.YthgodajjaddgbaaTx2
import Derived.Test.YthgodajjaddgbaaHPureQuoted
import Derived.IntWalk
import Derived.BigQuiet
namespace Go.Proofs.Ythgodajjaddgbaa.T
open Go.RowKit Go.Proofs.YthgodajjaddgbaaW.PrintWords Go.Proofs.YthgodajjaddgbaaW.PrintLast Go.Proofs.YthgodajjaddgbaaW.PrintMore
attribute [local go_sem] max2_int min2_int max_two min_two max_three min_three max_four min_four   -- for this text's walks alone
set_option linter.unusedVariables false
set_option linter.unusedSimpArgs false

def stencillaw02_TextQuoted.f (a0 a1 : ByteArray) (a2 : Int) : Option Bool := if a0.size ≤ 1048576 ∧ a1.size ≤ 1048576 ∧ (-9223372036854775808 ≤ a2 ∧ a2 ≤ 9223372036854775807) then some true else none
theorem text_Unquote.empty (w : World) (S : ByteArray) (hS : S.size = 0) : Calls Try.prog 18 #[.string S] w fun e w' => e = .returned (.tuple #[.string ByteArray.empty, .int .i64 0, .int .i64 23]) ∧ Below w.heap.size w w' := by
  have b1_ : (S.toList == ([] : List UInt8)) = true := beq_iff_eq.mpr (by rw [ByteArray.toList_eq]; exact List.eq_nil_of_length_eq_zero (by simpa using hS))
  have HB := Aside0.mk (Below.refl w.heap.size w)
  clear hS
  go_enter Try.func18, Try.ntmps18
  go_wp2
  go_ret3
  exact ⟨rfl, (by repeat (first | (with_reducible first | exact HB.out | apply below_alloc | apply pw_below_drewN | apply below_drew1) | exact HB.out))⟩
/-- The quoted text and all that is asked of it. -/
theorem q_facts (a0 a1 : ByteArray) (h0 : a0.size ≤ 1048576) (h1 : a1.size ≤ 1048576) :
    ∃ (l : List Int) (q S1 : ByteArray) (z kq : Nat) (y : Int), (∀ x ∈ l, 0 ≤ x ∧ x ≤ 255) ∧ l.length = a0.size ∧ a0 = strOfNums l ∧ q = strOfNums (quoteL l) ∧ q.size = z ∧ z = (quoteL l).length ∧ z ≤ 4194306 ∧ text_Quote.f kq a0 = some q ∧ q ++ a1 = S1 ∧ wrap64 ((a0.size : Int) + 2) = y ∧ decide ((z : Int) < y) = false ∧ q.size + a1.size ≤ 9223372036854775807 ∧ (∀ W : World, Calls Try.prog 18 #[.string S1] W fun e w' => e = .returned (.tuple #[.string a0, .int .i64 (z : Int), .int .i64 0]) ∧ Below W.heap.size W w') := by
  obtain ⟨l, hl⟩ : ∃ l, l = bytesT a0 := ⟨_, rfl⟩
  have hr : ∀ x ∈ l, 0 ≤ x ∧ x ≤ 255 := hl ▸ bytesT_range a0
  have hn : l.length = a0.size := by rw [hl, bytesT_len]
  have ha : a0 = strOfNums l := by rw [hl, strOf_bytesT]
  obtain ⟨kq, hq⟩ := quote_some l hr (by omega)
  have hb := bodyQ_len l
  have hz : (quoteL l).length = (bodyQ l).length + 2 := by unfold quoteL; simp
  have hzz : (strOfNums (quoteL l)).size = (quoteL l).length := strOfNums_size _
  have hS1 : strOfNums (quoteL l) ++ a1 = strOfNums (34 :: (bodyQ l ++ 34 :: bytesT a1)) := by
    conv => lhs; rw [← strOf_bytesT a1]
    rw [strOf_appT]; unfold quoteL; simp
  have hbr := bodyQ_range l hr
  have hbt := bytesT_range a1
  refine ⟨l, _, _, _, kq, (a0.size : Int) + 2, hr, hn, ha, rfl, hzz, rfl, by omega, by rw [ha]; exact hq, rfl, w64q (by omega) (by omega), decide_eq_false (by omega), by omega, fun W => ?_⟩
  have := text_Unquote.whole W (strOfNums (quoteL l) ++ a1) l (34 :: bytesT a1) hS1 hr (fun x hx => by
    rcases List.mem_cons.1 hx with rfl | hx
    · omega
    · rcases List.mem_append.1 hx with hx | hx
      · have := hbr x hx; omega
      · rcases List.mem_cons.1 hx with rfl | hx
        · omega
        · exact hbt x hx) (by rw [ByteArray.size_append]; omega) (by omega) (bytesT a1) rfl
  rwa [← ha, ← hz] at this
theorem cut_facts (l : List Int) (q : ByteArray) (z : Nat) (hr : ∀ x ∈ l, 0 ≤ x ∧ x ≤ 255) (hl : l.length ≤ 1048576) (hq : q = strOfNums (quoteL l)) (hz : z = (quoteL l).length) (hz2 : z ≤ 4194306) (c : Int) (h0 : 0 ≤ c) (h1 : c < (z : Int)) :
    ∃ X, q.extract 0 c.toNat = X ∧ ∀ W : World, Calls Try.prog 18 #[.string X] W fun e w' => e = .returned (.tuple #[.string ByteArray.empty, .int .i64 c, .int .i64 23]) ∧ Below W.heap.size W w' := by
  obtain ⟨n, rfl⟩ := Int.eq_ofNat_of_zero_le h0
  rw [Int.toNat_natCast]
  have hx : q.extract 0 n = strOfNums ((quoteL l).take n) := by rw [hq, strOf_cutT, List.drop_zero, Nat.sub_zero]
  have hs : (strOfNums ((quoteL l).take n)).size = n := by rw [strOfNums_size, List.length_take]; omega
  refine ⟨_, hx, fun W => ?_⟩
  by_cases c0 : n = 0
  · subst c0
    exact text_Unquote.empty W _ hs
  · obtain ⟨k, pre, hk, ht, hp⟩ := quote_cut l n (by omega) (by omega)
    rw [ht] at hs ⊢
    have hrk : ∀ x ∈ l.take k, 0 ≤ x ∧ x ≤ 255 := fun x hx => hr x (List.mem_of_mem_take hx)
    have hbr := bodyQ_range _ hrk
    have := text_Unquote.cut W _ (l.take k) pre rfl hrk (fun x hx => by
      rcases List.mem_cons.1 hx with rfl | hx
      · omega
      · rcases List.mem_append.1 hx with hx | hx
        · have := hbr x hx; omega
        · rcases hp with hp | ⟨c, d, hc, _, _, hp⟩
          · rw [hp] at hx; cases hx
          · rw [hp] at hx
            have := itemQ_range c (hr c hc).1 (hr c hc).2 x (List.mem_of_mem_take hx); omega) (by omega) (by rw [List.length_take]; omega) (by
        rcases hp with hp | ⟨c, d, hc, h⟩
        · exact .inl hp
        · exact .inr ⟨c, d, hr c hc, h⟩)
    rwa [hs] at this
theorem hex_facts (a0 : ByteArray) (l : List Int) (hr : ∀ x ∈ l, 0 ≤ x ∧ x ≤ 255) (hl : l.length = a0.size) (hl2 : a0.size ≤ 1048576) (ha : a0 = strOfNums l) :
    ∃ (h G : ByteArray) (kh k1 k2 : Nat) (hz : Int), text_Hex.f kh a0 = some h ∧ h = strOfNums (hexL l) ∧ (h.size : Int) = hz ∧ wrap64 (2 * (a0.size : Int)) = hz ∧ text_Unhex.f k1 h = some (a0, 0, 0) ∧ strOfNums ((hexL l).map upH) = G ∧ text_Unhex.f k2 G = some (a0, 0, 0) ∧ (hexL l).length = h.size ∧ h.size = 2 * l.length := by
  obtain ⟨kh, hh⟩ := hex_some l hr (by omega)
  have hlen := hexL_len l
  have hs : (strOfNums (hexL l)).size = 2 * l.length := by rw [strOfNums_size, hlen]
  have hdr := digL_range l hr
  have hdl := digL_len l
  obtain ⟨k1, h1⟩ := unhex_some hxD nib_hx (fun d a b => by have := hxD_range d a b; omega) (digL l) hdr (by omega)
  obtain ⟨k2, h2⟩ := unhex_some (fun d => upH (hxD d)) nib_up (fun d a b => by have := hxD_range d a b; unfold upH; split <;> omega) (digL l) hdr (by omega)
  rw [digL_hex, if_neg (by omega), digL_pair, ← ha] at h1
  rw [digL_up, if_neg (by omega), digL_pair, ← ha] at h2
  exact ⟨_, _, kh, k1, k2, _, by rw [ha]; exact hh, rfl, rfl, by rw [hs, ← hl, w64q (by omega) (by omega)]; omega, h1, rfl, h2, by rw [strOfNums_size], hs⟩
theorem hex_drop (a0 : ByteArray) (l : List Int) (h : ByteArray) (hr : ∀ x ∈ l, 0 ≤ x ∧ x ≤ 255) (hl : l.length = a0.size) (hl2 : a0.size ≤ 1048576) (hh : h = strOfNums (hexL l)) (hs : h.size = 2 * l.length) (hpos : a0.size ≠ 0) :
    ∃ (X : ByteArray) (k3 : Nat) (z1 : Int), h.extract 1 h.size = X ∧ wrap64 ((h.size : Int) - 1) = z1 ∧ text_Unhex.f k3 X = some ((⟨#[]⟩ : ByteArray), 1, z1) := by
  have hdr := digL_range l hr
  have hdl := digL_len l
  obtain ⟨k3, h3⟩ := unhex_some hxD nib_hx (fun d a b => by have := hxD_range d a b; omega) ((digL l).drop 1) (fun d hd => hdr d (List.mem_of_mem_drop hd)) (by rw [List.length_drop]; omega)
  rw [List.map_drop, digL_hex, List.length_drop, if_pos (by omega)] at h3
  refine ⟨strOfNums ((hexL l).drop 1), k3, (((digL l).length - 1 : Nat) : Int), ?_, by rw [w64q (by omega) (by omega)]; omega, h3⟩
  conv => lhs; rw [hh, strOf_cutT]
  rw [List.take_of_length_le]
  rw [List.length_drop, hexL_len, strOfNums_size, hexL_len]; omega
theorem q_byte (l : List Int) (q : ByteArray) (z : Nat) (hr : ∀ x ∈ l, 0 ≤ x ∧ x ≤ 255) (hq : q = strOfNums (quoteL l)) (hz : z = (quoteL l).length) (x : Int) (h0 : 0 ≤ x) (h1 : x < (z : Int)) : ∃ c : Int, bt q x = c ∧ decide (c < 32) = false ∧ decide (126 < c) = false := by
  obtain ⟨n, rfl⟩ := Int.eq_ofNat_of_zero_le h0
  have hn : n < (quoteL l).length := by omega
  have hall : ∀ y ∈ quoteL l, 32 ≤ y ∧ y ≤ 126 := by
    intro y hy
    unfold quoteL at hy
    rcases List.mem_cons.1 hy with rfl | hy
    · omega
    · rcases List.mem_append.1 hy with hy | hy
      · exact bodyQ_range l hr y hy
      · rw [List.mem_singleton.1 hy]; omega
  have hm := hall _ (List.getElem_mem hn)
  refine ⟨(quoteL l)[n], ?_, decide_eq_false (by omega), decide_eq_false (by omega)⟩
  rw [hq]
  exact bt_of _ (fun y hy => by have := hall y hy; omega) n _ (List.getElem?_eq_getElem hn)
theorem h_byte (l : List Int) (h : ByteArray) (hr : ∀ x ∈ l, 0 ≤ x ∧ x ≤ 255) (hh : h = strOfNums (hexL l)) (hl : l.length ≤ 1048576) (k : Nat) (hk : k < (hexL l).length) : ∃ c : Int, bt h (k : Int) = c ∧ (hexL l).take (k + 1) = (hexL l).take k ++ [c] ∧ ((48 ≤ c ∧ c ≤ 57) ∨ (97 ≤ c ∧ c ≤ 102)) ∧ wrap64 ((k : Int) + 1) = ((k + 1 : Nat) : Int) := by
  have hlen := hexL_len l
  have hm := hexL_mem l hr _ (List.getElem_mem hk)
  refine ⟨(hexL l)[k], ?_, List.take_succ_eq_append_getElem hk, hm, by rw [w64q (by omega) (by omega)]; rfl⟩
  rw [hh]
  exact bt_of _ (fun y hy => by have := hexL_mem l hr y hy; omega) k _ (List.getElem?_eq_getElem hk)
theorem measT (a : Nat) (x y : Int) (h0 : 0 ≤ x) (h1 : x < (a : Int)) (hy : y = x + 1) : a + 1 - (intOf (.int .i64 y)).toNat < a + 1 - (intOf (.int .i64 x)).toNat := by
  subst hy
  show a + 1 - (x + 1).toNat < a + 1 - x.toNat
  omega
set_option maxHeartbeats 8000000 in
set_option maxRecDepth 100000 in
theorem stencillaw02_TextQuoted.calls (a0 a1 : ByteArray) (a2 : Int) (r : Bool) (w : World) (h : stencillaw02_TextQuoted.f a0 a1 a2 = some r) :
    Calls Try.prog 6 #[.string a0, .string a1, .int .i64 a2] w fun e w' => e = .returned (.bool r) ∧ Below w.heap.size w w' := by
  unfold stencillaw02_TextQuoted.f at h
  split at h
  case isFalse => cases h
  rename_i hh
  obtain ⟨h1, h2, h3⟩ := hh
  obtain rfl := Option.some.inj h
  clear h
  have H1 := Aside0.mk h1
  have H3 := Aside0.mk h3
  obtain ⟨l, q, S1, z, kq, y, hr, hln, ha, hq, hz, hzl, hzb, hkq, hS1, hy, hyz, q1_, T35⟩ := q_facts a0 a1 h1 h2
  have HR := Aside0.mk hr
  have HLN := Aside0.mk hln
  have HA := Aside0.mk ha
  have HQ := Aside0.mk hq
  have HZL := Aside0.mk hzl
  have HZB := Aside0.mk hzb
  have HKQ := Aside0.mk hkq
  have T35 := Aside0.mk T35
  have HZ := Aside0.mk hz
  have hzi : (q.size : Int) = (z : Int) := by rw [hz]
  have q1_t := eq_true q1_
  have q1_d := decide_eq_true q1_
  have q1_f := eq_false (Nat.not_lt.2 q1_)
  clear h1 h2 h3 hr hln ha hq hzl hzb hkq
  have HB := Aside0.mk (Below.refl w.heap.size w)
  go_enter Try.func6, Try.ntmps6
  have tk30 : Aside0 True := ⟨trivial⟩
  go_wp2_with (first | (go_at_call 17; clear tk30; have tk35 : Aside0 True := ⟨trivial⟩; (with_reducible refine (text_Quote.calls kq a0 q _ HKQ.out).mono ?_); rintro e_ w_30 ⟨rfl, hb_⟩; have n0_ := Aside0.mk (below_step (by repeat (first | (with_reducible first | exact HB.out | apply below_alloc | apply pw_below_drewN | apply below_drew1) | exact HB.out)) hb_); clear HB; have HB := n0_; clear n0_; clear hb_) | (go_at_call 18; clear tk35; have tk50 : Aside0 True := ⟨trivial⟩; (with_reducible refine (T35.out _).mono ?_); rintro e_ w_35 ⟨rfl, hb_⟩; have n0_ := Aside0.mk (below_step (by repeat (first | (with_reducible first | exact HB.out | apply below_alloc | apply pw_below_drewN | apply below_drew1) | exact HB.out)) hb_); clear HB; have HB := n0_; clear n0_; clear hb_) | (go_at_call 15; clear tk50; (with_reducible refine (stencillaw02_num.calls 0 0 _ rfl).mono ?_); rintro e_ w_50 ⟨rfl, ⟨m50, rfl⟩⟩))
  have HZI := Aside0.mk hzi
  clear hy hyz q1_ q1_t q1_d q1_f hS1 hz hzi
  go_loopw [11] (fun v wr => ∃ x : Int, v = .int .i64 x ∧ Aside0 (0 ≤ x ∧ x ≤ (z : Int)) ∧ Aside0 (Below w.heap.size w wr)) (fun v _ => z + 1 - (intOf v).toNat)
  case atStart => exact ⟨0, rfl, ⟨by omega⟩, ⟨(by repeat (first | (with_reducible first | exact HB.out | apply below_alloc | apply pw_below_drewN | apply below_drew1) | exact HB.out))⟩⟩
  case round =>
  clear HB
  obtain ⟨x, rfl, HX, HB⟩ := hrel
  by_cases hlt : x < (z : Int)
  case pos => as_aux_lemma =>
    obtain ⟨c, hc, d1, d2⟩ := q_byte l q z HR.out HQ.out HZL.out x HX.out.1 hlt
    have hx := bt_at q x
    rw [hc] at hx
    have i0 := eq_true HX.out.1
    have i1' : x < (q.size : Int) := by rw [HZI.out]; exact hlt
    have i1 := eq_true i1'
    have i2 := decide_eq_true i1'
    have i3 := decide_eq_true hlt
    have HX2 := Aside0.mk hlt
    have w1 : wrap64 (x + 1) = x + 1 := w64q (by have := HX.out; omega) (by have := HX.out; have := HZB.out; omega)
    have HW1 := Aside0.mk w1
    clear hc i1' hlt
    go_wp2
    repeat (go_quiet (fail); try go_wp2)
    go_roundw
    case rel => exact ⟨x + 1, by first | with_reducible rfl | rw [HW1.out], ⟨by have := HX.out; have := HX2.out; omega⟩, ⟨(by repeat (first | (with_reducible first | exact HB.out | apply below_alloc | apply pw_below_drewN | apply below_drew1) | exact HB.out))⟩⟩
    case measure => exact measT z x _ HX.out.1 HX2.out (by first | exact HW1.out | rfl)
  case neg =>
  have i2 : decide (x < (q.size : Int)) = false := decide_eq_false (by rw [HZI.out]; exact hlt)
  have i3 : decide (x < (z : Int)) = false := decide_eq_false hlt
  clear hlt
  go_upto_region 10 with (fail)
  clear i2 i3
  go_cut [84] (fun v wc => v = .bool (decide (0 ≤ a2 ∧ a2 < (z : Int))) ∧ Aside0 (Below w.heap.size w wc))
  case first => as_aux_lemma =>
    by_cases c0 : 0 ≤ a2
    · have d0 : decide (0 ≤ a2) = true := decide_eq_true c0
      by_cases c1 : a2 < (z : Int)
      · have d1 : decide (a2 < (z : Int)) = true := decide_eq_true c1
        have d2 : decide (a2 < (q.size : Int)) = true := decide_eq_true (by rw [HZI.out]; exact c1)
        have E_ := Aside0.mk (show decide (0 ≤ a2 ∧ a2 < (z : Int)) = true from decide_eq_true ⟨c0, c1⟩)
        clear c0 c1
        go_wp2
        go_meet
        case rel => exact ⟨by rw [E_.out], ⟨(by repeat (first | (with_reducible first | exact HB.out | apply below_alloc | apply pw_below_drewN | apply below_drew1) | exact HB.out))⟩⟩
      · have d1 : decide (a2 < (z : Int)) = false := decide_eq_false c1
        have d2 : decide (a2 < (q.size : Int)) = false := decide_eq_false (by rw [HZI.out]; exact c1)
        have E_ := Aside0.mk (show decide (0 ≤ a2 ∧ a2 < (z : Int)) = false from decide_eq_false (fun h => c1 h.2))
        clear c0 c1
        go_wp2
        go_meet
        case rel => exact ⟨by rw [E_.out], ⟨(by repeat (first | (with_reducible first | exact HB.out | apply below_alloc | apply pw_below_drewN | apply below_drew1) | exact HB.out))⟩⟩
    · have d0 : decide (0 ≤ a2) = false := decide_eq_false c0
      have E_ := Aside0.mk (show decide (0 ≤ a2 ∧ a2 < (z : Int)) = false from decide_eq_false (fun h => c0 h.1))
      clear c0
      go_wp2
      go_meet
      case rel => exact ⟨by rw [E_.out], ⟨(by repeat (first | (with_reducible first | exact HB.out | apply below_alloc | apply pw_below_drewN | apply below_drew1) | exact HB.out))⟩⟩
  obtain ⟨rfl, HB'⟩ := hcut
  clear HB
  have HB := HB'
  clear HB'
  go_upto_if 84 with (fail)
  go_cut [12] (fun v wc => Aside0 (Below w.heap.size w wc))
  case first => as_aux_lemma =>
    by_cases c : 0 ≤ a2 ∧ a2 < (z : Int)
    · rw [decide_eq_true c]
      obtain ⟨X, hX, T90⟩ := cut_facts l q z HR.out (by rw [HLN.out]; exact H1.out) HQ.out HZL.out HZB.out a2 c.1 c.2
      have T90 := Aside0.mk T90
      have i0 := eq_true c.1
      have i1 := eq_true (show a2 ≤ (q.size : Int) by rw [HZI.out]; omega)
      have i2 := eq_true (show a2 ≤ (z : Int) by omega)
      clear c
      have tk90 : Aside0 True := ⟨trivial⟩
      go_wp2_with (first | (go_at_call 18; clear tk90; have tk103 : Aside0 True := ⟨trivial⟩; (with_reducible refine (T90.out _).mono ?_); rintro e_ w_90 ⟨rfl, hb_⟩; have n0_ := Aside0.mk (below_step (by repeat (first | (with_reducible first | exact HB.out | apply below_alloc | apply pw_below_drewN | apply below_drew1) | exact HB.out)) hb_); clear HB; have HB := n0_; clear n0_; clear hb_) | (go_at_call 15; clear tk103; (with_reducible refine (stencillaw02_num.calls 23 23 _ rfl).mono ?_); rintro e_ w_103 ⟨rfl, ⟨m103, rfl⟩⟩))
      go_meet
      case rel => exact ⟨(by repeat (first | (with_reducible first | exact HB.out | apply below_alloc | apply pw_below_drewN | apply below_drew1) | exact HB.out))⟩
    · rw [decide_eq_false c]
      clear c
      go_wp2
      go_meet
      case rel => exact ⟨(by repeat (first | (with_reducible first | exact HB.out | apply below_alloc | apply pw_below_drewN | apply below_drew1) | exact HB.out))⟩
  clear HB
  have HB := hcut
  clear hcut
  obtain ⟨h, G, kh, k1, k2, hz2, hkh, hh, hhz, hw2, hk1, hG, hk2, hhl, hhs⟩ := hex_facts a0 l HR.out HLN.out H1.out HA.out
  have HKH := Aside0.mk hkh
  have HH := Aside0.mk hh
  have HK1 := Aside0.mk hk1
  have HG := Aside0.mk hG
  have HK2 := Aside0.mk hk2
  have HHL := Aside0.mk hhl
  have HHS := Aside0.mk hhs
  have HHZ := Aside0.mk hhz
  clear hkh hh hk1 hG hk2 hhl hhs hhz
  have tk107 : Aside0 True := ⟨trivial⟩
  go_wp2_with (first | (go_at_call 19; clear tk107; (with_reducible refine (text_Hex.calls kh a0 h _ HKH.out).mono ?_); rintro e_ w_107 ⟨rfl, hb_⟩; have n0_ := Aside0.mk (below_step (by repeat (first | (with_reducible first | exact HB.out | apply below_alloc | apply pw_below_drewN | apply below_drew1) | exact HB.out)) hb_); clear HB; have HB := n0_; clear n0_; clear hb_))
  go_loopw [17, 18] (fun v17 v18 wr => ∃ (k : Nat) (x : Int), v18 = .int .i64 x ∧ Aside0 (x = (k : Int) ∧ k ≤ (hexL l).length) ∧ Aside0 (Kd.R (Kd.int .u8) 5 wr w.heap.size (fun _ => True) v17 (((hexL l).take k).map upH)) ∧ Aside0 (Below w.heap.size w wr)) (fun _ v18 _ => (hexL l).length + 1 - (intOf v18).toNat)
  case atStart => exact ⟨0, 0, rfl, ⟨rfl, Nat.zero_le _⟩, ⟨Kd.R_nil _ _ _ _ _⟩, ⟨(by repeat (first | (with_reducible first | exact HB.out | apply below_alloc | apply pw_below_drewN | apply below_drew1) | exact HB.out))⟩⟩
  case round =>
  clear HB
  obtain ⟨k, x, rfl, HX, HRW, HB⟩ := hrel
  by_cases hlt : k < (hexL l).length
  case pos => as_aux_lemma =>
    obtain ⟨c, hc, htk, hcc, w1⟩ := h_byte l h HR.out HH.out (by rw [HLN.out]; exact H1.out) k hlt
    rw [← HX.out.1] at hc w1
    have hx := bt_at h x
    rw [hc] at hx
    have i0 := eq_true (show 0 ≤ x by have := HX.out; omega)
    have i1' : x < (h.size : Int) := by have h1 := HX.out; have h2 := HHL.out; omega
    have i1 := eq_true i1'
    have i2 := decide_eq_true i1'
    have i3 : decide (x < hz2) = true := decide_eq_true (by rw [← HHZ.out]; exact i1')
    have HX2 := Aside0.mk (show k < (hexL l).length ∧ x < ((hexL l).length : Int) ∧ 0 ≤ x by have := HX.out; omega)
    have HW1 := Aside0.mk w1
    have HW2 := Aside0.mk (show wrap64 (x + 1) = x + 1 by rw [w1]; have := HX.out; omega)
    have htk2 : ((hexL l).take (k + 1)).map upH = ((hexL l).take k).map upH ++ [upH c] := by rw [htk, List.map_append]; rfl
    obtain ⟨d, hd⟩ : ∃ d, d = upH c := ⟨_, rfl⟩
    rw [← hd] at htk2
    have HTK := Aside0.mk htk2
    have HLR := Aside0.mk (show (((hexL l).take k).map upH).length ≤ 10000000 by rw [List.length_map, List.length_take, hexL_len]; have := HLN.out; have := H1.out; omega)
    obtain ⟨rw_, hrw⟩ : ∃ y, y = ((hexL l).take k).map upH := ⟨_, rfl⟩
    rw [← hrw] at HRW HTK HLR
    have HRL := Aside0.mk hrw
    clear hc i1' hlt htk htk2 hrw
    rcases hcc with hcc | hcc
    · obtain rfl : d = c := by rw [hd]; unfold upH; rw [if_neg (by omega)]
      have d1 : decide (97 ≤ d) = false := decide_eq_false (by omega)
      clear hcc hd
      go_wp2_with (first | ((with_reducible refine gate_builtin (b := .append) (xs := #[.tmp 125, .tmp 127]) rfl ?_); at_builtin; refine Kd.R_append (Kd.int .u8) (w0 := w) w.heap.size rfl (.tmp 125) (.tmp 127) 23 5 (.int .u8 0) 1 rfl Try.underlying23 info5 rfl (by decide) (by decide) _ rw_ d [.int .u8 d] (fun _ => True) (fun _ => False) rfl rfl rfl (fun _ hk => hk.elim) (fun _ _ => trivial) HRW.out HB.out HB.out.size (by have := HLR.out; omega) ?_; intro v4 w4 ho hb4 hg4 hat4; rw [← HTK.out] at ho; have HB4 := Aside0.mk hb4; have HO4 := Aside0.mk ho; clear ho hb4 hg4 hat4))
      go_roundw
      case rel => exact ⟨k + 1, _, by first | with_reducible rfl | rw [HW1.out], ⟨rfl, HX2.out.1⟩, HO4, HB4⟩
      case measure => exact measT _ x _ HX2.out.2.2 HX2.out.2.1 (by first | exact HW2.out | rfl)
    · have d1 : decide (97 ≤ c) = true := decide_eq_true hcc.1
      have d2 : decide (c ≤ 102) = true := decide_eq_true hcc.2
      have hd2 : d = c - 32 := by rw [hd]; unfold upH; rw [if_pos hcc]
      have u1 : IntKind.u8.wrap (c - 32) = d := by rw [IntKind.wrap_u8, hd2]; omega
      have u2 : (c - 32) % 256 = d := by rw [hd2]; omega
      clear hcc hd hd2
      go_wp2_with (first | ((with_reducible refine gate_builtin (b := .append) (xs := #[.tmp 125, .tmp 127]) rfl ?_); at_builtin; refine Kd.R_append (Kd.int .u8) (w0 := w) w.heap.size rfl (.tmp 125) (.tmp 127) 23 5 (.int .u8 0) 1 rfl Try.underlying23 info5 rfl (by decide) (by decide) _ rw_ d [.int .u8 d] (fun _ => True) (fun _ => False) rfl rfl rfl (fun _ hk => hk.elim) (fun _ _ => trivial) HRW.out HB.out HB.out.size (by have := HLR.out; omega) ?_; intro v4 w4 ho hb4 hg4 hat4; rw [← HTK.out] at ho; have HB4 := Aside0.mk hb4; have HO4 := Aside0.mk ho; clear ho hb4 hg4 hat4))
      go_roundw
      case rel => exact ⟨k + 1, _, by first | with_reducible rfl | rw [HW1.out], ⟨rfl, HX2.out.1⟩, HO4, HB4⟩
      case measure => exact measT _ x _ HX2.out.2.2 HX2.out.2.1 (by first | exact HW2.out | rfl)
  case neg =>
  obtain rfl : k = (hexL l).length := by have := HX.out; omega
  rw [List.take_length] at HRW
  have i2 : decide (x < (h.size : Int)) = false := decide_eq_false (by have h1 := HX.out; have h2 := HHL.out; omega)
  have i3 : decide (x < hz2) = false := decide_eq_false (by rw [← HHZ.out]; have h1 := HX.out; have h2 := HHL.out; omega)
  clear hlt
  go_upto_region 24 with (fail)
  clear i2 i3
  have hhz := HHZ.out
  have tk131 : Aside0 True := ⟨trivial⟩
  go_upto_region 28 with (first | (go_at_call 20; clear tk131; have tk138 : Aside0 True := ⟨trivial⟩; (with_reducible refine (text_Unhex.calls k1 h a0 0 0 _ HK1.out).mono ?_); rintro e_ w_131 ⟨rfl, hb_⟩; have n0_ := Aside0.mk (below_step (by repeat (first | (with_reducible first | exact HB.out | apply below_alloc | apply pw_below_drewN | apply below_drew1) | exact HB.out)) hb_); clear HB; have HB := n0_; clear n0_; have n1_ := Aside0.mk (Kd.R_below HRW.out hb_); clear HRW; have HRW := n1_; clear n1_ hb_; have hcv := own_string (P := Try.prog) Try.underlying23 Try.underlying5 Try.underlying9 (Kd.own_of_R HRW.out); rw [HG.out] at hcv) | (go_at_call 20; clear tk138; have tk152 : Aside0 True := ⟨trivial⟩; (with_reducible refine (text_Unhex.calls k2 G a0 0 0 _ HK2.out).mono ?_); rintro e_ w_138 ⟨rfl, hb_⟩; have n0_ := Aside0.mk (below_step (by repeat (first | (with_reducible first | exact HB.out | apply below_alloc | apply pw_below_drewN | apply below_drew1) | exact HB.out)) hb_); clear HB; have HB := n0_; clear n0_; clear hb_) | (go_at_call 15; clear tk152; have tk157 : Aside0 True := ⟨trivial⟩; (with_reducible refine (stencillaw02_num.calls 0 0 _ rfl).mono ?_); rintro e_ w_152 ⟨rfl, ⟨m152, rfl⟩⟩) | (go_at_call 15; clear tk157; (with_reducible refine (stencillaw02_num.calls 0 0 _ rfl).mono ?_); rintro e_ w_157 ⟨rfl, ⟨m157, rfl⟩⟩))
  clear hcv HRW hhz
  by_cases c0 : a0.size = 0
  case pos => as_aux_lemma =>
    have b0 : (a0.toList == ([] : List UInt8)) = true := beq_iff_eq.mpr (by rw [ByteArray.toList_eq]; exact List.eq_nil_of_length_eq_zero (by simpa using c0))
    clear c0
    go_wp2
    go_ret
    exact ⟨by first | rfl | simp, (by repeat (first | (with_reducible first | exact HB.out | apply below_alloc | apply pw_below_drewN | apply below_drew1) | exact HB.out))⟩
  case neg =>
  have b0 : (a0.toList == ([] : List UInt8)) = false := beq_eq_false_iff_ne.mpr (toList_ne a0 (by omega))
  obtain ⟨X, k3, z1, hX, hz1, hk3⟩ := hex_drop a0 l h HR.out HLN.out H1.out HH.out HHS.out c0
  have HK3 := Aside0.mk hk3
  have j1 := eq_true (show 1 ≤ h.size by have := HHS.out; have := HLN.out; omega)
  have j2 := eq_true (show (1 : Int) ≤ (h.size : Int) by have := HHS.out; have := HLN.out; omega)
  clear hk3 c0
  have tk181 : Aside0 True := ⟨trivial⟩
  go_wp2_with (first | (go_at_call 20; clear tk181; have tk189 : Aside0 True := ⟨trivial⟩; (with_reducible refine (text_Unhex.calls k3 X (⟨#[]⟩ : ByteArray) 1 z1 _ HK3.out).mono ?_); rintro e_ w_181 ⟨rfl, hb_⟩; have n0_ := Aside0.mk (below_step (by repeat (first | (with_reducible first | exact HB.out | apply below_alloc | apply pw_below_drewN | apply below_drew1) | exact HB.out)) hb_); clear HB; have HB := n0_; clear n0_; clear hb_) | (go_at_call 15; clear tk189; (with_reducible refine (stencillaw02_num.calls 1 1 _ rfl).mono ?_); rintro e_ w_189 ⟨rfl, ⟨m189, rfl⟩⟩))
  go_ret
  exact ⟨by first | rfl | simp, (by repeat (first | (with_reducible first | exact HB.out | apply below_alloc | apply pw_below_drewN | apply below_drew1) | exact HB.out))⟩
theorem TextQuoted_pure (a0 a1 : ByteArray) (a2 : Int) (h2 : (Lit.int .i64 a2).wf = true) (h0 : a0.size ≤ 1048576) (h1 : a1.size ≤ 1048576) : stencillaw02_TextQuoted.f a0 a1 a2 = some true := by
  have z1 : IntKind.i64.min ≤ a2 ∧ a2 ≤ IntKind.i64.max := by simpa [Lit.wf] using h2
  have e1 : IntKind.i64.min = -9223372036854775808 := by decide
  have e2 : IntKind.i64.max = 9223372036854775807 := by decide
  rw [e1, e2] at z1
  unfold stencillaw02_TextQuoted.f
  rw [if_pos ⟨h0, h1, z1⟩]

end Go.Proofs.Ythgodajjaddgbaa.T
