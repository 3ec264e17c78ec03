/- The walk of FrameEnds (layer 24), by hand; written by gen_ends.py. -/
import Derived.Test.YtkchnocliilapaaQx0
import Derived.Test.YtkchnocliilapaaQx2
import Derived.Test.YtkchnocliilapaaQx4
import Derived.Test.YtkchnocliilapaaHStreamP
import Derived.Test.YtkchnocliilapaaHEnds
import Derived.Test.YtkchnocliilapaaHKeepLaw
import Derived.IntWalk
import Derived.Laws.Small
namespace Go.Proofs.Ytkchnocliilapaa.Q
open Go.RowKit Go.Proofs.YtkchnocliilapaaW.PrintWords Go.Proofs.YtkchnocliilapaaW.PrintLast Go.Proofs.YtkchnocliilapaaW.PrintMore
attribute [local go_sem] max2_int min2_int max_two min_two max_three min_three max_four min_four   -- for this text's walks alone
set_option linter.unusedVariables false
set_option linter.unusedSimpArgs false

def stencillaw24_FrameEnds.f (l0 : List S23) (a1 a2 : Int) (a3 : ByteArray) (l4 : List Int) : Option Bool := if (-9223372036854775808 ≤ a1 ∧ a1 ≤ 9223372036854775807) ∧ (-9223372036854775808 ≤ a2 ∧ a2 ≤ 9223372036854775807) ∧ a3.size ≤ 140737488351232 ∧ l4.length ≤ 140737488351232 then some true else none
theorem quoQ (n m : Int) (h : 0 ≤ n) : n.tdiv m = n / m := Int.tdiv_eq_ediv_of_nonneg h
theorem remQ (n m : Int) (h : 0 ≤ n) : n.tmod m = n % m := Int.tmod_eq_emod_of_nonneg h
theorem u8f (x : Int) (h0 : 0 ≤ x) (h1 : x ≤ 255) : IntKind.u8.wrap x = x := by rw [IntKind.wrap_u8]; omega
theorem held_val (W : World) (base g bb : Nat) (bs : List Int) (lim ref v : Int) (hv : (bs.length : Int) = v) (hF : FrO W base g bb bs lim ref) : Calls Try.prog 19 #[.pointer (some ⟨g, 0, none⟩)] W fun e w' => e = .returned (.int .i64 v) ∧ Drawn0 W w' := hv ▸ Framer_Held.calls W base g bb bs lim ref hF
theorem need_val (W : World) (base g bb : Nat) (bs : List Int) (lim ref v : Int) (hv : needF ref bs = v) (hb : ∀ b ∈ bs, 0 ≤ b ∧ b < 256) (hl : bs.length ≤ 140737488355328) (hF : FrO W base g bb bs lim ref) : Calls Try.prog 21 #[.pointer (some ⟨g, 0, none⟩)] W fun e w' => e = .returned (.int .i64 v) ∧ Drawn0 W w' := hv ▸ Framer_Need.calls W base g bb bs lim ref hF hb hl
theorem ref_val (W : World) (base g bb : Nat) (bs : List Int) (lim ref : Int) (A : Option Addr) (n c : Nat) (hr : ref ≠ 0) (hF : FrO W base g bb bs lim ref) : Calls Try.prog 18 #[.pointer (some ⟨g, 0, none⟩), .slice A n c] W fun e w' => e = .returned (.tuple #[.slice none 0 0, .int .i64 ref]) ∧ Below W.heap.size W w' := by
  obtain ⟨v, hG, _⟩ := hF
  exact Framer_Feed.refused W g v lim ref A n c hr hG
theorem first_val (w : World) (lim : Int) (S : ByteArray) (l : List S23) (P : List Int) (h1 : feedL lim (bytesOf S) = l) (h2 : feedE lim (bytesOf S) = 0) (h3 : feedB lim (bytesOf S) = P) (hl : S.size ≤ 140737488355328) (hc : l.length < 1000000000000) (W : World) (g : Nat) (hG : W.heap[g]? = some (.cells #[.slice none 0 0, .int .i64 lim, .int .i64 0] 62 (0, 0))) (hB : Below w.heap.size w W) (hg : w.heap.size ≤ g) :
    Calls Try.prog 18 #[.pointer (some ⟨g, 0, none⟩), .slice (some ⟨W.heap.size, 0, none⟩) S.size (grownCap W S.size 0 5)] (Lib.bytesWorld W 5 S) fun e w' => ∃ v bb', e = .returned (.tuple #[v, .int .i64 0]) ∧ Kd.R k23 23 w' w.heap.size (fun k => W.heap.size ≤ k ∧ k ≠ bb' ∧ k ≠ g) v l ∧ FrO w' w.heap.size g bb' P lim 0 ∧ W.heap.size ≤ bb' ∧ Below w.heap.size w w' ∧ Kept W w' (fun k => k = g) := by
  have := feed_str0 w W g lim S hG hB hg hl (by rw [h1]; exact hc)
  rw [h1, h2, h3] at this
  exact this
theorem second_val (w : World) (lim want : Int) (S : ByteArray) (P : List Int) (h1 : feedL lim (P ++ bytesOf S) = []) (h2 : feedE lim (P ++ bytesOf S) = want) (h3 : feedB lim (P ++ bytesOf S) = []) (hP : ∀ b ∈ P, 0 ≤ b ∧ b < 256) (hl : P.length + S.size ≤ 140737488355328) (W : World) (g bb b : Nat) (hbq : b = W.heap.size) (hF : FrO W w.heap.size g bb P lim 0) (hB : Below w.heap.size w W) (hg : w.heap.size ≤ g) :
    Calls Try.prog 18 #[.pointer (some ⟨g, 0, none⟩), .slice (some ⟨b, 0, none⟩) S.size (grownCap W S.size 0 5)] (Lib.bytesWorld W 5 S) fun e w' => ∃ v bb', e = .returned (.tuple #[v, .int .i64 want]) ∧ Kd.R k23 23 w' w.heap.size (fun k => W.heap.size ≤ k ∧ k ≠ bb' ∧ k ≠ g) v [] ∧ FrO w' w.heap.size g bb' [] lim want ∧ (bb' = bb ∨ W.heap.size ≤ bb') ∧ Below w.heap.size w w' ∧ Kept W w' (fun k => k = g ∨ k = bb) := by
  subst hbq
  have := feed_str w W g bb lim P S hF hB hg hP hl (by rw [h1]; decide)
  rw [h1, h2, h3] at this
  exact this
theorem split_val (W : World) (lim want : Int) (S : ByteArray) (l : List S23) (R : List Int) (v : Int) (h1 : parcelsF lim S.size (bytesOf S) [] = (l, R)) (h2 : verdictF lim R = want) (h3 : (S.size : Int) - R.length = v) (hs : S.size < 1000000000000000) (hc : l.length < 1000000000000) :
    Calls Try.prog 7 #[.int .i64 lim, .string S] W fun e w' => ∃ v1, e = .returned (.tuple #[v1, .int .i64 v, .int .i64 want]) ∧ Kd.R k23 23 w' W.heap.size (fun _ => True) v1 l ∧ Below W.heap.size W w' := by
  have := frame_Split.calls W lim S hs (by rw [h1]; exact hc)
  rw [h1, h2, h3] at this
  exact this
set_option maxHeartbeats 8000000 in
set_option maxRecDepth 100000 in
theorem stencillaw24_FrameEnds.calls (A0 : Option Addr) (c0 : Nat) (l0 : List S23) (a1 a2 : Int) (a3 : ByteArray) (A4 : Option Addr) (c4 : Nat) (l4 : List Int) (r : Bool) (w : World) (hr0 : Kd.C k23 w A0 l0.length l0) (hc0 : l0.length ≤ c0) (hr4 : Kd.C (Kd.int .u8) w A4 l4.length l4) (hc4 : l4.length ≤ c4) (h : stencillaw24_FrameEnds.f l0 a1 a2 a3 l4 = some r) :
    Calls Try.prog 6 #[.slice A0 l0.length c0, .int .i64 a1, .int .i64 a2, .string a3, .slice A4 l4.length c4] w fun e w' => e = .returned (.bool r) ∧ Below w.heap.size w w' := by
  unfold stencillaw24_FrameEnds.f at h
  split at h
  case isFalse => cases h
  rename_i hh
  obtain ⟨h1, h2, h3, h4⟩ := hh
  obtain rfl := Option.some.inj h
  clear h
  have H1 := Aside0.mk h1
  have H2 := Aside0.mk h2
  have H3 := Aside0.mk h3
  clear h1 h2 h3 h4 hr4 hc4
  have HR0 := Aside0.mk hr0
  have HC0 := Aside0.mk hc0
  clear hr0 hc0
  obtain ⟨kp, l, hp, hll, hg⟩ := parcels_some l0
  obtain ⟨ks, hs⟩ := stream_some l hll hg
  obtain ⟨lim, hlim⟩ : ∃ x, x = longest l := ⟨_, rfl⟩
  obtain ⟨s, hsv⟩ : ∃ x, x = strOfNums (streamB l) := ⟨_, rfl⟩
  rw [← hlim, ← hsv] at hs
  have HP := Aside0.mk hp
  have HS := Aside0.mk hs
  have hm1 : 6 ≤ lim := by rw [hlim]; exact (longest_ge l 6).1
  have hm2 : lim ≤ 306 := by rw [hlim]; exact longest_le l 6 (by decide) hg
  have HM := Aside0.mk (show 6 ≤ lim ∧ lim ≤ 306 from ⟨hm1, hm2⟩)
  have HGL := Aside0.mk (show ∀ p ∈ l, GoodP p ∧ (p.f1.size : Int) + 6 ≤ lim from fun p hp => ⟨hg p hp, by rw [hlim]; exact (longest_ge l 6).2 p hp⟩)
  have HLL := Aside0.mk hll
  have HSV := Aside0.mk hsv
  have HSL := Aside0.mk (streamB_len l hg)
  have HSR := Aside0.mk (streamB_range l hg)
  clear hp hs hlim hsv hm1 hm2 hg hll
  have HB := Aside0.mk (Below.refl w.heap.size w)
  go_enter Try.func6, Try.ntmps6
  have tk27 : Aside0 True := ⟨trivial⟩
  go_upto_if 37 with (first | (go_at_call 23; clear tk27; have tk30 : Aside0 True := ⟨trivial⟩; (with_reducible refine (stencillaw24_parcels.calls kp A0 c0 l0 l _ (Kd.C_below HR0.out (by repeat (first | (with_reducible first | exact HB.out | apply below_alloc | apply pw_below_drewN | apply below_drew1) | exact HB.out))) HC0.out HP.out).mono ?_); rintro e_ w_27 ⟨v_, rfl, ho_, hb_⟩; have n0_ := Aside0.mk (below_step (by repeat (first | (with_reducible first | exact HB.out | apply below_alloc | apply pw_below_drewN | apply below_drew1) | exact HB.out)) hb_); clear HB; have HB := n0_; clear n0_; obtain ⟨A, c, rfl⟩ := Kd.R_slice ho_; have CL := Aside0.mk (Kd.R_reads' ho_).2.2; have YL := Aside0.mk (Kd.R_reads' ho_).2.1; have LT := Aside0.mk (show ∀ a, A = some a → a.block < w_27.heap.size from fun a ha => ((Kd.R_bound ho_).1 a.block (by rw [ha]; rfl)).2.2.1); clear ho_ hb_) | (go_at_call 24; clear tk30; (with_reducible refine (stencillaw24_stream.calls ks A c l s lim true _ (by repeat (first | exact CL.out | (with_reducible refine Kd.C_alloc ?_ _) | (with_reducible refine Kd.C_drewN ?_ _) | (with_reducible refine Kd.C_drew ?_))) YL.out HS.out rfl).mono ?_); rintro e_ w_30 ⟨rfl, hb_⟩; have n0_ := Aside0.mk (below_step (by repeat (first | (with_reducible first | exact HB.out | apply below_alloc | apply pw_below_drewN | apply below_drew1) | exact HB.out)) hb_); clear HB; have HB := n0_; clear n0_; have n1_ := Aside0.mk (Kd.C_below (by repeat (first | exact CL.out | (with_reducible refine Kd.C_alloc ?_ _) | (with_reducible refine Kd.C_drewN ?_ _) | (with_reducible refine Kd.C_drew ?_))) hb_); have n2_ := Aside0.mk (show ∀ a, A = some a → a.block < w_30.heap.size from fun a ha => Nat.lt_of_lt_of_le (LT.out a ha) hb_.size); clear CL LT; have CL := n1_; have LT := n2_; clear n1_ n2_ hb_))
  go_cut [1] (fun v wc => ∃ n : Int, v = .int .i64 n ∧ Aside0 (0 ≤ n ∧ n ≤ 9223372036854775807) ∧ Aside0 (Below w.heap.size w wc) ∧ Aside0 (Kd.C k23 wc A l.length l) ∧ Aside0 (∀ a, A = some a → a.block < wc.heap.size))
  case first => as_aux_lemma =>
    by_cases c : a1 < 0
    · have d_ : decide (a1 < 0) = true := decide_eq_true c
      go_wp2
      go_meet
      case rel => exact ⟨_, rfl, ⟨by have := H1.out; clear d_; (try simp only [i64_w]); unfold wrap64; omega⟩, ⟨(by repeat (first | (with_reducible first | exact HB.out | apply below_alloc | apply pw_below_drewN | apply below_drew1) | exact HB.out))⟩, ⟨(by repeat (first | exact CL.out | (with_reducible refine Kd.C_alloc ?_ _) | (with_reducible refine Kd.C_drewN ?_ _) | (with_reducible refine Kd.C_drew ?_)))⟩, LT⟩
    · have d_ : decide (a1 < 0) = false := decide_eq_false c
      go_wp2
      go_meet
      case rel => exact ⟨_, rfl, ⟨by have := H1.out; omega⟩, ⟨(by repeat (first | (with_reducible first | exact HB.out | apply below_alloc | apply pw_below_drewN | apply below_drew1) | exact HB.out))⟩, ⟨(by repeat (first | exact CL.out | (with_reducible refine Kd.C_alloc ?_ _) | (with_reducible refine Kd.C_drewN ?_ _) | (with_reducible refine Kd.C_drew ?_)))⟩, LT⟩
  obtain ⟨z, rfl, HZ, HB', CL', LT'⟩ := hcut
  clear HB CL LT
  have HB := HB'
  have CL := CL'
  have LT := LT'
  clear HB' CL' LT'
  go_upto_region 7 with (fail)
  obtain ⟨m3, hm3⟩ : ∃ x, z.tmod 3 = x := ⟨_, rfl⟩
  obtain ⟨m6, hm6⟩ : ∃ x, z.tmod 6 = x := ⟨_, rfl⟩
  obtain ⟨mk, hmk⟩ : ∃ x, z.tmod 1000 = x := ⟨_, rfl⟩
  have HQ := Aside0.mk (show (m3 = 0 → m6 = 0 ∨ m6 = 3) ∧ 0 ≤ m3 ∧ m3 < 3 ∧ 0 ≤ m6 ∧ m6 < 6 ∧ 0 ≤ mk ∧ mk < 1000 by
    have h := HZ.out
    rw [← hm3, ← hm6, ← hmk, remQ _ _ h.1, remQ _ _ h.1, remQ _ _ h.1]
    omega)
  go_upto_if 45 with (fail)
  go_cut [15] (fun v wc => ∃ n : Int, v = .int .i64 n ∧ Aside0 (n = if m3 = 1 then lim + 1 + mk else m6) ∧ Aside0 (Below w.heap.size w wc) ∧ Aside0 (Kd.C k23 wc A l.length l) ∧ Aside0 (∀ a, A = some a → a.block < wc.heap.size))
  case first => as_aux_lemma =>
    have f1 : wrap64 (lim + 1) = lim + 1 := w64f (by have := HM.out; omega) (by have := HM.out; omega)
    have f2 : wrap64 (lim + 1 + mk) = lim + 1 + mk := w64f (by have := HM.out; have := HQ.out; omega) (by have := HM.out; have := HQ.out; omega)
    by_cases c : m3 = 1
    · have d_ : (m3 == 1) = true := beq_iff_eq.mpr c
      have E_ := Aside0.mk c
      clear c
      go_wp2
      go_meet
      case rel => exact ⟨_, rfl, ⟨by rw [if_pos E_.out]; (try simp only [i64_w]); (try rw [f1]); (try rw [f2])⟩, ⟨(by repeat (first | (with_reducible first | exact HB.out | apply below_alloc | apply pw_below_drewN | apply below_drew1) | exact HB.out))⟩, ⟨(by repeat (first | exact CL.out | (with_reducible refine Kd.C_alloc ?_ _) | (with_reducible refine Kd.C_drewN ?_ _) | (with_reducible refine Kd.C_drew ?_)))⟩, LT⟩
    · have d_ : (m3 == 1) = false := beq_eq_false_iff_ne.mpr c
      go_wp2
      go_meet
      case rel => exact ⟨_, rfl, ⟨by rw [if_neg c]⟩, ⟨(by repeat (first | (with_reducible first | exact HB.out | apply below_alloc | apply pw_below_drewN | apply below_drew1) | exact HB.out))⟩, ⟨(by repeat (first | exact CL.out | (with_reducible refine Kd.C_alloc ?_ _) | (with_reducible refine Kd.C_drewN ?_ _) | (with_reducible refine Kd.C_drew ?_)))⟩, LT⟩
  obtain ⟨n1, rfl, HN1, HB', CL', LT'⟩ := hcut
  clear HB CL LT
  have HB := HB'
  have CL := CL'
  have LT := LT'
  clear HB' CL' LT'
  go_upto_if 53 with (fail)
  go_cut [15, 16, 17] (fun v15 v16 v17 wc => ∃ n want te : Int, v15 = .int .i64 n ∧ v16 = .int .i64 want ∧ v17 = .int .i64 te ∧ Aside0 ((0 ≤ n ∧ n ≤ 2000) ∧ ((te = 4 ∧ want = 240 ∧ (n < 6 ∨ lim < n)) ∨ (te = 6 ∧ want = 241 ∧ n = 6))) ∧ Aside0 (Below w.heap.size w wc) ∧ Aside0 (Kd.C k23 wc A l.length l) ∧ Aside0 (∀ a, A = some a → a.block < wc.heap.size))
  case first => as_aux_lemma =>
    by_cases c : m3 = 2
    · have d_ : (m3 == 2) = true := beq_iff_eq.mpr c
      clear c
      go_wp2
      go_meet
      case rel => exact ⟨_, _, _, rfl, rfl, rfl, ⟨by have := HM.out; omega⟩, ⟨(by repeat (first | (with_reducible first | exact HB.out | apply below_alloc | apply pw_below_drewN | apply below_drew1) | exact HB.out))⟩, ⟨(by repeat (first | exact CL.out | (with_reducible refine Kd.C_alloc ?_ _) | (with_reducible refine Kd.C_drewN ?_ _) | (with_reducible refine Kd.C_drew ?_)))⟩, LT⟩
    · have d_ : (m3 == 2) = false := beq_eq_false_iff_ne.mpr c
      go_wp2
      go_meet
      case rel => exact ⟨_, _, _, rfl, rfl, rfl, ⟨by have h1 := HM.out; have h2 := HQ.out; have h3 := HN1.out; split at h3 <;> omega⟩, ⟨(by repeat (first | (with_reducible first | exact HB.out | apply below_alloc | apply pw_below_drewN | apply below_drew1) | exact HB.out))⟩, ⟨(by repeat (first | exact CL.out | (with_reducible refine Kd.C_alloc ?_ _) | (with_reducible refine Kd.C_drewN ?_ _) | (with_reducible refine Kd.C_drew ?_)))⟩, LT⟩
  obtain ⟨n, want, te, rfl, rfl, rfl, HNT, HB', CL', LT'⟩ := hcut
  clear HB CL LT
  have HB := HB'
  have CL := CL'
  have LT := LT'
  clear HB' CL' LT' hm3 hm6 hmk HQ HZ HN1
  go_upto_if 55 with (fail)
  go_cut [2] (fun v wc => ∃ n : Int, v = .int .i64 n ∧ Aside0 (0 ≤ n ∧ n ≤ 9223372036854775807) ∧ Aside0 (Below w.heap.size w wc) ∧ Aside0 (Kd.C k23 wc A l.length l) ∧ Aside0 (∀ a, A = some a → a.block < wc.heap.size))
  case first => as_aux_lemma =>
    by_cases c : a2 < 0
    · have d_ : decide (a2 < 0) = true := decide_eq_true c
      go_wp2
      go_meet
      case rel => exact ⟨_, rfl, ⟨by have := H2.out; clear d_; (try simp only [i64_w]); unfold wrap64; omega⟩, ⟨(by repeat (first | (with_reducible first | exact HB.out | apply below_alloc | apply pw_below_drewN | apply below_drew1) | exact HB.out))⟩, ⟨(by repeat (first | exact CL.out | (with_reducible refine Kd.C_alloc ?_ _) | (with_reducible refine Kd.C_drewN ?_ _) | (with_reducible refine Kd.C_drew ?_)))⟩, LT⟩
    · have d_ : decide (a2 < 0) = false := decide_eq_false c
      go_wp2
      go_meet
      case rel => exact ⟨_, rfl, ⟨by have := H2.out; omega⟩, ⟨(by repeat (first | (with_reducible first | exact HB.out | apply below_alloc | apply pw_below_drewN | apply below_drew1) | exact HB.out))⟩, ⟨(by repeat (first | exact CL.out | (with_reducible refine Kd.C_alloc ?_ _) | (with_reducible refine Kd.C_drewN ?_ _) | (with_reducible refine Kd.C_drew ?_)))⟩, LT⟩
  obtain ⟨z2, rfl, HZ, HB', CL', LT'⟩ := hcut
  clear HB CL LT
  have HB := HB'
  have CL := CL'
  have LT := LT'
  clear HB' CL' LT'
  obtain ⟨t0, ht0⟩ : ∃ x, z2.tmod 65536 = x := ⟨_, rfl⟩
  have HT0 := Aside0.mk (show 0 ≤ t0 ∧ t0 < 65536 by have h := HZ.out; rw [← ht0, remQ _ _ h.1]; omega)
  go_upto_region 19 with (fail)
  clear HZ
  go_cut [66] (fun v wc => v = .bool (decide (t0 = 23520 ∨ t0 = 60240)) ∧ Aside0 (Below w.heap.size w wc) ∧ Aside0 (Kd.C k23 wc A l.length l) ∧ Aside0 (∀ a, A = some a → a.block < wc.heap.size))
  case first => as_aux_lemma =>
    clear ht0
    by_cases c : t0 = 23520
    · have d_ : (t0 == 23520) = true := beq_iff_eq.mpr c
      have E_ := Aside0.mk c
      clear c
      go_wp2
      go_meet
      case rel => exact ⟨by rw [decide_eq_true (Or.inl E_.out)], ⟨(by repeat (first | (with_reducible first | exact HB.out | apply below_alloc | apply pw_below_drewN | apply below_drew1) | exact HB.out))⟩, ⟨(by repeat (first | exact CL.out | (with_reducible refine Kd.C_alloc ?_ _) | (with_reducible refine Kd.C_drewN ?_ _) | (with_reducible refine Kd.C_drew ?_)))⟩, LT⟩
    · have d_ : (t0 == 23520) = false := beq_eq_false_iff_ne.mpr c
      go_wp2
      go_meet
      case rel => exact ⟨by congr 1; rw [Bool.eq_iff_iff, beq_iff_eq, decide_eq_true_iff]; omega, ⟨(by repeat (first | (with_reducible first | exact HB.out | apply below_alloc | apply pw_below_drewN | apply below_drew1) | exact HB.out))⟩, ⟨(by repeat (first | exact CL.out | (with_reducible refine Kd.C_alloc ?_ _) | (with_reducible refine Kd.C_drewN ?_ _) | (with_reducible refine Kd.C_drew ?_)))⟩, LT⟩
  obtain ⟨rfl, HB', CL', LT'⟩ := hcut
  clear HB CL LT ht0
  have HB := HB'
  have CL := CL'
  have LT := LT'
  clear HB' CL' LT'
  go_upto_if 66 with (fail)
  go_cut [18] (fun v wc => ∃ t : Int, v = .int .i64 t ∧ Aside0 ((0 ≤ t ∧ t < 65536) ∧ t ≠ 23520 ∧ t ≠ 60240) ∧ Aside0 (Below w.heap.size w wc) ∧ Aside0 (Kd.C k23 wc A l.length l) ∧ Aside0 (∀ a, A = some a → a.block < wc.heap.size))
  case first => as_aux_lemma =>
    by_cases c : t0 = 23520 ∨ t0 = 60240
    · rw [decide_eq_true c]
      clear c
      go_wp2
      go_meet
      case rel => exact ⟨_, rfl, ⟨by omega⟩, ⟨(by repeat (first | (with_reducible first | exact HB.out | apply below_alloc | apply pw_below_drewN | apply below_drew1) | exact HB.out))⟩, ⟨(by repeat (first | exact CL.out | (with_reducible refine Kd.C_alloc ?_ _) | (with_reducible refine Kd.C_drewN ?_ _) | (with_reducible refine Kd.C_drew ?_)))⟩, LT⟩
    · rw [decide_eq_false c]
      go_wp2
      go_meet
      case rel => exact ⟨_, rfl, ⟨by have := HT0.out; omega⟩, ⟨(by repeat (first | (with_reducible first | exact HB.out | apply below_alloc | apply pw_below_drewN | apply below_drew1) | exact HB.out))⟩, ⟨(by repeat (first | exact CL.out | (with_reducible refine Kd.C_alloc ?_ _) | (with_reducible refine Kd.C_drewN ?_ _) | (with_reducible refine Kd.C_drew ?_)))⟩, LT⟩
  obtain ⟨t, rfl, HT, HB', CL', LT'⟩ := hcut
  clear HB CL LT HT0
  have HB := HB'
  have CL := CL'
  have LT := LT'
  clear HB' CL' LT'
  have hBad : BadH lim n t te want := ⟨HNT.out.1, HT.out.1, HT.out.2.1, HT.out.2.2, HNT.out.2⟩
  have hn := HNT.out.1
  have ht := HT.out.1
  obtain ⟨z0, e_z0⟩ : ∃ x, x = n / 65536 := ⟨_, rfl⟩
  have b_z0 : 0 ≤ z0 ∧ z0 ≤ 0 := by omega
  have f_z00 : n.tdiv 65536 = z0 := by rw [quoQ _ _ (by omega), e_z0]
  have u_z0 : IntKind.u8.wrap z0 = z0 := u8f _ (by omega) (by omega)
  have w_z0 : wrap64 z0 = z0 := by unfold wrap64; omega
  obtain ⟨q1, e_q1⟩ : ∃ x, x = n / 256 := ⟨_, rfl⟩
  have b_q1 : 0 ≤ q1 ∧ q1 ≤ 7 := by omega
  have f_q10 : n.tdiv 256 = q1 := by rw [quoQ _ _ (by omega), e_q1]
  have w_q1 : wrap64 q1 = q1 := by unfold wrap64; omega
  obtain ⟨r1, e_r1⟩ : ∃ x, x = q1 % 256 := ⟨_, rfl⟩
  have b_r1 : 0 ≤ r1 ∧ r1 ≤ 255 := by omega
  have f_r10 : q1.tmod 256 = r1 := by rw [remQ _ _ (by omega), e_r1]
  have u_r1 : IntKind.u8.wrap r1 = r1 := u8f _ (by omega) (by omega)
  obtain ⟨r2, e_r2⟩ : ∃ x, x = n % 256 := ⟨_, rfl⟩
  have b_r2 : 0 ≤ r2 ∧ r2 ≤ 255 := by omega
  have f_r20 : n.tmod 256 = r2 := by rw [remQ _ _ (by omega), e_r2]
  have u_r2 : IntKind.u8.wrap r2 = r2 := u8f _ (by omega) (by omega)
  obtain ⟨q3, e_q3⟩ : ∃ x, x = t / 256 := ⟨_, rfl⟩
  have b_q3 : 0 ≤ q3 ∧ q3 ≤ 255 := by omega
  have f_q30 : t.tdiv 256 = q3 := by rw [quoQ _ _ (by omega), e_q3]
  have u_q3 : IntKind.u8.wrap q3 = q3 := u8f _ (by omega) (by omega)
  have w_q3 : wrap64 q3 = q3 := by unfold wrap64; omega
  obtain ⟨r3, e_r3⟩ : ∃ x, x = t % 256 := ⟨_, rfl⟩
  have b_r3 : 0 ≤ r3 ∧ r3 ≤ 255 := by omega
  have f_r30 : t.tmod 256 = r3 := by rw [remQ _ _ (by omega), e_r3]
  have u_r3 : IntKind.u8.wrap r3 = r3 := u8f _ (by omega) (by omega)
  obtain ⟨e1, e_e1⟩ : ∃ x, x = te - 1 := ⟨_, rfl⟩
  have b_e1 : 3 ≤ e1 ∧ e1 ≤ 5 := by have := HNT.out.2; omega
  have f_e10 : wrap64 (te - 1) = e1 := by unfold wrap64; omega
  have f_e11 : IntKind.i64.wrap (te - 1) = e1 := by rw [IntKind.wrap_i64]; omega
  obtain ⟨y, hy⟩ : ∃ x, x = ([0, z0, r1, r2, q3, r3] : List Int) := ⟨_, rfl⟩
  have hyh : y = headL n t := by rw [hy]; unfold headL; rw [show z0 = 0 by omega, show r1 = n / 256 by omega, e_r2, e_q3, e_r3]
  have HY := Aside0.mk hy
  have hrg := headL_range hBad
  have hlh : (headL n t).length = 6 := rfl
  obtain ⟨k, hk⟩ : ∃ k : Nat, (k : Int) = e1 := ⟨e1.toNat, by omega⟩
  have hkt : e1.toNat = k := by omega
  have hk6 : k ≤ 6 := by omega
  have hkte : (k : Int) = te - 1 := by omega
  obtain ⟨hs, hhs⟩ : ∃ x, x = strOfNums y := ⟨_, rfl⟩
  have HHS := Aside0.mk hhs
  have hh : hs = strOfNums (headL n t) := by rw [hhs, hyh]
  have hhz : hs.size = 6 := by rw [hh, strOf_size, hlh]
  have x0 : 0 ≤ e1 := by omega
  have x1 : e1 ≤ (hs.size : Int) := by omega
  have x0b := eq_true x0
  have x1b := eq_true x1
  have hsz : s.size = (streamB l).length := by rw [HSV.out, strOf_size]
  have hsz2 : s.size ≤ 12240 := by have h1 := HSL.out; have h2 := HLL.out; omega
  obtain ⟨X1, hX1⟩ : ∃ x, hs.extract 0 e1.toNat = x := ⟨_, rfl⟩
  have hX1b : X1 = strOfNums ((headL n t).take k) := by rw [← hX1, hh, strOf_cut, hkt, List.drop_zero, Nat.sub_zero]
  obtain ⟨X2, hX2⟩ : ∃ x, hs.extract e1.toNat hs.size = x := ⟨_, rfl⟩
  have hX2b : X2 = strOfNums ((headL n t).drop k) := by rw [← hX2, hhz, hh, strOf_cut, hkt, List.take_of_length_le (by rw [List.length_drop, hlh]; exact Nat.le_refl _)]
  have hX1z : X1.size = k := by rw [hX1b, strOf_size, List.length_take, hlh]; omega
  have hX2z : X2.size = 6 - k := by rw [hX2b, strOf_size, List.length_drop, hlh]
  have h3 := H3.out
  obtain ⟨S1, hS1⟩ : ∃ x, s ++ X1 = x := ⟨_, rfl⟩
  obtain ⟨S2, hS2⟩ : ∃ x, X2 ++ a3 = x := ⟨_, rfl⟩
  obtain ⟨S3a, hS3a⟩ : ∃ x, s ++ hs = x := ⟨_, rfl⟩
  obtain ⟨S3, hS3⟩ : ∃ x, S3a ++ a3 = x := ⟨_, rfl⟩
  have rT : ∀ b ∈ (headL n t).take k, 0 ≤ b ∧ b < 256 := fun b hb => hrg b (List.mem_of_mem_take hb)
  have rD : ∀ b ∈ (headL n t).drop k, 0 ≤ b ∧ b < 256 := fun b hb => hrg b (List.mem_of_mem_drop hb)
  have bS1 : bytesOf S1 = streamB l ++ (headL n t).take k := by
    rw [← hS1, HSV.out, hX1b, strOf_app]
    exact bytes_strOf _ (fun b hb => by rcases List.mem_append.1 hb with h | h; exact HSR.out b h; exact rT b h)
  have bS2 : bytesOf S2 = (headL n t).drop k ++ bytesOf a3 := by
    rw [← hS2, hX2b]
    conv => lhs; rw [← strOf_bytes a3]
    rw [strOf_app]
    exact bytes_strOf _ (fun b hb => by rcases List.mem_append.1 hb with h | h; exact rD b h; exact bytes_range _ b h)
  have bS3 : bytesOf S3 = streamB l ++ (headL n t ++ bytesOf a3) := by
    rw [← hS3, ← hS3a, HSV.out, hh]
    conv => lhs; rw [← strOf_bytes a3]
    rw [strOf_app, strOf_app, List.append_assoc]
    exact bytes_strOf _ (fun b hb => by
      rcases List.mem_append.1 hb with h | h
      · exact HSR.out b h
      · rcases List.mem_append.1 h with h | h
        · exact hrg b h
        · exact bytes_range _ b h)
  have zS1 : S1.size = s.size + k := by rw [← hS1, ByteArray.size_append, hX1z]
  have zS2 : S2.size = 6 - k + a3.size := by rw [← hS2, ByteArray.size_append, hX2z]
  have zS3a : S3a.size = s.size + 6 := by rw [← hS3a, ByteArray.size_append, hhz]
  have zS3 : S3.size = s.size + 6 + a3.size := by rw [← hS3, ByteArray.size_append, zS3a]
  have q1_ : s.size + X1.size ≤ 9223372036854775807 := by omega
  have q2_ : X2.size + a3.size ≤ 9223372036854775807 := by omega
  have q3_ : s.size + hs.size ≤ 9223372036854775807 := by omega
  have q4_ : S3a.size + a3.size ≤ 9223372036854775807 := by omega
  have q1_t := eq_true q1_
  have q1_d := decide_eq_true q1_
  have q1_f := eq_false (Nat.not_lt.2 q1_)
  have q2_t := eq_true q2_
  have q2_d := decide_eq_true q2_
  have q2_f := eq_false (Nat.not_lt.2 q2_)
  have q3_t := eq_true q3_
  have q3_d := decide_eq_true q3_
  have q3_f := eq_false (Nat.not_lt.2 q3_)
  have q4_t := eq_true q4_
  have q4_d := decide_eq_true q4_
  have q4_f := eq_false (Nat.not_lt.2 q4_)
  have hP := look_part hBad HM.out.1 k hkte
  have hF1 := feed_first hBad l HGL.out HM.out.1 k hkte (by rw [List.length_append]; have h1 := HSL.out; omega)
  have hF2 := feed_second hBad HM.out.1 (bytesOf a3)
  have hLB := look_bad hBad HM.out.1 (bytesOf a3)
  have hall := parcelsF_all lim l (headL n t ++ bytesOf a3) HGL.out hLB.1 S3.size (by have h1 := HSL.out; omega)
  rw [← bS3] at hall
  rw [← bS1] at hF1
  have hcat : (headL n t).take k ++ bytesOf S2 = headL n t ++ bytesOf a3 := by rw [bS2, ← List.append_assoc, List.take_append_drop]
  rw [← hcat] at hF2
  obtain ⟨P1, hP1⟩ : ∃ x, x = (headL n t).take k := ⟨_, rfl⟩
  rw [← hP1] at hP hF1 hF2 rT
  obtain ⟨nd, hnd⟩ : ∃ x, needF 0 P1 = x := ⟨_, rfl⟩
  have d_nd : decide (nd < 1) = false := decide_eq_false (by have := hP.2.1; omega)
  have hLN : l.length < 1000000000000 := by have := HLL.out; omega
  have T98 := Aside0.mk (first_val w lim S1 l P1 hF1.1 hF1.2.1 hF1.2.2 (by omega) hLN)
  have T112 := Aside0.mk (fun W base g bb => held_val W base g bb P1 lim 0 e1 (by rw [hP.2.2]; exact hk))
  have T119 := Aside0.mk (fun W base g bb => need_val W base g bb P1 lim 0 nd hnd rT (by rw [hP.2.2]; omega))
  have T131 := Aside0.mk (second_val w lim want S2 P1 hF2.1 hF2.2.1 hF2.2.2 rT (by rw [hP.2.2]; omega))
  have hw0 : want ≠ 0 := by rcases HNT.out.2 with h | h <;> omega
  have T145 := Aside0.mk (fun W base g bb => held_val W base g bb [] lim want 0 rfl)
  have T150 := Aside0.mk (fun W base g bb => need_val W base g bb [] lim want 0 (by unfold needF; rw [if_pos hw0]) (fun b hb => by cases hb) (by decide))
  have T156 := Aside0.mk (fun W base g bb => ref_val W base g bb [] lim want A4 l4.length c4 hw0)
  have T185 := Aside0.mk (fun W => split_val W lim want S3 l (headL n t ++ bytesOf a3) (s.size : Int) hall hLB.2 (by rw [List.length_append, bytesOf_length, hlh, zS3]; omega) (by omega) hLN)
  have T103 := Aside0.mk (sameS_self l (by omega))
  have eqw : (want != want) = false := bne_self_eq_false _
  have eqs : ((s.size : Int) == (s.size : Int)) = true := beq_self_eq_true _
  have eqw2 : (want == want) = true := beq_self_eq_true _
  have eqe : (e1 != e1) = false := bne_self_eq_false _
  have kb := fun W => print_bytes (P := Try.prog) 9 45 5 Try.underlying9 Try.underlying45 Try.underlying5 S1 W
  have kb2 := fun W => print_bytes (P := Try.prog) 9 45 5 Try.underlying9 Try.underlying45 Try.underlying5 S2 W
  clear hBad hy hyh hrg hlh hk hkt hk6 hkte hhs hh hhz x0 x1 hsz hsz2 hX1b hX2b hX1z hX2z h3 rT rD bS1 bS2 bS3 zS1 zS2 zS3a zS3 q1_ q2_ q3_ q4_ hP hF1 hF2 hLB hall hcat hP1 hnd hLN hw0 hn ht
  clear b_z0 b_q1 b_r1 b_r2 b_q3 b_r3 b_e1 e_z0 e_q1 e_r1 e_r2 e_q3 e_r3 e_e1
  have tk83 : Aside0 True := ⟨trivial⟩
  go_wp2_with (first | ((with_reducible refine gate_dst (N := 83) rfl ?_); clear tk83; have tk86 : Aside0 True := ⟨trivial⟩; refine Kd.R_lit (Kd.int .u8) _ 5 ?hg (N := 83) ?hd (xs := ([0, z0, r1, r2, q3, r3] : List Int)) (inner := [.int .u8 0, .int .u8 z0, .int .u8 r1, .int .u8 r2, .int .u8 q3, .int .u8 r3]) (ok := fun _ => True) (okp := fun _ => True) ?hr ?hp (fun _ hk => hk) trivial (Below.refl _ _) (Nat.le_refl _) (by simp) ?_; (case hd => rfl); (case hg => rfl); (case hr => first | (go_simp; done) | (go_simp; rfl)); (case hp => exact (Reps.one (show Kd.M (Kd.int .u8) _ _ _ 0 [.int .u8 0] from rfl) (Reps.one (show Kd.M (Kd.int .u8) _ _ _ z0 [.int .u8 z0] from rfl) (Reps.one (show Kd.M (Kd.int .u8) _ _ _ r1 [.int .u8 r1] from rfl) (Reps.one (show Kd.M (Kd.int .u8) _ _ _ r2 [.int .u8 r2] from rfl) (Reps.one (show Kd.M (Kd.int .u8) _ _ _ q3 [.int .u8 q3] from rfl) (Reps.one (show Kd.M (Kd.int .u8) _ _ _ r3 [.int .u8 r3] from rfl) (Reps.none _ _)))))))); intro v83 w_83 ho_ hb_ hg_ hnew_; clear hg_ hnew_; rw [← HY.out] at ho_; have n0_ := Aside0.mk (below_step (by repeat (first | (with_reducible first | exact HB.out | apply below_alloc | apply pw_below_drewN | apply below_drew1) | exact HB.out)) hb_); clear HB; have HB := n0_; clear n0_; have n1_ := Aside0.mk (Kd.C_below (by repeat (first | exact CL.out | (with_reducible refine Kd.C_alloc ?_ _) | (with_reducible refine Kd.C_drewN ?_ _) | (with_reducible refine Kd.C_drew ?_))) hb_); have n2_ := Aside0.mk (show ∀ a, A = some a → a.block < w_83.heap.size from fun a ha => Nat.lt_of_lt_of_le (LT.out a ha) hb_.size); clear CL LT; have CL := n1_; have LT := n2_; clear n1_ n2_ hb_; have hcv83 := own_string (P := Try.prog) Try.underlying45 Try.underlying5 Try.underlying9 (Kd.own_of_R ho_); rw [← HHS.out] at hcv83; clear ho_) | (go_at_call 15; clear tk86; have tk98 : Aside0 True := ⟨trivial⟩; (with_reducible refine (frame_New2.calls _ lim).mono ?_); rintro e_ w_86 ⟨g, rfl, hg_, hG_, hb_⟩; have GE := Aside0.mk (show w.heap.size ≤ g from hg_ ▸ (below_size (by repeat (first | (with_reducible first | exact HB.out | apply below_alloc | apply pw_below_drewN | apply below_drew1) | exact HB.out)))); have LG := Aside0.mk (show ∀ a, A = some a → a.block < g from fun a ha => hg_ ▸ LT.out a ha); have n0_ := Aside0.mk (below_step (by repeat (first | (with_reducible first | exact HB.out | apply below_alloc | apply pw_below_drewN | apply below_drew1) | exact HB.out)) hb_); clear HB; have HB := n0_; clear n0_; have n1_ := Aside0.mk (Kd.C_below (by repeat (first | exact CL.out | (with_reducible refine Kd.C_alloc ?_ _) | (with_reducible refine Kd.C_drewN ?_ _) | (with_reducible refine Kd.C_drew ?_))) hb_); clear CL LT; have CL := n1_; have HG := Aside0.mk hG_; clear n1_ hb_ hg_ hG_) | (go_at_call 18; clear tk98; have tk103 : Aside0 True := ⟨trivial⟩; (with_reducible refine (T98.out _ g HG.out HB.out GE.out).mono ?_); rintro e_ w_98 ⟨v_, bb1, rfl, ho_, hf_, hbb_, hb_, hk_⟩; have hgl_ := blk_lt HG.out; have BG := Aside0.mk (show g < bb1 from Nat.lt_of_lt_of_le hgl_ hbb_); have n1_ := Aside0.mk (C23_same (by repeat (first | exact CL.out | (with_reducible refine Kd.C_alloc ?_ _) | (with_reducible refine Kd.C_drewN ?_ _) | (with_reducible refine Kd.C_drew ?_))) (fun a ha => hk_.2 a.block (Nat.lt_trans (LG.out a ha) hgl_) (Nat.ne_of_lt (LG.out a ha)))); clear CL; have CL := n1_; clear n1_; clear HB HG; have HB := Aside0.mk hb_; have HF := Aside0.mk hf_; obtain ⟨Am1, cm1, rfl⟩ := Kd.R_slice ho_; have CM1 := Aside0.mk (Kd.R_reads' ho_).2.2; have YM1 := Aside0.mk (Kd.R_reads' ho_).2.1; clear ho_ hf_ hbb_ hb_ hk_ hgl_ kb) | (go_at_call 9; clear tk103; have tk107 : Aside0 True := ⟨trivial⟩; (with_reducible refine (stencillaw24_same.calls _ Am1 cm1 l A c l true _ (by repeat (first | exact CM1.out | (with_reducible refine Kd.C_alloc ?_ _) | (with_reducible refine Kd.C_drewN ?_ _) | (with_reducible refine Kd.C_drew ?_))) YM1.out (by repeat (first | exact CL.out | (with_reducible refine Kd.C_alloc ?_ _) | (with_reducible refine Kd.C_drewN ?_ _) | (with_reducible refine Kd.C_drew ?_))) YL.out T103.out).mono ?_); rintro e_ w_103 ⟨rfl, ⟨m103, rfl⟩⟩) | (go_at_call 10; clear tk107; have tk112 : Aside0 True := ⟨trivial⟩; (with_reducible refine (stencillaw24_num.calls 0 0 _ rfl).mono ?_); rintro e_ w_107 ⟨rfl, ⟨m107, rfl⟩⟩) | (go_at_call 19; clear tk112; have tk119 : Aside0 True := ⟨trivial⟩; (with_reducible refine (T112.out _ _ g bb1 (by repeat (first | exact HF.out | apply FrO.drewN | apply FrO.drew))).mono ?_); rintro e_ w_112 ⟨rfl, ⟨m112, rfl⟩⟩) | (go_at_call 21; clear tk119; have tk131 : Aside0 True := ⟨trivial⟩; (with_reducible refine (T119.out _ _ g bb1 (by repeat (first | exact HF.out | apply FrO.drewN | apply FrO.drew))).mono ?_); rintro e_ w_119 ⟨rfl, ⟨m119, rfl⟩⟩) | (go_at_call 18; clear tk131; have tk139 : Aside0 True := ⟨trivial⟩; (with_reducible refine (T131.out _ g bb1 _ (by with_unfolding_all exact rfl) (by repeat (first | exact HF.out | apply FrO.drewN | apply FrO.drew)) (by repeat (first | (with_reducible first | exact HB.out | apply below_alloc | apply pw_below_drewN | apply below_drew1) | exact HB.out)) GE.out).mono ?_); rintro e_ w_131 ⟨v_, bb2, rfl, ho_, hf_, hbb_, hb_, hk_⟩; have hgl_ := blk_lt (HF.out.choose_spec.1); have n1_ := Aside0.mk (C23_same (by repeat (first | exact CL.out | (with_reducible refine Kd.C_alloc ?_ _) | (with_reducible refine Kd.C_drewN ?_ _) | (with_reducible refine Kd.C_drew ?_))) (fun a ha => hk_.2 a.block (Nat.lt_trans (LG.out a ha) hgl_) (fun h => by rcases h with h | h; exact Nat.ne_of_lt (LG.out a ha) h; exact Nat.ne_of_lt (Nat.lt_trans (LG.out a ha) BG.out) h))); clear CL; have CL := n1_; clear n1_; clear HB HF; have HB := Aside0.mk hb_; have HF := Aside0.mk hf_; obtain ⟨Am2, cm2, rfl⟩ := Kd.R_slice ho_; have CM2 := Aside0.mk (Kd.R_reads' ho_).2.2; have YM2 := Aside0.mk (Kd.R_reads' ho_).2.1; clear ho_ hf_ hbb_ hb_ hk_ hgl_ kb2 CM1 YM1 BG) | (go_at_call 10; clear tk139; have tk145 : Aside0 True := ⟨trivial⟩; (with_reducible refine (stencillaw24_num.calls want want _ rfl).mono ?_); rintro e_ w_139 ⟨rfl, ⟨m139, rfl⟩⟩) | (go_at_call 19; clear tk145; have tk150 : Aside0 True := ⟨trivial⟩; (with_reducible refine (T145.out _ _ g bb2 (by repeat (first | exact HF.out | apply FrO.drewN | apply FrO.drew))).mono ?_); rintro e_ w_145 ⟨rfl, ⟨m145, rfl⟩⟩) | (go_at_call 21; clear tk150; have tk156 : Aside0 True := ⟨trivial⟩; (with_reducible refine (T150.out _ _ g bb2 (by repeat (first | exact HF.out | apply FrO.drewN | apply FrO.drew))).mono ?_); rintro e_ w_150 ⟨rfl, ⟨m150, rfl⟩⟩) | (go_at_call 18; clear tk156; have tk164 : Aside0 True := ⟨trivial⟩; (with_reducible refine (T156.out _ _ g bb2 (by repeat (first | exact HF.out | apply FrO.drewN | apply FrO.drew))).mono ?_); rintro e_ w_156 ⟨rfl, hb_⟩; have n3_ := Aside0.mk (FrO.below (by repeat (first | exact HF.out | apply FrO.drewN | apply FrO.drew)) hb_); have n0_ := Aside0.mk (below_step (by repeat (first | (with_reducible first | exact HB.out | apply below_alloc | apply pw_below_drewN | apply below_drew1) | exact HB.out)) hb_); clear HB; have HB := n0_; clear n0_; have n1_ := Aside0.mk (Kd.C_below (by repeat (first | exact CL.out | (with_reducible refine Kd.C_alloc ?_ _) | (with_reducible refine Kd.C_drewN ?_ _) | (with_reducible refine Kd.C_drew ?_))) hb_); clear CL HF; have CL := n1_; have HF := n3_; clear n1_ n3_ hb_) | (go_at_call 10; clear tk164; have tk170 : Aside0 True := ⟨trivial⟩; (with_reducible refine (stencillaw24_num.calls want want _ rfl).mono ?_); rintro e_ w_164 ⟨rfl, ⟨m164, rfl⟩⟩) | (go_at_call 19; clear tk170; have tk175 : Aside0 True := ⟨trivial⟩; (with_reducible refine (T145.out _ _ g bb2 (by repeat (first | exact HF.out | apply FrO.drewN | apply FrO.drew))).mono ?_); rintro e_ w_170 ⟨rfl, ⟨m170, rfl⟩⟩) | (go_at_call 21; clear tk175; have tk185 : Aside0 True := ⟨trivial⟩; (with_reducible refine (T150.out _ _ g bb2 (by repeat (first | exact HF.out | apply FrO.drewN | apply FrO.drew))).mono ?_); rintro e_ w_175 ⟨rfl, ⟨m175, rfl⟩⟩) | (go_at_call 7; clear tk185; have tk191 : Aside0 True := ⟨trivial⟩; (with_reducible refine (T185.out _).mono ?_); rintro e_ w_185 ⟨v_, rfl, ho_, hb_⟩; have n0_ := Aside0.mk (below_step (by repeat (first | (with_reducible first | exact HB.out | apply below_alloc | apply pw_below_drewN | apply below_drew1) | exact HB.out)) hb_); clear HB; have HB := n0_; clear n0_; have n1_ := Aside0.mk (Kd.C_below (by repeat (first | exact CL.out | (with_reducible refine Kd.C_alloc ?_ _) | (with_reducible refine Kd.C_drewN ?_ _) | (with_reducible refine Kd.C_drew ?_))) hb_); clear CL; have CL := n1_; clear n1_ hb_; obtain ⟨Am3, cm3, rfl⟩ := Kd.R_slice ho_; have CM3 := Aside0.mk (Kd.R_reads' ho_).2.2; have YM3 := Aside0.mk (Kd.R_reads' ho_).2.1; clear ho_) | (go_at_call 9; clear tk191; have tk200 : Aside0 True := ⟨trivial⟩; (with_reducible refine (stencillaw24_same.calls _ Am3 cm3 l A c l true _ (by repeat (first | exact CM3.out | (with_reducible refine Kd.C_alloc ?_ _) | (with_reducible refine Kd.C_drewN ?_ _) | (with_reducible refine Kd.C_drew ?_))) YM3.out (by repeat (first | exact CL.out | (with_reducible refine Kd.C_alloc ?_ _) | (with_reducible refine Kd.C_drewN ?_ _) | (with_reducible refine Kd.C_drew ?_))) YL.out T103.out).mono ?_); rintro e_ w_191 ⟨rfl, ⟨m191, rfl⟩⟩) | (go_at_call 10; clear tk200; (with_reducible refine (stencillaw24_num.calls want want _ rfl).mono ?_); rintro e_ w_200 ⟨rfl, ⟨m200, rfl⟩⟩))
  go_ret
  exact ⟨by first | rfl | simp, (by repeat (first | (with_reducible first | exact HB.out | apply below_alloc | apply pw_below_drewN | apply below_drew1) | exact HB.out))⟩
theorem FrameEnds_pure (l0 : List S23) (a1 a2 : Int) (a3 : ByteArray) (l4 : List Int) (h1 : (Lit.int .i64 a1).wf = true) (h2 : (Lit.int .i64 a2).wf = true) (h3 : a3.size ≤ 140737488351232) (h4 : l4.length ≤ 140737488351232) : stencillaw24_FrameEnds.f l0 a1 a2 a3 l4 = some true := by
  have z1 : IntKind.i64.min ≤ a1 ∧ a1 ≤ IntKind.i64.max := by simpa [Lit.wf] using h1
  have z2 : IntKind.i64.min ≤ a2 ∧ a2 ≤ IntKind.i64.max := by simpa [Lit.wf] using h2
  have e1 : IntKind.i64.min = -9223372036854775808 := by decide
  have e2 : IntKind.i64.max = 9223372036854775807 := by decide
  rw [e1, e2] at z1 z2
  unfold stencillaw24_FrameEnds.f
  rw [if_pos ⟨z1, z2, h3, h4⟩]

end Go.Proofs.Ytkchnocliilapaa.Q
