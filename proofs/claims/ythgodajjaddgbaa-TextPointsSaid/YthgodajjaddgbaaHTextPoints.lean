/- The walk of TextPoints (layer 2), by hand; written by gen_points.py. -/
import Derived.Test.YthgodajjaddgbaaPx0
import Derived.Test.YthgodajjaddgbaaPx3
import Derived.Test.YthgodajjaddgbaaHPoints
import Derived.IntWalk
import Derived.Laws.Small
namespace Go.Proofs.Ythgodajjaddgbaa.P
open Go.RowKit Go.Proofs.YthgodajjaddgbaaW.PrintWords Go.Proofs.YthgodajjaddgbaaW.PrintLast Go.Proofs.YthgodajjaddgbaaW.PrintMore
attribute [local go_sem] max2_int min2_int max_two min_two max_three min_three max_four min_four   -- for this text's walks alone
set_option linter.unusedVariables false
set_option linter.unusedSimpArgs false

def stencillaw02_TextPoints.f (a0 a1 : Int) : Option Bool := if (-9223372036854775808 ≤ a0 ∧ a0 ≤ 9223372036854775807) ∧ -9223372036854775808 ≤ a1 ∧ a1 ≤ 9223372036854775807 then some true else none
theorem quoQ (n m : Int) (h : 0 ≤ n) : n.tdiv m = n / m := Int.tdiv_eq_ediv_of_nonneg h
theorem remQ (n m : Int) (h : 0 ≤ n) : n.tmod m = n % m := Int.tmod_eq_emod_of_nonneg h
def padV (k : Nat) : List Int := [97, 98, 99, 100, 101, 102, 103].take k
theorem padV_some (k : Nat) (hk : k < 8) : (⟨#[97, 98, 99, 100, 101, 102, 103]⟩ : ByteArray).extract 0 k = strOfNums (padV k) ∧ (padV k).length = k ∧ ∀ x ∈ padV k, 32 ≤ x ∧ x < 128 := by
  have : k = 0 ∨ k = 1 ∨ k = 2 ∨ k = 3 ∨ k = 4 ∨ k = 5 ∨ k = 6 ∨ k = 7 := by omega
  rcases this with h | h | h | h | h | h | h | h <;> subst h <;> exact ⟨rfl, rfl, by decide⟩
theorem u8i (x : Int) (h0 : 0 ≤ x) (h1 : x ≤ 255) : IntKind.u8.wrap x = x := by rw [IntKind.wrap_u8]; omega
/-- The three arrays. -/
def BKS (g6 g7 g8 : Nat) (y0 y1 y2 y3 : List Int) (w : World) : Prop :=
  w.heap[g6]? = some (.cells #[.string (strOfNums y0), .string (strOfNums y1), .string (strOfNums y2), .string (strOfNums y3)] 26 (0, 0)) ∧
  w.heap[g7]? = some (.cells #[.int .i64 0, .int .i64 128, .int .i64 2048, .int .i64 65536] 27 (0, 0)) ∧
  w.heap[g8]? = some (.cells #[.int .i64 127, .int .i64 2047, .int .i64 65535, .int .i64 1114111] 27 (0, 0))
theorem BKS_drewN {g6 g7 g8 : Nat} {y0 y1 y2 y3 : List Int} {w : World} (h : BKS g6 g7 g8 y0 y1 y2 y3 w) (n : Nat) : BKS g6 g7 g8 y0 y1 y2 y3 (w.drewN n) := h
theorem BKS_drew {g6 g7 g8 : Nat} {y0 y1 y2 y3 : List Int} {w : World} (h : BKS g6 g7 g8 y0 y1 y2 y3 w) : BKS g6 g7 g8 y0 y1 y2 y3 w.drew := h
theorem BKS_below {g6 g7 g8 : Nat} {y0 y1 y2 y3 : List Int} {w w1 : World} (h : BKS g6 g7 g8 y0 y1 y2 y3 w) (hb : Below w.heap.size w w1) : BKS g6 g7 g8 y0 y1 y2 y3 w1 := ⟨blk_below h.1 hb, blk_below h.2.1 hb, blk_below h.2.2 hb⟩
def xmlL (n : Int) : Bool := decide (n = 9 ∨ n = 10 ∨ n = 13 ∨ (32 ≤ n ∧ n ≠ 65534 ∧ n ≠ 65535))
theorem xml_same (k : Nat) (n : Int) (h0 : 0 ≤ n) (h1 : n ≤ 1114111) (hg : goodV k n = true) : xmlN n = xmlL n := by
  unfold goodV at hg
  have := of_decide_eq_true hg
  unfold xmlN xmlL
  rw [Bool.eq_iff_iff, decide_eq_true_iff, decide_eq_true_iff]; omega
theorem bks_start (g6 : Nat) (y0 y1 y2 y3 : List Int) (w : World) (h : w.heap[g6]? = some (.cells #[.string ⟨#[]⟩, .string ⟨#[]⟩, .string ⟨#[]⟩, .string ⟨#[]⟩] 26 (0, 0))) :
    BKS g6 w.heap.size (w.heap.size + 1) y0 y1 y2 y3 ((((((w.setCell ⟨g6, 0, none⟩ (.string (strOfNums y0))).setCell ⟨g6, 1, none⟩ (.string (strOfNums y1))).setCell ⟨g6, 2, none⟩ (.string (strOfNums y2))).setCell ⟨g6, 3, none⟩ (.string (strOfNums y3))).alloc (.cells #[.int .i64 0, .int .i64 128, .int .i64 2048, .int .i64 65536] 27 (0, 0))).alloc (.cells #[.int .i64 127, .int .i64 2047, .int .i64 65535, .int .i64 1114111] 27 (0, 0))) := by
  have a := blk_set (blk_set (blk_set (blk_set h 0 (.string (strOfNums y0))) 1 (.string (strOfNums y1))) 2 (.string (strOfNums y2))) 3 (.string (strOfNums y3))
  have hs : ((((w.setCell ⟨g6, 0, none⟩ (.string (strOfNums y0))).setCell ⟨g6, 1, none⟩ (.string (strOfNums y1))).setCell ⟨g6, 2, none⟩ (.string (strOfNums y2))).setCell ⟨g6, 3, none⟩ (.string (strOfNums y3))).heap.size = w.heap.size := by simp [World.setCell]
  generalize ((((w.setCell ⟨g6, 0, none⟩ (.string (strOfNums y0))).setCell ⟨g6, 1, none⟩ (.string (strOfNums y1))).setCell ⟨g6, 2, none⟩ (.string (strOfNums y2))).setCell ⟨g6, 3, none⟩ (.string (strOfNums y3))) = w2 at *
  have b := blk_new w2 (.cells #[.int .i64 0, .int .i64 128, .int .i64 2048, .int .i64 65536] 27 (0, 0))
  have c := blk_new (w2.alloc (.cells #[.int .i64 0, .int .i64 128, .int .i64 2048, .int .i64 65536] 27 (0, 0))) (.cells #[.int .i64 127, .int .i64 2047, .int .i64 65535, .int .i64 1114111] 27 (0, 0))
  have sz : (w2.alloc (.cells #[.int .i64 0, .int .i64 128, .int .i64 2048, .int .i64 65536] 27 (0, 0))).heap.size = w2.heap.size + 1 := by show (w2.heap.push _).size = _; exact Array.size_push _
  rw [sz, hs] at c
  rw [hs] at b
  exact ⟨blk_alloc (blk_alloc (by exact a) _) _, blk_alloc b _, c⟩
theorem cat_size (p q : List Int) (hp : p.length < 8) (hq : q.length < 8) : (strOfNums p).size + (strOfNums q).size ≤ 9223372036854775807 ∧ (strOfNums p ++ strOfNums q).size + 1 ≤ 9223372036854775807 ∧ (strOfNums p).size + (strOfNums q).size + 1 ≤ 9223372036854775807 ∧ (strOfNums p ++ strOfNums q) ++ (⟨#[122]⟩ : ByteArray) = strOfNums (p ++ q ++ [122]) := by
  refine ⟨by rw [B_size, B_size]; omega, by rw [B_app, B_size, List.length_append]; omega, by rw [B_size, B_size]; omega, ?_⟩
  rw [B_app, ← B_app (p ++ q) [122]]; rfl
set_option maxHeartbeats 8000000 in
set_option maxRecDepth 100000 in
theorem stencillaw02_TextPoints.calls (a0 a1 : Int) (r : Bool) (w : World) (h : stencillaw02_TextPoints.f a0 a1 = some r) :
    Calls Try.prog 4 #[.int .i64 a0, .int .i64 a1] w fun e w' => e = .returned (.bool r) ∧ Below w.heap.size w w' := by
  unfold stencillaw02_TextPoints.f at h
  split at h
  case isFalse => cases h
  rename_i hh
  obtain ⟨h0, h1⟩ := hh
  obtain rfl := Option.some.inj h
  clear h
  have H0 := Aside0.mk h0
  have H1 := Aside0.mk h1
  clear h0 h1
  have HB := Aside0.mk (Below.refl w.heap.size w)
  go_enter Try.func4, Try.ntmps4
  go_upto_if 18 with (fail)
  go_cut [0] (fun v wc => ∃ n : Int, v = .int .i64 n ∧ Aside0 (0 ≤ n ∧ n ≤ 9223372036854775807) ∧ Aside0 (Below w.heap.size w wc))
  case first => as_aux_lemma =>
    by_cases c : a0 < 0
    · have d_ : decide (a0 < 0) = true := decide_eq_true c
      go_wp2
      go_meet
      case rel => exact ⟨_, rfl, ⟨by have := H0.out; clear d_; (try simp only [i64_w]); unfold wrap64; omega⟩, ⟨(by repeat (first | (with_reducible first | exact HB.out | apply below_alloc | apply pw_below_drewN | apply below_drew1) | exact HB.out))⟩⟩
    · have d_ : decide (a0 < 0) = false := decide_eq_false c
      go_wp2
      go_meet
      case rel => exact ⟨_, rfl, ⟨by have := H0.out; omega⟩, ⟨(by repeat (first | (with_reducible first | exact HB.out | apply below_alloc | apply pw_below_drewN | apply below_drew1) | exact HB.out))⟩⟩
  obtain ⟨n0, rfl, HN0, HB'⟩ := hcut
  clear HB
  have HB := HB'
  clear HB'
  go_upto_region 3 with (fail)
  go_cut [0] (fun v wc => ∃ n : Int, v = .int .i64 n ∧ Aside0 (0 ≤ n ∧ n ≤ 1114111) ∧ Aside0 (Below w.heap.size w wc))
  case first => as_aux_lemma =>
    go_wp2
    go_meet
    case rel => exact ⟨_, rfl, ⟨by have := HN0.out; (try simp only [i64_w]); rw [remQ _ _ this.1]; (try unfold wrap64); omega⟩, ⟨(by repeat (first | (with_reducible first | exact HB.out | apply below_alloc | apply pw_below_drewN | apply below_drew1) | exact HB.out))⟩⟩
  obtain ⟨n, rfl, HN, HB'⟩ := hcut
  clear HB HN0
  have HB := HB'
  clear HB'
  go_upto_if 25 with (fail)
  go_cut [1] (fun v wc => ∃ n : Int, v = .int .i64 n ∧ Aside0 (0 ≤ n ∧ n ≤ 9223372036854775807) ∧ Aside0 (Below w.heap.size w wc))
  case first => as_aux_lemma =>
    by_cases c : a1 < 0
    · have d_ : decide (a1 < 0) = true := decide_eq_true c
      go_wp2
      go_meet
      case rel => exact ⟨_, rfl, ⟨by have := H1.out; clear d_; (try simp only [i64_w]); unfold wrap64; omega⟩, ⟨(by repeat (first | (with_reducible first | exact HB.out | apply below_alloc | apply pw_below_drewN | apply below_drew1) | exact HB.out))⟩⟩
    · have d_ : decide (a1 < 0) = false := decide_eq_false c
      go_wp2
      go_meet
      case rel => exact ⟨_, rfl, ⟨by have := H1.out; omega⟩, ⟨(by repeat (first | (with_reducible first | exact HB.out | apply below_alloc | apply pw_below_drewN | apply below_drew1) | exact HB.out))⟩⟩
  obtain ⟨m0, rfl, HM0, HB'⟩ := hcut
  clear HB
  have HB := HB'
  clear HB'
  go_upto_region 6 with (fail)
  go_cut [5] (fun v wc => ∃ p : List Int, v = .string (strOfNums p) ∧ Aside0 (p.length < 8 ∧ ∀ x ∈ p, 32 ≤ x ∧ x < 128) ∧ Aside0 (Below w.heap.size w wc))
  case first => as_aux_lemma =>
    obtain ⟨m8, hm8⟩ : ∃ m8, m0.tmod 8 = m8 := ⟨_, rfl⟩
    have hm := HM0.out
    have hb8 : 0 ≤ m8 ∧ m8 < 8 := by rw [← hm8, remQ _ _ hm.1]; omega
    have x0 : 0 ≤ m8 := hb8.1
    have x1 : m8 ≤ 7 := by omega
    have x0b := eq_true x0
    have x1b := eq_true x1
    have HPD := Aside0.mk (padV_some m8.toNat (by omega))
    have H8 := Aside0.mk hb8
    clear hm hb8
    go_wp2
    go_meet
    case rel => exact ⟨padV m8.toNat, by first | rfl | rw [HPD.out.1] | (rw [← HPD.out.1]; rfl), ⟨by have := HPD.out; have := H8.out; exact ⟨by omega, HPD.out.2.2⟩⟩, ⟨(by repeat (first | (with_reducible first | exact HB.out | apply below_alloc | apply pw_below_drewN | apply below_drew1) | exact HB.out))⟩⟩
  obtain ⟨p, rfl, HP, HB'⟩ := hcut
  clear HB HM0
  have HB := HB'
  clear HB'
  have hn := HN.out
  obtain ⟨d0, e_d0⟩ : ∃ x, x = n % 128 := ⟨_, rfl⟩
  have b_d0 : 0 ≤ d0 ∧ d0 ≤ 127 := by omega
  have f_d00 : n.tmod 128 = d0 := by rw [remQ _ _ (by omega), e_d0]
  have u_d0 : IntKind.u8.wrap d0 = d0 := u8i _ (by omega) (by omega)
  obtain ⟨q6, e_q6⟩ : ∃ x, x = n / 64 := ⟨_, rfl⟩
  have b_q6 : 0 ≤ q6 ∧ q6 ≤ 17407 := by omega
  have w_q6 : wrap64 q6 = q6 := by unfold wrap64; omega
  have f_q60 : n.tdiv 64 = q6 := by rw [quoQ _ _ (by omega), e_q6]
  obtain ⟨q12, e_q12⟩ : ∃ x, x = n / 4096 := ⟨_, rfl⟩
  have b_q12 : 0 ≤ q12 ∧ q12 ≤ 271 := by omega
  have w_q12 : wrap64 q12 = q12 := by unfold wrap64; omega
  have f_q120 : n.tdiv 4096 = q12 := by rw [quoQ _ _ (by omega), e_q12]
  obtain ⟨q18, e_q18⟩ : ∃ x, x = n / 262144 := ⟨_, rfl⟩
  have b_q18 : 0 ≤ q18 ∧ q18 ≤ 4 := by omega
  have w_q18 : wrap64 q18 = q18 := by unfold wrap64; omega
  have f_q180 : n.tdiv 262144 = q18 := by rw [quoQ _ _ (by omega), e_q18]
  obtain ⟨r0, e_r0⟩ : ∃ x, x = q6 % 32 := ⟨_, rfl⟩
  have b_r0 : 0 ≤ r0 ∧ r0 ≤ 31 := by omega
  have f_r00 : q6.tmod 32 = r0 := by rw [remQ _ _ (by omega), e_r0]
  obtain ⟨s0, e_s0⟩ : ∃ x, x = n % 64 := ⟨_, rfl⟩
  have b_s0 : 0 ≤ s0 ∧ s0 ≤ 63 := by omega
  have f_s00 : n.tmod 64 = s0 := by rw [remQ _ _ (by omega), e_s0]
  obtain ⟨r1, e_r1⟩ : ∃ x, x = q12 % 16 := ⟨_, rfl⟩
  have b_r1 : 0 ≤ r1 ∧ r1 ≤ 15 := by omega
  have f_r10 : q12.tmod 16 = r1 := by rw [remQ _ _ (by omega), e_r1]
  obtain ⟨r2, e_r2⟩ : ∃ x, x = q6 % 64 := ⟨_, rfl⟩
  have b_r2 : 0 ≤ r2 ∧ r2 ≤ 63 := by omega
  have f_r20 : q6.tmod 64 = r2 := by rw [remQ _ _ (by omega), e_r2]
  obtain ⟨r3, e_r3⟩ : ∃ x, x = q12 % 64 := ⟨_, rfl⟩
  have b_r3 : 0 ≤ r3 ∧ r3 ≤ 63 := by omega
  have f_r30 : q12.tmod 64 = r3 := by rw [remQ _ _ (by omega), e_r3]
  obtain ⟨b10, e_b10⟩ : ∃ x, x = 192 + r0 := ⟨_, rfl⟩
  have b_b10 : 192 ≤ b10 ∧ b10 ≤ 223 := by omega
  have f_b100 : wrap64 (192 + r0) = b10 := by unfold wrap64; omega
  have f_b101 : IntKind.i64.wrap (192 + r0) = b10 := by rw [IntKind.wrap_i64]; omega
  have u_b10 : IntKind.u8.wrap b10 = b10 := u8i _ (by omega) (by omega)
  obtain ⟨b11, e_b11⟩ : ∃ x, x = 128 + s0 := ⟨_, rfl⟩
  have b_b11 : 128 ≤ b11 ∧ b11 ≤ 191 := by omega
  have f_b110 : wrap64 (128 + s0) = b11 := by unfold wrap64; omega
  have f_b111 : IntKind.i64.wrap (128 + s0) = b11 := by rw [IntKind.wrap_i64]; omega
  have u_b11 : IntKind.u8.wrap b11 = b11 := u8i _ (by omega) (by omega)
  obtain ⟨b20, e_b20⟩ : ∃ x, x = 224 + r1 := ⟨_, rfl⟩
  have b_b20 : 224 ≤ b20 ∧ b20 ≤ 239 := by omega
  have f_b200 : wrap64 (224 + r1) = b20 := by unfold wrap64; omega
  have f_b201 : IntKind.i64.wrap (224 + r1) = b20 := by rw [IntKind.wrap_i64]; omega
  have u_b20 : IntKind.u8.wrap b20 = b20 := u8i _ (by omega) (by omega)
  obtain ⟨b21, e_b21⟩ : ∃ x, x = 128 + r2 := ⟨_, rfl⟩
  have b_b21 : 128 ≤ b21 ∧ b21 ≤ 191 := by omega
  have f_b210 : wrap64 (128 + r2) = b21 := by unfold wrap64; omega
  have f_b211 : IntKind.i64.wrap (128 + r2) = b21 := by rw [IntKind.wrap_i64]; omega
  have u_b21 : IntKind.u8.wrap b21 = b21 := u8i _ (by omega) (by omega)
  obtain ⟨b30, e_b30⟩ : ∃ x, x = 240 + q18 := ⟨_, rfl⟩
  have b_b30 : 240 ≤ b30 ∧ b30 ≤ 244 := by omega
  have f_b300 : wrap64 (240 + q18) = b30 := by unfold wrap64; omega
  have f_b301 : IntKind.i64.wrap (240 + q18) = b30 := by rw [IntKind.wrap_i64]; omega
  have u_b30 : IntKind.u8.wrap b30 = b30 := u8i _ (by omega) (by omega)
  obtain ⟨b31, e_b31⟩ : ∃ x, x = 128 + r3 := ⟨_, rfl⟩
  have b_b31 : 128 ≤ b31 ∧ b31 ≤ 191 := by omega
  have f_b310 : wrap64 (128 + r3) = b31 := by unfold wrap64; omega
  have f_b311 : IntKind.i64.wrap (128 + r3) = b31 := by rw [IntKind.wrap_i64]; omega
  have u_b31 : IntKind.u8.wrap b31 = b31 := u8i _ (by omega) (by omega)
  obtain ⟨y0, hy0⟩ : ∃ y, y = ([d0] : List Int) := ⟨_, rfl⟩
  have hr0 : y0 = rowV 0 n := by rw [hy0]; unfold rowV; simp only [e_d0, e_q6, e_q12, e_q18, e_r0, e_s0, e_r1, e_r2, e_r3, e_b10, e_b11, e_b20, e_b21, e_b30, e_b31]
  have HY0 := Aside0.mk hy0
  have HR0 := Aside0.mk hr0
  clear hy0 hr0
  obtain ⟨y1, hy1⟩ : ∃ y, y = ([b10, b11] : List Int) := ⟨_, rfl⟩
  have hr1 : y1 = rowV 1 n := by rw [hy1]; unfold rowV; simp only [e_d0, e_q6, e_q12, e_q18, e_r0, e_s0, e_r1, e_r2, e_r3, e_b10, e_b11, e_b20, e_b21, e_b30, e_b31]
  have HY1 := Aside0.mk hy1
  have HR1 := Aside0.mk hr1
  clear hy1 hr1
  obtain ⟨y2, hy2⟩ : ∃ y, y = ([b20, b21, b11] : List Int) := ⟨_, rfl⟩
  have hr2 : y2 = rowV 2 n := by rw [hy2]; unfold rowV; simp only [e_d0, e_q6, e_q12, e_q18, e_r0, e_s0, e_r1, e_r2, e_r3, e_b10, e_b11, e_b20, e_b21, e_b30, e_b31]
  have HY2 := Aside0.mk hy2
  have HR2 := Aside0.mk hr2
  clear hy2 hr2
  obtain ⟨y3, hy3⟩ : ∃ y, y = ([b30, b31, b21, b11] : List Int) := ⟨_, rfl⟩
  have hr3 : y3 = rowV 3 n := by rw [hy3]; unfold rowV; simp only [e_d0, e_q6, e_q12, e_q18, e_r0, e_s0, e_r1, e_r2, e_r3, e_b10, e_b11, e_b20, e_b21, e_b30, e_b31]
  have HY3 := Aside0.mk hy3
  have HR3 := Aside0.mk hr3
  clear hy3 hr3
  clear e_d0 b_d0 e_q6 b_q6 e_q12 b_q12 e_q18 b_q18 e_r0 b_r0 e_s0 b_s0 e_r1 b_r1 e_r2 b_r2 e_r3 b_r3 e_b10 b_b10 e_b11 b_b11 e_b20 b_b20 e_b21 b_b21 e_b30 b_b30 e_b31 b_b31 hn
  have tk35 : Aside0 True := ⟨trivial⟩
  go_wp2_with (first | ((with_reducible refine gate_dst (N := 35) rfl ?_); (try (refine gate_guard (by rfl) ?_; dsimp only)); clear tk35; have tk46 : Aside0 True := ⟨trivial⟩; refine Kd.R_lit (Kd.int .u8) _ 5 ?hg (N := 35) ?hd (xs := ([d0] : List Int)) (inner := [.int .u8 d0]) (ok := fun _ => True) (okp := fun _ => True) ?hr ?hp (fun _ hk => hk) trivial (Below.refl _ _) (Nat.le_refl _) (by simp) ?_; (case hd => rfl); (case hg => rfl); (case hr => first | (go_simp; done) | (go_simp; rfl)); (case hp => exact (Reps.one (show Kd.M (Kd.int .u8) _ _ _ d0 [.int .u8 d0] from rfl) (Reps.none _ _))); intro v35 w_35 ho_ hb_ hg_ hnew_; clear hg_ hnew_; rw [← HY0.out] at ho_; have n0_ := Aside0.mk (below_step (by repeat (first | (with_reducible first | exact HB.out | apply below_alloc | apply pw_below_drewN | apply below_drew1) | exact HB.out)) hb_); clear HB; have HB := n0_; clear n0_ hb_; have hcv35 := own_string (P := Try.prog) Try.underlying23 Try.underlying5 Try.underlying9 (Kd.own_of_R ho_); clear ho_) | ((with_reducible refine gate_dst (N := 46) rfl ?_); (try (refine gate_guard (by rfl) ?_; dsimp only)); clear tk46; have tk62 : Aside0 True := ⟨trivial⟩; refine Kd.R_lit (Kd.int .u8) _ 5 ?hg (N := 46) ?hd (xs := ([b10, b11] : List Int)) (inner := [.int .u8 b10, .int .u8 b11]) (ok := fun _ => True) (okp := fun _ => True) ?hr ?hp (fun _ hk => hk) trivial (Below.refl _ _) (Nat.le_refl _) (by simp) ?_; (case hd => rfl); (case hg => rfl); (case hr => first | (go_simp; done) | (go_simp; rfl)); (case hp => exact (Reps.one (show Kd.M (Kd.int .u8) _ _ _ b10 [.int .u8 b10] from rfl) (Reps.one (show Kd.M (Kd.int .u8) _ _ _ b11 [.int .u8 b11] from rfl) (Reps.none _ _)))); intro v46 w_46 ho_ hb_ hg_ hnew_; clear hg_ hnew_; rw [← HY1.out] at ho_; have n0_ := Aside0.mk (below_step (by repeat (first | (with_reducible first | exact HB.out | apply below_alloc | apply pw_below_drewN | apply below_drew1) | exact HB.out)) hb_); clear HB; have HB := n0_; clear n0_ hb_; have hcv46 := own_string (P := Try.prog) Try.underlying23 Try.underlying5 Try.underlying9 (Kd.own_of_R ho_); clear ho_) | ((with_reducible refine gate_dst (N := 62) rfl ?_); (try (refine gate_guard (by rfl) ?_; dsimp only)); clear tk62; have tk82 : Aside0 True := ⟨trivial⟩; refine Kd.R_lit (Kd.int .u8) _ 5 ?hg (N := 62) ?hd (xs := ([b20, b21, b11] : List Int)) (inner := [.int .u8 b20, .int .u8 b21, .int .u8 b11]) (ok := fun _ => True) (okp := fun _ => True) ?hr ?hp (fun _ hk => hk) trivial (Below.refl _ _) (Nat.le_refl _) (by simp) ?_; (case hd => rfl); (case hg => rfl); (case hr => first | (go_simp; done) | (go_simp; rfl)); (case hp => exact (Reps.one (show Kd.M (Kd.int .u8) _ _ _ b20 [.int .u8 b20] from rfl) (Reps.one (show Kd.M (Kd.int .u8) _ _ _ b21 [.int .u8 b21] from rfl) (Reps.one (show Kd.M (Kd.int .u8) _ _ _ b11 [.int .u8 b11] from rfl) (Reps.none _ _))))); intro v62 w_62 ho_ hb_ hg_ hnew_; clear hg_ hnew_; rw [← HY2.out] at ho_; have n0_ := Aside0.mk (below_step (by repeat (first | (with_reducible first | exact HB.out | apply below_alloc | apply pw_below_drewN | apply below_drew1) | exact HB.out)) hb_); clear HB; have HB := n0_; clear n0_ hb_; have hcv62 := own_string (P := Try.prog) Try.underlying23 Try.underlying5 Try.underlying9 (Kd.own_of_R ho_); clear ho_) | ((with_reducible refine gate_dst (N := 82) rfl ?_); (try (refine gate_guard (by rfl) ?_; dsimp only)); clear tk82; have tk6 : Aside0 True := ⟨trivial⟩; refine Kd.R_lit (Kd.int .u8) _ 5 ?hg (N := 82) ?hd (xs := ([b30, b31, b21, b11] : List Int)) (inner := [.int .u8 b30, .int .u8 b31, .int .u8 b21, .int .u8 b11]) (ok := fun _ => True) (okp := fun _ => True) ?hr ?hp (fun _ hk => hk) trivial (Below.refl _ _) (Nat.le_refl _) (by simp) ?_; (case hd => rfl); (case hg => rfl); (case hr => first | (go_simp; done) | (go_simp; rfl)); (case hp => exact (Reps.one (show Kd.M (Kd.int .u8) _ _ _ b30 [.int .u8 b30] from rfl) (Reps.one (show Kd.M (Kd.int .u8) _ _ _ b31 [.int .u8 b31] from rfl) (Reps.one (show Kd.M (Kd.int .u8) _ _ _ b21 [.int .u8 b21] from rfl) (Reps.one (show Kd.M (Kd.int .u8) _ _ _ b11 [.int .u8 b11] from rfl) (Reps.none _ _)))))); intro v82 w_82 ho_ hb_ hg_ hnew_; clear hg_ hnew_; rw [← HY3.out] at ho_; have n0_ := Aside0.mk (below_step (by repeat (first | (with_reducible first | exact HB.out | apply below_alloc | apply pw_below_drewN | apply below_drew1) | exact HB.out)) hb_); clear HB; have HB := n0_; clear n0_ hb_; have hcv82 := own_string (P := Try.prog) Try.underlying23 Try.underlying5 Try.underlying9 (Kd.own_of_R ho_); clear ho_) | ((with_reducible refine gate_dst (N := 6) rfl ?_); clear tk6; refine box_event ?hg (N := 6) ?hd (cs := #[.string ⟨#[]⟩, .string ⟨#[]⟩, .string ⟨#[]⟩, .string ⟨#[]⟩]) (t := 26) ?hr ?_; (case hd => rfl); (case hg => rfl); (case hr => first | (go_simp; done) | (go_simp; rfl)); intro g6 hgx_ w_6 hbox_ hbw_; have G6 := Aside0.mk (show w.heap.size ≤ g6 from hgx_ ▸ (below_size (by repeat (first | (with_reducible first | exact HB.out | apply below_alloc | apply pw_below_drewN | apply below_drew1) | exact HB.out)))); have BK6 := Aside0.mk hbox_; have c6_0 := blk_cell hbox_ 0; have z6_0 := blk_frozen hbox_ 0; have c6_1 := blk_cell hbox_ 1; have z6_1 := blk_frozen hbox_ 1; have c6_2 := blk_cell hbox_ 2; have z6_2 := blk_frozen hbox_ 2; have c6_3 := blk_cell hbox_ 3; have z6_3 := blk_frozen hbox_ 3; simp only [List.getElem?_toArray, List.getElem?_cons_zero, List.getElem?_cons_succ] at c6_0 c6_1 c6_2 c6_3; have n0_ := Aside0.mk (below_step (by repeat (first | (with_reducible first | exact HB.out | apply below_alloc | apply pw_below_drewN | apply below_drew1) | exact HB.out)) hbw_); clear HB; have HB := n0_; clear n0_ hbw_ hbox_ hgx_))
  have HBK := Aside0.mk (bks_start g6 y0 y1 y2 y3 w_6 BK6.out)
  clear c6_0 c6_1 c6_2 c6_3 z6_0 z6_1 z6_2 z6_3 BK6
  go_loopw [9] (fun v wr => ∃ k : Nat, k ≤ 4 ∧ v = .int .i64 k ∧ Aside0 (Below w.heap.size w wr) ∧ Aside0 (BKS g6 w_6.heap.size (w_6.heap.size + 1) y0 y1 y2 y3 wr)) (fun v _ => 4 - (intOf v).toNat)
  case atStart => exact ⟨0, Nat.zero_le _, rfl, ⟨(by repeat (first | (with_reducible first | exact HB.out | apply below_alloc | apply pw_below_drewN | apply below_drew1 | refine below_set ?_ G6.out) | exact HB.out))⟩, ⟨HBK.out⟩⟩
  case round =>
  clear HBK HB
  obtain ⟨k, hk, rfl, HB, HBK⟩ := hrel
  obtain ⟨g7, hg7⟩ : ∃ g, w_6.heap.size = g := ⟨_, rfl⟩
  have hbk := HBK.out
  rw [hg7] at hbk ⊢
  clear HBK hg7
  have HBK := Aside0.mk hbk
  clear hbk
  by_cases hlt : k < 4
  case neg =>
    obtain rfl : k = 4 := by omega
    go_wp2
    go_ret
    exact ⟨rfl, (by repeat (first | (with_reducible first | exact HB.out | apply below_alloc | apply pw_below_drewN | apply below_drew1) | exact HB.out))⟩
  have HK := Aside0.mk hlt
  clear hk
  go_upto_region 13 with (fail)
  go_cut [95] (fun v wc => v = .bool (decide (mostV k < n)) ∧ Aside0 (Below w.heap.size w wc) ∧ Aside0 (BKS g6 g7 (g7 + 1) y0 y1 y2 y3 wc))
  case first => as_aux_lemma =>
    obtain ⟨b6_, b7_, b8_⟩ := HBK.out
    have hk4 : k = 0 ∨ k = 1 ∨ k = 2 ∨ k = 3 := by have := HK.out; omega
    clear HK hlt
    rcases hk4 with rfl | rfl | rfl | rfl
    · have c_ := blk_cell b8_ 0
      simp only [List.getElem?_toArray, List.getElem?_cons_zero, List.getElem?_cons_succ] at c_
      go_wp2
      go_meet
      case rel => exact ⟨rfl, ⟨(by repeat (first | (with_reducible first | exact HB.out | apply below_alloc | apply pw_below_drewN | apply below_drew1) | exact HB.out))⟩, ⟨(by repeat (first | exact HBK.out | apply BKS_drewN | apply BKS_drew))⟩⟩
    · have c_ := blk_cell b8_ 1
      simp only [List.getElem?_toArray, List.getElem?_cons_zero, List.getElem?_cons_succ] at c_
      go_wp2
      go_meet
      case rel => exact ⟨rfl, ⟨(by repeat (first | (with_reducible first | exact HB.out | apply below_alloc | apply pw_below_drewN | apply below_drew1) | exact HB.out))⟩, ⟨(by repeat (first | exact HBK.out | apply BKS_drewN | apply BKS_drew))⟩⟩
    · have c_ := blk_cell b8_ 2
      simp only [List.getElem?_toArray, List.getElem?_cons_zero, List.getElem?_cons_succ] at c_
      go_wp2
      go_meet
      case rel => exact ⟨rfl, ⟨(by repeat (first | (with_reducible first | exact HB.out | apply below_alloc | apply pw_below_drewN | apply below_drew1) | exact HB.out))⟩, ⟨(by repeat (first | exact HBK.out | apply BKS_drewN | apply BKS_drew))⟩⟩
    · have c_ := blk_cell b8_ 3
      simp only [List.getElem?_toArray, List.getElem?_cons_zero, List.getElem?_cons_succ] at c_
      go_wp2
      go_meet
      case rel => exact ⟨rfl, ⟨(by repeat (first | (with_reducible first | exact HB.out | apply below_alloc | apply pw_below_drewN | apply below_drew1) | exact HB.out))⟩, ⟨(by repeat (first | exact HBK.out | apply BKS_drewN | apply BKS_drew))⟩⟩
  obtain ⟨rfl, HB', HBK'⟩ := hcut
  clear HB HBK
  have HB := HB'
  have HBK := HBK'
  clear HB' HBK'
  by_cases hmost : mostV k < n
  · have d_ := decide_eq_true hmost
    go_wp2
    go_roundw
    case rel => exact ⟨k + 1, by have := HK.out; omega, by go_num, ⟨(by repeat (first | (with_reducible first | exact HB.out | apply below_alloc | apply pw_below_drewN | apply below_drew1) | exact HB.out))⟩, ⟨(by repeat (first | exact HBK.out | apply BKS_drewN | apply BKS_drew))⟩⟩
    case measure => have := HK.out; simp [intOf]; omega
  rw [decide_eq_false hmost]
  have HMO := Aside0.mk hmost
  clear hmost
  go_upto_region 14 with (fail)
  go_cut [10] (fun v wc => v = .bool (goodV k n) ∧ Aside0 (Below w.heap.size w wc) ∧ Aside0 (BKS g6 g7 (g7 + 1) y0 y1 y2 y3 wc))
  case first => as_aux_lemma =>
    obtain ⟨b6_, b7_, b8_⟩ := HBK.out
    have hk4 : k = 0 ∨ k = 1 ∨ k = 2 ∨ k = 3 := by have := HK.out; omega
    clear HK hlt
    rcases hk4 with rfl | rfl | rfl | rfl
    · have c_ := blk_cell b7_ 0
      simp only [List.getElem?_toArray, List.getElem?_cons_zero, List.getElem?_cons_succ] at c_
      by_cases g1 : (0 : Int) ≤ n
      · by_cases g2 : n < 55296
        · have d0_ : decide ((0 : Int) ≤ n) = true := decide_eq_true (by omega)
          have d1_ : decide (n < 55296) = true := decide_eq_true (by omega)
          go_wp2
          go_meet
          case rel => exact ⟨by rw [show goodV 0 n = true from decide_eq_true ⟨by show (0 : Int) ≤ n; omega, by omega⟩], ⟨(by repeat (first | (with_reducible first | exact HB.out | apply below_alloc | apply pw_below_drewN | apply below_drew1) | exact HB.out))⟩, ⟨(by repeat (first | exact HBK.out | apply BKS_drewN | apply BKS_drew))⟩⟩
        · by_cases g3 : 57343 < n
          · have d0_ : decide ((0 : Int) ≤ n) = true := decide_eq_true (by omega)
            have d1_ : decide (n < 55296) = false := decide_eq_false (by omega)
            have d2_ : decide (57343 < n) = true := decide_eq_true (by omega)
            go_wp2
            go_meet
            case rel => exact ⟨by rw [show goodV 0 n = true from decide_eq_true ⟨by show (0 : Int) ≤ n; omega, by omega⟩], ⟨(by repeat (first | (with_reducible first | exact HB.out | apply below_alloc | apply pw_below_drewN | apply below_drew1) | exact HB.out))⟩, ⟨(by repeat (first | exact HBK.out | apply BKS_drewN | apply BKS_drew))⟩⟩
          · have d0_ : decide ((0 : Int) ≤ n) = true := decide_eq_true (by omega)
            have d1_ : decide (n < 55296) = false := decide_eq_false (by omega)
            have d2_ : decide (57343 < n) = false := decide_eq_false (by omega)
            go_wp2
            go_meet
            case rel => exact ⟨by rw [show goodV 0 n = false from decide_eq_false (fun h => by have h1 : (0 : Int) ≤ n := h.1; have h2 := h.2; omega)], ⟨(by repeat (first | (with_reducible first | exact HB.out | apply below_alloc | apply pw_below_drewN | apply below_drew1) | exact HB.out))⟩, ⟨(by repeat (first | exact HBK.out | apply BKS_drewN | apply BKS_drew))⟩⟩
      · have d0_ : decide ((0 : Int) ≤ n) = false := decide_eq_false (by omega)
        go_wp2
        go_meet
        case rel => exact ⟨by rw [show goodV 0 n = false from decide_eq_false (fun h => by have h1 : (0 : Int) ≤ n := h.1; have h2 := h.2; omega)], ⟨(by repeat (first | (with_reducible first | exact HB.out | apply below_alloc | apply pw_below_drewN | apply below_drew1) | exact HB.out))⟩, ⟨(by repeat (first | exact HBK.out | apply BKS_drewN | apply BKS_drew))⟩⟩
    · have c_ := blk_cell b7_ 1
      simp only [List.getElem?_toArray, List.getElem?_cons_zero, List.getElem?_cons_succ] at c_
      by_cases g1 : (128 : Int) ≤ n
      · by_cases g2 : n < 55296
        · have d0_ : decide ((128 : Int) ≤ n) = true := decide_eq_true (by omega)
          have d1_ : decide (n < 55296) = true := decide_eq_true (by omega)
          go_wp2
          go_meet
          case rel => exact ⟨by rw [show goodV 1 n = true from decide_eq_true ⟨by show (128 : Int) ≤ n; omega, by omega⟩], ⟨(by repeat (first | (with_reducible first | exact HB.out | apply below_alloc | apply pw_below_drewN | apply below_drew1) | exact HB.out))⟩, ⟨(by repeat (first | exact HBK.out | apply BKS_drewN | apply BKS_drew))⟩⟩
        · by_cases g3 : 57343 < n
          · have d0_ : decide ((128 : Int) ≤ n) = true := decide_eq_true (by omega)
            have d1_ : decide (n < 55296) = false := decide_eq_false (by omega)
            have d2_ : decide (57343 < n) = true := decide_eq_true (by omega)
            go_wp2
            go_meet
            case rel => exact ⟨by rw [show goodV 1 n = true from decide_eq_true ⟨by show (128 : Int) ≤ n; omega, by omega⟩], ⟨(by repeat (first | (with_reducible first | exact HB.out | apply below_alloc | apply pw_below_drewN | apply below_drew1) | exact HB.out))⟩, ⟨(by repeat (first | exact HBK.out | apply BKS_drewN | apply BKS_drew))⟩⟩
          · have d0_ : decide ((128 : Int) ≤ n) = true := decide_eq_true (by omega)
            have d1_ : decide (n < 55296) = false := decide_eq_false (by omega)
            have d2_ : decide (57343 < n) = false := decide_eq_false (by omega)
            go_wp2
            go_meet
            case rel => exact ⟨by rw [show goodV 1 n = false from decide_eq_false (fun h => by have h1 : (128 : Int) ≤ n := h.1; have h2 := h.2; omega)], ⟨(by repeat (first | (with_reducible first | exact HB.out | apply below_alloc | apply pw_below_drewN | apply below_drew1) | exact HB.out))⟩, ⟨(by repeat (first | exact HBK.out | apply BKS_drewN | apply BKS_drew))⟩⟩
      · have d0_ : decide ((128 : Int) ≤ n) = false := decide_eq_false (by omega)
        go_wp2
        go_meet
        case rel => exact ⟨by rw [show goodV 1 n = false from decide_eq_false (fun h => by have h1 : (128 : Int) ≤ n := h.1; have h2 := h.2; omega)], ⟨(by repeat (first | (with_reducible first | exact HB.out | apply below_alloc | apply pw_below_drewN | apply below_drew1) | exact HB.out))⟩, ⟨(by repeat (first | exact HBK.out | apply BKS_drewN | apply BKS_drew))⟩⟩
    · have c_ := blk_cell b7_ 2
      simp only [List.getElem?_toArray, List.getElem?_cons_zero, List.getElem?_cons_succ] at c_
      by_cases g1 : (2048 : Int) ≤ n
      · by_cases g2 : n < 55296
        · have d0_ : decide ((2048 : Int) ≤ n) = true := decide_eq_true (by omega)
          have d1_ : decide (n < 55296) = true := decide_eq_true (by omega)
          go_wp2
          go_meet
          case rel => exact ⟨by rw [show goodV 2 n = true from decide_eq_true ⟨by show (2048 : Int) ≤ n; omega, by omega⟩], ⟨(by repeat (first | (with_reducible first | exact HB.out | apply below_alloc | apply pw_below_drewN | apply below_drew1) | exact HB.out))⟩, ⟨(by repeat (first | exact HBK.out | apply BKS_drewN | apply BKS_drew))⟩⟩
        · by_cases g3 : 57343 < n
          · have d0_ : decide ((2048 : Int) ≤ n) = true := decide_eq_true (by omega)
            have d1_ : decide (n < 55296) = false := decide_eq_false (by omega)
            have d2_ : decide (57343 < n) = true := decide_eq_true (by omega)
            go_wp2
            go_meet
            case rel => exact ⟨by rw [show goodV 2 n = true from decide_eq_true ⟨by show (2048 : Int) ≤ n; omega, by omega⟩], ⟨(by repeat (first | (with_reducible first | exact HB.out | apply below_alloc | apply pw_below_drewN | apply below_drew1) | exact HB.out))⟩, ⟨(by repeat (first | exact HBK.out | apply BKS_drewN | apply BKS_drew))⟩⟩
          · have d0_ : decide ((2048 : Int) ≤ n) = true := decide_eq_true (by omega)
            have d1_ : decide (n < 55296) = false := decide_eq_false (by omega)
            have d2_ : decide (57343 < n) = false := decide_eq_false (by omega)
            go_wp2
            go_meet
            case rel => exact ⟨by rw [show goodV 2 n = false from decide_eq_false (fun h => by have h1 : (2048 : Int) ≤ n := h.1; have h2 := h.2; omega)], ⟨(by repeat (first | (with_reducible first | exact HB.out | apply below_alloc | apply pw_below_drewN | apply below_drew1) | exact HB.out))⟩, ⟨(by repeat (first | exact HBK.out | apply BKS_drewN | apply BKS_drew))⟩⟩
      · have d0_ : decide ((2048 : Int) ≤ n) = false := decide_eq_false (by omega)
        go_wp2
        go_meet
        case rel => exact ⟨by rw [show goodV 2 n = false from decide_eq_false (fun h => by have h1 : (2048 : Int) ≤ n := h.1; have h2 := h.2; omega)], ⟨(by repeat (first | (with_reducible first | exact HB.out | apply below_alloc | apply pw_below_drewN | apply below_drew1) | exact HB.out))⟩, ⟨(by repeat (first | exact HBK.out | apply BKS_drewN | apply BKS_drew))⟩⟩
    · have c_ := blk_cell b7_ 3
      simp only [List.getElem?_toArray, List.getElem?_cons_zero, List.getElem?_cons_succ] at c_
      by_cases g1 : (65536 : Int) ≤ n
      · by_cases g2 : n < 55296
        · have d0_ : decide ((65536 : Int) ≤ n) = true := decide_eq_true (by omega)
          have d1_ : decide (n < 55296) = true := decide_eq_true (by omega)
          go_wp2
          go_meet
          case rel => exact ⟨by rw [show goodV 3 n = true from decide_eq_true ⟨by show (65536 : Int) ≤ n; omega, by omega⟩], ⟨(by repeat (first | (with_reducible first | exact HB.out | apply below_alloc | apply pw_below_drewN | apply below_drew1) | exact HB.out))⟩, ⟨(by repeat (first | exact HBK.out | apply BKS_drewN | apply BKS_drew))⟩⟩
        · by_cases g3 : 57343 < n
          · have d0_ : decide ((65536 : Int) ≤ n) = true := decide_eq_true (by omega)
            have d1_ : decide (n < 55296) = false := decide_eq_false (by omega)
            have d2_ : decide (57343 < n) = true := decide_eq_true (by omega)
            go_wp2
            go_meet
            case rel => exact ⟨by rw [show goodV 3 n = true from decide_eq_true ⟨by show (65536 : Int) ≤ n; omega, by omega⟩], ⟨(by repeat (first | (with_reducible first | exact HB.out | apply below_alloc | apply pw_below_drewN | apply below_drew1) | exact HB.out))⟩, ⟨(by repeat (first | exact HBK.out | apply BKS_drewN | apply BKS_drew))⟩⟩
          · have d0_ : decide ((65536 : Int) ≤ n) = true := decide_eq_true (by omega)
            have d1_ : decide (n < 55296) = false := decide_eq_false (by omega)
            have d2_ : decide (57343 < n) = false := decide_eq_false (by omega)
            go_wp2
            go_meet
            case rel => exact ⟨by rw [show goodV 3 n = false from decide_eq_false (fun h => by have h1 : (65536 : Int) ≤ n := h.1; have h2 := h.2; omega)], ⟨(by repeat (first | (with_reducible first | exact HB.out | apply below_alloc | apply pw_below_drewN | apply below_drew1) | exact HB.out))⟩, ⟨(by repeat (first | exact HBK.out | apply BKS_drewN | apply BKS_drew))⟩⟩
      · have d0_ : decide ((65536 : Int) ≤ n) = false := decide_eq_false (by omega)
        go_wp2
        go_meet
        case rel => exact ⟨by rw [show goodV 3 n = false from decide_eq_false (fun h => by have h1 : (65536 : Int) ≤ n := h.1; have h2 := h.2; omega)], ⟨(by repeat (first | (with_reducible first | exact HB.out | apply below_alloc | apply pw_below_drewN | apply below_drew1) | exact HB.out))⟩, ⟨(by repeat (first | exact HBK.out | apply BKS_drewN | apply BKS_drew))⟩⟩
  obtain ⟨rfl, HB', HBK'⟩ := hcut
  clear HB HBK
  have HB := HB'
  have HBK := HBK'
  clear HB' HBK'
  go_upto_region 15 with (fail)
  go_cut [11] (fun v wc => v = .bool (xmlL n) ∧ Aside0 (Below w.heap.size w wc) ∧ Aside0 (BKS g6 g7 (g7 + 1) y0 y1 y2 y3 wc))
  case first => as_aux_lemma =>
    by_cases x0 : n = 9
    · have d0_ : (n == 9) = true := beq_iff_eq.mpr x0
      have X_ := Aside0.mk x0
      clear x0
      go_wp2
      go_meet
      case rel => exact ⟨by rw [show xmlL n = true from decide_eq_true (by have q_ := X_.out; omega)], ⟨(by repeat (first | (with_reducible first | exact HB.out | apply below_alloc | apply pw_below_drewN | apply below_drew1) | exact HB.out))⟩, ⟨(by repeat (first | exact HBK.out | apply BKS_drewN | apply BKS_drew))⟩⟩
    have d0_ : (n == 9) = false := beq_eq_false_iff_ne.mpr x0
    by_cases x1 : n = 10
    · have d1_ : (n == 10) = true := beq_iff_eq.mpr x1
      have X_ := Aside0.mk x1
      clear x1
      go_wp2
      go_meet
      case rel => exact ⟨by rw [show xmlL n = true from decide_eq_true (by have q_ := X_.out; omega)], ⟨(by repeat (first | (with_reducible first | exact HB.out | apply below_alloc | apply pw_below_drewN | apply below_drew1) | exact HB.out))⟩, ⟨(by repeat (first | exact HBK.out | apply BKS_drewN | apply BKS_drew))⟩⟩
    have d1_ : (n == 10) = false := beq_eq_false_iff_ne.mpr x1
    by_cases x2 : n = 13
    · have d2_ : (n == 13) = true := beq_iff_eq.mpr x2
      have X_ := Aside0.mk x2
      clear x2
      go_wp2
      go_meet
      case rel => exact ⟨by rw [show xmlL n = true from decide_eq_true (by have q_ := X_.out; omega)], ⟨(by repeat (first | (with_reducible first | exact HB.out | apply below_alloc | apply pw_below_drewN | apply below_drew1) | exact HB.out))⟩, ⟨(by repeat (first | exact HBK.out | apply BKS_drewN | apply BKS_drew))⟩⟩
    have d2_ : (n == 13) = false := beq_eq_false_iff_ne.mpr x2
    by_cases x3 : 32 ≤ n
    · have e0_ : decide (32 ≤ n) = true := decide_eq_true x3
      by_cases x4 : n = 65534
      · have e1_ : (n != 65534) = false := bne_eq_false_iff_eq.mpr x4
        have X_ := Aside0.mk x4
        clear x4
        go_wp2
        go_meet
        case rel => exact ⟨by rw [show xmlL n = false from decide_eq_false (by have q_ := X_.out; omega)], ⟨(by repeat (first | (with_reducible first | exact HB.out | apply below_alloc | apply pw_below_drewN | apply below_drew1) | exact HB.out))⟩, ⟨(by repeat (first | exact HBK.out | apply BKS_drewN | apply BKS_drew))⟩⟩
      · have e1_ : (n != 65534) = true := bne_iff_ne.mpr x4
        by_cases x5 : n = 65535
        · have e2_ : (n != 65535) = false := bne_eq_false_iff_eq.mpr x5
          have X_ := Aside0.mk x5
          clear x5
          go_wp2
          go_meet
          case rel => exact ⟨by rw [show xmlL n = false from decide_eq_false (by have q_ := X_.out; omega)], ⟨(by repeat (first | (with_reducible first | exact HB.out | apply below_alloc | apply pw_below_drewN | apply below_drew1) | exact HB.out))⟩, ⟨(by repeat (first | exact HBK.out | apply BKS_drewN | apply BKS_drew))⟩⟩
        · have e2_ : (n != 65535) = true := bne_iff_ne.mpr x5
          go_wp2
          go_meet
          case rel => exact ⟨by rw [show xmlL n = true from decide_eq_true (by omega)], ⟨(by repeat (first | (with_reducible first | exact HB.out | apply below_alloc | apply pw_below_drewN | apply below_drew1) | exact HB.out))⟩, ⟨(by repeat (first | exact HBK.out | apply BKS_drewN | apply BKS_drew))⟩⟩
    · have e0_ : decide (32 ≤ n) = false := decide_eq_false x3
      go_wp2
      go_meet
      case rel => exact ⟨by rw [show xmlL n = false from decide_eq_false (by omega)], ⟨(by repeat (first | (with_reducible first | exact HB.out | apply below_alloc | apply pw_below_drewN | apply below_drew1) | exact HB.out))⟩, ⟨(by repeat (first | exact HBK.out | apply BKS_drewN | apply BKS_drew))⟩⟩
  obtain ⟨rfl, HB', HBK'⟩ := hcut
  clear HB HBK
  have HB := HB'
  have HBK := HBK'
  clear HB' HBK'
  obtain ⟨s, hs⟩ : ∃ s, s = strOfNums (p ++ rowV k n ++ [122]) := ⟨_, rfl⟩
  have HS := Aside0.mk hs
  clear hs
  go_upto_region 16 with (fail)
  go_cut [12] (fun v wc => v = .string s ∧ Aside0 (Below w.heap.size w wc) ∧ Aside0 (BKS g6 g7 (g7 + 1) y0 y1 y2 y3 wc))
  case first => as_aux_lemma =>
    obtain ⟨b6_, b7_, b8_⟩ := HBK.out
    have hk4 : k = 0 ∨ k = 1 ∨ k = 2 ∨ k = 3 := by have := HK.out; omega
    clear HK hlt
    rcases hk4 with rfl | rfl | rfl | rfl
    · have c_ := blk_cell b6_ 0
      simp only [List.getElem?_toArray, List.getElem?_cons_zero, List.getElem?_cons_succ] at c_
      obtain ⟨q1, q2, q3, q4⟩ := cat_size p y0 HP.out.1 (by rw [HR0.out]; unfold rowV; simp)
      have q1b := eq_true q1
      have q1d := decide_eq_true q1
      have q1f := eq_false (Nat.not_lt.2 q1)
      have q2b := eq_true q2
      have q2d := decide_eq_true q2
      have q2f := eq_false (Nat.not_lt.2 q2)
      have q3b := eq_true q3
      have q3d := decide_eq_true q3
      have q3f := eq_false (Nat.not_lt.2 q3)
      have Q4 := Aside0.mk q4
      clear q1 q2 q3 q4
      go_wp2
      go_meet
      case rel => exact ⟨by rw [HS.out, ← HR0.out, ← Q4.out], ⟨(by repeat (first | (with_reducible first | exact HB.out | apply below_alloc | apply pw_below_drewN | apply below_drew1) | exact HB.out))⟩, ⟨(by repeat (first | exact HBK.out | apply BKS_drewN | apply BKS_drew))⟩⟩
    · have c_ := blk_cell b6_ 1
      simp only [List.getElem?_toArray, List.getElem?_cons_zero, List.getElem?_cons_succ] at c_
      obtain ⟨q1, q2, q3, q4⟩ := cat_size p y1 HP.out.1 (by rw [HR1.out]; unfold rowV; simp)
      have q1b := eq_true q1
      have q1d := decide_eq_true q1
      have q1f := eq_false (Nat.not_lt.2 q1)
      have q2b := eq_true q2
      have q2d := decide_eq_true q2
      have q2f := eq_false (Nat.not_lt.2 q2)
      have q3b := eq_true q3
      have q3d := decide_eq_true q3
      have q3f := eq_false (Nat.not_lt.2 q3)
      have Q4 := Aside0.mk q4
      clear q1 q2 q3 q4
      go_wp2
      go_meet
      case rel => exact ⟨by rw [HS.out, ← HR1.out, ← Q4.out], ⟨(by repeat (first | (with_reducible first | exact HB.out | apply below_alloc | apply pw_below_drewN | apply below_drew1) | exact HB.out))⟩, ⟨(by repeat (first | exact HBK.out | apply BKS_drewN | apply BKS_drew))⟩⟩
    · have c_ := blk_cell b6_ 2
      simp only [List.getElem?_toArray, List.getElem?_cons_zero, List.getElem?_cons_succ] at c_
      obtain ⟨q1, q2, q3, q4⟩ := cat_size p y2 HP.out.1 (by rw [HR2.out]; unfold rowV; simp)
      have q1b := eq_true q1
      have q1d := decide_eq_true q1
      have q1f := eq_false (Nat.not_lt.2 q1)
      have q2b := eq_true q2
      have q2d := decide_eq_true q2
      have q2f := eq_false (Nat.not_lt.2 q2)
      have q3b := eq_true q3
      have q3d := decide_eq_true q3
      have q3f := eq_false (Nat.not_lt.2 q3)
      have Q4 := Aside0.mk q4
      clear q1 q2 q3 q4
      go_wp2
      go_meet
      case rel => exact ⟨by rw [HS.out, ← HR2.out, ← Q4.out], ⟨(by repeat (first | (with_reducible first | exact HB.out | apply below_alloc | apply pw_below_drewN | apply below_drew1) | exact HB.out))⟩, ⟨(by repeat (first | exact HBK.out | apply BKS_drewN | apply BKS_drew))⟩⟩
    · have c_ := blk_cell b6_ 3
      simp only [List.getElem?_toArray, List.getElem?_cons_zero, List.getElem?_cons_succ] at c_
      obtain ⟨q1, q2, q3, q4⟩ := cat_size p y3 HP.out.1 (by rw [HR3.out]; unfold rowV; simp)
      have q1b := eq_true q1
      have q1d := decide_eq_true q1
      have q1f := eq_false (Nat.not_lt.2 q1)
      have q2b := eq_true q2
      have q2d := decide_eq_true q2
      have q2f := eq_false (Nat.not_lt.2 q2)
      have q3b := eq_true q3
      have q3d := decide_eq_true q3
      have q3f := eq_false (Nat.not_lt.2 q3)
      have Q4 := Aside0.mk q4
      clear q1 q2 q3 q4
      go_wp2
      go_meet
      case rel => exact ⟨by rw [HS.out, ← HR3.out, ← Q4.out], ⟨(by repeat (first | (with_reducible first | exact HB.out | apply below_alloc | apply pw_below_drewN | apply below_drew1) | exact HB.out))⟩, ⟨(by repeat (first | exact HBK.out | apply BKS_drewN | apply BKS_drew))⟩⟩
  obtain ⟨rfl, HB', HBK'⟩ := hcut
  clear HB HBK
  have HB := HB'
  have HBK := HBK'
  clear HB' HBK'
  have hn := HN.out
  obtain ⟨F, hF⟩ : ∃ F, F = 20 + p.length := ⟨_, rfl⟩
  have hC := check_row p k HK.out n hn.1 (by have := HMO.out; omega) HP.out.2 (by have := HP.out.1; omega) F (by omega)
  have hD := chars_row p k HK.out n hn.1 (by have := HMO.out; omega) HP.out.2 (by have := HP.out.1; omega) F (by omega)
  have hx := fun h => xml_same k n hn.1 hn.2 h
  rw [← HS.out] at hC hD
  have hps : (p.length : Int) = ((strOfNums p).size : Int) := by rw [B_size]
  rw [hps] at hC hD
  clear hps hn hF
  have e_ : (((strOfNums p).size : Int) != ((strOfNums p).size : Int)) = false := bne_self_eq_false _
  generalize goodV k n = gd at *
  generalize xmlL n = xl at *
  cases gd
  · rw [if_neg (by decide)] at hC hD
    have HC := Aside0.mk hC
    have HD := Aside0.mk hD
    clear hC hD hx
    have tk139 : Aside0 True := ⟨trivial⟩
    go_wp2_with (first | (go_at_call 13; clear tk139; have tk144 : Aside0 True := ⟨trivial⟩; (with_reducible refine (text_Check.calls F s 20 ((strOfNums p).size : Int) _ HC.out).mono ?_); rintro e_ w_139 ⟨rfl, hb_⟩; have n0_ := Aside0.mk (below_step (by repeat (first | (with_reducible first | exact HB.out | apply below_alloc | apply pw_below_drewN | apply below_drew1) | exact HB.out)) hb_); have n1_ := Aside0.mk (BKS_below (by repeat (first | exact HBK.out | apply BKS_drewN | apply BKS_drew)) hb_); clear HB HBK; have HB := n0_; have HBK := n1_; clear n0_ n1_ hb_) | (go_at_call 14; clear tk144; have tk167 : Aside0 True := ⟨trivial⟩; (with_reducible refine (text_Chars.calls F s 20 ((strOfNums p).size : Int) _ HD.out).mono ?_); rintro e_ w_144 ⟨rfl, hb_⟩; have n0_ := Aside0.mk (below_step (by repeat (first | (with_reducible first | exact HB.out | apply below_alloc | apply pw_below_drewN | apply below_drew1) | exact HB.out)) hb_); have n1_ := Aside0.mk (BKS_below (by repeat (first | exact HBK.out | apply BKS_drewN | apply BKS_drew)) hb_); clear HB HBK; have HB := n0_; have HBK := n1_; clear n0_ n1_ hb_) | (go_at_call 15; clear tk167; have tk171 : Aside0 True := ⟨trivial⟩; (with_reducible refine (stencillaw02_num.calls 20 20 _ rfl).mono ?_); rintro e_ w_167 ⟨rfl, ⟨m167, rfl⟩⟩) | (go_at_call 15; clear tk171; (with_reducible refine (stencillaw02_num.calls 20 20 _ rfl).mono ?_); rintro e_ w_171 ⟨rfl, ⟨m171, rfl⟩⟩))
    go_roundw
    case rel => exact ⟨k + 1, by have := HK.out; omega, by go_num, ⟨(by repeat (first | (with_reducible first | exact HB.out | apply below_alloc | apply pw_below_drewN | apply below_drew1) | exact HB.out))⟩, ⟨(by repeat (first | exact HBK.out | apply BKS_drewN | apply BKS_drew))⟩⟩
    case measure => have := HK.out; simp [intOf]; omega
  · rw [hx rfl] at hD
    rw [if_pos rfl] at hC hD
    clear hx
    have hx : True := trivial
    cases xl
    · rw [if_neg (by decide)] at hD
      have HC := Aside0.mk hC
      have HD := Aside0.mk hD
      clear hC hD hx
      have tk139 : Aside0 True := ⟨trivial⟩
      go_wp2_with (first | (go_at_call 13; clear tk139; have tk144 : Aside0 True := ⟨trivial⟩; (with_reducible refine (text_Check.calls F s 0 0 _ HC.out).mono ?_); rintro e_ w_139 ⟨rfl, hb_⟩; have n0_ := Aside0.mk (below_step (by repeat (first | (with_reducible first | exact HB.out | apply below_alloc | apply pw_below_drewN | apply below_drew1) | exact HB.out)) hb_); have n1_ := Aside0.mk (BKS_below (by repeat (first | exact HBK.out | apply BKS_drewN | apply BKS_drew)) hb_); clear HB HBK; have HB := n0_; have HBK := n1_; clear n0_ n1_ hb_) | (go_at_call 14; clear tk144; have tk190 : Aside0 True := ⟨trivial⟩; (with_reducible refine (text_Chars.calls F s 21 ((strOfNums p).size : Int) _ HD.out).mono ?_); rintro e_ w_144 ⟨rfl, hb_⟩; have n0_ := Aside0.mk (below_step (by repeat (first | (with_reducible first | exact HB.out | apply below_alloc | apply pw_below_drewN | apply below_drew1) | exact HB.out)) hb_); have n1_ := Aside0.mk (BKS_below (by repeat (first | exact HBK.out | apply BKS_drewN | apply BKS_drew)) hb_); clear HB HBK; have HB := n0_; have HBK := n1_; clear n0_ n1_ hb_) | (go_at_call 15; clear tk190; have tk198 : Aside0 True := ⟨trivial⟩; (with_reducible refine (stencillaw02_num.calls 0 0 _ rfl).mono ?_); rintro e_ w_190 ⟨rfl, ⟨m190, rfl⟩⟩) | (go_at_call 15; clear tk198; (with_reducible refine (stencillaw02_num.calls 21 21 _ rfl).mono ?_); rintro e_ w_198 ⟨rfl, ⟨m198, rfl⟩⟩))
      go_roundw
      case rel => exact ⟨k + 1, by have := HK.out; omega, by go_num, ⟨(by repeat (first | (with_reducible first | exact HB.out | apply below_alloc | apply pw_below_drewN | apply below_drew1) | exact HB.out))⟩, ⟨(by repeat (first | exact HBK.out | apply BKS_drewN | apply BKS_drew))⟩⟩
      case measure => have := HK.out; simp [intOf]; omega
    · rw [if_pos rfl] at hD
      have HC := Aside0.mk hC
      have HD := Aside0.mk hD
      clear hC hD hx
      have tk139 : Aside0 True := ⟨trivial⟩
      go_wp2_with (first | (go_at_call 13; clear tk139; have tk144 : Aside0 True := ⟨trivial⟩; (with_reducible refine (text_Check.calls F s 0 0 _ HC.out).mono ?_); rintro e_ w_139 ⟨rfl, hb_⟩; have n0_ := Aside0.mk (below_step (by repeat (first | (with_reducible first | exact HB.out | apply below_alloc | apply pw_below_drewN | apply below_drew1) | exact HB.out)) hb_); have n1_ := Aside0.mk (BKS_below (by repeat (first | exact HBK.out | apply BKS_drewN | apply BKS_drew)) hb_); clear HB HBK; have HB := n0_; have HBK := n1_; clear n0_ n1_ hb_) | (go_at_call 14; clear tk144; have tk148 : Aside0 True := ⟨trivial⟩; (with_reducible refine (text_Chars.calls F s 0 0 _ HD.out).mono ?_); rintro e_ w_144 ⟨rfl, hb_⟩; have n0_ := Aside0.mk (below_step (by repeat (first | (with_reducible first | exact HB.out | apply below_alloc | apply pw_below_drewN | apply below_drew1) | exact HB.out)) hb_); have n1_ := Aside0.mk (BKS_below (by repeat (first | exact HBK.out | apply BKS_drewN | apply BKS_drew)) hb_); clear HB HBK; have HB := n0_; have HBK := n1_; clear n0_ n1_ hb_) | (go_at_call 15; clear tk148; have tk152 : Aside0 True := ⟨trivial⟩; (with_reducible refine (stencillaw02_num.calls 0 0 _ rfl).mono ?_); rintro e_ w_148 ⟨rfl, ⟨m148, rfl⟩⟩) | (go_at_call 15; clear tk152; (with_reducible refine (stencillaw02_num.calls 0 0 _ rfl).mono ?_); rintro e_ w_152 ⟨rfl, ⟨m152, rfl⟩⟩))
      go_roundw
      case rel => exact ⟨k + 1, by have := HK.out; omega, by go_num, ⟨(by repeat (first | (with_reducible first | exact HB.out | apply below_alloc | apply pw_below_drewN | apply below_drew1) | exact HB.out))⟩, ⟨(by repeat (first | exact HBK.out | apply BKS_drewN | apply BKS_drew))⟩⟩
      case measure => have := HK.out; simp [intOf]; omega
theorem TextPoints_pure (a0 a1 : Int) (h0 : (Lit.int .i64 a0).wf = true) (h1 : (Lit.int .i64 a1).wf = true) : stencillaw02_TextPoints.f a0 a1 = some true := by
  have z0 : IntKind.i64.min ≤ a0 ∧ a0 ≤ IntKind.i64.max := by simpa [Lit.wf] using h0
  have z1 : IntKind.i64.min ≤ a1 ∧ a1 ≤ IntKind.i64.max := by simpa [Lit.wf] using h1
  have e1 : IntKind.i64.min = -9223372036854775808 := by decide
  have e2 : IntKind.i64.max = 9223372036854775807 := by decide
  rw [e1, e2] at z0 z1
  unfold stencillaw02_TextPoints.f
  rw [if_pos ⟨z0, z1⟩]

end Go.Proofs.Ythgodajjaddgbaa.P
