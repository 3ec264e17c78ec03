/- What the document's Get, Put and PutChars answer (layer 1), plain; written by gen_pref.py. -/
import Derived.Test.YtgackepigegbkaaDoorBx0
import Derived.Test.YtgackepigegbkaaDoorBx3
import Derived.Test.YtgackepigegbkaaDoorBx4
import Derived.Test.YtgackepigegbkaaDoorBx5
import Derived.Test.YtgackepigegbkaaDoorHChars
import Derived.Test.YtgackepigegbkaaDoorHPBytes
import Derived.Laws.Bits64b
namespace Go.Proofs.YtgackepigegbkaaDoor.B
open Go.RowKit Go.Proofs.YtgackepigegbkaaDoorW.PrintWords Go.Proofs.YtgackepigegbkaaDoorW.PrintLast Go.Proofs.YtgackepigegbkaaDoorW.PrintMore
attribute [local go_sem] max2_int min2_int max_two min_two max_three min_three max_four min_four   -- for this text's walks alone
set_option linter.unusedVariables false
set_option linter.unusedSimpArgs false

theorem wordS_eq (s : Int) (n : Nat) (c : Int) (hn : s.toNat = n) (h : n ≤ 64) (hc : (2 : Int) ^ n = c) (b : Int) : wordS s b = (wrap64 (b * c % 18446744073709551616) / c) % 18446744073709551616 := by
  unfold wordS; rw [u64w, shrw _ rfl, shlw, hn, Nat.min_eq_left h, hc]
theorem wordU_eq (s : Int) (n : Nat) (hn : s.toNat = n) (h : n ≤ 64) (b : Int) : wordU s b = (b * 2 ^ n % 18446744073709551616) / 2 ^ n := by
  unfold wordU; rw [shrw _ rfl, shlw, hn, Nat.min_eq_left h]
theorem fitsV_of {p b : Int} {x : Bool} (h : prim_Fits.f p b = some x) : fitsV p b = x := by unfold fitsV; rw [h]; rfl
theorem fv_1 (b : Int) (h0 : 0 ≤ b) (h1 : b < 18446744073709551616) : fitsV 1 b = (decide (b < 128) || decide (b ≥ 18446744073709551488)) := by
  rw [fitsV_of (fits_1 b), Bool.eq_iff_iff, beq_iff_eq, wordS_eq 56 56 72057594037927936 rfl (by decide) (by decide), i64w, Bool.or_eq_true, decide_eq_true_iff, decide_eq_true_iff]
  split <;> omega
theorem fv_2 (b : Int) (h0 : 0 ≤ b) (h1 : b < 18446744073709551616) : fitsV 2 b = (decide (b < 32768) || decide (b ≥ 18446744073709518848)) := by
  rw [fitsV_of (fits_2 b), Bool.eq_iff_iff, beq_iff_eq, wordS_eq 48 48 281474976710656 rfl (by decide) (by decide), i64w, Bool.or_eq_true, decide_eq_true_iff, decide_eq_true_iff]
  split <;> omega
theorem fv_3 (b : Int) (h0 : 0 ≤ b) (h1 : b < 18446744073709551616) : fitsV 3 b = (decide (b < 2147483648) || decide (b ≥ 18446744071562067968)) := by
  rw [fitsV_of (fits_3 b), Bool.eq_iff_iff, beq_iff_eq, wordS_eq 32 32 4294967296 rfl (by decide) (by decide), i64w, Bool.or_eq_true, decide_eq_true_iff, decide_eq_true_iff]
  split <;> omega
theorem fv_4 (b : Int) (h0 : 0 ≤ b) (h1 : b < 18446744073709551616) : fitsV 4 b = (decide (b < 9223372036854775808) || decide (b ≥ 9223372036854775808)) := by
  rw [fitsV_of (fits_4 b), Bool.eq_iff_iff, beq_iff_eq, wordS_eq 0 0 1 rfl (by decide) (by decide), i64w, Bool.or_eq_true, decide_eq_true_iff, decide_eq_true_iff]
  split <;> omega
theorem fv_u {p b : Int} (s : Int) (n : Nat) (c : Int) (hf : prim_Fits.f p b = some (wordU s b == b)) (hn : s.toNat = n) (h : n ≤ 64) (h0 : 0 ≤ b) (h1 : b < 18446744073709551616) (hc : (2 : Int) ^ n = c) (m : Int) (hm : (b * c % 18446744073709551616) / c = b ↔ b ≤ m) : fitsV p b = decide (b ≤ m) := by
  rw [fitsV_of hf, Bool.eq_iff_iff, beq_iff_eq, wordU_eq s n hn h, hc, decide_eq_true_iff]; exact hm
theorem fv_b (p b : Int) (h0 : 0 ≤ b) (h1 : b < 18446744073709551616) (hp : p = 0 ∨ p = 5) : fitsV p b = decide (b ≤ 255) := by
  rcases hp with rfl | rfl
  · exact fv_u 56 56 72057594037927936 (fits_0 b) rfl (by decide) h0 h1 (by decide) 255 (by omega)
  · exact fv_u 56 56 72057594037927936 (fits_5 b) rfl (by decide) h0 h1 (by decide) 255 (by omega)
theorem fv_6 (b : Int) (h0 : 0 ≤ b) (h1 : b < 18446744073709551616) : fitsV 6 b = decide (b ≤ 65535) :=
  fv_u 48 48 281474976710656 (fits_6 b) rfl (by decide) h0 h1 (by decide) 65535 (by omega)
theorem fv_w (p b : Int) (h0 : 0 ≤ b) (h1 : b < 18446744073709551616) (hp : p = 7 ∨ p = 9) : fitsV p b = decide (b ≤ 4294967295) := by
  rcases hp with rfl | rfl
  · exact fv_u 32 32 4294967296 (fits_7 b) rfl (by decide) h0 h1 (by decide) 4294967295 (by omega)
  · exact fv_u 32 32 4294967296 (fits_9 b) rfl (by decide) h0 h1 (by decide) 4294967295 (by omega)
theorem fv_l (p b : Int) (h0 : 0 ≤ b) (h1 : b < 18446744073709551616) (hp : p = 8 ∨ p = 10) : fitsV p b = decide (b ≤ 18446744073709551615) := by
  rcases hp with rfl | rfl
  · exact fv_u 0 0 1 (fits_8 b) rfl (by decide) h0 h1 (by decide) 18446744073709551615 (by omega)
  · exact fv_u 0 0 1 (fits_10 b) rfl (by decide) h0 h1 (by decide) 18446744073709551615 (by omega)

/-! the reference -/
theorem rfits_s {p s h n : Int} (b : Int) (hs : stencilref01_Size.f 80 p = some s) (s0 : s ≠ 0) (hg : stencilref01_Signed.f p = some true) (hh : stencilref01_high.f 80 p = some h) (hn : stencilref01_Null.f 80 p = some n) : stencilref01_Fits.f 80 p b = some (decide (b < h) || decide (b ≥ n)) := by
  unfold stencilref01_Fits.f
  rw [hs, hg, hh, hn]
  show (if s = 0 then some false else (if b < h then some true else some (decide (b ≥ n)))) = _
  rw [if_neg s0]
  by_cases c : b < h
  · rw [if_pos c, decide_eq_true c]; rfl
  · rw [if_neg c, decide_eq_false c]; rfl
theorem rfits_u {p s m : Int} (b : Int) (hs : stencilref01_Size.f 80 p = some s) (s0 : s ≠ 0) (hg : stencilref01_Signed.f p = some false) (hm : stencilref01_bits.f 80 (wrap64 (8 * s)) = some m) : stencilref01_Fits.f 80 p b = some (decide (b ≤ m)) := by
  unfold stencilref01_Fits.f
  rw [hs, hg]
  show (if s = 0 then some false else ((stencilref01_bits.f 80 (wrap64 (8 * s))).bind fun t205 => (some (decide (b ≤ t205))))) = _
  rw [if_neg s0, hm]; rfl
theorem rsize_no (k : Nat) (p : Int) (h : p < 0 ∨ 10 < p) : stencilref01_Size.f (k + 3) p = some 0 := by
  have e : ∀ n : Int, 0 ≤ n ∧ n ≤ 10 → (p == n) = false := fun n hn => beq_eq_false_iff_ne.mpr (by omega)
  have j2 : stencilref01_Size.j2 (k + 1) p false = some 0 := by
    show (if p = 4 then (some 8) else (if p = 8 then (some 8) else (if p = 10 then (some 8) else (some 0)))) = _
    rw [if_neg (by omega), if_neg (by omega), if_neg (by omega)]
  have j1 : stencilref01_Size.j1 (k + 2) p false = some 0 := by
    show (if p = 3 then (stencilref01_Size.j2 (k + 1) p (p == 3)) else (if p = 7 then (stencilref01_Size.j2 (k + 1) p (p == 7)) else (stencilref01_Size.j2 (k + 1) p (p == 9)))) = _
    rw [if_neg (by omega), if_neg (by omega), e 9 (by decide)]; exact j2
  unfold stencilref01_Size.f
  rw [if_neg (by omega), if_neg (by omega), e 5 (by decide)]
  show (if p = 2 then (stencilref01_Size.j1 (k + 2) p (p == 2)) else (stencilref01_Size.j1 (k + 2) p (p == 6))) = _
  rw [if_neg (by omega), e 6 (by decide)]; exact j1
theorem rfits (p b : Int) (h0 : 0 ≤ b) (h1 : b < 18446744073709551616) : stencilref01_Fits.f 80 p b = some (fitsV p b) := by
  rcases row_cases p with ⟨hp, h⟩ | rfl | rfl | rfl | rfl | rfl | rfl | rfl | rfl | rfl | rfl | rfl
  · unfold stencilref01_Fits.f
    rw [rsize_no 77 p hp, fitsV_of (fits_no p b h)]; rfl
  · rw [rfits_u b (s := 1) (m := 255) (by decide +kernel) (by decide) (by decide +kernel) (by decide +kernel), fv_b _ b h0 h1 (Or.inl rfl)]
  · rw [rfits_s b (s := 1) (h := 128) (n := 18446744073709551488) (by decide +kernel) (by decide) (by decide +kernel) (by decide +kernel) (by decide +kernel), fv_1 b h0 h1]
  · rw [rfits_s b (s := 2) (h := 32768) (n := 18446744073709518848) (by decide +kernel) (by decide) (by decide +kernel) (by decide +kernel) (by decide +kernel), fv_2 b h0 h1]
  · rw [rfits_s b (s := 4) (h := 2147483648) (n := 18446744071562067968) (by decide +kernel) (by decide) (by decide +kernel) (by decide +kernel) (by decide +kernel), fv_3 b h0 h1]
  · rw [rfits_s b (s := 8) (h := 9223372036854775808) (n := 9223372036854775808) (by decide +kernel) (by decide) (by decide +kernel) (by decide +kernel) (by decide +kernel), fv_4 b h0 h1]
  · rw [rfits_u b (s := 1) (m := 255) (by decide +kernel) (by decide) (by decide +kernel) (by decide +kernel), fv_b _ b h0 h1 (Or.inr rfl)]
  · rw [rfits_u b (s := 2) (m := 65535) (by decide +kernel) (by decide) (by decide +kernel) (by decide +kernel), fv_6 b h0 h1]
  · rw [rfits_u b (s := 4) (m := 4294967295) (by decide +kernel) (by decide) (by decide +kernel) (by decide +kernel), fv_w _ b h0 h1 (Or.inl rfl)]
  · rw [rfits_u b (s := 8) (m := 18446744073709551615) (by decide +kernel) (by decide) (by decide +kernel) (by decide +kernel), fv_l _ b h0 h1 (Or.inl rfl)]
  · rw [rfits_u b (s := 4) (m := 4294967295) (by decide +kernel) (by decide) (by decide +kernel) (by decide +kernel), fv_w _ b h0 h1 (Or.inr rfl)]
  · rw [rfits_u b (s := 8) (m := 18446744073709551615) (by decide +kernel) (by decide) (by decide +kernel) (by decide +kernel), fv_l _ b h0 h1 (Or.inr rfl)]
theorem ref_place (at_ z k o L : Int) (ho : o = 0 ∨ o = 1) (h0 : 0 ≤ at_) (hk : 0 ≤ k ∧ k < z) (hz : z ≤ 8) (hl : at_ + z ≤ L) (hL : L < 4611686018427387904) : stencilref01_place.f at_ z k o = some (at_ + plc z o k) := by
  unfold stencilref01_place.f plc
  rcases ho with rfl | rfl
  · rw [if_pos rfl, if_neg (by decide)]
    congr 1; unfold wrap64; omega
  · rw [if_neg (by decide), if_pos rfl]
    congr 1; unfold wrap64; omega
def topV (F : Nat → Int) : Nat → Int → Int
  | 0, acc => acc
  | j + 1, acc => topV F j (256 * acc + F j)
theorem topV_eq (F : Nat → Int) : ∀ j acc, topV F j acc = acc * 2 ^ (8 * j) + sumB F j
  | 0, acc => by show acc = acc * 1 + 0; omega
  | j + 1, acc => by
    show topV F j (256 * acc + F j) = _
    rw [topV_eq F j, show 8 * (j + 1) = 8 * j + 8 by omega, Int.pow_add, show (2 : Int) ^ 8 = 256 from rfl]
    show _ = acc * (2 ^ (8 * j) * 256) + (sumB F j + F j * 2 ^ (8 * j))
    generalize (2 : Int) ^ (8 * j) = P
    rw [Int.add_mul, Int.mul_comm P 256, ← Int.mul_assoc, Int.mul_comm acc 256]
    omega
theorem get_loop (xs : List Int) (at_ p o z : Int) (ho : o = 0 ∨ o = 1) (h0 : 0 ≤ at_) (hz : z ≤ 8) (hl : at_ + z ≤ xs.length) (hL : (xs.length : Int) < 4611686018427387904) (F : Nat → Int) (hF : ∀ k : Nat, F k = xs.getD (at_ + plc z o (k : Int)).toNat 0) (hr : ∀ k, 0 ≤ F k ∧ F k ≤ 255) (K : Nat) :
    ∀ (j : Nat) (acc : Int), (j : Int) ≤ z → 0 ≤ acc → acc * 2 ^ (8 * j) < 18446744073709551616 → stencilref01_Get.l0 (K + j) xs at_ p o z acc ((j : Int) - 1) = stencilref01_Get.l0 K xs at_ p o z (topV F j acc) (-1)
  | 0, acc, _, _, _ => rfl
  | j + 1, acc, hj, ha, hb => by
    have hpp : (1 : Int) ≤ 2 ^ (8 * j) := by have := Int.pow_pos (n := 2) (m := 8 * j) (by decide : (0 : Int) < 2); omega
    have hb2 : 256 * acc * 2 ^ (8 * j) < 18446744073709551616 := by
      rw [show 8 * (j + 1) = 8 * j + 8 by omega, Int.pow_add, show (2 : Int) ^ 8 = 256 from rfl] at hb
      rw [show 256 * acc * 2 ^ (8 * j) = acc * (2 ^ (8 * j) * 256) by rw [Int.mul_comm 256 acc, Int.mul_assoc, Int.mul_comm 256]]
      exact hb
    have hb3 : 256 * acc < 18446744073709551616 := Int.lt_of_le_of_lt (by have := Int.mul_le_mul_of_nonneg_left hpp (show 0 ≤ 256 * acc by omega); omega) hb2
    have hfr := hr j
    have hb4 : 256 * acc + F j < 18446744073709551616 := by omega
    have hb5 : (256 * acc + F j) * 2 ^ (8 * j) < 18446744073709551616 := by
      have hj8 : j ≤ 7 := by omega
      have : j = 0 ∨ j = 1 ∨ j = 2 ∨ j = 3 ∨ j = 4 ∨ j = 5 ∨ j = 6 ∨ j = 7 := by omega
      rcases this with rfl | rfl | rfl | rfl | rfl | rfl | rfl | rfl <;> simp only [Nat.mul_zero, Int.pow_zero, show (2 : Int) ^ (8 * 1) = 256 from rfl, show (2 : Int) ^ (8 * 2) = 65536 from rfl, show (2 : Int) ^ (8 * 3) = 16777216 from rfl, show (2 : Int) ^ (8 * 4) = 4294967296 from rfl, show (2 : Int) ^ (8 * 5) = 1099511627776 from rfl, show (2 : Int) ^ (8 * 6) = 281474976710656 from rfl, show (2 : Int) ^ (8 * 7) = 72057594037927936 from rfl] at hb2 ⊢ <;> omega
    have hpl := plc_bd z o j (by omega) (by omega)
    rw [show K + (j + 1) = (K + j) + 1 by omega, stencilref01_Get.l0, if_pos (by omega), show ((j + 1 : Nat) : Int) - 1 = (j : Int) by omega, ref_place at_ z j o xs.length ho h0 ⟨by omega, by omega⟩ hz hl hL, Option.bind_some, if_pos (by omega), if_pos (by omega)]
    rw [show rd xs (at_ + plc z o (j : Int)) = F j by rw [hF j]; rfl, u64w, u64w, u64w, show (256 * acc % 18446744073709551616 + F j % 18446744073709551616) % 18446744073709551616 = 256 * acc + F j by omega, show wrap64 ((j : Int) - 1) = (j : Int) - 1 by unfold wrap64; omega]
    exact get_loop xs at_ p o z ho h0 hz hl hL F hF hr K j _ (by omega) (by omega) hb5
theorem tail_s (K : Nat) (xs : List Int) (at_ p o n h m V : Int) (hs : stencilref01_Signed.f p = some true) (hh : stencilref01_high.f (K + 1) p = some h) (hb : stencilref01_bits.f K 64 = some 18446744073709551615) (hm : stencilref01_bits.f K (wrap64 (8 * n)) = some m) :
    stencilref01_Get.l0 (K + 1 + 1) xs at_ p o n V (-1) = some (if h ≤ V then IntKind.u64.wrap (IntKind.u64.wrap (V + 18446744073709551615) - m) else V, 0) := by
  rw [stencilref01_Get.l0, if_neg (by decide), hs, Option.bind_some, if_pos rfl, hh, Option.bind_some, stencilref01_Get.j2]
  by_cases c : h ≤ V
  · rw [decide_eq_true c, if_pos rfl, hb, Option.bind_some, hm, Option.bind_some, if_pos c]
  · rw [decide_eq_false c, if_neg (by decide), if_neg c]
theorem tail_u (K : Nat) (xs : List Int) (at_ p o n V : Int) (hs : stencilref01_Signed.f p = some false) :
    stencilref01_Get.l0 (K + 1 + 1) xs at_ p o n V (-1) = some (V, 0) := by
  rw [stencilref01_Get.l0, if_neg (by decide), hs, Option.bind_some, if_neg (by decide), stencilref01_Get.j2, if_neg (by decide)]
theorem rsize (p z : Int) (sg fl : Bool) (nu mi ma : Int) (hp : primRow p = (z, sg, fl, nu, mi, ma)) : stencilref01_Size.f 81 p = some z := by
  rcases row_cases p with ⟨hq, h⟩ | rfl | rfl | rfl | rfl | rfl | rfl | rfl | rfl | rfl | rfl | rfl
  · rw [h] at hp; simp only [Prod.mk.injEq] at hp; rw [← hp.1]; exact rsize_no 78 p hq
  all_goals
    have e := congrArg Prod.fst hp
    simp only at e
    rw [← e]
    decide +kernel
theorem wdS_s (z V : Int) (hz : z = 1 ∨ z = 2 ∨ z = 4 ∨ z = 8) (h m : Int) (hh : h = 2 ^ (8 * z.toNat - 1)) (hm : m = 2 ^ (8 * z.toNat) - 1) (h0 : 0 ≤ V) (h1 : V < 2 ^ (8 * z.toNat)) : wdS true (64 - 8 * z) V = if h ≤ V then IntKind.u64.wrap (IntKind.u64.wrap (V + 18446744073709551615) - m) else V := by
  show wordS (64 - 8 * z) V = _
  rw [u64w, u64w]
  rcases hz with rfl | rfl | rfl | rfl
  · rw [wordS_eq (64 - 8 * 1) 56 72057594037927936 (by decide) (by decide) (by decide)]
    simp only [show (2 : Int) ^ (8 * (1 : Int).toNat - 1) = 128 by decide, show (2 : Int) ^ (8 * (1 : Int).toNat) = 256 by decide] at hh hm h1
    subst hh hm; unfold wrap64; split <;> omega
  · rw [wordS_eq (64 - 8 * 2) 48 281474976710656 (by decide) (by decide) (by decide)]
    simp only [show (2 : Int) ^ (8 * (2 : Int).toNat - 1) = 32768 by decide, show (2 : Int) ^ (8 * (2 : Int).toNat) = 65536 by decide] at hh hm h1
    subst hh hm; unfold wrap64; split <;> omega
  · rw [wordS_eq (64 - 8 * 4) 32 4294967296 (by decide) (by decide) (by decide)]
    simp only [show (2 : Int) ^ (8 * (4 : Int).toNat - 1) = 2147483648 by decide, show (2 : Int) ^ (8 * (4 : Int).toNat) = 4294967296 by decide] at hh hm h1
    subst hh hm; unfold wrap64; split <;> omega
  · rw [wordS_eq (64 - 8 * 8) 0 1 (by decide) (by decide) (by decide)]
    simp only [show (2 : Int) ^ (8 * (8 : Int).toNat - 1) = 9223372036854775808 by decide, show (2 : Int) ^ (8 * (8 : Int).toNat) = 18446744073709551616 by decide] at hh hm h1
    subst hh hm; unfold wrap64; split <;> omega
theorem wdS_u (z V : Int) (hz : z = 1 ∨ z = 2 ∨ z = 4 ∨ z = 8) (h0 : 0 ≤ V) (h1 : V < 2 ^ (8 * z.toNat)) : wdS false (64 - 8 * z) V = V := by
  show wordU (64 - 8 * z) V = _
  rcases hz with rfl | rfl | rfl | rfl
  · rw [wordU_eq (64 - 8 * 1) 56 (by decide) (by decide), show (2 : Int) ^ 56 = 72057594037927936 by decide]
    simp only [show (2 : Int) ^ (8 * (1 : Int).toNat) = 256 by decide] at h1; omega
  · rw [wordU_eq (64 - 8 * 2) 48 (by decide) (by decide), show (2 : Int) ^ 48 = 281474976710656 by decide]
    simp only [show (2 : Int) ^ (8 * (2 : Int).toNat) = 65536 by decide] at h1; omega
  · rw [wordU_eq (64 - 8 * 4) 32 (by decide) (by decide), show (2 : Int) ^ 32 = 4294967296 by decide]
    simp only [show (2 : Int) ^ (8 * (4 : Int).toNat) = 4294967296 by decide] at h1; omega
  · rw [wordU_eq (64 - 8 * 8) 0 (by decide) (by decide), show (2 : Int) ^ 0 = 1 by decide]
    simp only [show (2 : Int) ^ (8 * (8 : Int).toNat) = 18446744073709551616 by decide] at h1; omega
theorem get_tail (p : Int) (hin : ¬ (p < 0 ∨ 10 < p)) (z : Int) (sg fl : Bool) (nu mi ma : Int) (hp : primRow p = (z, sg, fl, nu, mi, ma)) (xs : List Int) (at_ o V : Int) (h0 : 0 ≤ V) (h1 : V < 2 ^ (8 * z.toNat)) : stencilref01_Get.l0 (80 - z.toNat) xs at_ p o z V (-1) = some (wdS sg (64 - 8 * z) V, 0) := by
  rcases row_cases p with ⟨hq, h⟩ | rfl | rfl | rfl | rfl | rfl | rfl | rfl | rfl | rfl | rfl | rfl
  · exact absurd hq hin
  · have e1 : (1 : Int) = z := congrArg Prod.fst hp
    have e2 : false = sg := congrArg (fun x : Int × Bool × Bool × Int × Int × Int => x.2.1) hp
    subst e1 e2
    clear hp
    rw [wdS_u 1 V (by decide) h0 h1]
    exact tail_u 77 xs at_ 0 o 1 V (by decide +kernel)
  · have e1 : (1 : Int) = z := congrArg Prod.fst hp
    have e2 : true = sg := congrArg (fun x : Int × Bool × Bool × Int × Int × Int => x.2.1) hp
    subst e1 e2
    clear hp
    rw [wdS_s 1 V (by decide) 128 255 (by decide) (by decide) h0 h1]
    exact tail_s 77 xs at_ 1 o 1 128 255 V (by decide +kernel) (by decide +kernel) (by decide +kernel) (by decide +kernel)
  · have e1 : (2 : Int) = z := congrArg Prod.fst hp
    have e2 : true = sg := congrArg (fun x : Int × Bool × Bool × Int × Int × Int => x.2.1) hp
    subst e1 e2
    clear hp
    rw [wdS_s 2 V (by decide) 32768 65535 (by decide) (by decide) h0 h1]
    exact tail_s 76 xs at_ 2 o 2 32768 65535 V (by decide +kernel) (by decide +kernel) (by decide +kernel) (by decide +kernel)
  · have e1 : (4 : Int) = z := congrArg Prod.fst hp
    have e2 : true = sg := congrArg (fun x : Int × Bool × Bool × Int × Int × Int => x.2.1) hp
    subst e1 e2
    clear hp
    rw [wdS_s 4 V (by decide) 2147483648 4294967295 (by decide) (by decide) h0 h1]
    exact tail_s 74 xs at_ 3 o 4 2147483648 4294967295 V (by decide +kernel) (by decide +kernel) (by decide +kernel) (by decide +kernel)
  · have e1 : (8 : Int) = z := congrArg Prod.fst hp
    have e2 : true = sg := congrArg (fun x : Int × Bool × Bool × Int × Int × Int => x.2.1) hp
    subst e1 e2
    clear hp
    rw [wdS_s 8 V (by decide) 9223372036854775808 18446744073709551615 (by decide) (by decide) h0 h1]
    exact tail_s 70 xs at_ 4 o 8 9223372036854775808 18446744073709551615 V (by decide +kernel) (by decide +kernel) (by decide +kernel) (by decide +kernel)
  · have e1 : (1 : Int) = z := congrArg Prod.fst hp
    have e2 : false = sg := congrArg (fun x : Int × Bool × Bool × Int × Int × Int => x.2.1) hp
    subst e1 e2
    clear hp
    rw [wdS_u 1 V (by decide) h0 h1]
    exact tail_u 77 xs at_ 5 o 1 V (by decide +kernel)
  · have e1 : (2 : Int) = z := congrArg Prod.fst hp
    have e2 : false = sg := congrArg (fun x : Int × Bool × Bool × Int × Int × Int => x.2.1) hp
    subst e1 e2
    clear hp
    rw [wdS_u 2 V (by decide) h0 h1]
    exact tail_u 76 xs at_ 6 o 2 V (by decide +kernel)
  · have e1 : (4 : Int) = z := congrArg Prod.fst hp
    have e2 : false = sg := congrArg (fun x : Int × Bool × Bool × Int × Int × Int => x.2.1) hp
    subst e1 e2
    clear hp
    rw [wdS_u 4 V (by decide) h0 h1]
    exact tail_u 74 xs at_ 7 o 4 V (by decide +kernel)
  · have e1 : (8 : Int) = z := congrArg Prod.fst hp
    have e2 : false = sg := congrArg (fun x : Int × Bool × Bool × Int × Int × Int => x.2.1) hp
    subst e1 e2
    clear hp
    rw [wdS_u 8 V (by decide) h0 h1]
    exact tail_u 70 xs at_ 8 o 8 V (by decide +kernel)
  · have e1 : (4 : Int) = z := congrArg Prod.fst hp
    have e2 : false = sg := congrArg (fun x : Int × Bool × Bool × Int × Int × Int => x.2.1) hp
    subst e1 e2
    clear hp
    rw [wdS_u 4 V (by decide) h0 h1]
    exact tail_u 74 xs at_ 9 o 4 V (by decide +kernel)
  · have e1 : (8 : Int) = z := congrArg Prod.fst hp
    have e2 : false = sg := congrArg (fun x : Int × Bool × Bool × Int × Int × Int => x.2.1) hp
    subst e1 e2
    clear hp
    rw [wdS_u 8 V (by decide) h0 h1]
    exact tail_u 70 xs at_ 10 o 8 V (by decide +kernel)
/-- The document's Get is the word that the program's gets. -/
theorem ref_get (p : Int) (hin : ¬ (p < 0 ∨ 10 < p)) (z : Int) (sg fl : Bool) (nu mi ma : Int) (hp : primRow p = (z, sg, fl, nu, mi, ma)) (xs : List Int) (at_ o : Int) (ho : o = 0 ∨ o = 1) (h0 : 0 ≤ at_) (hl : at_ + z ≤ xs.length) (hL : (xs.length : Int) < 4611686018427387904) (hx : ∀ x ∈ xs, 0 ≤ x ∧ x ≤ 255) :
    ∃ r, prim_row_word.f z sg fl nu mi ma (gAcc (fun k : Nat => xs.getD (at_ + plc z o (k : Int)).toNat 0) z.toNat) = some r ∧ stencilref01_Get.f 81 xs at_ p o = some (r, 0) := by
  obtain ⟨z', sg', fl', nu', mi', ma', hrow, hz, hword, _⟩ := word_all p hin
  have hp' := hp
  rw [hp] at hrow
  simp only [Prod.mk.injEq] at hrow
  obtain ⟨rfl, rfl, rfl, rfl, rfl, rfl⟩ := hrow
  obtain ⟨F, hF⟩ : ∃ F : Nat → Int, F = fun k : Nat => xs.getD (at_ + plc z o (k : Int)).toNat 0 := ⟨_, rfl⟩
  have hr : ∀ k, 0 ≤ F k ∧ F k ≤ 255 := fun k => by
    rw [hF]
    show 0 ≤ xs.getD (at_ + plc z o (k : Int)).toNat 0 ∧ xs.getD (at_ + plc z o (k : Int)).toNat 0 ≤ 255
    rw [List.getD_eq_getElem?_getD]
    cases h : xs[(at_ + plc z o (k : Int)).toNat]? with
    | none => exact ⟨by decide, by decide⟩
    | some y => exact hx y (List.mem_of_getElem? h)
  rw [← hF]
  have hg := gAcc_eq F z.toNat (by omega) (fun j _ => hr j)
  have hsb := sumB_rng F z.toNat (fun j _ => hr j)
  refine ⟨_, hword _, ?_⟩
  rw [hg]
  have hord : stencilref01_order.f o = some true := by unfold stencilref01_order.f; rcases ho with rfl | rfl <;> rfl
  unfold stencilref01_Get.f
  rw [rsize p z sg fl nu mi ma hp', Option.bind_some, if_neg (by omega), hord, Option.bind_some]
  show stencilref01_Get.j0 (80 + 1) xs at_ p o z false = _
  rw [stencilref01_Get.j0, if_neg (by decide), lies_yes _ at_ z h0 (by omega) hl hL, Option.bind_some, if_pos rfl, show wrap64 (z - 1) = (z.toNat : Int) - 1 by unfold wrap64; omega]
  have hlp := get_loop xs at_ p o z ho h0 (by omega) hl hL F (fun k => by rw [hF]) hr (80 - z.toNat) z.toNat 0 (by omega) (by decide) (by rw [Int.zero_mul]; decide)
  rw [show 80 - z.toNat + z.toNat = 80 by omega, topV_eq, Int.zero_mul, Int.zero_add] at hlp
  rw [hlp]
  exact get_tail p hin z sg fl nu mi ma hp' xs at_ o _ hsb.1 hsb.2
theorem put_loop (at_ o z : Int) (ho : o = 0 ∨ o = 1) (h0 : 0 ≤ at_) (hz : z ≤ 8) (w : Int) (hw : 0 ≤ w) (xs : List Int) (hl : at_ + z ≤ xs.length) (hL : (xs.length : Int) < 4611686018427387904) (K : Nat) :
    ∀ (j k : Nat) (v : Int), (k : Int) + j = z → v = w / 2 ^ (8 * k) → v < 18446744073709551616 → stencilref01_Put.l0 (K + j + 1) (putL xs at_ z o w k) at_ o v z (k : Int) = some (0, putL xs at_ z o w z.toNat)
  | 0, k, v, hk, _, _ => by
    rw [stencilref01_Put.l0, if_neg (by omega), show z.toNat = k by omega]
  | j + 1, k, v, hk, hv, hv2 => by
    have hpl := plc_bd z o k (by omega) (by omega)
    have hP : (0 : Int) < 2 ^ (8 * k) := Int.pow_pos (by decide)
    have hv0 : 0 ≤ v := by rw [hv]; exact Int.ediv_nonneg hw (by omega)
    have e1 : Int.tmod v 256 % 256 = pB w k := by
      rw [Int.tmod_eq_emod_of_nonneg hv0]; unfold pB; rw [← hv]; omega
    have e2 : IntKind.u64.wrap (Int.tdiv v 256) = w / 2 ^ (8 * (k + 1)) := by
      rw [Int.tdiv_eq_ediv_of_nonneg hv0, u64w, show 8 * (k + 1) = 8 * k + 8 by omega, Int.pow_add, show (2 : Int) ^ 8 = 256 from rfl, ← Int.ediv_ediv_of_nonneg (by omega), ← hv]
      omega
    rw [show K + (j + 1) + 1 = (K + j + 1) + 1 by omega, stencilref01_Put.l0, if_pos (by omega), ref_place at_ z k o xs.length ho h0 ⟨by omega, by omega⟩ hz hl hL, Option.bind_some, if_pos (by omega), if_pos (by rw [putL_len]; omega), e1, e2, show wrap64 ((k : Int) + 1) = ((k + 1 : Nat) : Int) by unfold wrap64; omega]
    refine put_loop at_ o z ho h0 hz w hw xs hl hL K j (k + 1) _ (by omega) rfl ?_
    rw [show 8 * (k + 1) = 8 * k + 8 by omega, Int.pow_add, show (2 : Int) ^ 8 = 256 from rfl, ← Int.ediv_ediv_of_nonneg (by omega), ← hv]
    omega
/-- The document's Put puts what the program's puts. -/
theorem ref_put (p : Int) (hin : ¬ (p < 0 ∨ 10 < p)) (z : Int) (sg fl : Bool) (nu mi ma : Int) (hp : primRow p = (z, sg, fl, nu, mi, ma)) (xs : List Int) (at_ o w : Int) (ho : o = 0 ∨ o = 1) (h0 : 0 ≤ at_) (hl : at_ + z ≤ xs.length) (hL : (xs.length : Int) < 4611686018427387904) (hw : 0 ≤ w ∧ w < 18446744073709551616) (hf : fitsV p w = true) :
    stencilref01_Put.f 81 xs at_ p o w = some (0, putL xs at_ z o w z.toNat) := by
  obtain ⟨z', sg', fl', nu', mi', ma', hrow, hz, _, _⟩ := word_all p hin
  have hp' := hp
  rw [hp] at hrow
  simp only [Prod.mk.injEq] at hrow
  obtain ⟨rfl, rfl, rfl, rfl, rfl, rfl⟩ := hrow
  have hord : stencilref01_order.f o = some true := by unfold stencilref01_order.f; rcases ho with rfl | rfl <;> rfl
  unfold stencilref01_Put.f
  rw [rsize p z sg fl nu mi ma hp', Option.bind_some, if_neg (by omega), hord, Option.bind_some]
  show stencilref01_Put.j0 (80 + 1) xs at_ p o w z false = _
  rw [stencilref01_Put.j0, if_neg (by decide), rfits p w hw.1 hw.2, Option.bind_some, hf, if_pos rfl, lies_yes _ at_ z h0 (by omega) hl hL, Option.bind_some, if_pos rfl]
  have := put_loop at_ o z ho h0 (by omega) w hw.1 xs hl hL (80 - z.toNat - 1) z.toNat 0 w (by omega) (by rw [show (2 : Int) ^ (8 * 0) = 1 from rfl]; omega) hw.2
  rw [show 80 - z.toNat - 1 + z.toNat + 1 = 80 by omega] at this
  exact this

end Go.Proofs.YtgackepigegbkaaDoor.B
