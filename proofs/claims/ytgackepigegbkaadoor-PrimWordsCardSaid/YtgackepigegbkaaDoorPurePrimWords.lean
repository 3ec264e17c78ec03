/- The plain law of PrimWords: the program's words answer as the reference's do. -/
import Derived.Test.YtgackepigegbkaaDoorPureNum
import Derived.Test.YtgackepigegbkaaDoorQDPrimWords
namespace Go.Proofs.YtgackepigegbkaaDoor.Pure
open Go.RowKit Go.Proofs.YtgackepigegbkaaDoor.Q Go.Proofs.YtgackepigegbkaaDoorW.PrintWords Go.Proofs.YtgackepigegbkaaDoorW.PrintLast Go.Proofs.YtgackepigegbkaaDoorW.PrintMore
set_option linter.unusedVariables false

def R (p : Int) : Int := (primRow p).1
theorem wordS_eq (s : Int) (n : Nat) (c : Int) (hn : s.toNat = n) (h : n ≤ 64) (hc : (2 : Int) ^ n = c) (b : Int) : wordS s b = (wrap64 (b * c % 18446744073709551616) / c) % 18446744073709551616 := by
  unfold wordS; rw [u64w, shrw _ rfl, shlw, hn, Nat.min_eq_left h, hc]
theorem wordU_eq (s : Int) (n : Nat) (hn : s.toNat = n) (h : n ≤ 64) (b : Int) : wordU s b = (b * 2 ^ n % 18446744073709551616) / 2 ^ n := by
  unfold wordU; rw [shrw _ rfl, shlw, hn, Nat.min_eq_left h]
theorem fitsV_of {p b : Int} {x : Bool} (h : prim_Fits.f p b = some x) : fitsV p b = x := by unfold fitsV; rw [h]; rfl
theorem fv_1 (b : Int) (h0 : 0 ≤ b) (h1 : b < 18446744073709551616) : fitsV 1 b = (decide (b < 128) || decide (b ≥ 18446744073709551488)) := by
  rw [fitsV_of (fits_1 b), Bool.eq_iff_iff, beq_iff_eq, wordS_eq 56 56 72057594037927936 rfl (by decide) (by decide), i64w, Bool.or_eq_true, decide_eq_true_iff, decide_eq_true_iff]
  split <;> omega
theorem fv_2 (b : Int) (h0 : 0 ≤ b) (h1 : b < 18446744073709551616) : fitsV 2 b = (decide (b < 32768) || decide (b ≥ 18446744073709518848)) := by
  rw [fitsV_of (fits_2 b), Bool.eq_iff_iff, beq_iff_eq, wordS_eq 48 48 281474976710656 rfl (by decide) (by decide), i64w, Bool.or_eq_true, decide_eq_true_iff, decide_eq_true_iff]
  split <;> omega
theorem fv_3 (b : Int) (h0 : 0 ≤ b) (h1 : b < 18446744073709551616) : fitsV 3 b = (decide (b < 2147483648) || decide (b ≥ 18446744071562067968)) := by
  rw [fitsV_of (fits_3 b), Bool.eq_iff_iff, beq_iff_eq, wordS_eq 32 32 4294967296 rfl (by decide) (by decide), i64w, Bool.or_eq_true, decide_eq_true_iff, decide_eq_true_iff]
  split <;> omega
theorem fv_4 (b : Int) (h0 : 0 ≤ b) (h1 : b < 18446744073709551616) : fitsV 4 b = (decide (b < 9223372036854775808) || decide (b ≥ 9223372036854775808)) := by
  rw [fitsV_of (fits_4 b), Bool.eq_iff_iff, beq_iff_eq, wordS_eq 0 0 1 rfl (by decide) (by decide), i64w, Bool.or_eq_true, decide_eq_true_iff, decide_eq_true_iff]
  split <;> omega
theorem fv_u {p b : Int} (s : Int) (n : Nat) (c : Int) (hf : prim_Fits.f p b = some (wordU s b == b)) (hn : s.toNat = n) (h : n ≤ 64) (h0 : 0 ≤ b) (h1 : b < 18446744073709551616) (hc : (2 : Int) ^ n = c) (m : Int) (hm : (b * c % 18446744073709551616) / c = b ↔ b ≤ m) : fitsV p b = decide (b ≤ m) := by
  rw [fitsV_of hf, Bool.eq_iff_iff, beq_iff_eq, wordU_eq s n hn h, hc, decide_eq_true_iff]; exact hm
theorem fv_b (p b : Int) (h0 : 0 ≤ b) (h1 : b < 18446744073709551616) (hp : p = 0 ∨ p = 5) : fitsV p b = decide (b ≤ 255) := by
  rcases hp with rfl | rfl
  · exact fv_u 56 56 72057594037927936 (fits_0 b) rfl (by decide) h0 h1 (by decide) 255 (by omega)
  · exact fv_u 56 56 72057594037927936 (fits_5 b) rfl (by decide) h0 h1 (by decide) 255 (by omega)
theorem fv_6 (b : Int) (h0 : 0 ≤ b) (h1 : b < 18446744073709551616) : fitsV 6 b = decide (b ≤ 65535) :=
  fv_u 48 48 281474976710656 (fits_6 b) rfl (by decide) h0 h1 (by decide) 65535 (by omega)
theorem fv_w (p b : Int) (h0 : 0 ≤ b) (h1 : b < 18446744073709551616) (hp : p = 7 ∨ p = 9) : fitsV p b = decide (b ≤ 4294967295) := by
  rcases hp with rfl | rfl
  · exact fv_u 32 32 4294967296 (fits_7 b) rfl (by decide) h0 h1 (by decide) 4294967295 (by omega)
  · exact fv_u 32 32 4294967296 (fits_9 b) rfl (by decide) h0 h1 (by decide) 4294967295 (by omega)
theorem fv_l (p b : Int) (h0 : 0 ≤ b) (h1 : b < 18446744073709551616) (hp : p = 8 ∨ p = 10) : fitsV p b = decide (b ≤ 18446744073709551615) := by
  rcases hp with rfl | rfl
  · exact fv_u 0 0 1 (fits_8 b) rfl (by decide) h0 h1 (by decide) 18446744073709551615 (by omega)
  · exact fv_u 0 0 1 (fits_10 b) rfl (by decide) h0 h1 (by decide) 18446744073709551615 (by omega)

/-! the reference -/
theorem rfits_s {p s h n : Int} (b : Int) (hs : stencilref01_Size.f 80 p = some s) (s0 : s ≠ 0) (hg : stencilref01_Signed.f p = some true) (hh : stencilref01_high.f 80 p = some h) (hn : stencilref01_Null.f 80 p = some n) : stencilref01_Fits.f 80 p b = some (decide (b < h) || decide (b ≥ n)) := by
  unfold stencilref01_Fits.f
  rw [hs, hg, hh, hn]
  show (if s = 0 then some false else (if b < h then some true else some (decide (b ≥ n)))) = _
  rw [if_neg s0]
  by_cases c : b < h
  · rw [if_pos c, decide_eq_true c]; rfl
  · rw [if_neg c, decide_eq_false c]; rfl
theorem rfits_u {p s m : Int} (b : Int) (hs : stencilref01_Size.f 80 p = some s) (s0 : s ≠ 0) (hg : stencilref01_Signed.f p = some false) (hm : stencilref01_bits.f 80 (wrap64 (8 * s)) = some m) : stencilref01_Fits.f 80 p b = some (decide (b ≤ m)) := by
  unfold stencilref01_Fits.f
  rw [hs, hg]
  show (if s = 0 then some false else ((stencilref01_bits.f 80 (wrap64 (8 * s))).bind fun t205 => (some (decide (b ≤ t205))))) = _
  rw [if_neg s0, hm]; rfl
theorem rsize_no (k : Nat) (p : Int) (h : p < 0 ∨ 10 < p) : stencilref01_Size.f (k + 3) p = some 0 := by
  have e : ∀ n : Int, 0 ≤ n ∧ n ≤ 10 → (p == n) = false := fun n hn => beq_eq_false_iff_ne.mpr (by omega)
  have j2 : stencilref01_Size.j2 (k + 1) p false = some 0 := by
    show (if p = 4 then (some 8) else (if p = 8 then (some 8) else (if p = 10 then (some 8) else (some 0)))) = _
    rw [if_neg (by omega), if_neg (by omega), if_neg (by omega)]
  have j1 : stencilref01_Size.j1 (k + 2) p false = some 0 := by
    show (if p = 3 then (stencilref01_Size.j2 (k + 1) p (p == 3)) else (if p = 7 then (stencilref01_Size.j2 (k + 1) p (p == 7)) else (stencilref01_Size.j2 (k + 1) p (p == 9)))) = _
    rw [if_neg (by omega), if_neg (by omega), e 9 (by decide)]; exact j2
  unfold stencilref01_Size.f
  rw [if_neg (by omega), if_neg (by omega), e 5 (by decide)]
  show (if p = 2 then (stencilref01_Size.j1 (k + 2) p (p == 2)) else (stencilref01_Size.j1 (k + 2) p (p == 6))) = _
  rw [if_neg (by omega), e 6 (by decide)]; exact j1
theorem rfits (p b : Int) (h0 : 0 ≤ b) (h1 : b < 18446744073709551616) : stencilref01_Fits.f 80 p b = some (fitsV p b) := by
  rcases row_cases p with ⟨hp, h⟩ | rfl | rfl | rfl | rfl | rfl | rfl | rfl | rfl | rfl | rfl | rfl
  · unfold stencilref01_Fits.f
    rw [rsize_no 77 p hp, fitsV_of (fits_no p b h)]; rfl
  · rw [rfits_u b (s := 1) (m := 255) (by decide +kernel) (by decide) (by decide +kernel) (by decide +kernel), fv_b _ b h0 h1 (Or.inl rfl)]
  · rw [rfits_s b (s := 1) (h := 128) (n := 18446744073709551488) (by decide +kernel) (by decide) (by decide +kernel) (by decide +kernel) (by decide +kernel), fv_1 b h0 h1]
  · rw [rfits_s b (s := 2) (h := 32768) (n := 18446744073709518848) (by decide +kernel) (by decide) (by decide +kernel) (by decide +kernel) (by decide +kernel), fv_2 b h0 h1]
  · rw [rfits_s b (s := 4) (h := 2147483648) (n := 18446744071562067968) (by decide +kernel) (by decide) (by decide +kernel) (by decide +kernel) (by decide +kernel), fv_3 b h0 h1]
  · rw [rfits_s b (s := 8) (h := 9223372036854775808) (n := 9223372036854775808) (by decide +kernel) (by decide) (by decide +kernel) (by decide +kernel) (by decide +kernel), fv_4 b h0 h1]
  · rw [rfits_u b (s := 1) (m := 255) (by decide +kernel) (by decide) (by decide +kernel) (by decide +kernel), fv_b _ b h0 h1 (Or.inr rfl)]
  · rw [rfits_u b (s := 2) (m := 65535) (by decide +kernel) (by decide) (by decide +kernel) (by decide +kernel), fv_6 b h0 h1]
  · rw [rfits_u b (s := 4) (m := 4294967295) (by decide +kernel) (by decide) (by decide +kernel) (by decide +kernel), fv_w _ b h0 h1 (Or.inl rfl)]
  · rw [rfits_u b (s := 8) (m := 18446744073709551615) (by decide +kernel) (by decide) (by decide +kernel) (by decide +kernel), fv_l _ b h0 h1 (Or.inl rfl)]
  · rw [rfits_u b (s := 4) (m := 4294967295) (by decide +kernel) (by decide) (by decide +kernel) (by decide +kernel), fv_w _ b h0 h1 (Or.inr rfl)]
  · rw [rfits_u b (s := 8) (m := 18446744073709551615) (by decide +kernel) (by decide) (by decide +kernel) (by decide +kernel), fv_l _ b h0 h1 (Or.inr rfl)]
theorem below_s {p h : Int} (a b : Int) (hh : stencilref01_high.f 79 p = some h) (hg : stencilref01_Signed.f p = some true) (hp : 1 ≤ p ∧ p ≤ 4) (ha0 : 0 ≤ a) (ha1 : a < 18446744073709551616) (hb0 : 0 ≤ b) (hb1 : b < 18446744073709551616) : stencilref01_below.f 79 p a b = some (decide (rankV p a < rankV p b)) := by
  unfold stencilref01_below.f
  rw [hh, hg]
  show some (decide (wrap64 a < wrap64 b)) = _
  congr 1
  rw [Bool.eq_iff_iff, decide_eq_true_iff, decide_eq_true_iff]
  unfold rankV
  rw [if_pos hp, if_pos hp, i64w, i64w]
  split <;> split <;> omega
theorem below_u {p h : Int} (a b : Int) (hh : stencilref01_high.f 79 p = some h) (hg : stencilref01_Signed.f p = some false) (hp : ¬ (1 ≤ p ∧ p ≤ 4)) (h9 : p ≠ 9) (h10 : p ≠ 10) : stencilref01_below.f 79 p a b = some (decide (rankV p a < rankV p b)) := by
  unfold stencilref01_below.f rankV
  rw [hh, hg, if_neg hp, if_neg hp, if_neg h9, if_neg h9, if_neg h10, if_neg h10]
  show (if p = 9 then _ else stencilref01_below.j0 79 a b h (p == 10)) = _
  rw [if_neg h9, beq_eq_false_iff_ne.mpr h10]; rfl
theorem below_f (p h : Int) (a b : Int) (hh : stencilref01_high.f 79 p = some h) (hg : stencilref01_Signed.f p = some false) (hp : p = 9 ∧ h = 2147483648 ∨ p = 10 ∧ h = 9223372036854775808) (ha0 : 0 ≤ a) (hb0 : 0 ≤ b) (la : a < 2 * h) (lb : b < 2 * h) : stencilref01_below.f 79 p a b = some (decide (rankV p a < rankV p b)) := by
  have z : stencilref01_below.f 79 p a b = stencilref01_below.j0 79 a b h true := by
    unfold stencilref01_below.f
    rw [hh, hg]
    rcases hp with ⟨rfl, _⟩ | ⟨rfl, _⟩ <;> rfl
  rw [z]
  show (if ((decide (a ≥ h)) != (decide (b ≥ h))) = true then (some (decide (a ≥ h))) else (if a ≥ h then (some (decide (a > b))) else (some (decide (a < b))))) = _
  have key : rankV p a = (if a < h then a + h else 2 * h - 1 - a) ∧ rankV p b = (if b < h then b + h else 2 * h - 1 - b) := by
    rcases hp with ⟨rfl, rfl⟩ | ⟨rfl, rfl⟩ <;> exact ⟨rfl, rfl⟩
  rw [key.1, key.2]
  by_cases c1 : a ≥ h <;> by_cases c2 : b ≥ h
  · rw [decide_eq_true c1, decide_eq_true c2, if_neg (by decide), if_pos c1, if_neg (by omega), if_neg (by omega)]
    congr 1; rw [Bool.eq_iff_iff, decide_eq_true_iff, decide_eq_true_iff]; omega
  · rw [decide_eq_true c1, decide_eq_false c2, if_pos (by decide), if_neg (by omega), if_pos (by omega)]
    congr 1; exact (decide_eq_true (by omega)).symm
  · rw [decide_eq_false c1, decide_eq_true c2, if_pos (by decide), if_pos (by omega), if_neg (by omega)]
    congr 1; exact (decide_eq_false (by omega)).symm
  · rw [decide_eq_false c1, decide_eq_false c2, if_neg (by decide), if_neg c1, if_pos (by omega), if_pos (by omega)]
    congr 1; rw [Bool.eq_iff_iff, decide_eq_true_iff, decide_eq_true_iff]; omega
theorem rbelow (p a b : Int) (hp : ¬ (p < 0 ∨ 10 < p)) (fa : fitsV p a = true) (fb : fitsV p b = true) (ha0 : 0 ≤ a) (ha1 : a < 18446744073709551616) (hb0 : 0 ≤ b) (hb1 : b < 18446744073709551616) : stencilref01_below.f 79 p a b = some (decide (rankV p a < rankV p b)) := by
  rcases row_cases p with ⟨q, _⟩ | rfl | rfl | rfl | rfl | rfl | rfl | rfl | rfl | rfl | rfl | rfl
  · exact absurd q hp
  · exact below_u a b (h := 128) (by decide +kernel) (by decide +kernel) (by decide) (by decide) (by decide)
  · exact below_s a b (h := 128) (by decide +kernel) (by decide +kernel) (by decide) ha0 ha1 hb0 hb1
  · exact below_s a b (h := 32768) (by decide +kernel) (by decide +kernel) (by decide) ha0 ha1 hb0 hb1
  · exact below_s a b (h := 2147483648) (by decide +kernel) (by decide +kernel) (by decide) ha0 ha1 hb0 hb1
  · exact below_s a b (h := 9223372036854775808) (by decide +kernel) (by decide +kernel) (by decide) ha0 ha1 hb0 hb1
  · exact below_u a b (h := 128) (by decide +kernel) (by decide +kernel) (by decide) (by decide) (by decide)
  · exact below_u a b (h := 32768) (by decide +kernel) (by decide +kernel) (by decide) (by decide) (by decide)
  · exact below_u a b (h := 2147483648) (by decide +kernel) (by decide +kernel) (by decide) (by decide) (by decide)
  · exact below_u a b (h := 9223372036854775808) (by decide +kernel) (by decide +kernel) (by decide) (by decide) (by decide)
  · exact below_f 9 2147483648 a b (by decide +kernel) (by decide +kernel) (Or.inl ⟨rfl, rfl⟩) ha0 hb0 (by have := fits9_lt ha0 fa; omega) (by have := fits9_lt hb0 fb; omega)
  · exact below_f 10 9223372036854775808 a b (by decide +kernel) (by decide +kernel) (Or.inr ⟨rfl, rfl⟩) ha0 hb0 (by omega) (by omega)
theorem rcomp (p a b : Int) (ha0 : 0 ≤ a) (ha1 : a < 18446744073709551616) (hb0 : 0 ≤ b) (hb1 : b < 18446744073709551616) : stencilref01_Compare.f 80 p a b = some (compV p a b) := by
  unfold stencilref01_Compare.f
  rw [rfits p a ha0 ha1, rfits p b hb0 hb1]
  show (if fitsV p a = true then (if fitsV p b = true then (stencilref01_Compare.j0 80 p a b (a == b)) else (stencilref01_Compare.j0 80 p a b true)) else (stencilref01_Compare.j0 80 p a b true)) = _
  have jt : stencilref01_Compare.j0 80 p a b true = some 0 := rfl
  unfold compV
  cases fa : fitsV p a
  · rw [if_neg (by decide), jt, if_neg (by simp)]
  · rw [if_pos rfl]
    cases fb : fitsV p b
    · rw [if_neg (by decide), jt, if_neg (by decide)]
    · rw [if_pos rfl, if_pos (show (true && true) = true from rfl)]
      by_cases e : a = b
      · subst e
        rw [beq_self_eq_true, jt]; unfold cmpV; rw [if_neg (by omega), if_neg (by omega)]
      · rw [beq_eq_false_iff_ne.mpr e]
        have hp : ¬ (p < 0 ∨ 10 < p) := by
          intro q
          rcases row_cases p with ⟨_, h⟩ | h
          · rw [fitsV_of (fits_no p a h)] at fa; exact absurd fa (by decide)
          · omega
        show ((stencilref01_below.f 79 p a b).bind fun t210 => (if t210 = true then (some (-1)) else (some 1))) = _
        rw [rbelow p a b hp fa fb ha0 ha1 hb0 hb1]
        have ne : rankV p a ≠ rankV p b := fun q => e (rank_inj ha0 ha1 hb0 hb1 fa fb q)
        show (if decide (rankV p a < rankV p b) = true then (some (-1)) else (some 1)) = some (cmpV (rankV p a) (rankV p b))
        unfold cmpV
        by_cases c : rankV p a < rankV p b
        · rw [decide_eq_true c, if_pos rfl, if_pos c]
        · rw [decide_eq_false c, if_neg (by decide), if_neg c, if_pos (by omega)]
theorem tail_ (p a b : Int) (ha0 : 0 ≤ a) (ha1 : a < 18446744073709551616) (hb0 : 0 ≤ b) (hb1 : b < 18446744073709551616) : stencillaw01_PrimWords.j0 81 p a b false = some true := by
  have s3 : prim_Size.f 3 = some 4 := by decide +kernel
  show ((prim_Size.f 3).bind fun t221 => (if t221 = 4 then ((prim_Fits.f p a).bind fun t222 => ((stencilref01_Fits.f 80 p a).bind fun t223 => (if (t222 == t223) = true then ((prim_Compare.f 80 p a b).bind fun t224 => ((stencilref01_Compare.f 80 p a b).bind fun t225 => (some (t224 == t225)))) else (some false)))) else (some false))) = _
  rw [s3]
  show ((prim_Fits.f p a).bind fun t222 => ((stencilref01_Fits.f 80 p a).bind fun t223 => (if (t222 == t223) = true then ((prim_Compare.f 80 p a b).bind fun t224 => ((stencilref01_Compare.f 80 p a b).bind fun t225 => (some (t224 == t225)))) else (some false)))) = _
  rw [fits_some p a, rfits p a ha0 ha1]
  show (if (fitsV p a == fitsV p a) = true then ((prim_Compare.f 80 p a b).bind fun t224 => ((stencilref01_Compare.f 80 p a b).bind fun t225 => (some (t224 == t225)))) else (some false)) = _
  rw [if_pos (beq_self_eq_true _), comp_some 78 p a b ha0 ha1 hb0 hb1, rcomp p a b ha0 ha1 hb0 hb1]
  show some (compV p a b == compV p a b) = _
  rw [beq_self_eq_true]
/-- The two tables' rows are alike. -/
theorem head_ (p a b : Int) (s : Int) (g : Bool) (n lo hi : Int) (h1 : prim_Size.f p = some s) (h2 : stencilref01_Size.f 81 p = some s) (h3 : prim_Signed.f p = some g) (h4 : stencilref01_Signed.f p = some g) (h5 : prim_Null.f p = some n) (h6 : stencilref01_Null.f 81 p = some n) (h7 : prim_Min.f p = some lo) (h8 : stencilref01_Min.f 81 p = some lo) (h9 : prim_Max.f p = some hi) (h10 : stencilref01_Max.f 81 p = some hi) : stencillaw01_PrimWords.f 81 p a b = stencillaw01_PrimWords.j0 81 p a b false := by
  unfold stencillaw01_PrimWords.f
  rw [h1, h2, h3, h4, h5, h6, h7, h8, h9, h10]
  show (if s = s then (if (g != g) = true then (stencillaw01_PrimWords.j0 81 p a b true) else (if n = n then (if lo = lo then (stencillaw01_PrimWords.j0 81 p a b (hi != hi)) else (stencillaw01_PrimWords.j0 81 p a b true)) else (stencillaw01_PrimWords.j0 81 p a b true))) else (stencillaw01_PrimWords.j0 81 p a b true)) = _
  rw [if_pos rfl, if_neg (by cases g <;> decide), if_pos rfl, if_pos rfl, bne_self_eq_false]
theorem rows_ (p a b : Int) : stencillaw01_PrimWords.f 81 p a b = stencillaw01_PrimWords.j0 81 p a b false := by
  rcases row_cases p with ⟨hp, h⟩ | rfl | rfl | rfl | rfl | rfl | rfl | rfl | rfl | rfl | rfl | rfl
  · have of : prim_of.f p = some (0, false, false, 0, 0, 0) := by unfold prim_of.f; rw [h]
    have sg : stencilref01_Signed.f p = some false := by
      unfold stencilref01_Signed.f
      by_cases c : p ≥ 1
      · rw [if_pos c, decide_eq_false (by omega)]
      · rw [if_neg c]
    refine head_ p a b 0 false 0 0 0 (by unfold prim_Size.f; rw [of]; rfl) (rsize_no 78 p hp) (by unfold prim_Signed.f; rw [of]; rfl) sg (by unfold prim_Null.f; rw [of]; rfl) ?_ (by unfold prim_Min.f; rw [of]; rfl) ?_ (by unfold prim_Max.f; rw [of]; rfl) ?_
    · unfold stencilref01_Null.f; rw [rsize_no 78 p hp]; rfl
    · unfold stencilref01_Min.f; rw [if_neg (by omega), sg]; rfl
    · unfold stencilref01_Max.f; rw [if_neg (by omega), sg]
      show (if p = 9 then (stencilref01_Max.j0 81 p true) else (stencilref01_Max.j0 81 p (p == 10))) = _
      rw [if_neg (by omega), beq_eq_false_iff_ne.mpr (by omega)]
      show ((stencilref01_Size.f 80 p).bind fun t197 => (if t197 = 0 then (some 0) else _)) = _
      rw [rsize_no 77 p hp]; rfl
  · exact head_ 0 a b 1 false 0 32 126 (by decide +kernel) (by decide +kernel) (by decide +kernel) (by decide +kernel) (by decide +kernel) (by decide +kernel) (by decide +kernel) (by decide +kernel) (by decide +kernel) (by decide +kernel)
  · exact head_ 1 a b 1 true 18446744073709551488 18446744073709551489 127 (by decide +kernel) (by decide +kernel) (by decide +kernel) (by decide +kernel) (by decide +kernel) (by decide +kernel) (by decide +kernel) (by decide +kernel) (by decide +kernel) (by decide +kernel)
  · exact head_ 2 a b 2 true 18446744073709518848 18446744073709518849 32767 (by decide +kernel) (by decide +kernel) (by decide +kernel) (by decide +kernel) (by decide +kernel) (by decide +kernel) (by decide +kernel) (by decide +kernel) (by decide +kernel) (by decide +kernel)
  · exact head_ 3 a b 4 true 18446744071562067968 18446744071562067969 2147483647 (by decide +kernel) (by decide +kernel) (by decide +kernel) (by decide +kernel) (by decide +kernel) (by decide +kernel) (by decide +kernel) (by decide +kernel) (by decide +kernel) (by decide +kernel)
  · exact head_ 4 a b 8 true 9223372036854775808 9223372036854775809 9223372036854775807 (by decide +kernel) (by decide +kernel) (by decide +kernel) (by decide +kernel) (by decide +kernel) (by decide +kernel) (by decide +kernel) (by decide +kernel) (by decide +kernel) (by decide +kernel)
  · exact head_ 5 a b 1 false 255 0 254 (by decide +kernel) (by decide +kernel) (by decide +kernel) (by decide +kernel) (by decide +kernel) (by decide +kernel) (by decide +kernel) (by decide +kernel) (by decide +kernel) (by decide +kernel)
  · exact head_ 6 a b 2 false 65535 0 65534 (by decide +kernel) (by decide +kernel) (by decide +kernel) (by decide +kernel) (by decide +kernel) (by decide +kernel) (by decide +kernel) (by decide +kernel) (by decide +kernel) (by decide +kernel)
  · exact head_ 7 a b 4 false 4294967295 0 4294967294 (by decide +kernel) (by decide +kernel) (by decide +kernel) (by decide +kernel) (by decide +kernel) (by decide +kernel) (by decide +kernel) (by decide +kernel) (by decide +kernel) (by decide +kernel)
  · exact head_ 8 a b 8 false 18446744073709551615 0 18446744073709551614 (by decide +kernel) (by decide +kernel) (by decide +kernel) (by decide +kernel) (by decide +kernel) (by decide +kernel) (by decide +kernel) (by decide +kernel) (by decide +kernel) (by decide +kernel)
  · exact head_ 9 a b 4 false 2143289344 0 4294967295 (by decide +kernel) (by decide +kernel) (by decide +kernel) (by decide +kernel) (by decide +kernel) (by decide +kernel) (by decide +kernel) (by decide +kernel) (by decide +kernel) (by decide +kernel)
  · exact head_ 10 a b 8 false 9221120237041090560 0 18446744073709551615 (by decide +kernel) (by decide +kernel) (by decide +kernel) (by decide +kernel) (by decide +kernel) (by decide +kernel) (by decide +kernel) (by decide +kernel) (by decide +kernel) (by decide +kernel)
theorem PrimWords : stencillaw01_PrimWords.Pure := by
  intro p a b wp wa wb
  obtain ⟨ha0, ha1⟩ := wf_u64 wa
  obtain ⟨hb0, hb1⟩ := wf_u64 wb
  exact ⟨81, (rows_ p a b).trans (tail_ p a b ha0 ha1 hb0 hb1)⟩
end Go.Proofs.YtgackepigegbkaaDoor.Pure
