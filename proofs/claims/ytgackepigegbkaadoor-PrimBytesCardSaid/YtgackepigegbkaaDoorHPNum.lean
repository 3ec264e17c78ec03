/- Words and their order (layer 1): numbers alone (the text PureNum, turned). -/
import Derived.Test.YtgackepigegbkaaDoorBx0
import Derived.Test.YtgackepigegbkaaDoorBx2
import Derived.Test.YtgackepigegbkaaDoorHOf
import Derived.Test.YtgackepigegbkaaDoorHBytes
import Derived.Laws.Bits64b
namespace Go.Proofs.YtgackepigegbkaaDoor.B
open Go.RowKit Go.Proofs.YtgackepigegbkaaDoorW.PrintWords Go.Proofs.YtgackepigegbkaaDoorW.PrintLast Go.Proofs.YtgackepigegbkaaDoorW.PrintMore
attribute [local go_sem] max2_int min2_int max_two min_two max_three min_three max_four min_four   -- for this text's walks alone
set_option linter.unusedVariables false
set_option linter.unusedSimpArgs false

theorem u64w (x : Int) : IntKind.u64.wrap x = x % 18446744073709551616 := by simp [IntKind.wrap, IntKind.signed, IntKind.bits]
theorem i64w (x : Int) : wrap64 x = if 9223372036854775808 ≤ x % 18446744073709551616 then x % 18446744073709551616 - 18446744073709551616 else x % 18446744073709551616 := by
  unfold wrap64
  split <;> omega
theorem shlw (x s : Int) : shl .u64 x s = x * 2 ^ min s.toNat 64 % 18446744073709551616 := by unfold shl; rw [u64w]; rfl
theorem shrw (k : IntKind) (hk : k.bits = 64) (x s : Int) : shr k x s = x / 2 ^ min s.toNat 64 := by unfold shr; rw [hk]
theorem wf_u64 {b : Int} (h : (Lit.int .u64 b).wf = true) : 0 ≤ b ∧ b < 18446744073709551616 := by
  have z : IntKind.u64.min ≤ b ∧ b ≤ IntKind.u64.max := by simpa [Lit.wf] using h
  have e1 : IntKind.u64.min = 0 := by decide
  have e2 : IntKind.u64.max = 18446744073709551615 := by decide
  rw [e1, e2] at z
  omega
theorem and_pow (i : Nat) (hi : i < 64) (a : Int) (h0 : 0 ≤ a) (h1 : a < 2 ^ (i + 1)) : (Go.bits .and .u64 a (2 ^ i) != 0) = decide ((2 : Int) ^ i ≤ a) := by
  obtain ⟨n, rfl⟩ := Int.eq_ofNat_of_zero_le h0
  have h1' : n < 2 ^ (i + 1) := by exact_mod_cast h1
  have p64 : (2 : Nat) ^ (i + 1) ≤ 2 ^ 64 := Nat.pow_le_pow_right (by decide) (by omega)
  have e : ((2 : Int) ^ i) = ((2 ^ i : Nat) : Int) := by norm_cast
  have e64 : (2 : Nat) ^ 64 = 18446744073709551616 := by decide
  have lt : (2 : Nat) ^ i < 2 ^ 64 := Nat.pow_lt_pow_right (by decide) hi
  have key : n &&& 2 ^ i = (n.testBit i).toNat * 2 ^ i := by
    apply Nat.eq_of_testBit_eq
    intro j
    rw [Nat.testBit_and, Nat.testBit_two_pow]
    cases hb : n.testBit i
    · simp only [Bool.toNat_false, Nat.zero_mul, Nat.zero_testBit, Bool.and_eq_false_iff, decide_eq_false_iff_not]
      by_cases q : i = j
      · subst q; exact Or.inl hb
      · exact Or.inr q
    · simp only [Bool.toNat_true, Nat.one_mul, Nat.testBit_two_pow]
      by_cases q : i = j
      · subst q; rw [hb]; simp
      · rw [decide_eq_false q]; simp
  rw [e, bits_and_u64_nat n (2 ^ i) (by omega) (by omega), key]
  rw [Bool.eq_iff_iff, bne_iff_ne, decide_eq_true_iff]
  have tb : n.testBit i = decide (2 ^ i ≤ n) := by
    rw [Nat.testBit_eq_decide_div_mod_eq]
    rw [Bool.eq_iff_iff, decide_eq_true_iff, decide_eq_true_iff]
    have pp : 2 ^ (i + 1) = 2 * 2 ^ i := by rw [Nat.pow_succ]; omega
    have dl : n / 2 ^ i < 2 := Nat.div_lt_of_lt_mul (by omega)
    constructor
    · intro q
      rcases Nat.lt_or_ge n (2 ^ i) with c | c
      · rw [Nat.div_eq_of_lt c] at q; omega
      · exact c
    · intro q
      have := Nat.div_pos q (Nat.pow_pos (by decide : 0 < 2))
      omega
  rw [tb]
  by_cases c : 2 ^ i ≤ n
  · rw [decide_eq_true c]
    have pp : 0 < 2 ^ i := Nat.pow_pos (by decide)
    simp only [Bool.toNat_true, Nat.one_mul]
    constructor
    · intro _; exact_mod_cast c
    · intro _ z
      have z' : 2 ^ i = 0 := by exact_mod_cast z
      omega
  · rw [decide_eq_false c]
    simp only [Bool.toNat_false, Nat.zero_mul]
    constructor
    · intro z; exact absurd rfl z
    · intro z; exact absurd (by exact_mod_cast z) c

/-- The rows, one by one. -/
theorem row_cases (p : Int) : ((p < 0 ∨ 10 < p) ∧ primRow p = (0, false, false, 0, 0, 0)) ∨ p = 0 ∨ p = 1 ∨ p = 2 ∨ p = 3 ∨ p = 4 ∨ p = 5 ∨ p = 6 ∨ p = 7 ∨ p = 8 ∨ p = 9 ∨ p = 10 := by
  by_cases h : p < 0 ∨ 10 < p
  · refine Or.inl ⟨h, ?_⟩
    unfold primRow
    rw [if_neg (by omega), if_neg (by omega), if_neg (by omega), if_neg (by omega), if_neg (by omega), if_neg (by omega), if_neg (by omega), if_neg (by omega), if_neg (by omega), if_neg (by omega), if_neg (by omega)]
  · omega
def wordS (s b : Int) : Int := IntKind.u64.wrap (shr .i64 (wrap64 (shl .u64 b s)) s)
def wordU (s b : Int) : Int := shr .u64 (shl .u64 b s) s
theorem word_0 (b : Int) : prim_row_word.f 1 false false 0 32 126 b = some (wordU 56 b) := by kernel_rfl
theorem fits_0 (b : Int) : prim_Fits.f 0 b = some (wordU 56 b == b) := by kernel_rfl
theorem fits_1 (b : Int) : prim_Fits.f 1 b = some (wordS 56 b == b) := by kernel_rfl
theorem fits_2 (b : Int) : prim_Fits.f 2 b = some (wordS 48 b == b) := by kernel_rfl
theorem fits_3 (b : Int) : prim_Fits.f 3 b = some (wordS 32 b == b) := by kernel_rfl
theorem fits_4 (b : Int) : prim_Fits.f 4 b = some (wordS 0 b == b) := by kernel_rfl
theorem fits_5 (b : Int) : prim_Fits.f 5 b = some (wordU 56 b == b) := by kernel_rfl
theorem fits_6 (b : Int) : prim_Fits.f 6 b = some (wordU 48 b == b) := by kernel_rfl
theorem fits_7 (b : Int) : prim_Fits.f 7 b = some (wordU 32 b == b) := by kernel_rfl
theorem fits_8 (b : Int) : prim_Fits.f 8 b = some (wordU 0 b == b) := by kernel_rfl
theorem fits_9 (b : Int) : prim_Fits.f 9 b = some (wordU 32 b == b) := by kernel_rfl
theorem fits_10 (b : Int) : prim_Fits.f 10 b = some (wordU 0 b == b) := by kernel_rfl
theorem fits_no (p b : Int) (h : primRow p = (0, false, false, 0, 0, 0)) : prim_Fits.f p b = some false := by
  unfold prim_Fits.f prim_of.f; rw [h]; rfl
def fitsV (p b : Int) : Bool := (prim_Fits.f p b).getD false
theorem fits_some (p b : Int) : prim_Fits.f p b = some (fitsV p b) := by
  unfold fitsV
  rcases row_cases p with ⟨_, h⟩ | rfl | rfl | rfl | rfl | rfl | rfl | rfl | rfl | rfl | rfl | rfl
  · rw [fits_no p b h]; rfl
  · rw [fits_0]; rfl
  · rw [fits_1]; rfl
  · rw [fits_2]; rfl
  · rw [fits_3]; rfl
  · rw [fits_4]; rfl
  · rw [fits_5]; rfl
  · rw [fits_6]; rfl
  · rw [fits_7]; rfl
  · rw [fits_8]; rfl
  · rw [fits_9]; rfl
  · rw [fits_10]; rfl
theorem fits9_lt {b : Int} (h0 : 0 ≤ b) (h : fitsV 9 b = true) : b < 4294967296 := by
  have e : fitsV 9 b = (wordU 32 b == b) := by unfold fitsV; rw [fits_9]; rfl
  rw [e, beq_iff_eq] at h
  unfold wordU at h
  rw [shrw _ rfl, shlw] at h
  have e2 : (2 : Int) ^ min (32 : Int).toNat 64 = 4294967296 := by decide
  rw [e2] at h
  omega
def rankV (p a : Int) : Int :=
  if 1 ≤ p ∧ p ≤ 4 then (a + 9223372036854775808) % 18446744073709551616
  else if p = 9 then (if a < 2147483648 then a + 2147483648 else 4294967295 - a)
  else if p = 10 then (if a < 9223372036854775808 then a + 9223372036854775808 else 18446744073709551615 - a) else a
theorem rank_inj {p a b : Int} (ha0 : 0 ≤ a) (ha1 : a < 18446744073709551616) (hb0 : 0 ≤ b) (hb1 : b < 18446744073709551616) (fa : fitsV p a = true) (fb : fitsV p b = true) (h : rankV p a = rankV p b) : a = b := by
  unfold rankV at h
  by_cases c1 : 1 ≤ p ∧ p ≤ 4
  · rw [if_pos c1, if_pos c1] at h; omega
  · rw [if_neg c1, if_neg c1] at h
    by_cases c9 : p = 9
    · subst c9
      have la := fits9_lt ha0 fa
      have lb := fits9_lt hb0 fb
      rw [if_pos rfl, if_pos rfl] at h
      split at h <;> split at h <;> omega
    · rw [if_neg c9, if_neg c9] at h
      by_cases c10 : p = 10
      · rw [if_pos c10, if_pos c10] at h
        split at h <;> split at h <;> omega
      · rw [if_neg c10, if_neg c10] at h; exact h
def rankOf (k : Nat) (r : Int × Bool × Bool × Int × Int × Int) (a : Int) : Option Int := prim_row_rank.f k r.1 r.2.1 r.2.2.1 r.2.2.2.1 r.2.2.2.2.1 r.2.2.2.2.2 a
theorem rank_j0 (k : Nat) (x1 x5 : Int) (x16 : Bool) (s : Int) (u f : Bool) (x y z : Int) : prim_row_rank.j0 (k + 1) x1 x5 x16 s u f x y z = if x16 = true then (some (IntKind.u64.wrap ((IntKind.u64.wrap (x5 - 1)) - (IntKind.u64.wrap (x1 - x5))))) else (if f = true then (some (IntKind.u64.wrap (x5 + x1))) else (some x1)) := rfl
theorem comp_j0 (k : Nat) (p a b : Int) (x : Bool) : prim_Compare.j0 (k + 1) p a b x = if x = true then (some 0) else ((rankOf k (primRow p) a).bind fun t123 => ((rankOf k (primRow p) b).bind fun t130 => ((cmp_Compare_uint64.f t123 t130).bind fun t131 => (some t131)))) := rfl
theorem rank_s (k : Nat) (s x y z a : Int) (h : 0 ≤ wrap64 (wrap64 (8 * s) - 1)) (f : Bool) : prim_row_rank.f k s true f x y z a = some (IntKind.u64.wrap (a + 9223372036854775808)) := by
  unfold prim_row_rank.f; rw [if_pos h, if_pos rfl]
theorem rank_u (k : Nat) (s x y z a : Int) (h : 0 ≤ wrap64 (wrap64 (8 * s) - 1)) : prim_row_rank.f (k + 1) s false false x y z a = some a := by
  unfold prim_row_rank.f; rw [if_pos h, if_neg (by decide), if_neg (by decide)]
  rw [rank_j0, if_neg (by decide), if_neg (by decide)]
theorem rank_f (k i : Nat) (hi : i < 64) (s x y z a : Int) (h : 0 ≤ wrap64 (wrap64 (8 * s) - 1)) (hs : shl .u64 1 (wrap64 (wrap64 (8 * s) - 1)) = 2 ^ i) (h0 : 0 ≤ a) (h1 : a < 2 ^ (i + 1)) : prim_row_rank.f (k + 1) s false true x y z a =
    some (if (2 : Int) ^ i ≤ a then IntKind.u64.wrap (IntKind.u64.wrap (2 ^ i - 1) - IntKind.u64.wrap (a - 2 ^ i)) else IntKind.u64.wrap (2 ^ i + a)) := by
  unfold prim_row_rank.f; rw [if_pos h, if_neg (by decide), if_pos rfl, hs, and_pow i hi a h0 h1]
  rw [rank_j0]
  by_cases c : (2 : Int) ^ i ≤ a
  · rw [decide_eq_true c, if_pos rfl, if_pos c]
  · rw [decide_eq_false c, if_neg (by decide), if_pos rfl, if_neg c]
theorem rank_some (k : Nat) (p a : Int) (h0 : 0 ≤ a) (h1 : a < 18446744073709551616) (hf : fitsV p a = true) : rankOf (k + 1) (primRow p) a = some (rankV p a) := by
  rcases row_cases p with ⟨_, h⟩ | rfl | rfl | rfl | rfl | rfl | rfl | rfl | rfl | rfl | rfl | rfl
  · exfalso; unfold fitsV at hf; rw [fits_no p a h] at hf; exact absurd hf (by decide)
  · exact rank_u k 1 0 32 126 a (by decide +kernel)
  · refine (rank_s (k + 1) 1 _ _ _ a (by decide +kernel) false).trans ?_
    rw [u64w]; rfl
  · refine (rank_s (k + 1) 2 _ _ _ a (by decide +kernel) false).trans ?_
    rw [u64w]; rfl
  · refine (rank_s (k + 1) 4 _ _ _ a (by decide +kernel) false).trans ?_
    rw [u64w]; rfl
  · refine (rank_s (k + 1) 8 _ _ _ a (by decide +kernel) false).trans ?_
    rw [u64w]; rfl
  · exact rank_u k 1 255 0 254 a (by decide +kernel)
  · exact rank_u k 2 65535 0 65534 a (by decide +kernel)
  · exact rank_u k 4 4294967295 0 4294967294 a (by decide +kernel)
  · exact rank_u k 8 18446744073709551615 0 18446744073709551614 a (by decide +kernel)
  · have l := fits9_lt h0 hf
    refine (rank_f k 31 (by decide) 4 _ _ _ a (by decide +kernel) (by decide +kernel) h0 (by omega)).trans ?_
    rw [u64w, u64w, u64w, u64w]
    show some (if (2147483648 : Int) ≤ a then (((2147483648 : Int) - 1) % 18446744073709551616 - (a - 2147483648) % 18446744073709551616) % 18446744073709551616 else ((2147483648 : Int) + a) % 18446744073709551616) = some (if a < 2147483648 then a + 2147483648 else 4294967295 - a)
    congr 1
    split <;> split <;> omega
  · refine (rank_f k 63 (by decide) 8 _ _ _ a (by decide +kernel) (by decide +kernel) h0 (by omega)).trans ?_
    rw [u64w, u64w, u64w, u64w]
    show some (if (9223372036854775808 : Int) ≤ a then (((9223372036854775808 : Int) - 1) % 18446744073709551616 - (a - 9223372036854775808) % 18446744073709551616) % 18446744073709551616 else ((9223372036854775808 : Int) + a) % 18446744073709551616) = some (if a < 9223372036854775808 then a + 9223372036854775808 else 18446744073709551615 - a)
    congr 1
    split <;> split <;> omega
def cmpV (x y : Int) : Int := if x < y then -1 else if y < x then 1 else 0
theorem cmp_some (x y : Int) : cmp_Compare_uint64.f x y = some (cmpV x y) := by
  have hx : ∀ z : Int, cmp_isNaN_uint64.f z = some false := fun z => by unfold cmp_isNaN_uint64.f; simp
  unfold cmp_Compare_uint64.f cmpV
  rw [hx x, hx y]
  show (if x < y then some (-1) else if x > y then some 1 else some 0) = _
  by_cases c : x < y
  · rw [if_pos c, if_pos c]
  · rw [if_neg c, if_neg c]
    by_cases d : y < x
    · rw [if_pos d, if_pos d]
    · rw [if_neg d, if_neg d]
def compV (p a b : Int) : Int := if (fitsV p a && fitsV p b) = true then cmpV (rankV p a) (rankV p b) else 0
theorem comp_some (k : Nat) (p a b : Int) (ha0 : 0 ≤ a) (ha1 : a < 18446744073709551616) (hb0 : 0 ≤ b) (hb1 : b < 18446744073709551616) : prim_Compare.f (k + 2) p a b = some (compV p a b) := by
  unfold prim_Compare.f compV
  rw [fits_some p a]
  show (if fitsV p a = true then _ else _) = _
  cases ea : fitsV p a
  · rw [if_neg (by decide), if_neg (by simp)]
    rw [comp_j0, if_pos rfl]
  · rw [if_pos rfl, fits_some p b]
    show prim_Compare.j0 (k + 2) p a b (!fitsV p b) = _
    cases eb : fitsV p b
    · rw [if_neg (by decide)]
      rw [comp_j0]; exact if_pos rfl
    · rw [if_pos (show (true && true) = true from rfl)]
      rw [comp_j0, if_neg (by decide)]
      rw [rank_some k p a ha0 ha1 ea, rank_some k p b hb0 hb1 eb]
      show ((cmp_Compare_uint64.f (rankV p a) (rankV p b)).bind fun t131 => (some t131)) = _
      rw [cmp_some]; rfl

end Go.Proofs.YtgackepigegbkaaDoor.B
