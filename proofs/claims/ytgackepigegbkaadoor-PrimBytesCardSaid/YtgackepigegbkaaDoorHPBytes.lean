/- Put's bytes and Get's word (layer 1): numbers alone. -/
import Derived.Test.YtgackepigegbkaaDoorBx0
import Derived.Test.YtgackepigegbkaaDoorHPNum
import Derived.Laws.Bits64b
import Derived.Laws.BitsLemmas
namespace Go.Proofs.YtgackepigegbkaaDoor.B
open Go.RowKit Go.Proofs.YtgackepigegbkaaDoorW.PrintWords Go.Proofs.YtgackepigegbkaaDoorW.PrintLast Go.Proofs.YtgackepigegbkaaDoorW.PrintMore
attribute [local go_sem] max2_int min2_int max_two min_two max_three min_three max_four min_four   -- for this text's walks alone
set_option linter.unusedVariables false
set_option linter.unusedSimpArgs false

def wdS (sg : Bool) (s x : Int) : Int := if sg then wordS s x else wordU s x
theorem word_all (p : Int) (h : ¬ (p < 0 ∨ 10 < p)) : ∃ (z : Int) (sg fl : Bool) (nu mi ma : Int), primRow p = (z, sg, fl, nu, mi, ma) ∧ (z = 1 ∨ z = 2 ∨ z = 4 ∨ z = 8) ∧ (∀ x, prim_row_word.f z sg fl nu mi ma x = some (wdS sg (64 - 8 * z) x)) ∧ ∀ x, fitsV p x = (wdS sg (64 - 8 * z) x == x) := by
  have e : ∀ (q x : Int) (b : Bool), prim_Fits.f q x = some b → fitsV q x = b := fun q x b h => by unfold fitsV; rw [h]; rfl
  rcases row_cases p with ⟨q, _⟩ | rfl | rfl | rfl | rfl | rfl | rfl | rfl | rfl | rfl | rfl | rfl
  · exact absurd q h
  · exact ⟨1, false, false, _, _, _, rfl, .inl rfl, fun x => by kernel_rfl, fun x => e _ _ _ (fits_0 x)⟩
  · exact ⟨1, true, false, _, _, _, rfl, .inl rfl, fun x => by kernel_rfl, fun x => e _ _ _ (fits_1 x)⟩
  · exact ⟨2, true, false, _, _, _, rfl, .inr (.inl rfl), fun x => by kernel_rfl, fun x => e _ _ _ (fits_2 x)⟩
  · exact ⟨4, true, false, _, _, _, rfl, .inr (.inr (.inl rfl)), fun x => by kernel_rfl, fun x => e _ _ _ (fits_3 x)⟩
  · exact ⟨8, true, false, _, _, _, rfl, .inr (.inr (.inr rfl)), fun x => by kernel_rfl, fun x => e _ _ _ (fits_4 x)⟩
  · exact ⟨1, false, false, _, _, _, rfl, .inl rfl, fun x => by kernel_rfl, fun x => e _ _ _ (fits_5 x)⟩
  · exact ⟨2, false, false, _, _, _, rfl, .inr (.inl rfl), fun x => by kernel_rfl, fun x => e _ _ _ (fits_6 x)⟩
  · exact ⟨4, false, false, _, _, _, rfl, .inr (.inr (.inl rfl)), fun x => by kernel_rfl, fun x => e _ _ _ (fits_7 x)⟩
  · exact ⟨8, false, false, _, _, _, rfl, .inr (.inr (.inr rfl)), fun x => by kernel_rfl, fun x => e _ _ _ (fits_8 x)⟩
  · exact ⟨4, false, true, _, _, _, rfl, .inr (.inr (.inl rfl)), fun x => by kernel_rfl, fun x => e _ _ _ (fits_9 x)⟩
  · exact ⟨8, false, true, _, _, _, rfl, .inr (.inr (.inr rfl)), fun x => by kernel_rfl, fun x => e _ _ _ (fits_10 x)⟩
theorem wdS_fact (sg : Bool) (z x : Int) (hz : z = 1 ∨ z = 2 ∨ z = 4 ∨ z = 8) (h0 : 0 ≤ x) (h1 : x < 18446744073709551616) :
    0 ≤ wdS sg (64 - 8 * z) x ∧ wdS sg (64 - 8 * z) x < 18446744073709551616 ∧ wdS sg (64 - 8 * z) (wdS sg (64 - 8 * z) x) = wdS sg (64 - 8 * z) x ∧ wdS sg (64 - 8 * z) (x % 2 ^ (8 * z.toNat)) = wdS sg (64 - 8 * z) x := by
  have e0 : (2 : Int) ^ min (64 - 8 * (1 : Int)).toNat 64 = 72057594037927936 := by decide
  have e1 : (2 : Int) ^ min (64 - 8 * (2 : Int)).toNat 64 = 281474976710656 := by decide
  have e2 : (2 : Int) ^ min (64 - 8 * (4 : Int)).toNat 64 = 4294967296 := by decide
  have e3 : (2 : Int) ^ min (64 - 8 * (8 : Int)).toNat 64 = 1 := by decide
  have f0 : (2 : Int) ^ (8 * (1 : Int).toNat) = 256 := by decide
  have f1 : (2 : Int) ^ (8 * (2 : Int).toNat) = 65536 := by decide
  have f2 : (2 : Int) ^ (8 * (4 : Int).toNat) = 4294967296 := by decide
  have f3 : (2 : Int) ^ (8 * (8 : Int).toNat) = 18446744073709551616 := by decide
  have S : ∀ s y : Int, wordS s y = (let t := y * 2 ^ min s.toNat 64 % 18446744073709551616; (if 9223372036854775808 ≤ t then t - 18446744073709551616 else t) / 2 ^ min s.toNat 64 % 18446744073709551616) := by
    intro s y
    unfold wordS
    rw [u64w, shrw _ rfl, shlw, i64w]
    dsimp only
    split <;> rename_i h <;> split <;> rename_i h' <;> first | rfl | (congr 2; omega) | omega
  have U : ∀ s y : Int, wordU s y = (y * 2 ^ min s.toNat 64 % 18446744073709551616) / 2 ^ min s.toNat 64 := fun s y => by unfold wordU; rw [shrw _ rfl, shlw]
  unfold wdS
  cases sg
  · simp only [Bool.false_eq_true, if_false, U]
    rcases hz with rfl | rfl | rfl | rfl
    · rw [e0, f0]; omega
    · rw [e1, f1]; omega
    · rw [e2, f2]; omega
    · rw [e3, f3]; omega
  · simp only [if_true, S]
    rcases hz with rfl | rfl | rfl | rfl
    · rw [e0, f0]; refine ⟨by split <;> omega, by split <;> omega, ?_, ?_⟩ <;> (repeat' split) <;> omega
    · rw [e1, f1]; refine ⟨by split <;> omega, by split <;> omega, ?_, ?_⟩ <;> (repeat' split) <;> omega
    · rw [e2, f2]; refine ⟨by split <;> omega, by split <;> omega, ?_, ?_⟩ <;> (repeat' split) <;> omega
    · rw [e3, f3]; refine ⟨by split <;> omega, by split <;> omega, ?_, ?_⟩ <;> (repeat' split) <;> omega
/-- What bytes tell, the lowest first. -/
def sumB (f : Nat → Int) : Nat → Int
  | 0 => 0
  | k + 1 => sumB f k + f k * 2 ^ (8 * k)
theorem sumB_rng (f : Nat → Int) : ∀ k, (∀ j, j < k → 0 ≤ f j ∧ f j ≤ 255) → 0 ≤ sumB f k ∧ sumB f k < 2 ^ (8 * k)
  | 0, _ => ⟨Int.le_refl _, by show (0 : Int) < 2 ^ 0; decide⟩
  | k + 1, h => by
    obtain ⟨h0, h1⟩ := sumB_rng f k (fun j hj => h j (by omega))
    obtain ⟨h2, h3⟩ := h k (by omega)
    have e : (2 : Int) ^ (8 * (k + 1)) = 2 ^ (8 * k) * 256 := by rw [show 8 * (k + 1) = 8 * k + 8 by omega, Int.pow_add]; rfl
    have hp : (0 : Int) < 2 ^ (8 * k) := Int.pow_pos (by decide)
    show 0 ≤ sumB f k + f k * 2 ^ (8 * k) ∧ sumB f k + f k * 2 ^ (8 * k) < _
    rw [e]
    generalize (2 : Int) ^ (8 * k) = P at *
    have h4 : f k * P ≤ 255 * P := Int.mul_le_mul_of_nonneg_right h3 (by omega)
    have h5 : 0 ≤ f k * P := Int.mul_nonneg h2 (by omega)
    omega
theorem or_u64 (x y : Int) (i : Nat) (hi : i ≤ 56) (h0 : 0 ≤ x) (h1 : x < 2 ^ i) (hy0 : 0 ≤ y) (hy1 : y ≤ 255) : bits .or .u64 x (y * 2 ^ i) = x + y * 2 ^ i := by
  have p64 : (2 : Int) ^ i * 256 ≤ 18446744073709551616 := by
    have : (2 : Int) ^ i ≤ 2 ^ 56 := by exact_mod_cast Nat.pow_le_pow_right (by decide) hi
    have e : (2 : Int) ^ 56 * 256 = 18446744073709551616 := by decide
    omega
  have hp : (0 : Int) < 2 ^ i := Int.pow_pos (by decide)
  have h4 : y * 2 ^ i ≤ 255 * 2 ^ i := Int.mul_le_mul_of_nonneg_right hy1 (by omega)
  have h5 : 0 ≤ y * 2 ^ i := Int.mul_nonneg hy0 (by omega)
  have hc : bits .or .u64 x (y * 2 ^ i) = bits .or .u64 (y * 2 ^ i) x := by
    obtain ⟨a, ha⟩ := Int.eq_ofNat_of_zero_le h0
    obtain ⟨b, hb⟩ := Int.eq_ofNat_of_zero_le h5
    rw [hb, ha, bits_or_u64_nat a b (by omega) (by omega), bits_or_u64_nat b a (by omega) (by omega), Nat.or_comm]
  rw [hc, bits_join .u64 64 (by decide) (fun n a b => by rw [u64w]; exact Int.emod_eq_of_lt a (by simpa using b)) i (y * 2 ^ i) x h5 (Int.mul_emod_left _ _) (by show _ < (18446744073709551616 : Int); omega) h0 h1 (by show _ < (18446744073709551616 : Int); omega)]
  omega
theorem gAcc_eq (f : Nat → Int) : ∀ k, k ≤ 8 → (∀ j, j < k → 0 ≤ f j ∧ f j ≤ 255) → gAcc f k = sumB f k
  | 0, _, _ => rfl
  | k + 1, hk, h => by
    have ih := gAcc_eq f k (by omega) (fun j hj => h j (by omega))
    obtain ⟨h0, h1⟩ := sumB_rng f k (fun j hj => h j (by omega))
    obtain ⟨h2, h3⟩ := h k (by omega)
    show bits .or .u64 (gAcc f k) (shl .u64 (f k) (8 * (k : Int))) = sumB f k + f k * 2 ^ (8 * k)
    have e : shl .u64 (f k) (8 * (k : Int)) = f k * 2 ^ (8 * k) := by
      rw [shlw, show min (8 * (k : Int)).toNat 64 = 8 * k by omega]
      have p : (2 : Int) ^ (8 * k) ≤ 2 ^ 56 := by exact_mod_cast Nat.pow_le_pow_right (by decide) (by omega : 8 * k ≤ 56)
      have e : (2 : Int) ^ 56 = 72057594037927936 := by decide
      have hp : (0 : Int) < 2 ^ (8 * k) := Int.pow_pos (by decide)
      refine Int.emod_eq_of_lt (Int.mul_nonneg h2 (by omega)) ?_
      have h4 : f k * 2 ^ (8 * k) ≤ 255 * 2 ^ (8 * k) := Int.mul_le_mul_of_nonneg_right h3 (by omega)
      omega
    rw [e, ih]
    exact or_u64 _ _ _ (by omega) h0 h1 h2 h3
theorem pB_rng (w : Int) (k : Nat) : 0 ≤ pB w k ∧ pB w k ≤ 255 := by unfold pB; omega
theorem sumB_pB (w : Int) (h0 : 0 ≤ w) : ∀ k, sumB (pB w) k = w % 2 ^ (8 * k)
  | 0 => by show (0 : Int) = w % 1; omega
  | k + 1 => by
    show sumB (pB w) k + pB w k * 2 ^ (8 * k) = _
    rw [sumB_pB w h0 k]
    obtain ⟨n, rfl⟩ := Int.eq_ofNat_of_zero_le h0
    have hP : (2 : Int) ^ (8 * k) = ((2 ^ (8 * k) : Nat) : Int) := by norm_cast
    rw [show 8 * (k + 1) = 8 * k + 8 by omega, Int.pow_add, show (2 : Int) ^ 8 = 256 from rfl]
    unfold pB
    rw [hP]
    generalize (2 ^ (8 * k) : Nat) = P
    have := @Nat.mod_mul P 256 n
    have h2 : n % P + n / P % 256 * P = n % (P * 256) := by rw [this, Nat.mul_comm P]
    have h3 : ((n % P + n / P % 256 * P : Nat) : Int) = ((n % (P * 256) : Nat) : Int) := by rw [h2]
    rw [Int.natCast_add, Int.natCast_mul, Int.natCast_emod, Int.natCast_emod, Int.natCast_emod, Int.natCast_ediv, Int.natCast_mul] at h3
    exact h3
theorem pB_shr (w : Int) (h0 : 0 ≤ w) (k : Nat) (hk : k < 8) : IntKind.u8.wrap (shr .u64 w (8 * (k : Int))) = pB w k := by
  rw [shrw _ rfl, IntKind.wrap_u8, show min (8 * (k : Int)).toNat 64 = 8 * k by omega]; rfl
theorem putL_len (xs : List Int) (at_ z o w : Int) : ∀ k, (putL xs at_ z o w k).length = xs.length
  | 0 => rfl
  | k + 1 => by show ((putL xs at_ z o w k).set _ _).length = _; rw [List.length_set]; exact putL_len xs at_ z o w k
theorem putL_rng (xs : List Int) (at_ z o w : Int) (hx : ∀ x ∈ xs, 0 ≤ x ∧ x ≤ 255) : ∀ k, ∀ x ∈ putL xs at_ z o w k, 0 ≤ x ∧ x ≤ 255
  | 0 => hx
  | k + 1 => fun x h => by
    rcases List.mem_or_eq_of_mem_set h with h | rfl
    · exact putL_rng xs at_ z o w hx k x h
    · exact pB_rng w k
theorem putL_out (xs : List Int) (at_ z o w : Int) (i : Nat) : ∀ k, (∀ j : Nat, j < k → i ≠ (at_ + plc z o j).toNat) → (putL xs at_ z o w k).getD i 0 = xs.getD i 0
  | 0, _ => rfl
  | k + 1, h => by
    have := putL_out xs at_ z o w i k (fun j hj => h j (by omega))
    rw [← this]
    show ((putL xs at_ z o w k).set _ _).getD i 0 = _
    rw [List.getD_eq_getElem?_getD, List.getD_eq_getElem?_getD, List.getElem?_set_ne (Ne.symm (h k (by omega)))]
theorem putL_at (xs : List Int) (at_ z o w : Int) (ha : 0 ≤ at_) (hl : at_ + z ≤ xs.length) (j : Nat) : ∀ k, j < k → (k : Int) ≤ z → (putL xs at_ z o w k).getD (at_ + plc z o j).toNat 0 = pB w j
  | 0, h, _ => absurd h (Nat.not_lt_zero _)
  | k + 1, h, hk => by
    show ((putL xs at_ z o w k).set _ _).getD _ 0 = _
    rcases Nat.lt_or_ge j k with c | c
    · rw [List.getD_eq_getElem?_getD, List.getElem?_set_ne, ← List.getD_eq_getElem?_getD]
      · exact putL_at xs at_ z o w ha hl j k c (by omega)
      · unfold plc; split <;> omega
    · obtain rfl : j = k := by omega
      have hb : (at_ + plc z o j).toNat < (putL xs at_ z o w j).length := by rw [putL_len]; unfold plc; split <;> omega
      rw [List.getD_eq_getElem?_getD, List.getElem?_set_self hb]; rfl

end Go.Proofs.YtgackepigegbkaaDoor.B
