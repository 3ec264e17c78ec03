/- What sequence, Check and Chars compute on rows of bytes: letters ahead, one row, a letter behind. -/
import Derived.Test.YthgodajjaddgbaaPx0
import Derived.Test.YthgodajjaddgbaaPx1
import Derived.Test.YthgodajjaddgbaaPx2
import Derived.Test.YthgodajjaddgbaaPx3
import Derived.Laws.BitsLemmas
namespace Go.Proofs.Ythgodajjaddgbaa.P
open Go.RowKit Go.Proofs.YthgodajjaddgbaaW.PrintWords Go.Proofs.YthgodajjaddgbaaW.PrintLast Go.Proofs.YthgodajjaddgbaaW.PrintMore
attribute [local go_sem] max2_int min2_int max_two min_two max_three min_three max_four min_four   -- for this text's walks alone
set_option linter.unusedVariables false
set_option linter.unusedSimpArgs false

theorem B_size (l : List Int) : (strOfNums l).size = l.length := strOfNums_size l
theorem B_app (a b : List Int) : strOfNums a ++ strOfNums b = strOfNums (a ++ b) := by
  apply ByteArray.ext; simp [strOfNums]
theorem B_drop (l : List Int) (n : Nat) : (strOfNums l).extract n (strOfNums l).size = strOfNums (l.drop n) := by
  rw [B_size]; unfold strOfNums
  rw [ByteArray.extract_mk, ← List.map_drop, List.take_of_length_le (by simp)]
theorem B_bt (l : List Int) (i : Nat) (x : Int) (h : l[i]? = some x) (h0 : 0 ≤ x) (h1 : x ≤ 255) : bt (strOfNums l) (i : Int) = x := by
  unfold bt
  have hi : i < l.length := (List.getElem?_eq_some_iff.1 h).1
  have hx : l[i] = x := (List.getElem?_eq_some_iff.1 h).2
  have hs : (i : Int).toNat < (strOfNums l).size := by rw [B_size]; simpa using hi
  rw [dif_pos hs]
  have : ((strOfNums l)[(i : Int).toNat]'hs) = UInt8.ofNat x.toNat := by
    simp [strOfNums, ByteArray.getElem_eq_getElem_data, hx]
  rw [this]; simp; omega
theorem w64i {x : Int} (h0 : -9223372036854775808 ≤ x) (h1 : x < 9223372036854775808) : wrap64 x = x := by unfold wrap64; omega
theorem wr64 (n : Int) (h₀ : 0 ≤ n) (h₁ : n < 2 ^ 31) : IntKind.i64.wrap n = n := by rw [IntKind.wrap_i64]; omega
def clsV (x : Int) : Int × Int × Int := if x < 128 then (1, 0, 0) else if 194 ≤ x ∧ x ≤ 223 then (2, 128, 191) else if x = 224 then (3, 160, 191) else if x = 237 then (3, 128, 159) else if 225 ≤ x ∧ x ≤ 239 then (3, 128, 191) else if x = 240 then (4, 144, 191) else if 241 ≤ x ∧ x ≤ 243 then (4, 128, 191) else if x = 244 then (4, 128, 143) else (0, 0, 0)
theorem cls_some (k : Nat) (x : Int) : text_classOf.f (k + 4) x = some (clsV x) := by
  unfold text_classOf.f clsV
  simp only [text_classOf.j0, text_classOf.j1, text_classOf.j2]
  by_cases h1 : x < 128
  · simp [h1]
  · by_cases h2 : 194 ≤ x
    · by_cases h3 : x ≤ 223
      · simp [h1, h2, h3]
      · by_cases h4 : x = 224
        · simp [h4]
        · by_cases h5 : x = 237
          · simp [h5]
          · by_cases h6 : x ≤ 239
            · have : 225 ≤ x := by omega
              simp [h1, h2, h3, h4, h5, h6, this]
            · by_cases h7 : x = 240
              · simp [h7]
              · have a1 : 225 ≤ x := by omega
                have a2 : 241 ≤ x := by omega
                by_cases h8 : x ≤ 243
                · simp [h1, h2, h3, h4, h5, h6, h7, h8, a1, a2]
                · by_cases h9 : x = 244 <;> simp [h1, h2, h3, h4, h5, h6, h7, h8, h9, a1, a2]
    · have a1 : ¬ 225 ≤ x := by omega
      have a2 : ¬ 241 ≤ x := by omega
      have a3 : ¬ x = 224 := by omega
      have a4 : ¬ x = 237 := by omega
      have a5 : ¬ x = 240 := by omega
      have a6 : ¬ x = 244 := by omega
      simp [h1, h2, a1, a2, a3, a4, a5, a6]
theorem and_i64 (i : Nat) (hi : i ≤ 31) (x : Int) (h0 : 0 ≤ x) (h1 : x < 2 ^ 31) : bits .and .i64 x (2 ^ i - 1) = x % 2 ^ i := bits_mask .i64 31 (by decide) wr64 i hi x h0 h1
theorem or_i64 (x y : Int) (hx0 : 0 ≤ x) (hx : x % 64 = 0) (hx1 : x < 2147483648) (h0 : 0 ≤ y) (h1 : y < 64) : bits .or .i64 x y = x + y :=
  bits_join .i64 31 (by decide) wr64 6 x y hx0 hx hx1 h0 h1 (by omega)
theorem step64 (x b : Int) (hx0 : 0 ≤ x) (hx1 : x < 33554432) (h0 : 128 ≤ b) (h1 : b ≤ 191) : bits .or .i64 (wrap64 (x * 64)) (wrap64 (bits .and .u8 b 63)) = x * 64 + (b - 128) := by
  rw [u8_and63 b (by omega) (by omega), w64i (by omega) (by omega), w64i (by omega) (by omega), or_i64 _ _ (by omega) (by omega) (by omega) (by omega) (by omega)]; omega
theorem shr1 : shr .i64 127 2 = 31 ∧ shr .i64 127 3 = 15 ∧ shr .i64 127 4 = 7 := by refine ⟨?_, ?_, ?_⟩ <;> rfl
theorem seq1 (k : Nat) (a : Int) (r : List Int) (h0 : 0 ≤ a) (h1 : a < 128) : text_sequence.f (k + 8) (strOfNums (a :: r)) = some (1, a) := by
  have ha : bt (strOfNums (a :: r)) 0 = a := B_bt (a :: r) 0 a rfl h0 (by omega)
  unfold text_sequence.f
  rw [if_pos (by rw [B_size]; simp), ha, cls_some]
  have hc : clsV a = (1, 0, 0) := by unfold clsV; rw [if_pos h1]
  rw [hc]
  simp only [Option.bind_some]
  rw [if_neg (by decide), decide_eq_false (by rw [B_size]; simp; omega), text_sequence.j0, if_neg (by decide), if_pos (by rw [B_size]; simp), if_neg (by decide), ha, text_sequence.j1, text_sequence.l0, if_neg (by decide), if_neg (by decide), if_neg (by decide), if_neg (by decide), w64i (by omega) (by omega)]
theorem seq0 (k : Nat) (a : Int) (r : List Int) (h0 : 0 ≤ a) (h1 : a ≤ 255) (hc : clsV a = (0, 0, 0)) : text_sequence.f (k + 8) (strOfNums (a :: r)) = some (0, 0) := by
  have ha : bt (strOfNums (a :: r)) 0 = a := B_bt (a :: r) 0 a rfl h0 h1
  unfold text_sequence.f
  rw [if_pos (by rw [B_size]; simp), ha, cls_some, hc]
  simp only [Option.bind_some]
  rw [if_pos trivial, text_sequence.j0, if_pos rfl]
theorem seq2 (k : Nat) (a b : Int) (r : List Int) (h0 : 194 ≤ a) (h1 : a ≤ 223) (b0 : 128 ≤ b) (b1 : b ≤ 191) : text_sequence.f (k + 8) (strOfNums (a :: b :: r)) = some (2, (a - 192) * 64 + (b - 128)) := by
  have ha : bt (strOfNums (a :: b :: r)) 0 = a := B_bt _ 0 a rfl (by omega) (by omega)
  have hb : bt (strOfNums (a :: b :: r)) 1 = b := B_bt _ 1 b rfl (by omega) (by omega)
  have hs : (strOfNums (a :: b :: r)).size = r.length + 2 := by rw [B_size]; simp
  have hc : clsV a = (2, 128, 191) := by unfold clsV; rw [if_neg (by omega), if_pos (by omega)]
  have e : bits .and .i64 (wrap64 a) (shr .i64 127 2) = a - 192 := by
    rw [shr1.1, w64i (by omega) (by omega), show (31 : Int) = 2 ^ 5 - 1 by decide, and_i64 5 (by decide) a (by omega) (by omega)]; omega
  unfold text_sequence.f
  rw [if_pos (by omega), ha, cls_some, hc]
  simp only [Option.bind_some]
  rw [if_neg (by decide), decide_eq_false (by omega), text_sequence.j0, if_neg (by decide), if_pos (by omega), if_pos (by decide), if_pos (by decide), ha, e, text_sequence.j1, text_sequence.l0, if_pos (by decide), if_pos (by decide), if_pos (by omega), hb, step64 _ _ (by omega) (by omega) b0 b1, show wrap64 (1 + 1) = 2 by unfold wrap64; omega, text_sequence.l0, if_neg (by decide), if_neg (by decide), if_neg (by decide), if_pos rfl, if_pos (by omega), hb, if_neg (by omega), if_neg (by omega)]
theorem tail_t (b : Int) (b0 : 128 ≤ b) (b1 : b ≤ 191) : text_tail.f b = some true := by unfold text_tail.f; rw [if_pos b0, decide_eq_true b1]
theorem seq3 (k : Nat) (a b c lo hi : Int) (r : List Int) (h0 : 224 ≤ a) (h1 : a ≤ 239) (b0 : 128 ≤ b) (b1 : b ≤ 191) (c0 : 128 ≤ c) (c1 : c ≤ 191) (hc : clsV a = (3, lo, hi)) : text_sequence.f (k + 8) (strOfNums (a :: b :: c :: r)) = if b < lo then some (0, 0) else if b > hi then some (0, 0) else some (3, ((a - 224) * 64 + (b - 128)) * 64 + (c - 128)) := by
  have ha : bt (strOfNums (a :: b :: c :: r)) 0 = a := B_bt _ 0 a rfl (by omega) (by omega)
  have hb : bt (strOfNums (a :: b :: c :: r)) 1 = b := B_bt _ 1 b rfl (by omega) (by omega)
  have hcc : bt (strOfNums (a :: b :: c :: r)) 2 = c := B_bt _ 2 c rfl (by omega) (by omega)
  have hs : (strOfNums (a :: b :: c :: r)).size = r.length + 3 := by rw [B_size]; simp
  have e : bits .and .i64 (wrap64 a) (shr .i64 127 3) = a - 224 := by
    rw [shr1.2.1, w64i (by omega) (by omega), show (15 : Int) = 2 ^ 4 - 1 by decide, and_i64 4 (by decide) a (by omega) (by omega)]; omega
  unfold text_sequence.f
  rw [if_pos (by omega), ha, cls_some, hc]
  simp only [Option.bind_some]
  rw [if_neg (by decide), decide_eq_false (by omega), text_sequence.j0, if_neg (by decide), if_pos (by omega), if_pos (by decide), if_pos (by decide), ha, e, text_sequence.j1, text_sequence.l0, if_pos (by decide), if_pos (by decide), if_pos (by omega), hb, step64 _ _ (by omega) (by omega) b0 b1, show wrap64 (1 + 1) = 2 by unfold wrap64; omega, text_sequence.l0, if_pos (by decide), if_pos (by decide), if_pos (by omega), hcc, step64 _ _ (by omega) (by omega) c0 c1, show wrap64 (2 + 1) = 3 by unfold wrap64; omega, text_sequence.l0, if_neg (by decide), if_neg (by decide), if_pos rfl, text_sequence.j3, if_pos (by omega), hcc, tail_t c c0 c1]
  simp only [Option.bind_some, if_true]
  rw [if_pos (by omega), hb]
theorem seq4 (k : Nat) (a b c d lo hi : Int) (r : List Int) (h0 : 240 ≤ a) (h1 : a ≤ 244) (b0 : 128 ≤ b) (b1 : b ≤ 191) (c0 : 128 ≤ c) (c1 : c ≤ 191) (d0 : 128 ≤ d) (d1 : d ≤ 191) (hc : clsV a = (4, lo, hi)) : text_sequence.f (k + 8) (strOfNums (a :: b :: c :: d :: r)) = if b < lo then some (0, 0) else if b > hi then some (0, 0) else some (4, (((a - 240) * 64 + (b - 128)) * 64 + (c - 128)) * 64 + (d - 128)) := by
  have ha : bt (strOfNums (a :: b :: c :: d :: r)) 0 = a := B_bt _ 0 a rfl (by omega) (by omega)
  have hb : bt (strOfNums (a :: b :: c :: d :: r)) 1 = b := B_bt _ 1 b rfl (by omega) (by omega)
  have hcc : bt (strOfNums (a :: b :: c :: d :: r)) 2 = c := B_bt _ 2 c rfl (by omega) (by omega)
  have hd : bt (strOfNums (a :: b :: c :: d :: r)) 3 = d := B_bt _ 3 d rfl (by omega) (by omega)
  have hs : (strOfNums (a :: b :: c :: d :: r)).size = r.length + 4 := by rw [B_size]; simp
  have e : bits .and .i64 (wrap64 a) (shr .i64 127 4) = a - 240 := by
    rw [shr1.2.2, w64i (by omega) (by omega), show (7 : Int) = 2 ^ 3 - 1 by decide, and_i64 3 (by decide) a (by omega) (by omega)]; omega
  unfold text_sequence.f
  rw [if_pos (by omega), ha, cls_some, hc]
  simp only [Option.bind_some]
  rw [if_neg (by decide), decide_eq_false (by omega), text_sequence.j0, if_neg (by decide), if_pos (by omega), if_pos (by decide), if_pos (by decide), ha, e, text_sequence.j1, text_sequence.l0, if_pos (by decide), if_pos (by decide), if_pos (by omega), hb, step64 _ _ (by omega) (by omega) b0 b1, show wrap64 (1 + 1) = 2 by unfold wrap64; omega, text_sequence.l0, if_pos (by decide), if_pos (by decide), if_pos (by omega), hcc, step64 _ _ (by omega) (by omega) c0 c1, show wrap64 (2 + 1) = 3 by unfold wrap64; omega, text_sequence.l0, if_pos (by decide), if_pos (by decide), if_pos (by omega), hd, step64 _ _ (by omega) (by omega) d0 d1, show wrap64 (3 + 1) = 4 by unfold wrap64; omega, text_sequence.l0, if_neg (by decide), if_pos rfl, if_pos (by omega), hd, tail_t d d0 d1]
  simp only [Option.bind_some, if_true]
  rw [text_sequence.j3, if_pos (by omega), hcc, tail_t c c0 c1]
  simp only [Option.bind_some, if_true]
  rw [if_pos (by omega), hb]
/-- The row of n in k + 1 bytes. -/
def rowV (k : Nat) (n : Int) : List Int := match k with
  | 0 => [n % 128]
  | 1 => [192 + n / 64 % 32, 128 + n % 64]
  | 2 => [224 + n / 4096 % 16, 128 + n / 64 % 64, 128 + n % 64]
  | _ => [240 + n / 262144, 128 + n / 4096 % 64, 128 + n / 64 % 64, 128 + n % 64]
def leastV (k : Nat) : Int := match k with | 0 => 0 | 1 => 128 | 2 => 2048 | _ => 65536
def mostV (k : Nat) : Int := match k with | 0 => 127 | 1 => 2047 | 2 => 65535 | _ => 1114111
def goodV (k : Nat) (n : Int) : Bool := decide (leastV k ≤ n ∧ (n < 55296 ∨ 57343 < n))
theorem seq_row (k f : Nat) (hk : k < 4) (n : Int) (h0 : 0 ≤ n) (h1 : n ≤ mostV k) (r : List Int) :
    text_sequence.f (f + 8) (strOfNums (rowV k n ++ r)) = if goodV k n = true then some (((k + 1 : Nat) : Int), n) else some (0, 0) := by
  match k, hk with
  | 0, _ =>
    simp only [mostV] at h1
    have e : n % 128 = n := by omega
    simp only [rowV, e, List.cons_append, List.nil_append]
    rw [seq1 f n r h0 (by omega), if_pos (by unfold goodV; exact decide_eq_true ⟨h0, by omega⟩)]; rfl
  | 1, _ =>
    simp only [mostV] at h1
    simp only [rowV, List.cons_append, List.nil_append]
    by_cases c : 128 ≤ n
    · rw [seq2 f _ _ r (by omega) (by omega) (by omega) (by omega), if_pos (by unfold goodV; exact decide_eq_true ⟨c, by omega⟩)]
      congr 2; omega
    · rw [seq0 f _ _ (by omega) (by omega) (by unfold clsV; rw [if_neg (by omega), if_neg (by omega), if_neg (by omega), if_neg (by omega), if_neg (by omega), if_neg (by omega), if_neg (by omega), if_neg (by omega)]), if_neg (by unfold goodV leastV; simp; omega)]
  | 2, _ =>
    simp only [mostV] at h1
    simp only [rowV, List.cons_append, List.nil_append]
    have key : ∀ lo hi, clsV (224 + n / 4096 % 16) = (3, lo, hi) → ((128 + n / 64 % 64 < lo ∨ 128 + n / 64 % 64 > hi) ↔ ¬ (2048 ≤ n ∧ (n < 55296 ∨ 57343 < n))) → text_sequence.f (f + 8) (strOfNums ((224 + n / 4096 % 16) :: (128 + n / 64 % 64) :: (128 + n % 64) :: r)) = if goodV 2 n = true then some (((2 + 1 : Nat) : Int), n) else some (0, 0) := by
      intro lo hi hc hg
      rw [seq3 f _ _ _ lo hi r (by omega) (by omega) (by omega) (by omega) (by omega) (by omega) hc]
      by_cases g : 2048 ≤ n ∧ (n < 55296 ∨ 57343 < n)
      · rw [if_neg (fun h => hg.1 (.inl h) g), if_neg (fun h => hg.1 (.inr h) g), if_pos (by unfold goodV leastV; exact decide_eq_true g)]
        congr 2; omega
      · rw [if_neg (c := goodV 2 n = true) (by unfold goodV leastV; simpa using g)]
        rcases hg.2 g with h | h
        · rw [if_pos h]
        · by_cases h' : 128 + n / 64 % 64 < lo
          · rw [if_pos h']
          · rw [if_neg h', if_pos h]
    by_cases c1 : 224 + n / 4096 % 16 = 224
    · exact key 160 191 (by rw [c1]; rfl) (by omega)
    · by_cases c2 : 224 + n / 4096 % 16 = 237
      · exact key 128 159 (by rw [c2]; rfl) (by omega)
      · exact key 128 191 (by unfold clsV; rw [if_neg (by omega), if_neg (by omega), if_neg (by omega), if_neg (by omega), if_pos (by omega)]) (by omega)
  | 3, _ =>
    simp only [mostV] at h1
    simp only [rowV, List.cons_append, List.nil_append]
    have key : ∀ lo hi, clsV (240 + n / 262144) = (4, lo, hi) → ((128 + n / 4096 % 64 < lo ∨ 128 + n / 4096 % 64 > hi) ↔ ¬ (65536 ≤ n ∧ (n < 55296 ∨ 57343 < n))) → text_sequence.f (f + 8) (strOfNums ((240 + n / 262144) :: (128 + n / 4096 % 64) :: (128 + n / 64 % 64) :: (128 + n % 64) :: r)) = if goodV 3 n = true then some (((3 + 1 : Nat) : Int), n) else some (0, 0) := by
      intro lo hi hc hg
      rw [seq4 f _ _ _ _ lo hi r (by omega) (by omega) (by omega) (by omega) (by omega) (by omega) (by omega) (by omega) hc]
      by_cases g : 65536 ≤ n ∧ (n < 55296 ∨ 57343 < n)
      · rw [if_neg (fun h => hg.1 (.inl h) g), if_neg (fun h => hg.1 (.inr h) g), if_pos (by unfold goodV leastV; exact decide_eq_true g)]
        congr 2; omega
      · rw [if_neg (c := goodV 3 n = true) (by unfold goodV leastV; simpa using g)]
        rcases hg.2 g with h | h
        · rw [if_pos h]
        · by_cases h' : 128 + n / 4096 % 64 < lo
          · rw [if_pos h']
          · rw [if_neg h', if_pos h]
    by_cases c1 : 240 + n / 262144 = 240
    · exact key 144 191 (by rw [c1]; rfl) (by omega)
    · by_cases c2 : 240 + n / 262144 = 244
      · exact key 128 143 (by rw [c2]; rfl) (by omega)
      · exact key 128 191 (by unfold clsV; rw [if_neg (by omega), if_neg (by omega), if_neg (by omega), if_neg (by omega), if_neg (by omega), if_neg (by omega), if_pos (by omega)]) (by omega)
def xmlN (n : Int) : Bool := decide (n = 9 ∨ n = 10 ∨ n = 13 ∨ (32 ≤ n ∧ n ≤ 55295) ∨ (57344 ≤ n ∧ n ≤ 65533) ∨ (65536 ≤ n ∧ n ≤ 1114111))
theorem isChar_some (n : Int) : text_isChar.f n = some (xmlN n) := by
  unfold text_isChar.f xmlN
  have e : ∀ b : Bool, ∀ P : Prop, [Decidable P] → (b = true ↔ P) → some b = some (decide P) := fun b P _ h => by congr 1; rw [Bool.eq_iff_iff, h, decide_eq_true_iff]
  by_cases h1 : n = 9
  · rw [if_pos h1]; exact e _ _ (by simp [h1])
  · by_cases h2 : n = 10
    · rw [if_neg h1, if_pos h2]; exact e _ _ (by simp [h2])
    · by_cases h3 : n = 13
      · rw [if_neg h1, if_neg h2, if_pos h3]; exact e _ _ (by simp [h3])
      · rw [if_neg h1, if_neg h2, if_neg h3]
        by_cases h4 : n ≥ 32 <;> by_cases h5 : n ≤ 55295 <;> by_cases h6 : n ≥ 57344 <;> by_cases h7 : n ≤ 65533 <;> by_cases h8 : n ≥ 65536 <;> simp only [h4, h5, h6, h7, h8, if_true, if_false] <;> (first | (exfalso; omega) | (apply e; simp; omega) | (apply e; simp))
theorem rowV_len (k : Nat) (hk : k < 4) (n : Int) : (rowV k n).length = k + 1 := by
  match k, hk with
  | 0, _ => rfl
  | 1, _ => rfl
  | 2, _ => rfl
  | 3, _ => rfl
theorem check_step (l : List Int) (z : Nat) (x : Int) (r : List Int) (g : Nat) (hg : 8 ≤ g) (hl : l.length < 1000) (hz : z < l.length) (hd : l.drop z = x :: r) (h0 : 0 ≤ x) (h1 : x < 128) : text_Check.l0 (g + 1) (strOfNums l) (z : Int) = text_Check.l0 g (strOfNums l) ((z + 1 : Nat) : Int) := by
  obtain ⟨f, hf⟩ : ∃ f, g = f + 8 := ⟨g - 8, by omega⟩
  rw [text_Check.l0, if_pos (by rw [B_size]; omega), if_pos (by omega), if_pos (by rw [B_size]; omega), Int.toNat_natCast, B_drop, hd, show text_sequence.f g (strOfNums (x :: r)) = some (1, x) by rw [hf]; exact seq1 f x _ h0 h1]
  simp only [Option.bind_some]
  rw [if_neg (by decide), w64i (by omega) (by omega), show ((z : Int) + 1) = ((z + 1 : Nat) : Int) from by omega]
theorem chars_step (l : List Int) (z : Nat) (x : Int) (r : List Int) (g : Nat) (hg : 8 ≤ g) (hl : l.length < 1000) (hz : z < l.length) (hd : l.drop z = x :: r) (h0 : 32 ≤ x) (h1 : x < 128) : text_Chars.l0 (g + 1) (strOfNums l) (z : Int) = text_Chars.l0 g (strOfNums l) ((z + 1 : Nat) : Int) := by
  obtain ⟨f, hf⟩ : ∃ f, g = f + 8 := ⟨g - 8, by omega⟩
  rw [text_Chars.l0, if_pos (by rw [B_size]; omega), if_pos (by omega), if_pos (by rw [B_size]; omega), Int.toNat_natCast, B_drop, hd, show text_sequence.f g (strOfNums (x :: r)) = some (1, x) by rw [hf]; exact seq1 f x _ (by omega) h1]
  simp only [Option.bind_some]
  rw [if_neg (by decide), isChar_some, show xmlN x = true by unfold xmlN; exact decide_eq_true (by omega)]
  simp only [Option.bind_some, if_true]
  rw [w64i (by omega) (by omega), show ((z : Int) + 1) = ((z + 1 : Nat) : Int) from by omega]
/-- Letters are passed over. -/
theorem pad_go (l : List Int) (G : Nat → Nat → Option (Int × Int)) (lo : Int) (hG : ∀ z x r g, 8 ≤ g → z < l.length → l.drop z = x :: r → lo ≤ x → x < 128 → G (g + 1) z = G g (z + 1)) (q : List Int) : ∀ (p : List Int) (z g : Nat), 8 ≤ g → l.drop z = p ++ q → (∀ x ∈ p, lo ≤ x ∧ x < 128) → z + p.length + q.length = l.length → G (g + p.length) z = G g (z + p.length) := by
  intro p
  induction p with
  | nil => intro z g _ _ _ _; rfl
  | cons x p ih =>
    intro z g hg hd hx hlen
    have h32 := hx x (by simp)
    rw [List.length_cons] at hlen
    have s := hG z x (p ++ q) (g + p.length) (by omega) (by omega) hd h32.1 h32.2
    have hd2 : l.drop (z + 1) = p ++ q := by rw [← List.drop_drop, hd]; rfl
    have := ih (z + 1) g hg hd2 (fun y hy => hx y (List.mem_cons_of_mem _ hy)) (by omega)
    rw [List.length_cons, show g + (p.length + 1) = g + p.length + 1 by omega, s, this, show z + 1 + p.length = z + (p.length + 1) by omega]
theorem check_end (l : List Int) (f z : Nat) (hz : l.length = z) : text_Check.l0 (f + 1) (strOfNums l) (z : Int) = some (0, 0) := by
  rw [text_Check.l0, if_neg (by rw [B_size]; omega)]
theorem chars_end (l : List Int) (f z : Nat) (hz : l.length = z) : text_Chars.l0 (f + 1) (strOfNums l) (z : Int) = some (0, 0) := by
  rw [text_Chars.l0, if_neg (by rw [B_size]; omega)]
theorem row_facts (p : List Int) (k : Nat) (hk : k < 4) (n : Int) : (p ++ rowV k n ++ [122]).length = p.length + (k + 1) + 1 ∧ (p ++ rowV k n ++ [122]).drop p.length = rowV k n ++ [122] ∧ (p ++ rowV k n ++ [122]).drop (p.length + (k + 1)) = [122] := by
  have hr := rowV_len k hk n
  refine ⟨by simp [hr]; omega, by simp, ?_⟩
  rw [← List.drop_drop, List.append_assoc, List.drop_left, ← hr, List.drop_left]
/-- Check of letters, a row, a letter. -/
theorem check_row (p : List Int) (k : Nat) (hk : k < 4) (n : Int) (h0 : 0 ≤ n) (h1 : n ≤ mostV k) (hp : ∀ x ∈ p, 32 ≤ x ∧ x < 128) (hl : p.length < 100) (F : Nat) (hF : 20 + p.length ≤ F) :
    text_Check.f F (strOfNums (p ++ rowV k n ++ [122])) = if goodV k n = true then some (0, 0) else some (20, (p.length : Int)) := by
  obtain ⟨hlen, hd, hd2⟩ := row_facts p k hk n
  have hr := rowV_len k hk n
  have a1 := fun g (hg : 8 ≤ g) => by have := seq_row k (g - 8) hk n h0 h1 [122]; rwa [show g - 8 + 8 = g by omega] at this
  generalize goodV k n = gd at *
  generalize hL : p ++ rowV k n ++ [122] = l at *
  have s1 := pad_go l (fun f z => text_Check.l0 f (strOfNums l) (z : Int)) 32 (fun z x r g hg hz hd hx h1 => check_step l z x r g hg (by omega) hz hd (by omega) h1) (rowV k n ++ [122]) p 0
  obtain ⟨g, hg⟩ : ∃ g, F = g + 3 + p.length := ⟨F - p.length - 3, by omega⟩
  have s2 := s1 (g + 3) (by omega) (by rw [List.drop_zero, ← hL, List.append_assoc]) hp (by simp [hr]; omega)
  simp only [Nat.zero_add] at s2
  unfold text_Check.f
  rw [hg]
  refine s2.trans ?_
  clear s1 s2
  obtain ⟨f, hf⟩ : ∃ f, f = g + 2 := ⟨_, rfl⟩
  rw [show g + 3 = f + 1 by omega, text_Check.l0, if_pos (by rw [B_size]; omega), if_pos (by omega), if_pos (by rw [B_size]; omega), Int.toNat_natCast, B_drop, hd, a1 f (by omega)]
  cases gd
  · simp
  · simp only [Option.bind_some, if_true]
    obtain ⟨f', hf'⟩ : ∃ f', f = f' + 1 := ⟨g + 1, by omega⟩
    rw [if_neg (by omega), w64i (by omega) (by omega), show (p.length : Int) + ((k + 1 : Nat) : Int) = ((p.length + (k + 1) : Nat) : Int) by omega, hf', check_step l (p.length + (k + 1)) 122 [] f' (by omega) (by omega) (by omega) hd2 (by decide) (by decide), show f' = g + 1 by omega]
    exact check_end l g _ (by omega)
theorem chars_row (p : List Int) (k : Nat) (hk : k < 4) (n : Int) (h0 : 0 ≤ n) (h1 : n ≤ mostV k) (hp : ∀ x ∈ p, 32 ≤ x ∧ x < 128) (hl : p.length < 100) (F : Nat) (hF : 20 + p.length ≤ F) :
    text_Chars.f F (strOfNums (p ++ rowV k n ++ [122])) = if goodV k n = true then (if xmlN n = true then some (0, 0) else some (21, (p.length : Int))) else some (20, (p.length : Int)) := by
  obtain ⟨hlen, hd, hd2⟩ := row_facts p k hk n
  have hr := rowV_len k hk n
  have a1 := fun g (hg : 8 ≤ g) => by have := seq_row k (g - 8) hk n h0 h1 [122]; rwa [show g - 8 + 8 = g by omega] at this
  generalize goodV k n = gd at *
  generalize hL : p ++ rowV k n ++ [122] = l at *
  have s1 := pad_go l (fun f z => text_Chars.l0 f (strOfNums l) (z : Int)) 32 (fun z x r g hg hz hd hx h1 => chars_step l z x r g hg (by omega) hz hd hx h1) (rowV k n ++ [122]) p 0
  obtain ⟨g, hg⟩ : ∃ g, F = g + 3 + p.length := ⟨F - p.length - 3, by omega⟩
  have s2 := s1 (g + 3) (by omega) (by rw [List.drop_zero, ← hL, List.append_assoc]) hp (by simp [hr]; omega)
  simp only [Nat.zero_add] at s2
  unfold text_Chars.f
  rw [hg]
  refine s2.trans ?_
  clear s1 s2
  obtain ⟨f, hf⟩ : ∃ f, f = g + 2 := ⟨_, rfl⟩
  rw [show g + 3 = f + 1 by omega, text_Chars.l0, if_pos (by rw [B_size]; omega), if_pos (by omega), if_pos (by rw [B_size]; omega), Int.toNat_natCast, B_drop, hd, a1 f (by omega)]
  cases gd
  · simp
  · simp only [Option.bind_some, if_true]
    rw [if_neg (by omega), isChar_some]
    simp only [Option.bind_some]
    cases xmlN n
    · simp
    · simp only [if_true]
      obtain ⟨f', hf'⟩ : ∃ f', f = f' + 1 := ⟨g + 1, by omega⟩
      rw [w64i (by omega) (by omega), show (p.length : Int) + ((k + 1 : Nat) : Int) = ((p.length + (k + 1) : Nat) : Int) by omega, hf', chars_step l (p.length + (k + 1)) 122 [] f' (by omega) (by omega) (by omega) hd2 (by decide) (by decide), show f' = g + 1 by omega]
      exact chars_end l g _ (by omega)

end Go.Proofs.Ythgodajjaddgbaa.P
