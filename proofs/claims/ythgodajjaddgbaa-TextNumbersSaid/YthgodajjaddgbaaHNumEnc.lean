/- An entity of digits, whatever its digits are (layer 2): what stands behind # or #x, with zeros ahead, and its sequence as Go writes it. -/
import Derived.Test.YthgodajjaddgbaaVx0
import Derived.Test.YthgodajjaddgbaaVx1
import Derived.Test.YthgodajjaddgbaaHEntity
import Derived.Test.YthgodajjaddgbaaHNumbers
import Derived.IntWalk
import Derived.Laws.BitsLemmas
namespace Go.Proofs.Ythgodajjaddgbaa.V
open Go.RowKit Go.Proofs.YthgodajjaddgbaaW.PrintWords Go.Proofs.YthgodajjaddgbaaW.PrintLast Go.Proofs.YthgodajjaddgbaaW.PrintMore
attribute [local go_sem] max2_int min2_int max_two min_two max_three min_three max_four min_four   -- for this text's walks alone
set_option linter.unusedVariables false
set_option linter.unusedSimpArgs false

def goodN (n : Int) : Bool := decide (n = 9 ∨ n = 10 ∨ n = 13 ∨ (32 ≤ n ∧ n < 55296) ∨ (57343 < n ∧ n < 65534) ∨ (65535 < n ∧ n < 1114112))
theorem wr64e (n : Int) (h₀ : 0 ≤ n) (h₁ : n < 2 ^ 31) : IntKind.i64.wrap n = n := by rw [IntKind.wrap_i64]; omega
theorem and63e (x : Int) (h0 : 0 ≤ x) (h1 : x < 2 ^ 31) : bits .and .i64 x 63 = x % 64 := bits_mask .i64 31 (by decide) wr64e 6 (by decide) x h0 h1
theorem or_e (x y : Int) (hx0 : 0 ≤ x) (hx : x % 64 = 0) (hx1 : x < 2147483648) (h0 : 0 ≤ y) (h1 : y < 64) : bits .or .i64 x y = x + y :=
  bits_join .i64 31 (by decide) wr64e 6 x y hx0 hx hx1 h0 h1 (by omega)
theorem or_32 (x y : Int) (hx0 : 0 ≤ x) (hx : x % 16 = 0) (hx1 : x < 2147483648) (h0 : 0 ≤ y) (h1 : y < 16) : bits .or .i64 x y = x + y :=
  bits_join .i64 31 (by decide) wr64e 4 x y hx0 hx hx1 h0 h1 (by omega)
theorem isChar_good (n : Int) (h0 : 0 ≤ n) : text_isChar.f n = some (goodN n) := by
  unfold text_isChar.f
  repeat' split
  all_goals unfold goodN
  all_goals first | (rw [decide_eq_true (by omega)]; done) | (rw [decide_eq_false (by omega)]; done) | (congr 1; exact decide_eq_decide.2 (by omega))
theorem enc_utf8 (n : Int) (h0 : 0 ≤ n) (hg : goodN n = true) : text_encoded.f n = some (Utf8.encode n) := by
  have hg := of_decide_eq_true hg
  have hv : Utf8.valid n = true := by unfold Utf8.valid; simp; omega
  have e : ∀ (a : List Int) (b : List UInt8), a.map (fun n => UInt8.ofNat n.toNat) = b → strOfNums a = ⟨b.toArray⟩ := fun a b h => by unfold strOfNums; rw [h]
  have u : ∀ (x : Int) (m : Nat), x.toNat = m → UInt8.ofNat x.toNat = UInt8.ofNat m := fun x m h => by rw [h]
  unfold text_encoded.f Utf8.encode
  rw [if_pos hv]
  dsimp only
  by_cases c1 : n < 128
  · rw [if_pos c1, if_pos (show n.toNat < 0x80 by omega)]
    exact congrArg some (e _ [_] (by simp only [List.map_cons, List.map_nil]; rw [u _ n.toNat (by omega)]))
  rw [if_neg c1, if_neg (show ¬ n.toNat < 0x80 by omega)]
  by_cases c2 : n < 2048
  · rw [if_pos c2, if_pos (show n.toNat < 0x800 by omega), and63e n (by omega) (by omega), or_e 192 (n / 64) (by omega) (by omega) (by omega) (by omega) (by omega), or_e 128 (n % 64) (by omega) (by omega) (by omega) (by omega) (by omega)]
    exact congrArg some (e _ [_, _] (by simp only [List.map_cons, List.map_nil]; rw [u _ (192 + n.toNat / 64) (by omega), u _ (128 + n.toNat % 64) (by omega)]))
  rw [if_neg c2, if_neg (show ¬ n.toNat < 0x800 by omega)]
  by_cases c3 : n < 65536
  · rw [if_pos c3, if_pos (show n.toNat < 0x10000 by omega), and63e n (by omega) (by omega), and63e (n / 64) (by omega) (by omega), or_32 224 (n / 4096) (by omega) (by omega) (by omega) (by omega) (by omega), or_e 128 (n / 64 % 64) (by omega) (by omega) (by omega) (by omega) (by omega), or_e 128 (n % 64) (by omega) (by omega) (by omega) (by omega) (by omega)]
    exact congrArg some (e _ [_, _, _] (by simp only [List.map_cons, List.map_nil]; rw [u _ (224 + n.toNat / 4096) (by omega), u _ (128 + n.toNat / 64 % 64) (by omega), u _ (128 + n.toNat % 64) (by omega)]))
  rw [if_neg c3, if_neg (show ¬ n.toNat < 0x10000 by omega)]
  rw [and63e n (by omega) (by omega), and63e (n / 64) (by omega) (by omega), and63e (n / 4096) (by omega) (by omega), or_32 240 (n / 262144) (by omega) (by omega) (by omega) (by omega) (by omega), or_e 128 (n / 4096 % 64) (by omega) (by omega) (by omega) (by omega) (by omega), or_e 128 (n / 64 % 64) (by omega) (by omega) (by omega) (by omega) (by omega), or_e 128 (n % 64) (by omega) (by omega) (by omega) (by omega) (by omega)]
  exact congrArg some (e _ [_, _, _, _] (by simp only [List.map_cons, List.map_nil]; rw [u _ (240 + n.toNat / 262144) (by omega), u _ (128 + n.toNat / 4096 % 64) (by omega), u _ (128 + n.toNat / 64 % 64) (by omega), u _ (128 + n.toNat % 64) (by omega)]))
theorem enc_size (n : Int) : (Utf8.encode n).size ≤ 4 := by
  unfold Utf8.encode
  dsimp only
  repeat' split
  all_goals simp [ByteArray.size]
theorem sO_toList (l : List Int) : (strOfNums l).toList = l.map fun n => UInt8.ofNat n.toNat := by rw [ByteArray.toList_eq]; simp [strOfNums]
theorem cp_hit (p L : List Int) : strings_CutPrefix.f (strOfNums (p ++ L)) (strOfNums p) = some (strOfNums L, true) := by
  have h1 : stringslite_HasPrefix.f (strOfNums (p ++ L)) (strOfNums p) = some true := by
    unfold stringslite_HasPrefix.f
    simp only [strOfNums_size, List.length_append]
    rw [if_pos (by omega), if_pos (by omega), if_pos (by omega), strOf_cutT, Int.toNat_natCast, Nat.sub_zero, List.drop_zero, List.take_left]
    rw [beq_self_eq_true]
  unfold strings_CutPrefix.f stringslite_CutPrefix.f
  rw [h1, Option.bind_some, if_pos rfl]
  simp only [strOfNums_size, List.length_append]
  rw [if_pos (by omega), if_pos (by omega), Option.bind_some, strOf_cutT, Int.toNat_natCast, List.drop_left, List.take_of_length_le (by omega)]
theorem cp_miss (d : Int) (L : List Int) (h0 : 0 ≤ d) (h1 : d < 120) : strings_CutPrefix.f (strOfNums (35 :: d :: L)) ⟨#[35, 120]⟩ = some (strOfNums (35 :: d :: L), false) := by
  have hp : (⟨#[35, 120]⟩ : ByteArray) = strOfNums [35, 120] := rfl
  have h1 : stringslite_HasPrefix.f (strOfNums (35 :: d :: L)) ⟨#[35, 120]⟩ = some false := by
    unfold stringslite_HasPrefix.f
    rw [hp]
    simp only [strOfNums_size, List.length_cons, List.length_nil]
    rw [if_pos (by omega), if_pos (by omega), if_pos (by omega), strOf_cutT]
    rw [show (List.take (((0 + 1 + 1 : Nat) : Int).toNat - 0) (List.drop 0 (35 :: d :: L))) = [35, d] from rfl, sO_toList, sO_toList]
    congr 1
    rw [beq_eq_false_iff_ne]
    intro e
    simp only [List.map_cons, List.map_nil, List.cons.injEq, and_true, true_and] at e
    have := congrArg UInt8.toNat e
    simp at this
    omega
  unfold strings_CutPrefix.f stringslite_CutPrefix.f
  rw [h1, Option.bind_some, if_neg (by decide), Option.bind_some]
/-- What an entity of a number is read as. -/
def encN (n : Int) : ByteArray := if goodN n then Utf8.encode n else ⟨#[]⟩
theorem res_num (n : Int) (h0 : 0 ≤ n) : ((text_isChar.f n).bind fun t119 => (if t119 = true then ((text_encoded.f n).bind fun t120 => (some (t120, true))) else (some ((⟨#[]⟩ : ByteArray), false)))) = some (encN n, goodN n) := by
  rw [isChar_good n h0, Option.bind_some]
  cases hg : goodN n with
  | true => rw [if_pos rfl, enc_utf8 n h0 hg, Option.bind_some]; unfold encN; rw [hg, if_pos rfl]
  | false => rw [if_neg (by decide)]; unfold encN; rw [hg, if_neg (by decide)]
theorem zr_mem (z : Nat) (b : Int) (hb : 0 < b) (ds : List Int) (h : ∀ d ∈ ds, 0 ≤ d ∧ d < b) : ∀ d ∈ List.replicate z 0 ++ ds, 0 ≤ d ∧ d < b := by
  intro d hd
  rcases List.mem_append.1 hd with hd | hd
  · rw [List.eq_of_mem_replicate hd]; omega
  · exact h d hd
theorem ent_no35 (l : List Int) : ∀ e ∈ entMap.toList, e.key ≠ .string (strOfNums (35 :: l)) := by
  have h : ∀ (a : UInt8) (r : List UInt8), a ≠ 35 → ((35 :: l).map fun n => UInt8.ofNat n.toNat).toArray ≠ (a :: r).toArray := by
    intro a r ha e
    have e2 := congrArg Array.toList e
    simp only [List.map_cons, List.cons.injEq] at e2
    exact ha e2.1.symm
  exact ent_no _ ⟨h 97 _ (by decide), h 108 _ (by decide), h 103 _ (by decide), h 113 _ (by decide), h 97 _ (by decide)⟩
theorem num_dec (n : Int) (h0 : 0 ≤ n) (h1 : n < 1179648) (ds : List Int) (hd : ∀ d ∈ ds, 0 ≤ d ∧ d < 10) (hne : ds ≠ []) (hl : ds.length ≤ 40) (hv : valF 10 0 ds = n) (z : Nat) (hz : z ≤ 30) (w : World) :
    Calls Try.prog 32 #[.string (strOfNums (35 :: (List.replicate z 0 ++ ds).map fun d => d + 48))] w fun e w' => e = .returned (.tuple #[.string (encN n), .bool (goodN n)]) ∧ Below w.heap.size w w' := by
  have hd2 := zr_mem z 10 (by decide) ds hd
  have hLl : (List.replicate z 0 ++ ds).length ≤ 70 := by simp; omega
  have hLn : List.replicate z 0 ++ ds ≠ [] := by simp [hne]
  obtain ⟨k, hk⟩ := number_some 10 (by decide) (fun d => d + 48) (fun k d a b => nib_dec k d a b) (fun d a b => by omega) (List.replicate z 0 ++ ds) hd2 hLn (by omega) n (by rw [valF_zeros]; exact hv) (by omega) _ (res_num n h0)
  generalize List.replicate z 0 ++ ds = L at hk hd2 hLl hLn
  cases L with
  | nil => exact absurd rfl hLn
  | cons d M =>
    have hd0 := hd2 d (by simp)
    exact ent_dec w (strOfNums (35 :: (d :: M).map fun d => d + 48)) _ (strOfNums ((d :: M).map fun d => d + 48)) (encN n) k (goodN n) (by rw [strOfNums_size]; unfold maxLen; simp only [List.length_cons, List.length_map] at hLl ⊢; omega) (ent_no35 _) (cp_miss (d + 48) _ (by omega) (by omega)) (cp_hit [35] ((d :: M).map fun d => d + 48)) hk
theorem num_hex (n : Int) (h0 : 0 ≤ n) (h1 : n < 1179648) (ds : List Int) (hd : ∀ d ∈ ds, 0 ≤ d ∧ d < 16) (hne : ds ≠ []) (hl : ds.length ≤ 40) (hv : valF 16 0 ds = n) (z : Nat) (hz : z ≤ 30) (w : World) :
    Calls Try.prog 32 #[.string (strOfNums (35 :: 120 :: (List.replicate z 0 ++ ds).map hxM))] w fun e w' => e = .returned (.tuple #[.string (encN n), .bool (goodN n)]) ∧ Below w.heap.size w w' := by
  have hd2 := zr_mem z 16 (by decide) ds hd
  have hLl : (List.replicate z 0 ++ ds).length ≤ 70 := by simp; omega
  have hLn : List.replicate z 0 ++ ds ≠ [] := by simp [hne]
  obtain ⟨k, hk⟩ := number_some 16 (by decide) hxM (fun k d a b => nib_hxM k d a b) (fun d a b => by unfold hxM; repeat' split; all_goals omega) (List.replicate z 0 ++ ds) hd2 hLn (by omega) n (by rw [valF_zeros]; exact hv) (by omega) _ (res_num n h0)
  generalize List.replicate z 0 ++ ds = L at hk hd2 hLl hLn
  exact ent_hex w (strOfNums (35 :: 120 :: L.map hxM)) (strOfNums (L.map hxM)) (encN n) k (goodN n) (by rw [strOfNums_size]; unfold maxLen; simp only [List.length_cons, List.length_map] at hLl ⊢; omega) (ent_no35 _) (cp_hit [35, 120] (L.map hxM)) hk

end Go.Proofs.Ythgodajjaddgbaa.V
