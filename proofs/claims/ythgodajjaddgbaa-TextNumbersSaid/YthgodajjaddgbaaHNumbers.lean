/- text.number over digits (layer 2): what a number is read as, with zeros ahead. Plain. -/
import Derived.Test.YthgodajjaddgbaaVx0
import Derived.Test.YthgodajjaddgbaaVx1
import Derived.Test.YthgodajjaddgbaaHBase
import Derived.IntWalk
namespace Go.Proofs.Ythgodajjaddgbaa.V
open Go.RowKit Go.Proofs.YthgodajjaddgbaaW.PrintWords Go.Proofs.YthgodajjaddgbaaW.PrintLast Go.Proofs.YthgodajjaddgbaaW.PrintMore
attribute [local go_sem] max2_int min2_int max_two min_two max_three min_three max_four min_four   -- for this text's walks alone
set_option linter.unusedVariables false
set_option linter.unusedSimpArgs false

def hxM (d : Int) : Int := if d < 10 then d + 48 else if d % 2 = 0 then d + 87 else d + 55
theorem nib_dec (k : Nat) (d : Int) (h0 : 0 ≤ d) (h1 : d < 10) : text_nibble.f (k + 1) (d + 48) = some (d, true) := by
  unfold text_nibble.f text_digit.f
  rw [if_pos (by omega), Option.bind_some, decide_eq_true (by omega), if_pos rfl]
  congr 2; omega
theorem nib_hxM (k : Nat) (d : Int) (h0 : 0 ≤ d) (h1 : d < 16) : text_nibble.f (k + 1) (hxM d) = some (d, true) := by
  unfold hxM
  by_cases c : d < 10
  · rw [if_pos c]; exact nib_dec k d h0 c
  · rw [if_neg c]
    by_cases c2 : d % 2 = 0
    · rw [if_pos c2]
      unfold text_nibble.f text_digit.f
      rw [if_pos (by omega), Option.bind_some, decide_eq_false (by omega), if_neg (by decide), if_pos (by omega), decide_eq_true (by omega), text_nibble.j0, if_pos rfl]
      congr 2; omega
    · rw [if_neg c2]
      unfold text_nibble.f text_digit.f
      rw [if_pos (by omega), Option.bind_some, decide_eq_false (by omega), if_neg (by decide), if_neg (by omega), text_nibble.j0, if_neg (by decide), if_pos (by omega), if_pos (by omega)]
      congr 2; omega
def valF (b : Int) (m : Int) (ds : List Int) : Int := ds.foldl (fun m d => m * b + d) m
theorem valF_ge (b : Int) (hb : 1 ≤ b) : ∀ (ds : List Int) (m : Int), 0 ≤ m → (∀ d ∈ ds, 0 ≤ d ∧ d < b) → m ≤ valF b m ds
  | [], m, _, _ => Int.le_refl _
  | d :: ds, m, h0, h => by
    have hd := h d (by simp)
    have h1 : m ≤ m * b := by
      have := Int.mul_le_mul_of_nonneg_left hb h0
      rwa [Int.mul_one] at this
    have := valF_ge b hb ds (m * b + d) (by omega) (fun x hx => h x (List.mem_cons_of_mem _ hx))
    show m ≤ valF b (m * b + d) ds
    omega
/-- What number answers on digits of a base whose value is n. -/
theorem number_some (b : Int) (hb : 2 ≤ b ∧ b ≤ 16) (F : Int → Int) (hF : ∀ k d, 0 ≤ d → d < b → text_nibble.f (k + 1) (F d) = some (d, true)) (hFr : ∀ d, 0 ≤ d → d < b → 0 ≤ F d ∧ F d ≤ 255) (ds : List Int) (hds : ∀ d ∈ ds, 0 ≤ d ∧ d < b) (hne : ds ≠ []) (hl : ds.length ≤ 1000000) (n : Int) (hv : valF b 0 ds = n) (hn : n < 1073741824) (res : ByteArray × Bool) (hres : ((text_isChar.f n).bind fun t119 => (if t119 = true then ((text_encoded.f n).bind fun t120 => (some (t120, true))) else (some ((⟨#[]⟩ : ByteArray), false)))) = some res) :
    ∃ k, text_number.f k (strOfNums (ds.map F)) b = some res := by
  obtain ⟨S, hS⟩ : ∃ S, S = strOfNums (ds.map F) := ⟨_, rfl⟩
  have hsz : S.size = ds.length := by rw [hS, strOfNums_size, List.length_map]
  have hpos : 0 < ds.length := List.length_pos_iff.2 hne
  have hbt : ∀ (i : Nat) (h : i < ds.length), bt S (i : Int) = F ds[i] := fun i h => by
    rw [hS]
    refine bt_of _ ?_ i _ (by rw [List.getElem?_map, List.getElem?_eq_getElem h]; rfl)
    intro x hx
    obtain ⟨d, hd, rfl⟩ := List.mem_map.1 hx
    exact hFr d (hds d hd).1 (hds d hd).2
  have hnil : ¬ S.toList = ([] : List UInt8) := toList_ne S (by omega)
  have go : ∀ (j i : Nat) (m : Int), i + j = ds.length → 0 ≤ m → valF b m (ds.drop i) = n → ∃ k, text_number.l0 k S b m (S.size : Int) (i : Int) = some res := by
    intro j
    induction j with
    | zero =>
      intro i m hi h0 hm
      rw [List.drop_of_length_le (by omega)] at hm
      obtain rfl : m = n := hm
      refine ⟨1, ?_⟩
      rw [text_number.l0, if_neg (by omega), if_neg hnil]
      exact hres
    | succ j ih =>
      intro i m hi h0 hm
      have hlt : i < ds.length := by omega
      have hd := hds _ (List.getElem_mem hlt)
      rw [List.drop_eq_getElem_cons hlt] at hm
      have hm' : valF b (m * b + ds[i]) (ds.drop (i + 1)) = n := hm
      have hmb : 0 ≤ m * b := Int.mul_nonneg h0 (by omega)
      have hge := valF_ge b (by omega) (ds.drop (i + 1)) (m * b + ds[i]) (by omega) (fun x hx => hds x (List.mem_of_mem_drop hx))
      rw [hm'] at hge
      obtain ⟨k, hk⟩ := ih (i + 1) (m * b + ds[i]) (by omega) (by omega) hm'
      obtain ⟨k, rfl⟩ : ∃ q, k = q + 1 := by
        cases k with
        | zero => rw [text_number.l0] at hk; cases hk
        | succ q => exact ⟨q, rfl⟩
      refine ⟨k + 1 + 1, ?_⟩
      rw [text_number.l0, if_pos (by omega), if_pos (by omega), if_pos (by omega), hbt i hlt, hF k _ hd.1 hd.2, Option.bind_some]
      dsimp only
      have hmn : mn (wrap64 ((wrap64 (m * b)) + ds[i])) 1073741824 = m * b + ds[i] := by
        rw [w64q (x := m * b) (by omega) (by omega), w64q (x := m * b + ds[i]) (by omega) (by omega)]
        unfold mn; split <;> omega
      rw [if_pos rfl, if_neg (by omega), hmn, w64q (x := (i : Int) + 1) (by omega) (by omega)]
      exact hk
  obtain ⟨k, hk⟩ := go ds.length 0 0 (by omega) (by decide) hv
  exact ⟨k, by rw [← hS]; exact hk⟩
theorem valF_zeros (b : Int) : ∀ (z : Nat) (ds : List Int), valF b 0 (List.replicate z 0 ++ ds) = valF b 0 ds
  | 0, ds => rfl
  | z + 1, ds => by
    have := valF_zeros b z ds
    rw [List.replicate_succ, List.cons_append]
    show valF b (0 * b + 0) _ = _
    rw [show (0 : Int) * b + 0 = 0 by omega]
    exact this
/-- The digits of a number, the highest first; one at least. -/
def digsB (b : Int) : Nat → Int → List Int
  | 0, _ => []
  | k + 1, n => if n < b then [n] else digsB b k (n / b) ++ [n % b]
theorem valF_app (b m : Int) (x y : List Int) : valF b m (x ++ y) = valF b (valF b m x) y := by unfold valF; rw [List.foldl_append]
theorem digsB_val (b : Int) (hb : 2 ≤ b) : ∀ (k : Nat) (n : Int), 0 ≤ n → n < 2 ^ k → k ≠ 0 → valF b 0 (digsB b k n) = n ∧ (∀ d ∈ digsB b k n, 0 ≤ d ∧ d < b) ∧ digsB b k n ≠ []
  | 0, _, _, _, h => absurd rfl h
  | k + 1, n, h0, h1, _ => by
    rw [digsB]
    by_cases c : n < b
    · rw [if_pos c]
      refine ⟨?_, fun d hd => by rw [List.mem_singleton.1 hd]; exact ⟨h0, c⟩, by simp⟩
      show 0 * b + n = n
      rw [Int.zero_mul]; omega
    · rw [if_neg c]
      have hq0 : 0 ≤ n / b := Int.ediv_nonneg h0 (by omega)
      have hq1 : n / b < 2 ^ k := by
        refine Int.ediv_lt_of_lt_mul (by omega) ?_
        have hp : (0 : Int) < 2 ^ k := Int.pow_pos (by decide)
        have h2 : (2 : Int) ^ (k + 1) = 2 ^ k * 2 := by rw [Int.pow_succ]
        have h3 : (2 : Int) ^ k * 2 ≤ 2 ^ k * b := Int.mul_le_mul_of_nonneg_left hb (by omega)
        omega
      have hk : k ≠ 0 := by
        rintro rfl
        have : (2 : Int) ^ (0 + 1) = 2 := rfl
        omega
      obtain ⟨e1, e2, e3⟩ := digsB_val b hb k (n / b) hq0 hq1 hk
      refine ⟨?_, ?_, by simp⟩
      · rw [valF_app, e1]
        show n / b * b + n % b = n
        have := Int.mul_ediv_add_emod n b
        rw [Int.mul_comm] at this
        exact this
      · intro d hd
        rcases List.mem_append.1 hd with hd | hd
        · exact e2 d hd
        · rw [List.mem_singleton.1 hd]
          exact ⟨Int.emod_nonneg _ (by omega), Int.emod_lt_of_pos _ (by omega)⟩

end Go.Proofs.Ythgodajjaddgbaa.V
