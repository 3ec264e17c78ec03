/- Quotes and hex digits as lists of bytes (layer 2): what is written, cut anywhere. Plain. -/
import Derived.Test.YthgodajjaddgbaaTx0
import Derived.IntWalk
namespace Go.Proofs.Ythgodajjaddgbaa.T
open Go.RowKit Go.Proofs.YthgodajjaddgbaaW.PrintWords Go.Proofs.YthgodajjaddgbaaW.PrintLast Go.Proofs.YthgodajjaddgbaaW.PrintMore
attribute [local go_sem] max2_int min2_int max_two min_two max_three min_three max_four min_four   -- for this text's walks alone
set_option linter.unusedVariables false
set_option linter.unusedSimpArgs false

-- NEEDS
def hxD (n : Int) : Int := if n < 10 then n + 48 else n + 87
def itemQ (c : Int) : List Int := if c = 92 ∨ c = 34 then [92, c] else if c = 10 then [92, 110] else if c = 13 then [92, 114] else if c = 9 then [92, 116] else if 32 ≤ c ∧ c ≤ 126 then [c] else [92, 120, hxD (c / 16), hxD (c % 16)]
def bodyQ (l : List Int) : List Int := l.flatMap itemQ
def quoteL (l : List Int) : List Int := 34 :: (bodyQ l ++ [34])
def hexI (c : Int) : List Int := [hxD (c / 16), hxD (c % 16)]
def hexL (l : List Int) : List Int := l.flatMap hexI
def upH (c : Int) : Int := if 97 ≤ c ∧ c ≤ 102 then c - 32 else c
theorem hxD_range (n : Int) (h0 : 0 ≤ n) (h1 : n < 16) : (48 ≤ hxD n ∧ hxD n ≤ 57) ∨ (97 ≤ hxD n ∧ hxD n ≤ 102) := by unfold hxD; split <;> omega
theorem itemQ_range (c : Int) (h0 : 0 ≤ c) (h1 : c ≤ 255) : ∀ x ∈ itemQ c, 32 ≤ x ∧ x ≤ 126 := by
  have ha := hxD_range (c / 16) (by omega) (by omega)
  have hb := hxD_range (c % 16) (by omega) (by omega)
  intro x hx
  unfold itemQ at hx
  repeat' (split at hx)
  all_goals
    simp only [List.mem_cons, List.not_mem_nil, or_false] at hx
    omega
theorem itemQ_len (c : Int) : 1 ≤ (itemQ c).length ∧ (itemQ c).length ≤ 4 := by
  unfold itemQ
  repeat' split
  all_goals simp
theorem bodyQ_cons (c : Int) (l : List Int) : bodyQ (c :: l) = itemQ c ++ bodyQ l := by simp [bodyQ]
theorem bodyQ_app (a b : List Int) : bodyQ (a ++ b) = bodyQ a ++ bodyQ b := by simp [bodyQ]
theorem bodyQ_len : ∀ l : List Int, l.length ≤ (bodyQ l).length ∧ (bodyQ l).length ≤ 4 * l.length
  | [] => by simp [bodyQ]
  | c :: l => by
    have h1 := bodyQ_len l
    have h2 := itemQ_len c
    rw [bodyQ_cons, List.length_append, List.length_cons]
    omega
theorem bodyQ_range (l : List Int) (h : ∀ x ∈ l, 0 ≤ x ∧ x ≤ 255) : ∀ x ∈ bodyQ l, 32 ≤ x ∧ x ≤ 126 := by
  intro x hx
  unfold bodyQ at hx
  obtain ⟨c, hc, hx⟩ := List.mem_flatMap.1 hx
  exact itemQ_range c (h c hc).1 (h c hc).2 x hx
/-- A body that is cut: whole items, and an item's beginning. -/
theorem bodyQ_cut : ∀ (l : List Int) (m : Nat), m ≤ (bodyQ l).length → ∃ k pre, k ≤ l.length ∧ (bodyQ l).take m = bodyQ (l.take k) ++ pre ∧ (pre = [] ∨ ∃ c d, c ∈ l ∧ 0 < d ∧ d < (itemQ c).length ∧ pre = (itemQ c).take d)
  | [], m, h => ⟨0, [], by simp, by simp [bodyQ], .inl rfl⟩
  | c :: l, m, h => by
    rw [bodyQ_cons] at h ⊢
    rw [List.length_append] at h
    by_cases h1 : m < (itemQ c).length
    · refine ⟨0, (itemQ c).take m, by simp, ?_, ?_⟩
      · rw [List.take_append, Nat.sub_eq_zero_of_le (by omega)]
        simp [bodyQ]
      · by_cases h2 : m = 0
        · exact .inl (by rw [h2]; rfl)
        · exact .inr ⟨c, m, by simp, by omega, h1, rfl⟩
    · obtain ⟨k, pre, h2, h3, h4⟩ := bodyQ_cut l (m - (itemQ c).length) (by omega)
      refine ⟨k + 1, pre, by simpa using h2, ?_, ?_⟩
      · rw [List.take_append, List.take_of_length_le (by omega), h3, List.take_succ_cons, bodyQ_cons, List.append_assoc]
      · rcases h4 with h4 | ⟨c', d, h5, h6⟩
        · exact .inl h4
        · exact .inr ⟨c', d, List.mem_cons_of_mem _ h5, h6⟩
theorem quote_cut (l : List Int) (m : Nat) (h0 : 0 < m) (h : m < (quoteL l).length) : ∃ k pre, k ≤ l.length ∧ (quoteL l).take m = 34 :: (bodyQ (l.take k) ++ pre) ∧ (pre = [] ∨ ∃ c d, c ∈ l ∧ 0 < d ∧ d < (itemQ c).length ∧ pre = (itemQ c).take d) := by
  obtain ⟨m, rfl⟩ : ∃ j, m = j + 1 := ⟨m - 1, by omega⟩
  unfold quoteL at h ⊢
  rw [List.length_cons, List.length_append, List.length_singleton] at h
  obtain ⟨k, pre, h1, h2, h3⟩ := bodyQ_cut l m (by omega)
  refine ⟨k, pre, h1, ?_, h3⟩
  rw [List.take_succ_cons, List.take_append, Nat.sub_eq_zero_of_le (by omega), List.take_zero, List.append_nil, h2]
theorem hexL_cons (c : Int) (l : List Int) : hexL (c :: l) = hxD (c / 16) :: hxD (c % 16) :: hexL l := by simp [hexL, hexI]
theorem hexL_len : ∀ l : List Int, (hexL l).length = 2 * l.length
  | [] => rfl
  | c :: l => by rw [hexL_cons, List.length_cons, List.length_cons, hexL_len l, List.length_cons]; omega
theorem hexL_mem (l : List Int) (h : ∀ x ∈ l, 0 ≤ x ∧ x ≤ 255) : ∀ x ∈ hexL l, (48 ≤ x ∧ x ≤ 57) ∨ (97 ≤ x ∧ x ≤ 102) := by
  intro x hx
  unfold hexL at hx
  obtain ⟨c, hc, hx⟩ := List.mem_flatMap.1 hx
  have := h c hc
  unfold hexI at hx
  simp only [List.mem_cons, List.not_mem_nil, or_false] at hx
  rcases hx with rfl | rfl
  · exact hxD_range _ (by omega) (by omega)
  · exact hxD_range _ (by omega) (by omega)

end Go.Proofs.Ythgodajjaddgbaa.T
