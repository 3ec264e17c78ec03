/- An item of a quoted text, whole or cut short, read by the unquoter's methods (layer 2). -/
import Derived.Test.YthgodajjaddgbaaTx0
import Derived.Test.YthgodajjaddgbaaTx2
import Derived.Test.YthgodajjaddgbaaHEsc
import Derived.IntWalk
namespace Go.Proofs.Ythgodajjaddgbaa.T
open Go.RowKit Go.Proofs.YthgodajjaddgbaaW.PrintWords Go.Proofs.YthgodajjaddgbaaW.PrintLast Go.Proofs.YthgodajjaddgbaaW.PrintMore
attribute [local go_sem] max2_int min2_int max_two min_two max_three min_three max_four min_four   -- for this text's walks alone
set_option linter.unusedVariables false
set_option linter.unusedSimpArgs false

theorem nib_hx (k : Nat) (a : Int) (h0 : 0 ≤ a) (h1 : a < 16) : text_nibble.f (k + 1) (hxD a) = some (a, true) := by
  unfold hxD text_nibble.f text_digit.f
  by_cases c : a < 10
  · rw [if_pos c, if_pos (by omega), Option.bind_some, decide_eq_true (by omega), if_pos rfl]
    congr 2; omega
  · rw [if_neg c, if_pos (by omega), Option.bind_some, decide_eq_false (by omega), if_neg (by decide), if_pos (by omega), decide_eq_true (by omega), text_nibble.j0, if_pos rfl]
    congr 2; omega
theorem nib_up (k : Nat) (a : Int) (h0 : 0 ≤ a) (h1 : a < 16) : text_nibble.f (k + 1) (upH (hxD a)) = some (a, true) := by
  by_cases c : a < 10
  · have : upH (hxD a) = hxD a := by unfold upH hxD; rw [if_pos c, if_neg (by omega)]
    rw [this]; exact nib_hx k a h0 h1
  · have : upH (hxD a) = a + 55 := by unfold upH hxD; rw [if_neg c, if_pos (by omega)]; omega
    rw [this]
    unfold text_nibble.f text_digit.f
    rw [if_pos (by omega), Option.bind_some, decide_eq_false (by omega), if_neg (by decide), if_neg (by omega), text_nibble.j0, if_neg (by decide), if_pos (by omega), if_pos (by omega)]
    congr 2; omega
theorem w64q {x : Int} (h0 : -9223372036854775808 ≤ x) (h1 : x < 9223372036854775808) : wrap64 x = x := by unfold wrap64; omega
/-- The places, digits and numbers of an item in hex. -/
def hxN (c : Int) (k : Nat) : Int := if k = 0 then 0 else if k = 1 then c / 16 else c
def hxP (p : Nat) (k : Nat) : Int := ((p + 1 + k : Nat) : Int)
def hxV (c : Int) (k : Nat) : Int := if k = 0 then c / 16 else c % 16
theorem hx_facts (c : Int) (hc : 0 ≤ c ∧ c ≤ 255) (p : Nat) (S : ByteArray) (hS : S.size < 1000000000000000) (m : Nat) (hm : m ≤ 2) (hfit : p + 1 + m < S.size) (hb : ∀ i x, i < 2 + m → [92, 120, hxD (c / 16), hxD (c % 16)][i]? = some x → bt S ((p + i : Nat) : Int) = x) :
    ∀ k, k < m → wrap64 (hxP p k + 1) = hxP p (k + 1) ∧ 0 ≤ hxP p (k + 1) ∧ hxP p (k + 1) < (S.size : Int) ∧ bt S (hxP p (k + 1)) = hxD (hxV c k) ∧ text_nibble.f 1 (hxD (hxV c k)) = some (hxV c k, true) ∧ bits .or .i64 (wrap64 (hxN c k * 16)) (hxV c k) = hxN c (k + 1) := by
  intro k hk
  have hkk : k = 0 ∨ k = 1 := by omega
  have hp : ∀ j : Nat, hxP p j = ((p + 1 + j : Nat) : Int) := fun _ => rfl
  refine ⟨?_, ?_, ?_, ?_, ?_, ?_⟩
  · rw [hp, hp, w64q (by omega) (by omega)]; omega
  · rw [hp]; omega
  · rw [hp]; omega
  · rcases hkk with rfl | rfl
    · exact hb 2 _ (by omega) rfl
    · exact hb 3 _ (by omega) rfl
  · rcases hkk with rfl | rfl
    · exact nib_hx 0 _ (show 0 ≤ c / 16 by omega) (show c / 16 < 16 by omega)
    · exact nib_hx 0 _ (show 0 ≤ c % 16 by omega) (show c % 16 < 16 by omega)
  · rcases hkk with rfl | rfl
    · have := or16 (x := 0) (y := c / 16) (by decide) (by decide) (by omega) (by omega)
      show bits .or .i64 (wrap64 (0 * 16)) (c / 16) = c / 16
      rw [this]; omega
    · have := or16 (x := c / 16) (y := c % 16) (by omega) (by omega) (by omega) (by omega)
      show bits .or .i64 (wrap64 (c / 16 * 16)) (c % 16) = c
      rw [this]; omega
theorem itemQ_kind (c : Int) (hc : 0 ≤ c ∧ c ≤ 255) : (itemQ c = [c] ∧ c ≠ 92 ∧ c ≠ 34 ∧ 32 ≤ c) ∨ (c = 92 ∧ itemQ c = [92, 92]) ∨ (c = 34 ∧ itemQ c = [92, 34]) ∨ (c = 10 ∧ itemQ c = [92, 110]) ∨ (c = 13 ∧ itemQ c = [92, 114]) ∨ (c = 9 ∧ itemQ c = [92, 116]) ∨ itemQ c = [92, 120, hxD (c / 16), hxD (c % 16)] := by
  unfold itemQ
  by_cases c1 : c = 92 ∨ c = 34
  · rw [if_pos c1]
    rcases c1 with rfl | rfl
    · exact .inr (.inl ⟨rfl, rfl⟩)
    · exact .inr (.inr (.inl ⟨rfl, rfl⟩))
  · rw [if_neg c1]
    by_cases c2 : c = 10
    · rw [if_pos c2]; exact .inr (.inr (.inr (.inl ⟨c2, rfl⟩)))
    · rw [if_neg c2]
      by_cases c3 : c = 13
      · rw [if_pos c3]; exact .inr (.inr (.inr (.inr (.inl ⟨c3, rfl⟩))))
      · rw [if_neg c3]
        by_cases c4 : c = 9
        · rw [if_pos c4]; exact .inr (.inr (.inr (.inr (.inr (.inl ⟨c4, rfl⟩)))))
        · rw [if_neg c4]
          by_cases c5 : 32 ≤ c ∧ c ≤ 126
          · rw [if_pos c5]; exact .inl ⟨rfl, by omega, by omega, c5.1⟩
          · rw [if_neg c5]; exact .inr (.inr (.inr (.inr (.inr (.inr rfl)))))
theorem uq_item36 (w0 w : World) (g : Nat) (S : ByteArray) (out : List Int) (p : Nat) (hU : UqO w w0.heap.size g S (p : Int) out) (hB : Below w0.heap.size w0 w) (hg : w0.heap.size ≤ g) (hl : out.length < 100000000000000) (c : Int) (hc : 0 ≤ c ∧ c ≤ 255) (hS : S.size < 1000000000000000) (hfit : p + (itemQ c).length ≤ S.size) (hb : ∀ i x, (itemQ c)[i]? = some x → bt S ((p + i : Nat) : Int) = x) (h92 : (itemQ c).head? = some 92 ∧ 2 ≤ (itemQ c).length) :
    Calls Try.prog 36 #[.pointer (some ⟨g, 0, none⟩)] w fun e w' => e = .returned (.bool true) ∧ UqO w' w0.heap.size g S ((p + (itemQ c).length : Nat) : Int) (out ++ [c]) ∧ Below w0.heap.size w0 w' := by
  have e1 : wrap64 ((p : Int) + 1) = ((p + 1 : Nat) : Int) := by rw [w64q (by omega) (by omega)]; rfl
  have e2 : p + 2 ≤ S.size → wrap64 (((p + 1 : Nat) : Int) + 1) = ((p + 2 : Nat) : Int) := fun h => by rw [w64q (by omega) (by omega)]; rfl
  rcases itemQ_kind c hc with h | ⟨rfl, h⟩ | ⟨rfl, h⟩ | ⟨rfl, h⟩ | ⟨rfl, h⟩ | ⟨rfl, h⟩ | h
  · rw [h.1] at h92; exact absurd h92.2 (by simp)
  · rw [h] at hfit hb ⊢
    exact uq_esc92 w0 w g S out p hU hB hg hl _ _ e1 (e2 hfit) (by omega) (by simp at hfit; omega) (hb 1 _ rfl)
  · rw [h] at hfit hb ⊢
    exact uq_esc34 w0 w g S out p hU hB hg hl _ _ e1 (e2 hfit) (by omega) (by simp at hfit; omega) (hb 1 _ rfl)
  · rw [h] at hfit hb ⊢
    exact uq_esc110 w0 w g S out p hU hB hg hl _ _ e1 (e2 hfit) (by omega) (by simp at hfit; omega) (hb 1 _ rfl)
  · rw [h] at hfit hb ⊢
    exact uq_esc114 w0 w g S out p hU hB hg hl _ _ e1 (e2 hfit) (by omega) (by simp at hfit; omega) (hb 1 _ rfl)
  · rw [h] at hfit hb ⊢
    exact uq_esc116 w0 w g S out p hU hB hg hl _ _ e1 (e2 hfit) (by omega) (by simp at hfit; omega) (hb 1 _ rfl)
  · rw [h] at hfit hb ⊢
    have hfit' : p + 4 ≤ S.size := hfit
    refine uq_escx w0 w g S out p hU hB hg hl _ ((p + 4 : Nat) : Int) (out ++ [c]) true e1 (by omega) (by omega) (hb 1 _ rfl) ?_
    intro W hU2 hB2
    exact uq_hex w0 W g S out _ hU2 hB2 hg hl 2 (hxN c) (hxP p) (fun k => hxD (hxV c k)) (hxV c) 1 (hx_facts c hc p S hS 2 (Nat.le_refl _) (by omega) (fun i x _ hi => hb i x hi)) rfl rfl rfl _ c (by show wrap64 (((p + 1 + 2 : Nat) : Int) + 1) = _; rw [w64q (by omega) (by omega)]; omega) (by show IntKind.u8.wrap c = c; rw [IntKind.wrap_u8]; omega)
theorem uq_cut36 (w0 w : World) (g : Nat) (S : ByteArray) (out : List Int) (p : Nat) (hU : UqO w w0.heap.size g S (p : Int) out) (hB : Below w0.heap.size w0 w) (hg : w0.heap.size ≤ g) (hl : out.length < 100000000000000) (c : Int) (hc : 0 ≤ c ∧ c ≤ 255) (hS : S.size < 1000000000000000) (d : Nat) (hd : 0 < d) (hd2 : d < (itemQ c).length) (hfit : p + d = S.size) (hb : ∀ i x, i < d → (itemQ c)[i]? = some x → bt S ((p + i : Nat) : Int) = x) :
    Calls Try.prog 36 #[.pointer (some ⟨g, 0, none⟩)] w fun e w' => e = .returned (.bool false) ∧ UqO w' w0.heap.size g S (S.size : Int) out ∧ Below w0.heap.size w0 w' := by
  have e1 : wrap64 ((p : Int) + 1) = ((p + 1 : Nat) : Int) := by rw [w64q (by omega) (by omega)]; rfl
  by_cases d1 : d = 1
  · have := uq_esc_end w0 w g S out p hU hB hg hl ((p + 1 : Nat) : Int) e1 (by omega)
    rwa [show ((p + 1 : Nat) : Int) = (S.size : Int) by omega] at this
  · have h : itemQ c = [92, 120, hxD (c / 16), hxD (c % 16)] := by
      rcases itemQ_kind c hc with h | ⟨_, h⟩ | ⟨_, h⟩ | ⟨_, h⟩ | ⟨_, h⟩ | ⟨_, h⟩ | h
      · rw [h.1] at hd2; exact absurd hd2 (by simp; omega)
      all_goals first | exact h | (rw [h] at hd2; exact absurd hd2 (by simp; omega))
    rw [h] at hd2 hb
    have hd4 : d < 4 := hd2
    refine uq_escx w0 w g S out p hU hB hg hl _ (S.size : Int) out false e1 (by omega) (by omega) (hb 1 _ (by omega) rfl) ?_
    intro W hU2 hB2
    have := uq_hex_end w0 W g S out _ hU2 hB2 hg hl (d - 2) (hxN c) (hxP p) (fun k => hxD (hxV c k)) (hxV c) 1 (hx_facts c hc p S hS (d - 2) (by omega) (by omega) (fun i x hi hx => hb i x (by omega) hx)) rfl rfl (by omega) ⟨by show wrap64 (((p + 1 + (d - 2) : Nat) : Int) + 1) = ((p + 1 + (d - 2 + 1) : Nat) : Int); rw [w64q (by omega) (by omega)]; omega, by show ((p + 1 + (d - 2 + 1) : Nat) : Int) = _; omega⟩
    rwa [show hxP p (d - 2 + 1) = (S.size : Int) by show ((p + 1 + (d - 2 + 1) : Nat) : Int) = _; omega] at this

end Go.Proofs.Ythgodajjaddgbaa.T
