/- What the statements of layer 7 make out of seeds: rooms that can be laid, their offsets and their end; and what lay's own functions say of these. Plain lists and numbers. -/

import Derived.Test.YthckejcoekhdjaaQx0
import Derived.Test.YthckejcoekhdjaaQx2
import Derived.Test.YthckejcoekhdjaaQx3
import Derived.Test.YthckejcoekhdjaaQx4
import Derived.Test.YthckejcoekhdjaaHGaps
import Derived.Test.YthckejcoekhdjaaHPlace
namespace Go.Proofs.Ythckejcoekhdjaa.Q
open Go.RowKit Go.Proofs.YthckejcoekhdjaaW.PrintWords Go.Proofs.YthckejcoekhdjaaW.PrintLast Go.Proofs.YthckejcoekhdjaaW.PrintMore
attribute [local go_sem] max2_int min2_int max_two min_two max_three min_three max_four min_four   -- for this text's walks alone
set_option linter.unusedVariables false
set_option linter.unusedSimpArgs false

/-- Rooms and their offsets, from s on up to e. -/
def Chain : List S39 → List Int → Int → Int → Prop
  | [], [], s, e => s = e
  | x :: xs, o :: os, s, e => s ≤ o ∧ o < s + 40 ∧ 0 ≤ x.f0 ∧ x.f0 < 70 ∧ (x.f1 = o ∨ (x.f1 = -1 ∧ o = s)) ∧ Chain xs os (o + x.f0) e
  | _, _, _, _ => False

theorem Chain.snoc {x : S39} {o : Int} : ∀ {l : List S39} {at_ : List Int} {s e : Int}, Chain l at_ s e → e ≤ o → o < e + 40 → 0 ≤ x.f0 → x.f0 < 70 → (x.f1 = o ∨ (x.f1 = -1 ∧ o = e)) → Chain (l ++ [x]) (at_ ++ [o]) s (o + x.f0)
  | [], [], s, e, h, h1, h2, h3, h4, h5 => by
    simp only [Chain] at h
    subst h
    exact ⟨h1, h2, h3, h4, h5, rfl⟩
  | y :: l, p :: at_, s, e, h, h1, h2, h3, h4, h5 => by
    obtain ⟨a, b, c, d, f, g⟩ := h
    exact ⟨a, b, c, d, f, Chain.snoc g h1 h2 h3 h4 h5⟩
  | [], _ :: _, _, _, h, _, _, _, _, _ => h.elim
  | _ :: _, [], _, _, h, _, _, _, _, _ => h.elim
theorem Chain.len : ∀ {l : List S39} {at_ : List Int} {s e : Int}, Chain l at_ s e → l.length = at_.length ∧ s ≤ e ∧ e ≤ s + 109 * l.length
  | [], [], s, e, h => by simp only [Chain] at h; subst h; simp
  | y :: l, p :: at_, s, e, h => by
    obtain ⟨a, b, c, d, f, g⟩ := h
    obtain ⟨h1, h2, h3⟩ := Chain.len g
    refine ⟨by simp [h1], by omega, by simp only [List.length_cons]; omega⟩
  | [], _ :: _, _, _, h => h.elim
  | _ :: _, [], _, _, h => h.elim

theorem mod_some (v n : Int) (h0 : 0 < n) (h1 : n ≤ 1000) : ∃ r, stencillaw07_mod.f v n = some r ∧ 0 ≤ r ∧ r < n := by
  unfold stencillaw07_mod.f
  rw [if_neg (by omega)]
  have h2 := Int.tmod_lt_of_pos v h0
  have h3 : -n < Int.tmod v n := by
    have := Int.lt_tmod_of_pos v h0
    omega
  by_cases c : Int.tmod v n < 0
  · rw [if_pos c]
    refine ⟨_, rfl, ?_⟩
    unfold wrap64
    omega
  · rw [if_neg c]
    exact ⟨_, rfl, by omega, h2⟩

theorem made_loop (l0 : List S57) : ∀ (d i : Nat) (l : List S39) (at_ : List Int) (e : Int) (k : Nat), Chain l at_ 0 e → l.length = i → i ≤ 60 → i ≤ l0.length → d = 60 - i → 3 * d + 2 ≤ k →
    ∃ l' at' e', stencillaw07_made.l0 k l0 l at_ e i = some (l', at', e') ∧ Chain l' at' 0 e' ∧ l'.length ≤ 60 := by
  intro d
  induction d with
  | zero =>
    intro i l at_ e k hc hl hi hi2 hd hk
    obtain ⟨k, rfl⟩ : ∃ m, k = m + 2 := ⟨k - 2, by omega⟩
    refine ⟨l, at_, e, ?_, hc, by omega⟩
    simp only [stencillaw07_made.l0]
    by_cases c : (i : Int) < (l0.length : Int)
    · rw [if_pos c, decide_eq_false (by omega)]; simp [stencillaw07_made.j1]
    · rw [if_neg c]; simp [stencillaw07_made.j1]
  | succ d ih =>
    intro i l at_ e k hc hl hi hi2 hd hk
    obtain ⟨k, rfl⟩ : ∃ m, k = m + 3 := ⟨k - 3, by omega⟩
    obtain ⟨hl1, he0, he1⟩ := hc.len
    by_cases c : (i : Int) < (l0.length : Int)
    · obtain ⟨t, ht, ht0, ht1⟩ := mod_some (rd_T57 l0 i).f0 70 (by omega) (by omega)
      have step : ∀ (g f1 : Int), 0 ≤ g → g < 40 → (f1 = e + g ∨ (f1 = -1 ∧ e + g = e)) → ∃ l' at' e', stencillaw07_made.l0 k l0 (l ++ [⟨t, f1⟩]) (at_ ++ [e + g]) (e + g + t) ((i + 1 : Nat) : Int) = some (l', at', e') ∧ Chain l' at' 0 e' ∧ l'.length ≤ 60 := by
        intro g f1 h0 h1 h2
        exact ih (i + 1) (l ++ [⟨t, f1⟩]) (at_ ++ [e + g]) (e + g + t) k (Chain.snoc (x := ⟨t, f1⟩) hc (by omega) (by omega) ht0 ht1 (by
          rcases h2 with h2 | ⟨h2, h3⟩
          · exact .inl h2
          · exact .inr ⟨h2, h3⟩)) (by simp [hl]) (by omega) (by omega) (by omega) (by omega)
      have w3 : wrap64 ((i : Int) + 1) = ((i + 1 : Nat) : Int) := by unfold wrap64; omega
      simp only [stencillaw07_made.l0]
      rw [if_pos c, decide_eq_true (show (i : Int) < 60 by omega)]
      simp only [stencillaw07_made.j1, if_true]
      rw [if_pos (by omega), if_pos c]
      by_cases cg : (rd_T57 l0 i).f1 ≥ 0
      · have g0 : 0 ≤ Int.tmod (rd_T57 l0 i).f1 40 := Int.tmod_nonneg _ cg
        have g1 : Int.tmod (rd_T57 l0 i).f1 40 < 40 := Int.tmod_lt_of_pos _ (by omega)
        rw [if_pos cg]
        generalize hg : Int.tmod (rd_T57 l0 i).f1 40 = g at *
        have w1 : wrap64 (e + g) = e + g := by unfold wrap64; omega
        have w2 : wrap64 (e + g + t) = e + g + t := by unfold wrap64; omega
        simp only [stencillaw07_made.j2]
        rw [if_pos (by omega), if_pos c, ht]
        simp only [Option.bind_some]
        rw [if_pos cg, if_pos (by omega), if_pos (by omega), w1, w2, w3]
        exact step g (e + g) g0 g1 (.inl rfl)
      · rw [if_neg cg]
        have w1 : wrap64 (e + 0) = e + 0 := by unfold wrap64; omega
        have w2 : wrap64 (e + 0 + t) = e + 0 + t := by unfold wrap64; omega
        simp only [stencillaw07_made.j2]
        rw [if_pos (by omega), if_pos c, ht]
        simp only [Option.bind_some]
        rw [if_neg cg, if_pos (by omega), if_pos (by omega), w1, w2, w3]
        exact step 0 (-1) (by omega) (by omega) (.inr ⟨rfl, by omega⟩)
    · refine ⟨l, at_, e, ?_, hc, by omega⟩
      simp only [stencillaw07_made.l0]
      rw [if_neg c]; simp [stencillaw07_made.j1]

theorem made_some (l0 : List S57) : ∃ l at_ e, Ev (fun k => stencillaw07_made.f k l0) (l, at_, e) ∧ Chain l at_ 0 e ∧ l.length ≤ 60 := by
  obtain ⟨l, at_, e, h, hc, hl⟩ := made_loop l0 60 0 [] [] 0 182 rfl rfl (by omega) (by omega) rfl (by omega)
  exact ⟨l, at_, e, Ev.of (fun k => stencillaw07_made.mono l0 k) (k := 182) h, hc, hl⟩

/-- A chain's rooms are laid as they say. -/
theorem Chain.err {x : S39} {o s : Int} (h0 : s ≤ o) (h1 : 0 ≤ x.f0) (h5 : x.f1 = o ∨ (x.f1 = -1 ∧ o = s)) (hs : 0 ≤ s) (ho : o ≤ 65535) (hx : x.f0 ≤ 65535 - o) : layErr s x = 0 ∧ layAt s x = o := by
  have ha : layAt s x = o := by
    unfold layAt
    rcases h5 with h5 | ⟨h5, h6⟩
    · rw [if_neg (by omega)]; exact h5
    · rw [if_pos h5]; exact h6.symm
  refine ⟨?_, ha⟩
  unfold layErr
  rw [ha, if_neg (by omega), if_neg (by omega), if_neg (by omega)]
theorem Chain.place : ∀ {l : List S39} {at_ : List Int} {s e : Int} (i : Int) (acc : List Int), Chain l at_ s e → 0 ≤ s → e ≤ 65535 → placeGo l i acc s = .inl (acc ++ at_, e)
  | [], [], s, e, i, acc, h, _, _ => by simp only [Chain] at h; subst h; simp [placeGo]
  | x :: l, o :: at_, s, e, i, acc, h, hs, he => by
    obtain ⟨a, b, c, d, f, g⟩ := h
    obtain ⟨h1, h2, h3⟩ := Chain.len g
    obtain ⟨e1, e2⟩ := Chain.err a c f hs (by omega) (by omega)
    rw [placeGo, if_pos e1, e2, Chain.place (i + 1) (acc ++ [o]) g (by omega) he]
    simp
  | [], _ :: _, _, _, _, _, h, _, _ => h.elim
  | _ :: _, [], _, _, _, _, h, _, _ => h.elim
theorem Chain.laid : ∀ {l : List S39} {at_ : List Int} {s e : Int}, Chain l at_ s e → 0 ≤ s → e ≤ 65535 → laidF l at_ s = some e
  | [], [], s, e, h, _, _ => by simp only [Chain] at h; subst h; rfl
  | x :: l, o :: at_, s, e, h, hs, he => by
    obtain ⟨a, b, c, d, f, g⟩ := h
    obtain ⟨h1, h2, h3⟩ := Chain.len g
    obtain ⟨e1, e2⟩ := Chain.err (x := ⟨x.f0, o⟩) (s := s) a c (.inl rfl) hs (by omega) (by simp only; omega)
    rw [laidF, if_neg (by omega), if_pos e1, Chain.laid g (by omega) he]
  | [], _ :: _, _, _, h, _, _ => h.elim
  | _ :: _, [], _, _, h, _, _ => h.elim

/-- rooms and ints hand back what they are given. -/
theorem rooms_some (l : List S39) (h : l.length < 8796093022207) : stencillaw07_rooms.f l = some l := by
  unfold stencillaw07_rooms.f
  simp only [List.length_nil, Nat.zero_add, List.nil_append, Option.bind_some]
  rw [if_pos (by omega), if_pos (by omega), if_pos (by omega), if_pos (by simp only [List.length_append, List.length_cons]; omega)]
  simp
theorem ints_some (l : List Int) (h : l.length < 17592186044415) : stencillaw07_ints.f l = some l := by
  unfold stencillaw07_ints.f
  simp only [List.length_nil, Nat.zero_add, List.nil_append, Option.bind_some]
  rw [if_pos (by omega), if_pos (by omega), if_pos (by omega), if_pos (by simp only [List.length_append, List.length_cons]; omega)]
  simp

end Go.Proofs.Ythckejcoekhdjaa.Q
