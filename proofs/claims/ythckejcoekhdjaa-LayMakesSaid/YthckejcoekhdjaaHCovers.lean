/- Gaps and rooms of a chain: each place of the block is in just one of them. Plain lists and numbers. -/

import Derived.Test.YthckejcoekhdjaaQx0
import Derived.Test.YthckejcoekhdjaaQx3
import Derived.Test.YthckejcoekhdjaaQx8
import Derived.Test.YthckejcoekhdjaaHGaps
import Derived.Test.YthckejcoekhdjaaHMade
namespace Go.Proofs.Ythckejcoekhdjaa.Q
open Go.RowKit Go.Proofs.YthckejcoekhdjaaW.PrintWords Go.Proofs.YthckejcoekhdjaaW.PrintLast Go.Proofs.YthckejcoekhdjaaW.PrintMore
attribute [local go_sem] max2_int min2_int max_two min_two max_three min_three max_four min_four   -- for this text's walks alone
set_option linter.unusedVariables false
set_option linter.unusedSimpArgs false

/-- What lay.At tells, room by room. -/
def atF : List S39 → List Int → Int → Int → Int
  | x :: xs, o :: os, i, p => if o ≤ p ∧ 0 < x.f0 ∧ p < o + x.f0 then i else atF xs os (i + 1) p
  | _, _, _, _ => -1
/-- Does a place lie in a room? -/
def cov : List S39 → List Int → Int → Bool
  | x :: xs, o :: os, p => decide (o ≤ p ∧ p < o + x.f0) || cov xs os p
  | _, _, _ => false
def inG (G : List S39) (p : Int) : Bool := G.any fun g => decide (g.f1 ≤ p ∧ p < g.f1 + g.f0)
def GapList : List S39 → List Int → Int → Int → List S39
  | x :: xs, o :: os, e, b => if 0 < x.f0 then (if e < o then ⟨o - e, e⟩ :: GapList xs os (o + x.f0) b else GapList xs os (o + x.f0) b) else GapList xs os e b
  | _, _, e, b => if e < b then [⟨b - e, e⟩] else []

theorem gapList_eq (b : Int) : ∀ (l : List S39) (os : List Int) (acc : List S39) (e : Int), l.length = os.length → gapPut (gapsF l os acc e).1 (gapsF l os acc e).2 b = acc ++ GapList l os e b
  | [], [], acc, e, _ => by
    show gapPut acc e b = acc ++ GapList [] [] e b
    unfold gapPut GapList
    by_cases c : e < b
    · rw [if_pos c, if_pos c]
    · rw [if_neg c, if_neg c, List.append_nil]
  | x :: l, o :: os, acc, e, h => by
    simp only [gapsF, GapList]
    by_cases c : 0 < x.f0
    · rw [if_pos c, if_pos c, gapList_eq b l os _ _ (by simpa using h), gapPut]
      by_cases d : e < o
      · rw [if_pos d, if_pos d]; simp
      · rw [if_neg d, if_neg d]
    · rw [if_neg c, if_neg c, gapList_eq b l os _ _ (by simpa using h)]
  | [], _ :: _, _, _, h => by simp at h
  | _ :: _, [], _, _, h => by simp at h

/-- Gaps rise and don't touch. -/
def GapOk : List S39 → Int → Int → Prop
  | [], _, _ => True
  | g :: G, last, b => 1 ≤ g.f0 ∧ last < g.f1 ∧ g.f1 + g.f0 ≤ b ∧ GapOk G (g.f1 + g.f0) b
theorem Chain.gapOk {b : Int} : ∀ {l : List S39} {os : List Int} {s e : Int} (e0 last : Int), Chain l os s e → e0 ≤ s → e ≤ b → last < e0 → GapOk (GapList l os e0 b) last b
  | [], [], s, e, e0, last, h, h0, h1, h2 => by
    simp only [GapList]
    by_cases c : e0 < b
    · rw [if_pos c]; exact ⟨by simp only; omega, h2, by simp only; omega, trivial⟩
    · rw [if_neg c]; trivial
  | x :: l, o :: os, s, e, e0, last, h, h0, h1, h2 => by
    obtain ⟨a, _, c, _, _, g⟩ := h
    obtain ⟨_, q2, _⟩ := Chain.len g
    simp only [GapList]
    by_cases d : 0 < x.f0
    · rw [if_pos d]
      by_cases f : e0 < o
      · rw [if_pos f]
        exact ⟨by simp only; omega, h2, by simp only; omega, by
          have z := Chain.gapOk (b := b) (o + x.f0) o g (Int.le_refl _) h1 (by omega)
          have e : e0 + (o - e0) = o := by omega
          simp only [e]
          exact z⟩
      · rw [if_neg f]; exact Chain.gapOk _ _ g (Int.le_refl _) h1 (by omega)
    · rw [if_neg d]; exact Chain.gapOk _ _ g (by omega) h1 h2
  | [], _ :: _, _, _, _, _, h, _, _, _ => h.elim
  | _ :: _, [], _, _, _, _, h, _, _, _ => h.elim
theorem inG_below {b : Int} : ∀ {G : List S39} {last p : Int}, GapOk G last b → p ≤ last → inG G p = false
  | [], _, _, _, _ => rfl
  | g :: G, last, p, h, hp => by
    obtain ⟨a, c, d, f⟩ := h
    have := inG_below (p := p) f (by omega)
    simp only [inG, List.any_cons] at this ⊢
    rw [this, decide_eq_false (by omega)]
    rfl
theorem Chain.cov_below : ∀ {l : List S39} {os : List Int} {s e p : Int}, Chain l os s e → p < s → cov l os p = false
  | [], [], _, _, _, _, _ => rfl
  | x :: l, o :: os, s, e, p, h, hp => by
    obtain ⟨a, _, c, _, _, g⟩ := h
    simp only [cov]
    rw [decide_eq_false (by omega), Chain.cov_below g (by omega)]
    rfl
  | [], _ :: _, _, _, _, h, _ => h.elim
  | _ :: _, [], _, _, _, h, _ => h.elim
theorem Chain.cov_above : ∀ {l : List S39} {os : List Int} {s e p : Int}, Chain l os s e → e ≤ p → cov l os p = false
  | [], [], _, _, _, _, _ => rfl
  | x :: l, o :: os, s, e, p, h, hp => by
    obtain ⟨a, _, c, _, _, g⟩ := h
    obtain ⟨_, q2, _⟩ := Chain.len g
    simp only [cov]
    rw [decide_eq_false (by omega), Chain.cov_above g hp]
    rfl
  | [], _ :: _, _, _, _, h, _ => h.elim
  | _ :: _, [], _, _, _, h, _ => h.elim
theorem Chain.inG_cov {b p : Int} (hb : p < b) : ∀ {l : List S39} {os : List Int} {s e : Int} (e0 : Int), Chain l os s e → e0 ≤ s → e ≤ b → e0 ≤ p → inG (GapList l os e0 b) p = !cov l os p
  | [], [], s, e, e0, h, h0, h1, h2 => by
    simp only [GapList, cov]
    rw [if_pos (by omega)]
    simp only [inG, List.any_cons, List.any_nil]
    rw [decide_eq_true (by omega)]
    rfl
  | x :: l, o :: os, s, e, e0, h, h0, h1, h2 => by
    obtain ⟨a, _, c, _, _, g⟩ := h
    obtain ⟨_, q2, _⟩ := Chain.len g
    simp only [GapList, cov]
    by_cases d : 0 < x.f0
    · rw [if_pos d]
      have hok := Chain.gapOk (b := b) (o + x.f0) (o + x.f0 - 1) g (Int.le_refl _) h1 (by omega)
      by_cases f : e0 < o
      · rw [if_pos f]
        have hc : inG (⟨o - e0, e0⟩ :: GapList l os (o + x.f0) b) p = (decide (e0 ≤ p ∧ p < e0 + (o - e0)) || inG (GapList l os (o + x.f0) b) p) := rfl
        rw [hc]
        by_cases p1 : p < o
        · rw [decide_eq_true (show e0 ≤ p ∧ p < e0 + (o - e0) by omega), decide_eq_false (show ¬ (o ≤ p ∧ p < o + x.f0) by omega), Chain.cov_below g (by omega)]
          rfl
        · rw [decide_eq_false (show ¬ (e0 ≤ p ∧ p < e0 + (o - e0)) by omega)]
          by_cases p2 : p < o + x.f0
          · rw [decide_eq_true (show o ≤ p ∧ p < o + x.f0 by omega), inG_below hok (by omega)]
            rfl
          · rw [decide_eq_false (show ¬ (o ≤ p ∧ p < o + x.f0) by omega), Chain.inG_cov hb _ g (Int.le_refl _) h1 (by omega)]
            simp
      · rw [if_neg f]
        by_cases p2 : p < o + x.f0
        · rw [decide_eq_true (show o ≤ p ∧ p < o + x.f0 by omega), inG_below hok (by omega)]
          rfl
        · rw [decide_eq_false (show ¬ (o ≤ p ∧ p < o + x.f0) by omega), Chain.inG_cov hb _ g (Int.le_refl _) h1 (by omega)]
          simp
    · rw [if_neg d, decide_eq_false (show ¬ (o ≤ p ∧ p < o + x.f0) by omega), Chain.inG_cov hb e0 g (by omega) h1 h2]
      simp
  | [], _ :: _, _, _, _, h, _, _, _ => h.elim
  | _ :: _, [], _, _, _, h, _, _, _ => h.elim

theorem atF_some : ∀ (l : List S39) (os : List Int) (i p : Int), 0 ≤ i → l.length = os.length → (atF l os i p = -1 ∧ cov l os p = false) ∨
    ∃ j : Nat, j < l.length ∧ atF l os i p = i + j ∧ cov l os p = true ∧ os.getD j 0 ≤ p ∧ p < os.getD j 0 + (l.getD j z39).f0
  | [], [], _, _, _, _ => .inl ⟨rfl, rfl⟩
  | x :: l, o :: os, i, p, hi, h => by
    simp only [atF, cov]
    by_cases c : o ≤ p ∧ 0 < x.f0 ∧ p < o + x.f0
    · rw [if_pos c, decide_eq_true (show o ≤ p ∧ p < o + x.f0 by omega)]
      exact .inr ⟨0, by simp, by simp, by simp, c.1, c.2.2⟩
    · rw [if_neg c, decide_eq_false (show ¬ (o ≤ p ∧ p < o + x.f0) by omega)]
      rcases atF_some l os (i + 1) p (by omega) (by simpa using h) with ⟨a, b⟩ | ⟨j, a, b, d, f⟩
      · exact .inl ⟨a, by simp [b]⟩
      · refine .inr ⟨j + 1, by simpa using a, by rw [b]; simp; omega, by simp [d], by simpa using f⟩
  | [], _ :: _, _, _, _, h => by simp at h
  | _ :: _, [], _, _, _, h => by simp at h

theorem u64_small {x : Int} (h0 : 0 ≤ x) (h1 : x < 9223372036854775808) : IntKind.u64.wrap x = x := by
  rw [IntKind.wrap_u64]
  omega
theorem at_step {k : Nat} {l : List S39} {os : List Int} {p o : Int} {x : S39} {n i : Int} {r : Int} (hi : i < (l.length : Int)) (b0 : 0 ≤ o) (b1 : o ≤ 65535) (b2 : x.f0 ≤ 65535) (hp : p ≤ 1000000) (next : lay_At.l0 k l os p n (wrap64 (i + 1)) = some r) :
    (if o ≤ p then (if i < (l.length : Int) then (if x.f0 > 0 then lay_At.j1 (k + 1) l os p i n i (decide ((IntKind.u64.wrap ((IntKind.u64.wrap p) - (IntKind.u64.wrap o))) < (IntKind.u64.wrap x.f0))) else lay_At.j1 (k + 1) l os p i n i false) else none) else lay_At.j1 (k + 1) l os p i n i false) = some (if o ≤ p ∧ 0 < x.f0 ∧ p < o + x.f0 then i else r) := by
  have no : lay_At.j1 (k + 1) l os p i n i false = some r := by
    simp only [lay_At.j1]
    rw [if_neg (by simp), next]
  have yes : lay_At.j1 (k + 1) l os p i n i true = some i := by
    simp only [lay_At.j1, if_true]
  by_cases c1 : o ≤ p
  · rw [if_pos c1, if_pos hi]
    by_cases c2 : x.f0 > 0
    · rw [if_pos c2, u64_small (x := p) (by omega) (by omega), u64_small (x := o) b0 (by omega), u64_small (x := p - o) (by omega) (by omega), u64_small (x := x.f0) (by omega) (by omega)]
      by_cases c3 : p - o < x.f0
      · rw [decide_eq_true c3, yes, if_pos ⟨c1, c2, by omega⟩]
      · rw [decide_eq_false c3, no, if_neg (by omega)]
    · rw [if_neg c2, no, if_neg (by omega)]
  · rw [if_neg c1, no, if_neg (by omega)]
theorem at_loop (l : List S39) (os : List Int) (p : Int) (hl : l.length = os.length) (hlen : l.length < 1000000) (hb : ∀ i, i < l.length → 0 ≤ os.getD i 0 ∧ os.getD i 0 ≤ 65535 ∧ (l.getD i z39).f0 ≤ 65535) (hp : p ≤ 1000000) :
    ∀ (d i : Nat) (k : Nat), i ≤ l.length → d = l.length - i → 2 * d + 1 ≤ k → lay_At.l0 k l os p (l.length : Int) (i : Int) = some (atF (l.drop i) (os.drop i) (i : Int) p) := by
  intro d
  induction d with
  | zero =>
    intro i k hi hd hk
    obtain ⟨k, rfl⟩ : ∃ m, k = m + 1 := ⟨k - 1, by omega⟩
    simp only [lay_At.l0]
    rw [if_neg (by omega), List.drop_of_length_le (by omega)]
    simp [atF]
  | succ d ih =>
    intro i k hi hd hk
    obtain ⟨k, rfl⟩ : ∃ m, k = m + 2 := ⟨k - 2, by omega⟩
    have hlt : i < l.length := by omega
    have hlt1 : i < os.length := by omega
    obtain ⟨b0, b1, b2⟩ := hb i hlt
    have w1 : wrap64 ((i : Int) + 1) = ((i + 1 : Nat) : Int) := by unfold wrap64; omega
    have next := ih (i + 1) k (by omega) (by omega) (by omega)
    have c0 : (i : Int) < (l.length : Int) := by omega
    have c0' : (i : Int) < (os.length : Int) := by omega
    have c0z : 0 ≤ (i : Int) := by omega
    obtain ⟨o, ho⟩ : ∃ o, o = os.getD i 0 := ⟨_, rfl⟩
    obtain ⟨x, hx⟩ : ∃ x, x = l.getD i z39 := ⟨_, rfl⟩
    have r1 : rd os (i : Int) = o := by rw [ho]; simp [rd]
    have r2 : rd_T39 l (i : Int) = x := by rw [hx]; simp [rd_T39]
    have g1 : os.drop i = o :: os.drop (i + 1) := by rw [List.drop_eq_getElem_cons hlt1, ho]; simp [List.getElem?_eq_getElem hlt1]
    have g2 : l.drop i = x :: l.drop (i + 1) := by rw [List.drop_eq_getElem_cons hlt, hx]; simp [List.getElem?_eq_getElem hlt]
    have next' : lay_At.l0 k l os p (l.length : Int) (wrap64 ((i : Int) + 1)) = some (atF (l.drop (i + 1)) (os.drop (i + 1)) ((i : Int) + 1) p) := by
      rw [w1, next]
      rfl
    rw [← ho] at b0 b1
    rw [← hx] at b2
    clear ho hx next w1 ih
    rw [g1, g2]
    simp only [lay_At.l0, atF]
    rw [if_pos c0, if_pos c0z, if_pos c0', r1, r2]
    exact at_step c0 b0 b1 b2 hp next'
theorem at_some (l : List S39) (os : List Int) (p : Int) (hl : l.length = os.length) (hlen : l.length < 1000000) (hb : ∀ i, i < l.length → 0 ≤ os.getD i 0 ∧ os.getD i 0 ≤ 65535 ∧ (l.getD i z39).f0 ≤ 65535) (hp : p ≤ 1000000) :
    ∀ k, 2 * l.length + 1 ≤ k → lay_At.f k l os p = some (atF l os 0 p) := by
  intro k hk
  unfold lay_At.f
  have hm : mn (l.length : Int) (os.length : Int) = (l.length : Int) := by unfold mn; rw [hl]; simp
  rw [hm]
  exact at_loop l os p hl hlen hb hp l.length 0 k (by omega) (by omega) (by omega)
theorem Chain.bounds : ∀ {l : List S39} {os : List Int} {s e : Int}, Chain l os s e → 0 ≤ s → e ≤ 65535 → ∀ i, i < l.length → 0 ≤ os.getD i 0 ∧ os.getD i 0 ≤ 65535 ∧ (l.getD i z39).f0 ≤ 65535
  | [], [], _, _, _, _, _, i, hi => by simp at hi
  | x :: l, o :: os, s, e, h, hs, he, i, hi => by
    obtain ⟨a, _, c, d, _, g⟩ := h
    obtain ⟨_, q2, _⟩ := Chain.len g
    cases i with
    | zero => simp only [List.getD_cons_zero]; omega
    | succ i =>
      simp only [List.getD_cons_succ]
      exact Chain.bounds g (by omega) he i (by simpa using hi)
  | [], _ :: _, _, _, h, _, _, _, _ => h.elim
  | _ :: _, [], _, _, h, _, _, _, _ => h.elim

end Go.Proofs.Ythckejcoekhdjaa.Q
