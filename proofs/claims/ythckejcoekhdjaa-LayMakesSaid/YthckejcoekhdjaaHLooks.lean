/- What Gaps, Plain and At answer is the document's answer (layer 7): the plain laws. -/

import Derived.Test.YthckejcoekhdjaaQx0
import Derived.Test.YthckejcoekhdjaaQx5
import Derived.Test.YthckejcoekhdjaaQx6
import Derived.Test.YthckejcoekhdjaaQx7
import Derived.Test.YthckejcoekhdjaaQx8
import Derived.Test.YthckejcoekhdjaaHGaps
import Derived.Test.YthckejcoekhdjaaHLaid
import Derived.Test.YthckejcoekhdjaaHCovers
namespace Go.Proofs.Ythckejcoekhdjaa.Q
open Go.RowKit Go.Proofs.YthckejcoekhdjaaW.PrintWords Go.Proofs.YthckejcoekhdjaaW.PrintLast Go.Proofs.YthckejcoekhdjaaW.PrintMore
attribute [local go_sem] max2_int min2_int max_two min_two max_three min_three max_four min_four   -- for this text's walks alone
set_option linter.unusedVariables false
set_option linter.unusedSimpArgs false

theorem wf_i64 {x : Int} (h : (Lit.int .i64 x).wf = true) : -9223372036854775808 ≤ x ∧ x ≤ 9223372036854775807 := by
  have z : IntKind.i64.min ≤ x ∧ x ≤ IntKind.i64.max := by simpa [Lit.wf] using h
  have e1 : IntKind.i64.min = -9223372036854775808 := by decide
  have e2 : IntKind.i64.max = 9223372036854775807 := by decide
  rw [e1, e2] at z
  exact z
theorem dropT (l : List S39) (i : Nat) (h : i < l.length) : l.drop i = rd_T39 l (i : Int) :: l.drop (i + 1) := by
  rw [List.drop_eq_getElem_cons h]; simp [rd_T39, List.getD_eq_getElem?_getD, List.getElem?_eq_getElem h]
theorem dropI (l : List Int) (i : Nat) (h : i < l.length) : l.drop i = rd l (i : Int) :: l.drop (i + 1) := by
  rw [List.drop_eq_getElem_cons h]; simp [rd, List.getD_eq_getElem?_getD, List.getElem?_eq_getElem h]
theorem ev_step {α : Type} {g : Nat → Option α} {r : α} (h : ∃ f : Nat → Option α, (∀ k, g (k + 1) = f k) ∧ Ev f r) : Ev g r := by
  obtain ⟨f, h1, h2⟩ := h
  exact Ev.step h1 h2
theorem ev_now {α : Type} {g : Nat → Option α} {r : α} (h : ∀ k, g (k + 1) = some r) : Ev g r := ⟨1, fun n hn => by obtain ⟨m, rfl⟩ : ∃ m, n = m + 1 := ⟨n - 1, by omega⟩; exact h m⟩

/-! ### Laid -/
def rl : List S39 → List Int → Int → Int → Bool
  | [], _, e, b => decide (e ≤ b)
  | _ :: _, [], _, _ => false
  | x :: xs, o :: os, e, b => if x.f0 < 0 ∨ x.f0 > 65535 ∨ o < e ∨ o > 65535 then false else rl xs os (o + x.f0) b

theorem refLaid_loop (l : List S39) (os : List Int) (b : Int) (hl : l.length = os.length) (hlen : l.length < 8796093022208) : ∀ (d i : Nat) (e : Int), i + d = l.length → 0 ≤ e →
    Ev (fun k => stencilref07_Laid.l0 k l os b e (i : Int)) (rl (l.drop i) (os.drop i) e b)
  | 0, i, e, hi, he => by
    refine ev_now fun k => ?_
    rw [stencilref07_Laid.l0, if_neg (by omega), List.drop_eq_nil_of_le (by omega), rl]
  | d + 1, i, e, hi, he => by
    have ih := fun e' (he' : 0 ≤ e') => refLaid_loop l os b hl hlen d (i + 1) e' (by omega) he'
    have w1 : wrap64 ((i : Int) + 1) = ((i + 1 : Nat) : Int) := by unfold wrap64; omega
    rw [dropT l i (by omega), dropI os i (by omega), rl]
    have c0 : (i : Int) < (l.length : Int) := by omega
    have c1 : (i : Int) < (os.length : Int) := by omega
    have c2 : 0 ≤ (i : Int) := by omega
    generalize hx : rd_T39 l (i : Int) = x
    generalize ho : rd os (i : Int) = o
    have no : ∀ k, stencilref07_Laid.j2 (k + 1) l os b (i : Int) true = some false := fun k => by rw [stencilref07_Laid.j2, if_pos rfl]
    by_cases d1 : x.f0 < 0
    · rw [if_pos (.inl d1)]
      refine Ev.step (f := fun k => stencilref07_Laid.j2 k l os b (i : Int) true) (fun k => ?_) (ev_now (g := fun k => stencilref07_Laid.j2 k l os b (i : Int) true) no)
      rw [stencilref07_Laid.l0, if_pos c0, if_pos c2, hx, if_pos d1]
    · by_cases d2 : x.f0 > 65535
      · rw [if_pos (.inr (.inl d2))]
        refine Ev.step (f := fun k => stencilref07_Laid.j2 k l os b (i : Int) true) (fun k => ?_) (ev_now (g := fun k => stencilref07_Laid.j2 k l os b (i : Int) true) no)
        rw [stencilref07_Laid.l0, if_pos c0, if_pos c2, hx, if_neg d1, if_pos d2]
      · by_cases d3 : o < e
        · rw [if_pos (.inr (.inr (.inl d3)))]
          refine Ev.step (f := fun k => stencilref07_Laid.j2 k l os b (i : Int) true) (fun k => ?_) (ev_now (g := fun k => stencilref07_Laid.j2 k l os b (i : Int) true) no)
          rw [stencilref07_Laid.l0, if_pos c0, if_pos c2, hx, if_neg d1, if_neg d2, if_pos c1, ho, if_pos d3]
        · by_cases d4 : o > 65535
          · rw [if_pos (.inr (.inr (.inr d4)))]
            refine Ev.step (f := fun k => stencilref07_Laid.j2 k l os b (i : Int) true) (fun k => ?_) (ev_now (g := fun k => stencilref07_Laid.j2 k l os b (i : Int) true) no)
            rw [stencilref07_Laid.l0, if_pos c0, if_pos c2, hx, if_neg d1, if_neg d2, if_pos c1, ho, if_neg d3, decide_eq_true d4]
          · rw [if_neg (by omega)]
            refine Ev.step (f := fun k => stencilref07_Laid.j2 k l os b (i : Int) false) (fun k => ?_) ?_
            · rw [stencilref07_Laid.l0, if_pos c0, if_pos c2, hx, if_neg d1, if_neg d2, if_pos c1, ho, if_neg d3, decide_eq_false d4]
            · have w2 : wrap64 (o + x.f0) = o + x.f0 := by unfold wrap64; omega
              refine Ev.step (f := fun k => stencilref07_Laid.l0 k l os b (o + x.f0) ((i + 1 : Nat) : Int)) (fun k => ?_) (ih _ (by omega))
              rw [stencilref07_Laid.j2, if_neg (by simp), if_pos c2, if_pos c1, if_pos c0, hx, ho, w1, w2]

theorem layErr_at {e s o : Int} (he : 0 ≤ e) (ho : 0 ≤ o) : layErr e ⟨s, o⟩ = 0 ↔ 0 ≤ s ∧ e ≤ o ∧ o ≤ 65535 ∧ s ≤ 65535 - o := by
  have ha : layAt e ⟨s, o⟩ = o := by simp only [layAt]; rw [if_neg (by omega)]
  simp only [layErr, ha]
  by_cases c1 : s < 0 ∨ o < -1
  · rw [if_pos c1]; constructor <;> intro h <;> omega
  · rw [if_neg c1]
    by_cases c2 : o ≠ -1 ∧ o < e
    · rw [if_pos c2]; constructor <;> intro h <;> omega
    · rw [if_neg c2]
      by_cases c3 : 65535 < o ∨ 65535 - o < s
      · rw [if_pos c3]; constructor <;> intro h <;> omega
      · rw [if_neg c3]; constructor <;> intro h <;> omega
def laidB (l : List S39) (os : List Int) (e b : Int) : Bool := match laidF l os e with | some e' => decide (e' ≤ b) | none => false
theorem rl_laid {b : Int} (hb : b ≤ 65535) : ∀ (l : List S39) (os : List Int) (e : Int), l.length = os.length → 0 ≤ e → rl l os e b = if e ≤ 65535 then laidB l os e b else false
  | [], [], e, _, he => by
    simp only [rl, laidB, laidF]
    by_cases c : e ≤ 65535
    · rw [if_pos c]
    · rw [if_neg c, decide_eq_false (by omega)]
  | x :: l, o :: os, e, h, he => by
    rw [rl]
    by_cases c : x.f0 < 0 ∨ x.f0 > 65535 ∨ o < e ∨ o > 65535
    · rw [if_pos c]
      by_cases d : e ≤ 65535
      · rw [if_pos d]
        simp only [laidB, laidF]
        by_cases o0 : o < 0
        · rw [if_pos o0]
        · rw [if_neg o0, if_neg (by rw [layErr_at he (by omega)]; omega)]
      · rw [if_neg d]
    · rw [if_neg c, rl_laid hb l os (o + x.f0) (by simpa using h) (by omega)]
      by_cases d : e ≤ 65535
      · rw [if_pos d]
        simp only [laidB, laidF]
        rw [if_neg (c := o < 0) (by omega)]
        by_cases f : o + x.f0 ≤ 65535
        · rw [if_pos f, if_pos (c := layErr e ⟨x.f0, o⟩ = 0) ((layErr_at he (by omega)).2 (by omega))]
        · rw [if_neg f, if_neg (c := layErr e ⟨x.f0, o⟩ = 0) (by rw [layErr_at he (by omega)]; omega)]
      · rw [if_neg d, if_neg (by omega)]
  | [], _ :: _, _, h, _ => by simp at h
  | _ :: _, [], _, h, _ => by simp at h
def laidE (l : List S39) (os : List Int) (b : Int) : Bool := match laidF l os 0 with | some e => decide (e ≤ b) && decide (b ≤ 65535) | none => false
theorem laidE_some {l : List S39} {os : List Int} {b e : Int} (h : laidF l os 0 = some e) : laidE l os b = (decide (e ≤ b) && decide (b ≤ 65535)) := by unfold laidE; rw [h]
theorem laidE_none {l : List S39} {os : List Int} {b : Int} (h : laidF l os 0 = none) : laidE l os b = false := by unfold laidE; rw [h]
theorem lay_laid_f (l : List S39) (os : List Int) (b : Int) (hlen : l.length < 8796093022208) : lay_laid.f l os b = some (l.length == os.length && laidE l os b) := by unfold lay_laid.f; rw [if_pos hlen]; rfl
theorem laid_eq (l : List S39) (os : List Int) (b : Int) (hlen : l.length < 8796093022208) : ∃ r, lay_laid.f l os b = some r ∧ Ev (fun k => stencilref07_Laid.f k l os b) r := by
  refine ⟨_, lay_laid_f l os b hlen, ?_⟩
  have no : ∀ k, stencilref07_Laid.j0 (k + 1) l os b true = some false := fun k => by rw [stencilref07_Laid.j0, if_pos rfl]
  by_cases c : l.length = os.length
  · have cb : (l.length == os.length) = true := by simpa using c
    rw [cb, Bool.true_and]
    by_cases d1 : b < 0
    · have hz : laidE l os b = false := by
        rcases ho : laidF l os 0 with _ | e
        · exact laidE_none ho
        · have h0 : ∀ (l : List S39) (os : List Int) (s e : Int), 0 ≤ s → laidF l os s = some e → 0 ≤ e := by
            intro l
            induction l with
            | nil => intro os s e hs h; simp only [laidF, Option.some.injEq] at h; omega
            | cons x l ih =>
              intro os s e hs h
              match os with
              | [] => simp [laidF] at h
              | o :: os =>
                simp only [laidF] at h
                by_cases o0 : o < 0
                · rw [if_pos o0] at h; cases h
                · rw [if_neg o0] at h
                  by_cases q : layErr s ⟨x.f0, o⟩ = 0
                  · rw [if_pos q] at h
                    have := (layErr_at hs (by omega)).1 q
                    exact ih os _ e (by omega) h
                  · rw [if_neg q] at h; cases h
          have := h0 l os 0 e (by omega) ho
          rw [laidE_some ho, decide_eq_false (by omega)]; rfl
      rw [hz]
      refine Ev.congr (fun k => ?_) (ev_now (g := fun k => stencilref07_Laid.j0 k l os b true) no)
      simp only [stencilref07_Laid.f]
      rw [if_pos (by omega), if_pos d1]
    · by_cases d2 : b > 65535
      · have hz : laidE l os b = false := by
          rcases ho : laidF l os 0 with _ | e
          · exact laidE_none ho
          · rw [laidE_some ho, decide_eq_false (p := b ≤ 65535) (by omega), Bool.and_false]
        rw [hz]
        refine Ev.congr (fun k => ?_) (ev_now (g := fun k => stencilref07_Laid.j0 k l os b true) no)
        simp only [stencilref07_Laid.f]
        rw [if_pos (by omega), if_neg d1, decide_eq_true d2]
      · have hz : laidE l os b = rl l os 0 b := by
          rw [rl_laid (by omega) l os 0 c (by omega), if_pos (by omega), laidB]
          rcases ho : laidF l os 0 with _ | e
          · exact laidE_none ho
          · rw [laidE_some ho, decide_eq_true (p := b ≤ 65535) (by omega), Bool.and_true]
        rw [hz]
        refine Ev.congr (f := fun k => stencilref07_Laid.j0 k l os b false) (fun k => ?_) ?_
        · simp only [stencilref07_Laid.f]
          rw [if_pos (by omega), if_neg d1, decide_eq_false d2]
        · refine Ev.step (f := fun k => stencilref07_Laid.l0 k l os b 0 0) (fun k => ?_) ?_
          · rw [stencilref07_Laid.j0, if_neg (by simp)]
          · exact refLaid_loop l os b c hlen l.length 0 0 (by omega) (by omega)
  · have cb : (l.length == os.length) = false := by simpa using c
    rw [cb, Bool.false_and]
    refine Ev.congr (fun k => ?_) (ev_now (g := fun k => stencilref07_Laid.j0 k l os b true) no)
    simp only [stencilref07_Laid.f]
    rw [if_neg (by omega)]

/-! ### Gaps -/
/-- Rooms that lie one behind the other. -/
def Chn : List S39 → List Int → Int → Int → Prop
  | [], [], s, e => s = e
  | x :: xs, o :: os, s, e => s ≤ o ∧ 0 ≤ x.f0 ∧ o + x.f0 ≤ 65535 ∧ Chn xs os (o + x.f0) e
  | _, _, _, _ => False
theorem laidF_chn : ∀ {l : List S39} {os : List Int} {s e : Int}, l.length = os.length → 0 ≤ s → laidF l os s = some e → Chn l os s e
  | [], [], s, e, _, _, h => by simpa [laidF, Chn] using h
  | x :: l, o :: os, s, e, hl, hs, h => by
    simp only [laidF] at h
    by_cases o0 : o < 0
    · rw [if_pos o0] at h; cases h
    · rw [if_neg o0] at h
      by_cases q : layErr s ⟨x.f0, o⟩ = 0
      · rw [if_pos q] at h
        have := (layErr_at hs (by omega)).1 q
        exact ⟨by omega, by omega, by omega, laidF_chn (by simpa using hl) (by omega) h⟩
      · rw [if_neg q] at h; cases h
  | [], _ :: _, _, _, h, _, _ => by simp at h
  | _ :: _, [], _, _, h, _, _ => by simp at h
theorem Chn.le : ∀ {l : List S39} {os : List Int} {s e : Int}, Chn l os s e → s ≤ e
  | [], [], _, _, h => by have : _ = _ := h; omega
  | x :: l, o :: os, s, e, h => by
    obtain ⟨a, b, _, d⟩ := h
    have := Chn.le d
    omega
  | [], _ :: _, _, _, h => h.elim
  | _ :: _, [], _, _, h => h.elim
theorem Chn.below {p : Int} : ∀ {l : List S39} {os : List Int} {s e : Int}, Chn l os s e → p < s → cov l os p = false
  | [], [], _, _, _, _ => rfl
  | x :: l, o :: os, s, e, h, hp => by
    obtain ⟨a, b, _, d⟩ := h
    rw [cov, Chn.below d (by omega), decide_eq_false (by omega)]; rfl
  | [], _ :: _, _, _, h, _ => h.elim
  | _ :: _, [], _, _, h, _ => h.elim
theorem Chn.len : ∀ {l : List S39} {os : List Int} {s e : Int}, Chn l os s e → l.length = os.length
  | [], [], _, _, _ => rfl
  | x :: l, o :: os, s, e, h => by
    obtain ⟨_, _, _, d⟩ := h
    simp [Chn.len d]
  | [], _ :: _, _, _, h => h.elim
  | _ :: _, [], _, _, h => h.elim
theorem Chn.at_ : ∀ {l : List S39} {os : List Int} {s e : Int} (i : Nat), Chn l os s e → i < l.length → ∃ s', Chn (l.drop i) (os.drop i) s' e ∧ s ≤ s'
  | l, os, s, e, 0, h, _ => ⟨s, by simpa using h, by omega⟩
  | x :: l, o :: os, s, e, i + 1, h, hi => by
    obtain ⟨a, b, _, d⟩ := h
    obtain ⟨s', h1, h2⟩ := Chn.at_ i d (by simpa using hi)
    exact ⟨s', by simpa using h1, by omega⟩
  | [], _, _, _, _ + 1, _, hi => by simp at hi
  | _ :: _, [], _, _, _ + 1, h, _ => h.elim

theorem mark_one (l : List S39) (os : List Int) (b : Int) (i : Nat) (o s : Int) (hi : i < l.length) (hio : i < os.length) (ho : rd os (i : Int) = o) (hs : (rd_T39 l (i : Int)).f0 = s) (h0 : 0 ≤ o) (h1 : o + s ≤ b) (hb : b ≤ 65535) (hlen : l.length < 8796093022208) :
    ∀ (d : Nat) (k : Int) (u : List Bool), k + d = s → 0 ≤ k → (u.length : Int) = b → ∃ u' : List Bool, (u'.length : Int) = b ∧ (∀ p : Nat, (p : Int) < b → u'.getD p false = (u.getD p false || decide (o + k ≤ (p : Int) ∧ (p : Int) < o + s))) ∧
      ∀ r, Ev (fun n => stencilref07_Gaps.l0 n l os b u' ((i + 1 : Nat) : Int)) r → Ev (fun n => stencilref07_Gaps.l1 n l os b u (i : Int) k) r
  | 0, k, u, hk, hk0, hu => by
    refine ⟨u, hu, fun p hp => by rw [decide_eq_false (by omega), Bool.or_false], fun r hr => Ev.step (fun n => ?_) hr⟩
    have a1 : 0 ≤ (i : Int) := by omega
    have a2 : (i : Int) < (l.length : Int) := by omega
    have a3 : ¬ k < s := by omega
    have w1 : wrap64 ((i : Int) + 1) = ((i + 1 : Nat) : Int) := by unfold wrap64; omega
    rw [stencilref07_Gaps.l1, if_pos a1, if_pos a2, hs, if_neg a3, w1]
  | d + 1, k, u, hk, hk0, hu => by
    obtain ⟨u', q1, q2, q3⟩ := mark_one l os b i o s hi hio ho hs h0 h1 hb hlen d (k + 1) (u.set (o + k).toNat true) (by omega) (by omega) (by simpa using hu)
    refine ⟨u', q1, fun p hp => ?_, fun r hr => Ev.step (fun n => ?_) (q3 r hr)⟩
    · rw [q2 p hp, List.getD_eq_getElem?_getD, List.getElem?_set]
      by_cases e : (o + k).toNat = p
      · rw [if_pos e, if_pos (by omega), decide_eq_true (p := o + k ≤ (p : Int) ∧ (p : Int) < o + s) (by omega)]; simp
      · rw [if_neg e, ← List.getD_eq_getElem?_getD]
        congr 1
        rw [decide_eq_decide]
        omega
    · have a1 : 0 ≤ (i : Int) := by omega
      have a2 : (i : Int) < (l.length : Int) := by omega
      have a3 : (i : Int) < (os.length : Int) := by omega
      have a4 : k < s := by omega
      have a5 : 0 ≤ o + k := by omega
      have a6 : o + k < (u.length : Int) := by omega
      have w1 : wrap64 (o + k) = o + k := by unfold wrap64; omega
      have w2 : wrap64 (k + 1) = k + 1 := by unfold wrap64; omega
      rw [stencilref07_Gaps.l1, if_pos a1, if_pos a2, hs, if_pos a4, if_pos a3, ho, w1, w2, if_pos a5, if_pos a6]

theorem mark_all (l : List S39) (os : List Int) (b e : Int) (hl : l.length = os.length) (hb : b ≤ 65535) (he : e ≤ b) (hlen : l.length < 8796093022208) :
    ∀ (d i : Nat) (s : Int) (u : List Bool), i + d = l.length → 0 ≤ s → Chn (l.drop i) (os.drop i) s e → (u.length : Int) = b → ∃ u' : List Bool, (u'.length : Int) = b ∧ (∀ p : Nat, (p : Int) < b → u'.getD p false = (u.getD p false || cov (l.drop i) (os.drop i) p)) ∧
      ∀ r, Ev (fun n => stencilref07_Gaps.l2 n b u' [] 0 0) r → Ev (fun n => stencilref07_Gaps.l0 n l os b u (i : Int)) r
  | 0, i, s, u, hi, hs, hc, hu => by
    refine ⟨u, hu, fun p hp => by rw [List.drop_eq_nil_of_le (by omega : l.length ≤ i)]; simp [cov], fun r hr => Ev.step (fun n => ?_) hr⟩
    rw [stencilref07_Gaps.l0, if_neg (by omega)]
  | d + 1, i, s, u, hi, hs, hc, hu => by
    rw [dropT l i (by omega), dropI os i (by omega)] at hc
    obtain ⟨c1, c2, c3, c4⟩ := hc
    have c5 := Chn.le c4
    obtain ⟨u1, q1, q2, q3⟩ := mark_one l os b i _ _ (by omega) (by omega) rfl rfl (by omega) (by omega) hb hlen (rd_T39 l (i : Int)).f0.toNat 0 u (by omega) (by omega) hu
    obtain ⟨u2, r1, r2, r3⟩ := mark_all l os b e hl hb he hlen d (i + 1) _ u1 (by omega) (by omega) c4 q1
    refine ⟨u2, r1, fun p hp => ?_, fun r hr => Ev.step (fun n => ?_) (q3 r (r3 r hr))⟩
    · rw [r2 p hp, q2 p hp, dropT l i (by omega), dropI os i (by omega), cov, Bool.or_assoc, Int.add_zero]
    · rw [stencilref07_Gaps.l0, if_pos (by omega)]

theorem l2_used {b : Int} {u : List Bool} (hu : (u.length : Int) = b) (hb : b ≤ 65535) : ∀ (d : Nat) (p o n : Int) (acc : List S39), p + d + 1 = o → 0 ≤ p → o ≤ b → (∀ q : Nat, p ≤ q → (q : Int) < o → u.getD q false = true) →
    ∀ r, Ev (fun k => stencilref07_Gaps.l2 k b u acc 0 o) r → Ev (fun k => stencilref07_Gaps.l2 k b u acc n p) r
  | d, p, o, n, acc, hd, h0, h1, hq, r, hr => by
    have w1 : wrap64 (p + 1) = p + 1 := by unfold wrap64; omega
    have hp : rdOf false u p = true := by have := hq p.toNat (by omega) (by omega); simpa [rdOf] using this
    have st : ∀ k, stencilref07_Gaps.l2 (k + 1) b u acc n p = stencilref07_Gaps.l2 k b u acc 0 (p + 1) := fun k => by
      rw [stencilref07_Gaps.l2, if_pos (by omega), if_pos h0, if_pos (by omega), if_pos hp, w1]
    refine Ev.step st ?_
    match d with
    | 0 => rw [show p + 1 = o from by omega]; exact hr
    | d + 1 => exact l2_used hu hb d (p + 1) o 0 acc (by omega) (by omega) h1 (fun q h2 h3 => hq q (by omega) h3) r hr

theorem l2_free {b : Int} {u : List Bool} (hu : (u.length : Int) = b) (hb : b ≤ 65535) : ∀ (d : Nat) (e p o : Int) (acc : List S39), p + d + 1 = o → 0 ≤ e → e ≤ p → o ≤ b → (acc.length : Int) ≤ e → (∀ q : Nat, p ≤ q → (q : Int) < o → u.getD q false = false) → (o < b → u.getD o.toNat false = true) →
    ∀ r, Ev (fun k => stencilref07_Gaps.l2 k b u (acc ++ [⟨o - e, e⟩]) (o - e) o) r → Ev (fun k => stencilref07_Gaps.l2 k b u acc (p - e) p) r
  | d, e, p, o, acc, hd, h0, h1, h2, ha, hq, hlast, r, hr => by
    have w1 : wrap64 (p + 1) = p + 1 := by unfold wrap64; omega
    have w2 : wrap64 (p - e + 1) = p + 1 - e := by unfold wrap64; omega
    have w3 : wrap64 (p + 1 - (p + 1 - e)) = e := by unfold wrap64; omega
    have hp : ¬ rdOf false u p = true := by have := hq p.toNat (by omega) (by omega); simpa [rdOf] using this
    match d with
    | 0 =>
      obtain rfl : o = p + 1 := by omega
      have st : ∀ k, stencilref07_Gaps.l2 (k + 1) b u acc (p - e) p = stencilref07_Gaps.l2 k b u (acc ++ [⟨p + 1 - e, e⟩]) (p + 1 - e) (p + 1) := fun k => by
        rw [stencilref07_Gaps.l2, if_pos (by omega), if_pos (by omega), if_pos (by omega), if_neg hp, w1, w2, w3]
        by_cases c : p + 1 = b
        · rw [if_pos c, if_pos (by omega)]
        · have hn : rdOf false u (p + 1) = true := by have := hlast (by omega); simpa [rdOf] using this
          rw [if_neg c, if_pos (by omega), if_pos (by omega), if_pos hn, if_pos (by omega)]
      exact Ev.step st hr
    | d + 1 =>
      have hn : ¬ rdOf false u (p + 1) = true := by have := hq (p + 1).toNat (by omega) (by omega); simpa [rdOf] using this
      have st : ∀ k, stencilref07_Gaps.l2 (k + 1) b u acc (p - e) p = stencilref07_Gaps.l2 k b u acc (p + 1 - e) (p + 1) := fun k => by
        rw [stencilref07_Gaps.l2, if_pos (by omega), if_pos (by omega), if_pos (by omega), if_neg hp, w1, w2, if_neg (by omega), if_pos (by omega), if_pos (by omega), if_neg hn]
      exact Ev.step st (l2_free hu hb d e (p + 1) o acc (by omega) h0 (by omega) h2 ha (fun q h3 h4 => hq q (by omega) h4) hlast r hr)

theorem scan_rooms {b : Int} {u : List Bool} (hu : (u.length : Int) = b) (hb : b ≤ 65535) : ∀ (l : List S39) (os : List Int) (s e e0 : Int) (acc : List S39), Chn l os s e → e0 ≤ s → e ≤ b → 0 ≤ e0 → (acc.length : Int) ≤ e0 → (∀ q : Nat, e0 ≤ q → (q : Int) < b → u.getD q false = cov l os q) →
    Ev (fun k => stencilref07_Gaps.l2 k b u acc 0 e0) (acc ++ GapList l os e0 b, 0)
  | [], [], s, e, e0, acc, hc, h1, h2, h3, ha, hq => by
    have hc' : s = e := hc
    have fin : ∀ (n : Int) (acc : List S39), Ev (fun k => stencilref07_Gaps.l2 k b u acc n b) (acc, 0) := fun n acc => ev_now (g := fun k => stencilref07_Gaps.l2 k b u acc n b) fun k => by rw [stencilref07_Gaps.l2, if_neg (by omega)]
    have hG : GapList [] [] e0 b = if e0 < b then [⟨b - e0, e0⟩] else [] := by unfold GapList; rfl
    rw [hG]
    by_cases c : e0 < b
    · rw [if_pos c]
      have := l2_free hu hb (b - e0 - 1).toNat e0 e0 b acc (by omega) h3 (by omega) (by omega) ha (fun q a1 a2 => by rw [hq q a1 a2]; rfl) (fun h => by omega) _ (fin _ _)
      rwa [Int.sub_self] at this
    · rw [if_neg c, List.append_nil, show e0 = b from by omega]
      exact fin _ _
  | x :: l, o :: os, s, e, e0, acc, hc, h1, h2, h3, ha, hq => by
    obtain ⟨c1, c2, c3, c4⟩ := hc
    have c5 := Chn.le c4
    rw [GapList]
    by_cases c : 0 < x.f0
    · rw [if_pos c]
      have used : ∀ acc' : List S39, (acc'.length : Int) ≤ o + x.f0 → ∀ n, Ev (fun k => stencilref07_Gaps.l2 k b u acc' n o) (acc' ++ GapList l os (o + x.f0) b, 0) := fun acc' ha' n =>
        l2_used hu hb (x.f0 - 1).toNat o (o + x.f0) n acc' (by omega) (by omega) (by omega) (fun q a1 a2 => by rw [hq q (by omega) (by omega), cov, decide_eq_true (by omega), Bool.true_or]) _
          (scan_rooms hu hb l os _ e (o + x.f0) acc' c4 (by omega) h2 (by omega) ha' (fun q a1 a2 => by rw [hq q (by omega) a2, cov, decide_eq_false (by omega), Bool.false_or]))
      by_cases d : e0 < o
      · rw [if_pos d]
        have := l2_free hu hb (o - e0 - 1).toNat e0 e0 o acc (by omega) h3 (by omega) (by omega) ha (fun q a1 a2 => by rw [hq q a1 (by omega), cov, decide_eq_false (by omega), Bool.false_or]; exact c4.below (by omega))
          (fun h => by rw [hq o.toNat (by omega) (by omega), cov, decide_eq_true (by omega), Bool.true_or]) _ (used (acc ++ [⟨o - e0, e0⟩]) (by simp; omega) (o - e0))
        rw [Int.sub_self] at this
        simpa using this
      · rw [if_neg d, show e0 = o from by omega]
        exact used acc (by omega) 0
    · rw [if_neg c]
      exact scan_rooms hu hb l os _ e e0 acc c4 (by omega) h2 h3 ha (fun q a1 a2 => by rw [hq q a1 a2, cov, decide_eq_false (by omega), Bool.false_or])
  | [], _ :: _, _, _, _, _, h, _, _, _, _, _ => h.elim
  | _ :: _, [], _, _, _, _, h, _, _, _, _, _ => h.elim

theorem gaps_eq (l : List S39) (os : List Int) (b : Int) (hlen : l.length < 8796093022208) : ∃ r, lay_Gaps.f l os b = some r ∧ Ev (fun k => stencilref07_Gaps.f k l os b) r := by
  obtain ⟨t, ht1, ht2⟩ := laid_eq l os b hlen
  have ht := ht1
  rw [lay_laid_f l os b hlen] at ht
  unfold lay_Gaps.f
  rw [ht1, Option.bind_some]
  cases t with
  | false =>
    refine ⟨_, if_neg (by simp), Ev.bind ht2 ?_⟩
    exact Ev.congr (fun k => if_neg (by simp)) (Ev.now _)
  | true =>
    refine ⟨_, if_pos rfl, Ev.bind ht2 ?_⟩
    simp only [Option.some.injEq, Bool.and_eq_true, beq_iff_eq] at ht
    obtain ⟨hl, hE⟩ := ht
    rcases ho : laidF l os 0 with _ | e
    · rw [laidE_none ho] at hE; cases hE
    · rw [laidE_some ho] at hE
      simp only [Bool.and_eq_true, decide_eq_true_eq] at hE
      obtain ⟨he, hb⟩ := hE
      have hc := laidF_chn hl (by omega) ho
      have hse := Chn.le hc
      rw [gapList_eq b l os [] 0 hl, List.nil_append]
      have hw : (b : Int).toNat ≤ 281474976710656 := by omega
      refine Ev.congr (f := fun k => stencilref07_Gaps.l0 k l os b (List.replicate b.toNat false) 0) (fun k => ?_) ?_
      · rw [if_pos rfl, if_pos (by omega), if_pos hw]
      · have hrl : ((List.replicate b.toNat false).length : Int) = b := by simp; omega
        obtain ⟨u', q1, q2, q3⟩ := mark_all l os b e hl hb he hlen l.length 0 0 (List.replicate b.toNat false) (by omega) (by omega) hc hrl
        refine q3 _ ?_
        have := scan_rooms q1 hb l os 0 e 0 [] hc (by omega) he (by omega) (by simp) (fun q _ a2 => by rw [q2 q a2]; simp [List.getD_eq_getElem?_getD, List.getElem?_replicate]; intro h; split at h <;> simp at h)
        simpa using this

/-! ### Plain -/
theorem plain_loop (l : List S39) (os : List Int) (b : Int) (hl : l.length = os.length) (hlen : l.length < 8796093022208) : ∀ (d i : Nat) (acc : List S39) (e : Int), i + d = l.length → acc.length = i →
    ∃ r, Ev (fun k => lay_Plain.l0 k os b acc e l (l.length : Int) (i : Int)) r ∧ Ev (fun k => stencilref07_Plain.l0 k l os b acc e (i : Int)) r
  | 0, i, acc, e, hi, ha => by
    have c0 : ¬ (i : Int) < (l.length : Int) := by omega
    by_cases c : b = e
    · exact ⟨(acc, -1, 0), ev_now (g := fun k => lay_Plain.l0 k os b acc e l (l.length : Int) (i : Int)) fun k => by rw [lay_Plain.l0, if_neg c0, if_pos c], ev_now (g := fun k => stencilref07_Plain.l0 k l os b acc e (i : Int)) fun k => by rw [stencilref07_Plain.l0, if_neg c0, if_pos c]⟩
    · exact ⟨(acc, b, 0), ev_now (g := fun k => lay_Plain.l0 k os b acc e l (l.length : Int) (i : Int)) fun k => by rw [lay_Plain.l0, if_neg c0, if_neg c], ev_now (g := fun k => stencilref07_Plain.l0 k l os b acc e (i : Int)) fun k => by rw [stencilref07_Plain.l0, if_neg c0, if_neg c]⟩
  | d + 1, i, acc, e, hi, ha => by
    have c0 : (i : Int) < (l.length : Int) := by omega
    have c1 : (i : Int) < (os.length : Int) := by omega
    have c2 : 0 ≤ (i : Int) := by omega
    have c3 : acc.length < 8796093022208 := by omega
    have w1 : wrap64 ((i : Int) + 1) = ((i + 1 : Nat) : Int) := by unfold wrap64; omega
    have ih := fun acc' e' (h : acc'.length = i + 1) => plain_loop l os b hl hlen d (i + 1) acc' e' (by omega) h
    by_cases c : rd os (i : Int) = e
    · obtain ⟨r, h1, h2⟩ := ih (acc ++ [⟨(rd_T39 l (i : Int)).f0, -1⟩]) (wrap64 (rd os (i : Int) + (rd_T39 l (i : Int)).f0)) (by simp [ha])
      refine ⟨r, Ev.step (fun k => ?_) h1, Ev.step (fun k => ?_) h2⟩
      · rw [lay_Plain.l0, if_pos c0, if_pos c2, if_pos c0, if_pos c1, if_pos c, if_pos c3, w1]
      · rw [stencilref07_Plain.l0, if_pos c0, if_pos c2, if_pos c1, if_pos c, if_pos c3, w1]
    · obtain ⟨r, h1, h2⟩ := ih (acc ++ [⟨(rd_T39 l (i : Int)).f0, rd os (i : Int)⟩]) (wrap64 (rd os (i : Int) + (rd_T39 l (i : Int)).f0)) (by simp [ha])
      refine ⟨r, Ev.step (fun k => ?_) h1, Ev.step (fun k => ?_) h2⟩
      · rw [lay_Plain.l0, if_pos c0, if_pos c2, if_pos c0, if_pos c1, if_neg c, if_pos c3, w1]
      · rw [stencilref07_Plain.l0, if_pos c0, if_pos c2, if_pos c1, if_neg c, if_pos c3, w1]
theorem plain_eq (l : List S39) (os : List Int) (b : Int) (hlen : l.length < 8796093022208) : ∃ r, Ev (fun k => lay_Plain.f k l os b) r ∧ Ev (fun k => stencilref07_Plain.f k l os b) r := by
  obtain ⟨t, ht1, ht2⟩ := laid_eq l os b hlen
  have ht := ht1
  rw [lay_laid_f l os b hlen] at ht
  cases t with
  | false =>
    refine ⟨([], 0, 73), Ev.congr (fun k => ?_) (Ev.now _), Ev.bind ht2 (Ev.congr (fun k => if_neg (by simp)) (Ev.now _))⟩
    simp only [lay_Plain.f]
    rw [ht1]; rfl
  | true =>
    simp only [Option.some.injEq, Bool.and_eq_true, beq_iff_eq] at ht
    obtain ⟨r, h1, h2⟩ := plain_loop l os b ht.1 hlen l.length 0 [] 0 (by omega) rfl
    refine ⟨r, Ev.congr (fun k => ?_) h1, Ev.bind ht2 (Ev.congr (fun k => if_pos rfl) h2)⟩
    simp only [lay_Plain.f]
    rw [ht1]; rfl

/-! ### At -/
theorem u64_mod (x : Int) : IntKind.u64.wrap x = x % 18446744073709551616 := by rw [IntKind.wrap_u64]
theorem u64_sub {p o s : Int} (hp0 : -9223372036854775808 ≤ p) (hp1 : p ≤ 9223372036854775807) (ho0 : -9223372036854775808 ≤ o) (ho1 : o ≤ 9223372036854775807) (hs : 0 < s) (hs1 : s ≤ 9223372036854775807) (h : o ≤ p) :
    decide (IntKind.u64.wrap (IntKind.u64.wrap p - IntKind.u64.wrap o) < IntKind.u64.wrap s) = decide (p - o < s) := by
  rw [u64_mod, u64_mod, u64_mod, u64_mod, ← Int.sub_emod, decide_eq_decide]
  omega
theorem at_loop2 (l : List S39) (os : List Int) (p : Int) (hp0 : -9223372036854775808 ≤ p) (hp1 : p ≤ 9223372036854775807) (hl : ∀ i : Nat, i < l.length → (rd_T39 l (i : Int)).f0 ≤ 9223372036854775807 ∧ -9223372036854775808 ≤ (rd_T39 l (i : Int)).f0) (ho : ∀ i : Nat, i < os.length → -9223372036854775808 ≤ rd os (i : Int) ∧ rd os (i : Int) ≤ 9223372036854775807)
    (hlen : l.length < 8796093022208) : ∀ (d i : Nat), i + d = l.length →
    ∃ r, Ev (fun k => lay_At.l0 k l os p (mn (l.length : Int) (os.length : Int)) (i : Int)) r ∧ Ev (fun k => stencilref07_At.l0 k l os p (i : Int)) r := by
  have hmn : mn (l.length : Int) (os.length : Int) = if (os.length : Int) < (l.length : Int) then (os.length : Int) else (l.length : Int) := rfl
  have out : ∀ i : Nat, i ≤ l.length → (l.length ≤ i ∨ os.length ≤ i) → ∃ r, Ev (fun k => lay_At.l0 k l os p (mn (l.length : Int) (os.length : Int)) (i : Int)) r ∧ Ev (fun k => stencilref07_At.l0 k l os p (i : Int)) r := by
    intro i hi h
    refine ⟨-1, ev_now (g := fun k => lay_At.l0 k l os p (mn (l.length : Int) (os.length : Int)) (i : Int)) fun k => by rw [lay_At.l0, if_neg (by rw [hmn]; split <;> omega)], ?_⟩
    refine Ev.step (f := fun k => stencilref07_At.j1 k l os p (i : Int) false) (fun k => ?_) (ev_now (g := fun k => stencilref07_At.j1 k l os p (i : Int) false) fun k => by rw [stencilref07_At.j1, if_neg (by simp)])
    by_cases c : (i : Int) < (l.length : Int)
    · rw [stencilref07_At.l0, if_pos c, decide_eq_false (by omega)]
    · rw [stencilref07_At.l0, if_neg c]
  intro d
  induction d with
  | zero => exact fun i hi => out i (by omega) (.inl (by omega))
  | succ d ih =>
    intro i hi
    by_cases hio : i < os.length
    · obtain ⟨r, h1, h2⟩ := ih (i + 1) (by omega)
      have c0 : (i : Int) < (l.length : Int) := by omega
      have c1 : (i : Int) < (os.length : Int) := by omega
      have c2 : 0 ≤ (i : Int) := by omega
      have c3 : (i : Int) < mn (l.length : Int) (os.length : Int) := by rw [hmn]; split <;> omega
      obtain ⟨b1, b2⟩ := hl i (by omega)
      obtain ⟨b3, b4⟩ := ho i hio
      have w1 : wrap64 ((i : Int) + 1) = ((i + 1 : Nat) : Int) := by unfold wrap64; omega
      generalize hm : mn (l.length : Int) (os.length : Int) = m at *
      clear hmn hm hl ho ih out
      have lj : ∀ bb : Bool, (if bb = true then ((i : Nat) : Int) else r) = (if bb = true then (i : Int) else r) → Ev (fun k => lay_At.j1 k l os p (i : Int) m (i : Int) bb) (if bb = true then (i : Int) else r) := by
        intro bb _
        cases bb with
        | true => exact ev_now (g := fun k => lay_At.j1 k l os p (i : Int) m (i : Int) true) fun k => by rw [lay_At.j1, if_pos rfl]; rfl
        | false => exact Ev.step (fun k => by rw [lay_At.j1, if_neg (by simp), w1]) h1
      have lj' := fun bb => lj bb rfl
      clear lj
      generalize hx : (rd_T39 l (i : Int)).f0 = s at *
      generalize hq : rd os (i : Int) = o at *
      have r1 : ∀ k, stencilref07_At.l0 (k + 1) l os p (i : Int) = stencilref07_At.j1 k l os p (i : Int) true := fun k => by rw [stencilref07_At.l0, if_pos c0, decide_eq_true c1]
      by_cases d1 : o ≤ p
      · have nd1 : ¬ p < o := by omega
        by_cases d2 : s > 0
        · have hl2 : ∀ k, lay_At.l0 (k + 1) l os p m (i : Int) = lay_At.j1 k l os p (i : Int) m (i : Int) (decide (p - o < s)) := fun k => by
            rw [lay_At.l0, if_pos c3, if_pos c2, if_pos c1, hq, if_pos d1, if_pos c0, hx, if_pos d2, u64_sub hp0 hp1 b3 b4 d2 b1 d1]
          by_cases d3 : o < 0
          · by_cases d4 : p ≥ 0
            · refine ⟨_, Ev.step hl2 (lj' _), Ev.step r1 (Ev.step (f := fun k => stencilref07_At.j2 k l os p (i : Int) o true) (fun k => ?_) (Ev.step (f := fun k => if p - o < s then some (i : Int) else stencilref07_At.l0 k l os p ((i + 1 : Nat) : Int)) (fun k => ?_) ?_))⟩
              · rw [stencilref07_At.j1, if_pos rfl, if_pos c2, if_pos c1, hq, if_neg nd1, if_pos d3, decide_eq_true d4]
              · have w2 : wrap64 (s + o) = s + o := by unfold wrap64; omega
                rw [stencilref07_At.j2, if_pos rfl, if_pos c2, if_pos c0, hx, if_pos d2, w2, w1]
                by_cases d5 : p - o < s
                · rw [if_pos d5, if_pos (by omega)]
                · rw [if_neg d5, if_neg (by omega)]
              · by_cases d5 : p - o < s
                · rw [decide_eq_true d5, if_pos rfl]
                  exact Ev.congr (fun k => if_pos d5) (Ev.now _)
                · rw [decide_eq_false d5, if_neg (by simp)]
                  exact Ev.congr (fun k => if_neg d5) h2
            · refine ⟨_, Ev.step hl2 (lj' _), Ev.step r1 (Ev.step (f := fun k => stencilref07_At.j2 k l os p (i : Int) o false) (fun k => ?_) (Ev.step (f := fun k => if p - o < s then some (i : Int) else stencilref07_At.l0 k l os p ((i + 1 : Nat) : Int)) (fun k => ?_) ?_))⟩
              · rw [stencilref07_At.j1, if_pos rfl, if_pos c2, if_pos c1, hq, if_neg nd1, if_pos d3, decide_eq_false d4]
              · have w2 : wrap64 (p - o) = p - o := by unfold wrap64; omega
                rw [stencilref07_At.j2, if_neg (by simp), if_pos c2, if_pos c0, hx, w2, w1]
              · by_cases d5 : p - o < s
                · rw [decide_eq_true d5, if_pos rfl]
                  exact Ev.congr (fun k => if_pos d5) (Ev.now _)
                · rw [decide_eq_false d5, if_neg (by simp)]
                  exact Ev.congr (fun k => if_neg d5) h2
          · refine ⟨_, Ev.step hl2 (lj' _), Ev.step r1 (Ev.step (f := fun k => stencilref07_At.j2 k l os p (i : Int) o false) (fun k => ?_) (Ev.step (f := fun k => if p - o < s then some (i : Int) else stencilref07_At.l0 k l os p ((i + 1 : Nat) : Int)) (fun k => ?_) ?_))⟩
            · rw [stencilref07_At.j1, if_pos rfl, if_pos c2, if_pos c1, hq, if_neg nd1, if_neg d3]
            · have w2 : wrap64 (p - o) = p - o := by unfold wrap64; omega
              rw [stencilref07_At.j2, if_neg (by simp), if_pos c2, if_pos c0, hx, w2, w1]
            · by_cases d5 : p - o < s
              · rw [decide_eq_true d5, if_pos rfl]
                exact Ev.congr (fun k => if_pos d5) (Ev.now _)
              · rw [decide_eq_false d5, if_neg (by simp)]
                exact Ev.congr (fun k => if_neg d5) h2
        · have hl2 : ∀ k, lay_At.l0 (k + 1) l os p m (i : Int) = lay_At.j1 k l os p (i : Int) m (i : Int) false := fun k => by
            rw [lay_At.l0, if_pos c3, if_pos c2, if_pos c1, hq, if_pos d1, if_pos c0, hx, if_neg d2]
          refine ⟨r, Ev.step hl2 (lj' false), Ev.step r1 ?_⟩
          by_cases d3 : o < 0 ∧ p ≥ 0
          · refine Ev.step (f := fun k => stencilref07_At.j2 k l os p (i : Int) o true) (fun k => ?_) (Ev.step (fun k => ?_) h2)
            · rw [stencilref07_At.j1, if_pos rfl, if_pos c2, if_pos c1, hq, if_neg nd1, if_pos d3.1, decide_eq_true d3.2]
            · rw [stencilref07_At.j2, if_pos rfl, if_pos c2, if_pos c0, hx, if_neg d2, w1]
          · have w2 : wrap64 (p - o) = p - o := by unfold wrap64; omega
            refine Ev.step (f := fun k => stencilref07_At.j2 k l os p (i : Int) o false) (fun k => ?_) (Ev.step (fun k => ?_) h2)
            · rw [stencilref07_At.j1, if_pos rfl, if_pos c2, if_pos c1, hq, if_neg nd1]
              by_cases d4 : o < 0
              · rw [if_pos d4, decide_eq_false (by omega)]
              · rw [if_neg d4]
            · have d5 : ¬ p - o < s := by clear w2; omega
              rw [stencilref07_At.j2, if_neg (by simp), if_pos c2, if_pos c0, hx, w2, if_neg d5, w1]
      · have hl2 : ∀ k, lay_At.l0 (k + 1) l os p m (i : Int) = lay_At.j1 k l os p (i : Int) m (i : Int) false := fun k => by
          rw [lay_At.l0, if_pos c3, if_pos c2, if_pos c1, hq, if_neg d1]
        refine ⟨r, Ev.step hl2 (lj' false), Ev.step r1 (Ev.step (fun k => ?_) h2)⟩
        rw [stencilref07_At.j1, if_pos rfl, if_pos c2, if_pos c1, hq, if_pos (by omega), w1]
    · exact out i (by omega) (.inr (by omega))
theorem at_eq (l : List S39) (os : List Int) (p : Int) (hp0 : -9223372036854775808 ≤ p) (hp1 : p ≤ 9223372036854775807) (hl : ∀ x ∈ l, (Lit.int .i64 x.f0).wf = true) (ho : ∀ x ∈ os, (Lit.int .i64 x).wf = true) (hlen : l.length < 8796093022208) :
    ∃ r, Ev (fun k => lay_At.f k l os p) r ∧ Ev (fun k => stencilref07_At.f k l os p) r := by
  refine at_loop2 l os p hp0 hp1 (fun i hi => ?_) (fun i hi => ?_) hlen l.length 0 (by omega)
  · have := wf_i64 (hl _ (List.getElem_mem hi))
    rw [rd_T39]
    simp only [Int.toNat_natCast, List.getD_eq_getElem?_getD, List.getElem?_eq_getElem hi, Option.getD_some]
    omega
  · have := wf_i64 (ho _ (List.getElem_mem hi))
    simpa [rd, List.getD_eq_getElem?_getD, List.getElem?_eq_getElem hi] using this

end Go.Proofs.Ythckejcoekhdjaa.Q
