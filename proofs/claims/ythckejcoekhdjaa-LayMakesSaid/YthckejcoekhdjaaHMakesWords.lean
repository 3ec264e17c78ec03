/- Words for LayMakes (layer 7): what Place and Plain answer of rooms that seeds make. Plain lists and numbers. -/
import Derived.Test.YthckejcoekhdjaaQx0
import Derived.Test.YthckejcoekhdjaaQx8
import Derived.Test.YthckejcoekhdjaaHPlace
import Derived.Test.YthckejcoekhdjaaHCovers
import Derived.Test.YthckejcoekhdjaaHLooks
import Derived.Test.YthckejcoekhdjaaHMade
namespace Go.Proofs.Ythckejcoekhdjaa.Q
open Go.RowKit Go.Proofs.YthckejcoekhdjaaW.PrintWords Go.Proofs.YthckejcoekhdjaaW.PrintLast Go.Proofs.YthckejcoekhdjaaW.PrintMore
attribute [local go_sem] max2_int min2_int max_two min_two max_three min_three max_four min_four   -- for this text's walks alone
set_option linter.unusedVariables false
set_option linter.unusedSimpArgs false

/-- What Plain tells of rooms that lie from s on. -/
def plF : List S39 → List Int → Int → List S39
  | x :: xs, o :: os, s => ⟨x.f0, if o = s then -1 else o⟩ :: plF xs os (o + x.f0)
  | _, _, _ => []
/-- Where the rooms ahead of number k end. -/
def behind : List S39 → List Int → Int → Nat → Int
  | _, _, s, 0 => s
  | x :: xs, o :: os, _, k + 1 => behind xs os (o + x.f0) k
  | _, _, s, _ + 1 => s
theorem plF_len : ∀ {l : List S39} {os : List Int} {s : Int}, l.length = os.length → (plF l os s).length = l.length
  | [], [], _, _ => rfl
  | x :: l, o :: os, s, h => by simp only [plF, List.length_cons]; rw [plF_len (by simpa using h)]
  | [], _ :: _, _, h => by simp at h
  | _ :: _, [], _, h => by simp at h
theorem plF_at : ∀ {l : List S39} {os : List Int} {s : Int} (k : Nat), l.length = os.length → k < l.length → (plF l os s).getD k z39 = ⟨(l.getD k z39).f0, if os.getD k 0 = behind l os s k then -1 else os.getD k 0⟩
  | x :: l, o :: os, s, 0, _, _ => by simp [plF, behind]
  | x :: l, o :: os, s, k + 1, h, hk => by
    simp only [plF, List.getD_cons_succ, behind]
    exact plF_at k (by simpa using h) (by simpa using hk)
  | [], _, _, _, _, hk => by simp at hk
  | _ :: _, [], _, _, h, _ => by simp at h
theorem behind_succ : ∀ {l : List S39} {os : List Int} {s : Int} (k : Nat), l.length = os.length → k + 1 < l.length → behind l os s (k + 1) = os.getD k 0 + (l.getD k z39).f0
  | x :: l, o :: os, s, 0, _, _ => by simp [behind]
  | x :: l, o :: os, s, k + 1, h, hk => by
    simp only [behind, List.getD_cons_succ]
    exact behind_succ k (by simpa using h) (by simpa using hk)
  | [], _, _, _, _, hk => by simp at hk
  | _ :: _, [], _, _, h, _ => by simp at h
theorem Chain.plain : ∀ {l : List S39} {os : List Int} {s e : Int}, Chain l os s e → Chain (plF l os s) os s e
  | [], [], _, _, h => h
  | x :: l, o :: os, s, e, h => by
    obtain ⟨a, b, c, d, f, g⟩ := h
    refine ⟨a, b, c, d, ?_, Chain.plain g⟩
    by_cases c : o = s
    · exact .inr ⟨if_pos c, c⟩
    · exact .inl (if_neg c)
  | [], _ :: _, _, _, h => h.elim
  | _ :: _, [], _, _, h => h.elim
theorem Chain.laidF : ∀ {l : List S39} {os : List Int} {s e : Int}, Chain l os s e → 0 ≤ s → e ≤ 65535 → laidF l os s = some e
  | [], [], _, _, h, _, _ => by simp only [Chain] at h; rw [Q.laidF, h]
  | x :: l, o :: os, s, e, h, h0, h1 => by
    obtain ⟨a, b, c, d, f, g⟩ := h
    obtain ⟨_, h2, _⟩ := Chain.len g
    rw [Q.laidF, if_neg (by omega), if_pos ((layErr_at (by omega) (by omega)).2 ⟨c, a, by omega, by omega⟩)]
    exact Chain.laidF g (by omega) h1
  | [], _ :: _, _, _, h, _, _ => h.elim
  | _ :: _, [], _, _, h, _, _ => h.elim
theorem plain_chain (b : Int) (l0 : List S39) (os0 : List Int) (e : Int) (hl : l0.length = os0.length) (hlen : l0.length < 8796093022208) (he : e ≤ 65535) : ∀ (d i : Nat) (acc : List S39) (s : Int), i + d = l0.length → acc.length = i → 0 ≤ s → Chain (l0.drop i) (os0.drop i) s e →
    Ev (fun k => lay_Plain.l0 k os0 b acc s l0 (l0.length : Int) (i : Int)) (acc ++ plF (l0.drop i) (os0.drop i) s, if b = e then -1 else b, 0)
  | 0, i, acc, s, hi, ha, hs, hc => by
    have d1 : l0.drop i = [] := List.drop_eq_nil_of_le (by omega)
    have d2 : os0.drop i = [] := List.drop_eq_nil_of_le (by omega)
    rw [d1, d2] at hc ⊢
    simp only [Chain] at hc
    subst hc
    refine ev_now (g := fun k => lay_Plain.l0 k os0 b acc s l0 (l0.length : Int) (i : Int)) fun k => ?_
    rw [lay_Plain.l0, if_neg (by omega)]
    by_cases c : b = s
    · rw [if_pos c, if_pos c]; simp [plF]
    · rw [if_neg c, if_neg c]; simp [plF]
  | d + 1, i, acc, s, hi, ha, hs, hc => by
    have c0 : (i : Int) < (l0.length : Int) := by omega
    have c1 : (i : Int) < (os0.length : Int) := by omega
    have c2 : 0 ≤ (i : Int) := by omega
    have c3 : acc.length < 8796093022208 := by omega
    rw [dropT l0 i (by omega), dropI os0 i (by omega)] at hc ⊢
    obtain ⟨p1, p2, p3, p4, p5, g⟩ := hc
    obtain ⟨_, h2, _⟩ := Chain.len g
    have w1 : wrap64 ((i : Int) + 1) = ((i + 1 : Nat) : Int) := by unfold wrap64; omega
    have w2 : wrap64 (rd os0 (i : Int) + (rd_T39 l0 (i : Int)).f0) = rd os0 (i : Int) + (rd_T39 l0 (i : Int)).f0 := by unfold wrap64; omega
    have ih := fun acc' (h : acc'.length = i + 1) => plain_chain b l0 os0 e hl hlen he d (i + 1) acc' (rd os0 (i : Int) + (rd_T39 l0 (i : Int)).f0) (by omega) h (by omega) g
    by_cases c : rd os0 (i : Int) = s
    · have := ih (acc ++ [⟨(rd_T39 l0 (i : Int)).f0, -1⟩]) (by simp [ha])
      refine Ev.step (fun k => ?_) (by simpa [plF, c] using this)
      rw [lay_Plain.l0, if_pos c0, if_pos c2, if_pos c0, if_pos c1, if_pos c, if_pos c3, w1, w2, c]
      rfl
    · have := ih (acc ++ [⟨(rd_T39 l0 (i : Int)).f0, rd os0 (i : Int)⟩]) (by simp [ha])
      refine Ev.step (fun k => ?_) (by simpa [plF, c] using this)
      rw [lay_Plain.l0, if_pos c0, if_pos c2, if_pos c0, if_pos c1, if_neg c, if_pos c3, w1, w2]
      rfl
theorem makes_place {l : List S39} {os : List Int} {e b : Int} (hc : Chain l os 0 e) (hl : l.length ≤ 60) (hb0 : e ≤ b) (hb1 : b ≤ 65535) : lay_Place.f l b = some (os, b, 0, 0) := by
  obtain ⟨_, h1, h2⟩ := hc.len
  unfold lay_Place.f
  rw [if_pos (by omega), if_neg (by omega), if_neg (by omega), Chain.place 0 [] hc (by omega) (by omega)]
  simp only [placeEnd, List.nil_append]
  rw [if_neg (by omega), if_neg (by omega)]
theorem makes_free {l : List S39} {os : List Int} {e : Int} (hc : Chain l os 0 e) (hl : l.length ≤ 60) : lay_Place.f l (-1) = some (os, e, 0, 0) := by
  obtain ⟨_, h1, h2⟩ := hc.len
  unfold lay_Place.f
  rw [if_pos (by omega), if_neg (by omega), if_neg (by omega), Chain.place 0 [] hc (by omega) (by omega)]
  simp [placeEnd]
theorem makes_short {l : List S39} {os : List Int} {e : Int} (hc : Chain l os 0 e) (hl : l.length ≤ 60) (he : 0 < e) : lay_Place.f l (e - 1) = some ([], 0, 71, (l.length : Int)) := by
  obtain ⟨_, h1, h2⟩ := hc.len
  unfold lay_Place.f
  rw [if_pos (by omega), if_neg (by omega), if_neg (by omega), Chain.place 0 [] hc (by omega) (by omega)]
  simp only [placeEnd, List.nil_append]
  rw [if_neg (by omega), if_pos (by omega)]
theorem makes_plain {l : List S39} {os : List Int} {e b : Int} (hc : Chain l os 0 e) (hl : l.length ≤ 60) (hb0 : e ≤ b) (hb1 : b ≤ 65535) : ∃ k, lay_Plain.f k l os b = some (plF l os 0, if b = e then -1 else b, 0) := by
  obtain ⟨h0, h1, h2⟩ := hc.len
  have := plain_chain b l os e h0 (by omega) (by omega) l.length 0 [] 0 (by omega) rfl (by omega) (by simpa using hc)
  obtain ⟨k, hk⟩ := this.rounds
  refine ⟨k, ?_⟩
  unfold lay_Plain.f
  rw [lay_laid_f l os b (by omega), laidE_some (Chain.laidF hc (by omega) (by omega)), h0]
  simp only [beq_self_eq_true, Bool.true_and, Option.bind_some]
  rw [if_pos (by simp; omega)]
  rw [← h0]
  simpa using hk
theorem Chain.room : ∀ {l : List S39} {os : List Int} {s e : Int}, Chain l os s e → ∀ k, k < l.length → 0 ≤ (l.getD k z39).f0 ∧ (l.getD k z39).f0 < 70
  | [], [], _, _, _, k, hk => by simp at hk
  | x :: l, o :: os, s, e, h, 0, _ => ⟨h.2.2.1, h.2.2.2.1⟩
  | x :: l, o :: os, s, e, h, k + 1, hk => by
    simp only [List.getD_cons_succ]
    exact Chain.room h.2.2.2.2.2 k (by simpa using hk)
  | [], _ :: _, _, _, h, _, _ => h.elim
  | _ :: _, [], _, _, h, _, _ => h.elim

end Go.Proofs.Ythckejcoekhdjaa.Q
