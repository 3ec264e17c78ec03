/- Arguments opened by their kinds, as in Open, where the whole input's bulk is bounded: what is read weighs no more than its data. -/
import Derived.Test.YtkchnocliilapaaQx0
import Derived.Test.YtkchnocliilapaaHOpen
import Derived.Test.YtkchnocliilapaaRows
namespace Go.Proofs.Ytkchnocliilapaa.Q
open Go.RowKit Go.Proofs.YtkchnocliilapaaW.PrintWords Go.Proofs.YtkchnocliilapaaW.PrintLast Go.Proofs.YtkchnocliilapaaW.PrintMore
attribute [local go_sem] max2_int min2_int max_two min_two max_three min_three max_four min_four   -- for this text's walks alone
set_option linter.unusedVariables false
set_option linter.unusedSimpArgs false

open Go.ChangeShapes Go.WideShapes Go.Deep

/-- Whatever is read at type t is of the kind d, within ok, and of no more bulk than its data. -/
def OpensB {α : Type} (P : Program) (t : TypeId) (d : Kd α) (ok : α → Prop) (bk : α → Nat) : Prop :=
  ∀ (H : Type) (enc : TypeId × Value → H) (w : World) (base : Nat) (spare : Nat → Bool) (held : Bool) (fuel : Nat) (cs : List Value) (y : DataW H × List MemPlace),
    DataW.trod enc P w base spare held fuel t cs = some y → (∀ n ∈ y.1.weights P t, n ≤ reachBytes) → ∃ x, d.K w x cs ∧ ok x ∧ bk x ≤ Rows.uptoBulk y.1

theorem opensB_int {P : Program} {t : TypeId} {k : IntKind} (hu : P.underlying t = some (.int k)) : OpensB P t (Kd.int k) (fun x => (Lit.int k x).wf = true) (fun _ => 1) := by
  intro H enc w base spare held fuel cs y h _
  obtain ⟨x, rfl, rfl, hw⟩ := DataW.trod_int hu h
  exact ⟨x, rfl, hw, by simp [Rows.uptoBulk]⟩
theorem opensB_bool {P : Program} {t : TypeId} (hu : P.underlying t = some .bool) : OpensB P t Kd.bool (fun _ => True) (fun _ => 1) := by
  intro H enc w base spare held fuel cs y h _
  obtain ⟨x, rfl, rfl⟩ := DataW.trod_bool hu h
  exact ⟨x, rfl, trivial, by simp [Rows.uptoBulk]⟩
theorem opensB_string {P : Program} {t : TypeId} (hu : P.underlying t = some .string) : OpensB P t Kd.string (fun s => s.size ≤ 140737488351232) (fun s => s.size + 1) := by
  intro H enc w base spare held fuel cs y h hz
  obtain ⟨s, rfl, rfl, _⟩ := DataW.trod_string hu h
  refine ⟨s, rfl, ?_, by simp [Rows.uptoBulk]⟩
  have := hz s.data.toList.length (by simp [DataW.weights])
  rw [Array.length_toList] at this
  exact this

theorem bulkAll_range {H : Type} (D : Nat → DataW H) : ∀ n, Rows.uptoBulkAll ((List.range n).map D) = ((List.range n).map fun i => Rows.uptoBulk (D i)).sum := by
  have h : ∀ l : List Nat, Rows.uptoBulkAll (l.map D) = (l.map fun i => Rows.uptoBulk (D i)).sum := by
    intro l
    induction l with
    | nil => rfl
    | cons a l ih => simp only [List.map_cons, Rows.uptoBulkAll, List.sum_cons, ih]
  exact fun n => h _

/-- A row of elements, one by one. -/
theorem row_existsB {α : Type} {d : Kd α} {ok : α → Prop} {bk : α → Nat} {f : Nat → Nat} {w : World} {a : Addr} : ∀ (n : Nat), (∀ i, i < n → ∃ cs x, (∀ j u, cs[j]? = some u → w.cell? (a.add (i * d.sz + j)) = some u) ∧ d.K w x cs ∧ ok x ∧ bk x ≤ f i) →
    ∃ l : List α, l.length = n ∧ (∀ x ∈ l, ok x) ∧ (∀ i x, l[i]? = some x → ∃ cs, d.K w x cs ∧ ∀ j u, cs[j]? = some u → w.cell? (a.add (i * d.sz + j)) = some u) ∧ (l.map bk).sum ≤ ((List.range n).map f).sum
  | 0, _ => ⟨[], rfl, fun _ h => by simp at h, fun i x h => by simp at h, by simp⟩
  | n + 1, h => by
    obtain ⟨l, h1, h2, h3, h4⟩ := row_existsB n (fun i hi => h i (by omega))
    obtain ⟨cs, x, hc, hk, ho, hbk⟩ := h n (by omega)
    refine ⟨l ++ [x], by simp [h1], fun y hy => ?_, fun i y hy => ?_, ?_⟩
    · rcases List.mem_append.1 hy with hy | hy
      · exact h2 y hy
      · rw [List.mem_singleton.1 hy]; exact ho
    · rw [List.getElem?_append] at hy
      split at hy
      · exact h3 i y hy
      · have hi : i = n := by
          rcases Nat.lt_or_ge (i - l.length) 1 with hlt | hge
          · omega
          · rw [List.getElem?_eq_none (by simpa using hge)] at hy; cases hy
        subst hi
        rw [h1, Nat.sub_self, List.getElem?_cons_zero] at hy
        injection hy with hy
        subst hy
        exact ⟨cs, hk, hc⟩
    · rw [List.range_succ, List.map_append, List.map_append, List.sum_append, List.sum_append]
      simp
      omega

theorem opensB_slice {α : Type} {P : Program} {t e : TypeId} {d : Kd α} {ok : α → Prop} {bk : α → Nat} (hu : P.underlying t = some (.slice e)) (hC : P.cellsOf e = d.sz) {B : Nat} (hB : P.bytesOf e = B) (h : OpensB P e d ok bk) :
    OpensB P t (Kd.slice e d) (fun l => l.length ≤ maxLen ∧ l.length * B ≤ 140737488351232 ∧ ∀ x ∈ l, ok x) (fun l => (l.map bk).sum + 1) := by
  intro H enc w base spare held fuel cs y hy hz
  rcases open_slice hu hy with ⟨rfl, rfl⟩ | ⟨a, len, cap, m, n, D, Pl, rfl, _, hl, hm, hmm, rfl, hel⟩
  · exact ⟨[], ⟨none, 0, rfl, by simp, Kd.C_nil _ _⟩, by simp, by simp [Rows.uptoBulk]⟩
  · have hlm : len ≤ m := by rw [hmm]; split <;> omega
    obtain ⟨l, h1, h2, h3, h4⟩ := row_existsB (d := d) (ok := ok) (bk := bk) (f := fun i => Rows.uptoBulk (D i)) (w := w) (a := a) len (fun i hi => by
      obtain ⟨cs', hc, ht⟩ := hel i (by omega)
      obtain ⟨_, hcl, hat⟩ := World.cells?_some hc
      obtain ⟨x, hk, ho, hbk⟩ := h H enc w base spare held n cs' _ ht (fun q hq => hz q (by
        simp only [DataW.weights, hu, List.mem_cons, List.mem_append]
        exact .inr (.inl (weightsAll_mem (List.mem_map.2 ⟨i, List.mem_range.2 hi, rfl⟩) q hq))))
      refine ⟨cs', x, fun j u hj => ?_, hk, ho, hbk⟩
      have hjl : j < cs'.length := (List.getElem?_eq_some_iff.1 hj).1
      have := hat j (by omega)
      rw [hC, add_add_, hj] at this
      exact this)
    have hbytes : l.length * B ≤ 140737488351232 := by
      have hq := hz _ (by simp only [DataW.weights, hu, List.mem_cons]; exact .inl rfl)
      rw [hB] at hq
      refine Nat.le_trans (Nat.mul_le_mul_right _ ?_) hq
      simp [h1]
    refine ⟨l, ⟨some a, cap, by rw [h1], by omega, ?_⟩, ⟨by unfold maxLen at *; omega, hbytes, h2⟩, ?_⟩
    · refine ⟨rfl, by unfold maxLen at hm; omega, fun _ => ⟨a, rfl, fun j p hj => ?_⟩⟩
      obtain ⟨cs', hk, hc⟩ := h3 j p hj
      exact ⟨cs', d.K_len hk, hk, hc⟩
    · simp only [Rows.uptoBulk]
      rw [bulkAll_range]
      omega

/-- The fields of a struct from a cell on. -/
def OpensFsB {α : Type} (P : Program) (fs : List Field) (off : Nat) (d : Kd α) (ok : α → Prop) (bk : α → Nat) : Prop :=
  ∀ (H : Type) (enc : TypeId × Value → H) (w : World) (base : Nat) (spare : Nat → Bool) (held : Bool) (n : Nat) (cs : List Value) (ys : List (DataW H × List MemPlace)),
    cs.length = off + d.sz → ys.length = fs.length → (∀ (i : Nat) (f : Field), fs[i]? = some f → DataW.trod enc P w base spare held n f.type ((cs.drop f.offset).take (P.cellsOf f.type)) = ys[i]?) →
    (∀ q ∈ DataW.weightsEach P (fs.map (·.type)) (ys.map (·.1)), q ≤ reachBytes) → ∃ x, d.K w x (cs.drop off) ∧ ok x ∧ bk x ≤ Rows.uptoBulkAll (ys.map (·.1))

theorem fsB_one {α : Type} {P : Program} {f : Field} {off : Nat} {d : Kd α} {ok : α → Prop} {bk : α → Nat} (ho : f.offset = off) (hC : P.cellsOf f.type = d.sz) (h : OpensB P f.type d ok bk) : OpensFsB P [f] off d ok bk := by
  intro H enc w base spare held n cs ys hl hy hf hz
  match ys, hy with
  | [y], _ =>
    have h1 := hf 0 f rfl
    rw [ho, hC, List.take_of_length_le (by simp; omega)] at h1
    obtain ⟨x, a, b, c⟩ := h H enc w base spare held n _ y h1 (fun q hq => hz q (by simp [DataW.weightsEach, hq]))
    exact ⟨x, a, b, by simpa [Rows.uptoBulkAll] using c⟩
theorem fsB_cons {α β : Type} {P : Program} {f : Field} {fs : List Field} {off : Nat} {d : Kd α} {d' : Kd β} {ok : α → Prop} {ok' : β → Prop} {bk : α → Nat} {bk' : β → Nat} (ho : f.offset = off) (hC : P.cellsOf f.type = d.sz) (h : OpensB P f.type d ok bk) (h' : OpensFsB P fs (off + d.sz) d' ok' bk') :
    OpensFsB P (f :: fs) off (Kd.pair d d') (fun x => ok x.1 ∧ ok' x.2) (fun x => bk x.1 + bk' x.2) := by
  intro H enc w base spare held n cs ys hl hy hf hz
  match ys, hy with
  | y :: ys, hy =>
    have h1 := hf 0 f rfl
    rw [ho, hC] at h1
    obtain ⟨x, hk, hx, hb⟩ := h H enc w base spare held n _ y h1 (fun q hq => hz q (by simp only [List.map_cons, DataW.weightsEach, List.mem_append]; exact .inl hq))
    have hl' : cs.length = off + d.sz + d'.sz := by rw [hl]; show off + (d.sz + d'.sz) = _; omega
    obtain ⟨x', hk', hx', hb'⟩ := h' H enc w base spare held n cs ys hl' (by simpa using hy) (fun i g hg => hf (i + 1) g (by simpa using hg)) (fun q hq => hz q (by simp only [List.map_cons, DataW.weightsEach, List.mem_append]; exact .inr hq))
    refine ⟨(x, x'), ⟨(cs.drop off).take d.sz, cs.drop (off + d.sz), ?_, hk, hk'⟩, ⟨hx, hx'⟩, ?_⟩
    · rw [← List.drop_drop, List.take_append_drop]
    · simp only [List.map_cons, Rows.uptoBulkAll]; omega
theorem opensB_struct {α β : Type} {P : Program} {t : TypeId} {fs : Array Field} {d : Kd β} {ok : β → Prop} {bk : β → Nat} (f : α → β) (g : β → α) (hfg : ∀ b, f (g b) = b) (hu : P.underlying t = some (.struct fs)) (hC : P.cellsOf t = d.sz) (h : OpensFsB P fs.toList 0 d ok bk) :
    OpensB P t (Kd.iso d f) (fun x => ok (f x)) (fun x => bk (f x) + 1) := by
  intro H enc w base spare held fuel cs y hy hz
  obtain ⟨xs, n, _, rfl, hl, hlen, hg⟩ := DataW.trod_struct hu hy
  obtain ⟨x, hk, hx, hb⟩ := h H enc w base spare held n cs xs (by rw [hl, hC]; omega) (by simpa using hlen) (fun i q hq => hg i q (by simpa using hq)) (fun q hq => hz q (by simpa [DataW.weights, hu] using hq))
  refine ⟨g x, ?_, ?_, ?_⟩
  · show d.K w (f (g x)) cs
    rw [hfg]
    simpa using hk
  · show ok (f (g x)); rw [hfg]; exact hx
  · show bk (f (g x)) + 1 ≤ _
    rw [hfg]
    simp only [Rows.uptoBulk]
    omega

end Go.Proofs.Ytkchnocliilapaa.Q
