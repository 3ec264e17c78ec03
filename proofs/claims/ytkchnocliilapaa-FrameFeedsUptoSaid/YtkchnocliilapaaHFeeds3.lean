/- The state of FrameFeeds: two framers of each kind, and the book. -/

import Derived.Test.YtkchnocliilapaaQx0
import Derived.Test.YtkchnocliilapaaQx2
import Derived.Test.YtkchnocliilapaaQx3
import Derived.Test.YtkchnocliilapaaHFeeds2
import Derived.IntWalk
import Derived.Laws.BitsLemmas
namespace Go.Proofs.Ytkchnocliilapaa.Q
open Go.RowKit Go.Proofs.YtkchnocliilapaaW.PrintWords Go.Proofs.YtkchnocliilapaaW.PrintLast Go.Proofs.YtkchnocliilapaaW.PrintMore
attribute [local go_sem] max2_int min2_int max_two min_two max_three min_three max_four min_four   -- for this text's walks alone
set_option linter.unusedVariables false
set_option linter.unusedSimpArgs false

/-- The cells of one kept list: its length and its mark. -/
def bookK (w : World) (x : Nat × Int) (cs : List Value) (A A2 : Option Addr) (c c2 : Nat) : Prop :=
  cs = [.slice A x.1 c, .slice A2 (x.1 + 1) c2, .int .i64 x.2] ∧ x.1 ≤ c ∧ x.1 + 1 ≤ c2 ∧ Kd.C k23 w A x.1 (List.replicate x.1 (mkP x.2)) ∧ Kd.C k23 w A2 (x.1 + 1) (List.replicate (x.1 + 1) (mkP x.2))
def kB : Kd (Nat × Int) where
  sz := 3
  E := [23]
  K := fun w x cs => ∃ A A2 c c2, bookK w x cs A A2 c c2
  M := fun w base ok x cs => ∃ A A2 c c2, bookK w x cs A A2 c c2 ∧ ∀ a, A = some a ∨ A2 = some a → ok a.block ∧ base ≤ a.block ∧ ∃ cells, w.heap[a.block]? = some (.cells cells 23 (0, 0))
  K_len := by
    rintro w x cs ⟨A, A2, c, c2, rfl, _⟩
    rfl
  K_one := by
    rintro w x cs ⟨A, A2, c, c2, rfl, _⟩ u hu
    simp only [List.mem_cons, List.not_mem_nil, or_false] at hu
    rcases hu with rfl | rfl | rfl <;> rfl
  K_below := by
    rintro w w1 x cs hb ⟨A, A2, c, c2, h1, h2, h3, h4, h5⟩
    exact ⟨A, A2, c, c2, h1, h2, h3, Kd.C_below h4 hb, Kd.C_below h5 hb⟩
  K_of_M := by
    rintro w base ok x cs ⟨A, A2, c, c2, h, _⟩
    exact ⟨A, A2, c, c2, h⟩
  M_mono := by
    rintro w base ok ok' x cs hok ⟨A, A2, c, c2, h, h2⟩
    exact ⟨A, A2, c, c2, h, fun a ha => ⟨hok _ (h2 a ha).1, (h2 a ha).2⟩⟩
  M_bound := by
    rintro w base ok x cs ⟨A, A2, c, c2, h, h2⟩
    refine ⟨A, A2, c, c2, h, fun a ha => ?_⟩
    obtain ⟨h3, h4, cells, h5⟩ := h2 a ha
    exact ⟨⟨h3, h4, blk_lt h5, 23, List.mem_singleton.2 rfl, cells, h5⟩, h4, cells, h5⟩
  M_move := by
    rintro w w1 base ok x cs hm ⟨A, A2, c, c2, ⟨h1, h2, h3, h4, h5⟩, h6⟩
    refine ⟨A, A2, c, c2, ⟨h1, h2, h3, C23_same h4 (fun a ha => hm _ (h6 a (.inl ha)).1), C23_same h5 (fun a ha => hm _ (h6 a (.inr ha)).1)⟩, fun a ha => ?_⟩
    obtain ⟨h7, h8, cells, h9⟩ := h6 a ha
    exact ⟨h7, h8, cells, (hm _ h7).trans h9⟩
  M_lower := by
    rintro w base base' ok x cs hb ⟨A, A2, c, c2, h, h2⟩
    exact ⟨A, A2, c, c2, h, fun a ha => ⟨(h2 a ha).1, Nat.le_trans hb (h2 a ha).2.1, (h2 a ha).2.2⟩⟩

structure FS where
  g : Nat
  bb : Nat
  h : Nat
  bs : List Int
  lim : Int
  ref : Int
/-- Two pointers in an array; x at the place a. -/
def Arr (w : World) (gp t a x y : Nat) : Prop :=
  w.heap[gp]? = some (.cells (if a = 0 then #[.pointer (some ⟨x, 0, none⟩), .pointer (some ⟨y, 0, none⟩)] else #[.pointer (some ⟨y, 0, none⟩), .pointer (some ⟨x, 0, none⟩)]) t (0, 0))
theorem Arr.at_ {w : World} {gp t a x y : Nat} (h : Arr w gp t a x y) (ha : a < 2) : w.cell? ⟨gp, a, none⟩ = some (.pointer (some ⟨x, 0, none⟩)) ∧ w.frozen? ⟨gp, a, none⟩ = false := by
  refine ⟨?_, blk_frozen h a⟩
  rw [blk_cell h a]
  have : a = 0 ∨ a = 1 := by omega
  rcases this with rfl | rfl <;> rfl
theorem Arr.put {w : World} {gp t a x y : Nat} (h : Arr w gp t a x y) (ha : a < 2) (z : Nat) : Arr (w.setCell ⟨gp, a, none⟩ (.pointer (some ⟨z, 0, none⟩))) gp t a z y := by
  have : a = 0 ∨ a = 1 := by omega
  rcases this with rfl | rfl
  · have q := blk_set h 0 (.pointer (some ⟨z, 0, none⟩)); simpa [Arr] using q
  · have q := blk_set h 1 (.pointer (some ⟨z, 0, none⟩)); simpa [Arr] using q
theorem Arr.swap {w : World} {gp t a x y : Nat} (h : Arr w gp t a x y) (ha : a < 2) (k : Nat) (hk : k < 2) : (k = a ∧ Arr w gp t k x y) ∨ (k ≠ a ∧ Arr w gp t k y x) := by
  have h1 : a = 0 ∨ a = 1 := by omega
  have h2 : k = 0 ∨ k = 1 := by omega
  rcases h1 with rfl | rfl <;> rcases h2 with rfl | rfl
  · exact .inl ⟨rfl, h⟩
  · exact .inr ⟨by decide, h⟩
  · exact .inr ⟨by decide, h⟩
  · exact .inl ⟨rfl, h⟩
theorem Arr.keep {w w1 : World} {gp t a x y : Nat} (h : Arr w gp t a x y) (hk : w1.heap[gp]? = w.heap[gp]?) : Arr w1 gp t a x y := hk.trans h
/-- What a framer of the program's may write (a block of an elder world stays in any case). -/
def Own (base : Nat) (x : FS) (k : Nat) : Prop := base ≤ k ∧ (k = x.g ∨ k = x.bb)

/-- The state; Z: blocks that lie outside it. -/
structure St (w : World) (base gp gr a : Nat) (x y : FS) (v : Value) (bk : List (Nat × Int)) (Z : Nat → Prop) : Prop where
  ap : Arr w gp 40 a x.g y.g
  ar : Arr w gr 43 a x.h y.h
  fx : FrO w base x.g x.bb x.bs x.lim x.ref
  fy : FrO w base y.g y.bb y.bs y.lim y.ref
  rx : IsRef w x.h x.lim (strOfNums x.bs) x.ref
  ry : IsRef w y.h y.lim (strOfNums y.bs) y.ref
  low : base ≤ x.g ∧ base ≤ y.g ∧ base ≤ x.h ∧ base ≤ y.h ∧ base ≤ gp ∧ base ≤ gr
  nx : ∀ k, Own base x k → k ≠ gp ∧ k ≠ gr ∧ k ≠ x.h ∧ k ≠ y.h ∧ ¬ Own base y k ∧ ¬ Z k
  ny : ∀ k, Own base y k → k ≠ gp ∧ k ≠ gr ∧ k ≠ x.h ∧ k ≠ y.h ∧ ¬ Z k
  nh : x.h ≠ y.h ∧ ¬ Z x.h ∧ ¬ Z y.h ∧ ¬ Z gp ∧ ¬ Z gr ∧ gp ≠ gr
  bk : Kd.R kB 31 w base (fun k => ¬ Own base x k ∧ ¬ Own base y k ∧ k ≠ gp ∧ k ≠ gr ∧ k ≠ x.h ∧ k ≠ y.h ∧ ¬ Z k) v bk
  rg : (∀ b ∈ x.bs, 0 ≤ b ∧ b < 256) ∧ ∀ b ∈ y.bs, 0 ≤ b ∧ b < 256

theorem FrO.keep {w w1 : World} {base g bb : Nat} {bs : List Int} {lim ref : Int} (h : FrO w base g bb bs lim ref) (hs : w.heap.size ≤ w1.heap.size) (h1 : w1.heap[g]? = w.heap[g]?) (h2 : w1.heap[bb]? = w.heap[bb]?) : FrO w1 base g bb bs lim ref := by
  obtain ⟨v, a, b, c, d⟩ := h
  exact ⟨v, h1.trans a, Kd.R_move b (fun k hk => by rw [hk]; exact h2), c, Nat.lt_of_lt_of_le d hs⟩
theorem FrO.lt {w : World} {base g bb : Nat} {bs : List Int} {lim ref : Int} (h : FrO w base g bb bs lim ref) : g < w.heap.size ∧ bb < w.heap.size := by
  obtain ⟨v, a, b, c, d⟩ := h
  exact ⟨blk_lt a, d⟩
theorem arr_lt {w : World} {gp t a x y : Nat} (h : Arr w gp t a x y) : gp < w.heap.size := blk_lt h

section
variable {w0 w w1 : World} {gp gr a : Nat} {x y : FS} {v : Value} {bk : List (Nat × Int)} {Z : Nat → Prop}
/-- A framer's block in a later world. -/
theorem own_same {base : Nat} {S : Nat → Prop} (hbase : w0.heap.size = base) (hk : Kept w w1 S) (hb : Below base w0 w) (hb1 : Below base w0 w1) (k : Nat) (hlt : k < w.heap.size) (hS : base ≤ k → ¬ S k) : w1.heap[k]? = w.heap[k]? := by
  by_cases h : base ≤ k
  · exact hk.2 k hlt (hS h)
  · have h' : k < w0.heap.size := by omega
    exact (hb1.block k (by omega)).trans (hb.block k (by omega)).symm
theorem St.lt (h : St w w0.heap.size gp gr a x y v bk Z) : x.g < w.heap.size ∧ x.bb < w.heap.size ∧ y.g < w.heap.size ∧ y.bb < w.heap.size ∧ x.h < w.heap.size ∧ y.h < w.heap.size ∧ gp < w.heap.size ∧ gr < w.heap.size :=
  ⟨h.fx.lt.1, h.fx.lt.2, h.fy.lt.1, h.fy.lt.2, blk_lt h.rx, blk_lt h.ry, arr_lt h.ap, arr_lt h.ar⟩
/-- Only what lies outside the state has been written. -/
theorem St.move (h : St w w0.heap.size gp gr a x y v bk Z) (hk : Kept w w1 Z) (hb : Below w0.heap.size w0 w) (hb1 : Below w0.heap.size w0 w1) : St w1 w0.heap.size gp gr a x y v bk Z := by
  obtain ⟨l1, l2, l3, l4, l5, l6, l7, l8⟩ := h.lt
  have same := fun k hlt hS => own_same rfl hk hb hb1 k hlt hS
  exact ⟨h.ap.keep (hk.2 _ l7 h.nh.2.2.2.1), h.ar.keep (hk.2 _ l8 h.nh.2.2.2.2.1),
    h.fx.keep hk.1 (same _ l1 (fun q => (h.nx _ ⟨q, .inl rfl⟩).2.2.2.2.2)) (same _ l2 (fun q => (h.nx _ ⟨q, .inr rfl⟩).2.2.2.2.2)),
    h.fy.keep hk.1 (same _ l3 (fun q => (h.ny _ ⟨q, .inl rfl⟩).2.2.2.2)) (same _ l4 (fun q => (h.ny _ ⟨q, .inr rfl⟩).2.2.2.2)),
    (hk.2 _ l5 h.nh.2.1).trans h.rx, (hk.2 _ l6 h.nh.2.2.1).trans h.ry, h.low, h.nx, h.ny, h.nh,
    Kd.R_step h.bk (fun k hk1 hlt => hk.2 k hlt hk1.2.2.2.2.2.2), h.rg⟩
theorem St.below (h : St w w0.heap.size gp gr a x y v bk Z) (hk : Below w.heap.size w w1) (hb : Below w0.heap.size w0 w) (hb1 : Below w0.heap.size w0 w1) : St w1 w0.heap.size gp gr a x y v bk Z := h.move (kept_below hk) hb hb1
/-- Blocks made later lie outside. -/
theorem St.avoid (h : St w w0.heap.size gp gr a x y v bk Z) (Z' : Nat → Prop) (hZ : ∀ k, Z' k → Z k ∨ w.heap.size ≤ k) : St w w0.heap.size gp gr a x y v bk Z' := by
  obtain ⟨l1, l2, l3, l4, l5, l6, l7, l8⟩ := h.lt
  have no : ∀ k, k < w.heap.size → ¬ Z k → ¬ Z' k := fun k hlt hn hz => (hZ k hz).elim hn (fun hq => by omega)
  have ox : ∀ k, Own w0.heap.size x k → k < w.heap.size := fun k hk => by rcases hk.2 with rfl | rfl <;> assumption
  have oy : ∀ k, Own w0.heap.size y k → k < w.heap.size := fun k hk => by rcases hk.2 with rfl | rfl <;> assumption
  refine ⟨h.ap, h.ar, h.fx, h.fy, h.rx, h.ry, h.low, fun k hk => ?_, fun k hk => ?_, ⟨h.nh.1, no _ l5 h.nh.2.1, no _ l6 h.nh.2.2.1, no _ l7 h.nh.2.2.2.1, no _ l8 h.nh.2.2.2.2.1, h.nh.2.2.2.2.2⟩, ?_, h.rg⟩
  · have q := h.nx k hk; exact ⟨q.1, q.2.1, q.2.2.1, q.2.2.2.1, q.2.2.2.2.1, no _ (ox k hk) q.2.2.2.2.2⟩
  · have q := h.ny k hk; exact ⟨q.1, q.2.1, q.2.2.1, q.2.2.2.1, no _ (oy k hk) q.2.2.2.2⟩
  · exact Kd.R_mono (Kd.R_bound h.bk) (fun k hk => ⟨hk.1.1, hk.1.2.1, hk.1.2.2.1, hk.1.2.2.2.1, hk.1.2.2.2.2.1, hk.1.2.2.2.2.2.1, no _ hk.2.2.1 hk.1.2.2.2.2.2.2⟩)
theorem St.lim (h : St w w0.heap.size gp gr a x y v bk Z) (Z' : Nat → Prop) (hZ : ∀ k, Z' k → Z k) : St w w0.heap.size gp gr a x y v bk Z' := h.avoid Z' (fun k hk => .inl (hZ k hk))
/-- The other one in front. -/
theorem St.swap (h : St w w0.heap.size gp gr a x y v bk Z) (ha : a < 2) (k : Nat) (hk : k < 2) : (k = a ∧ St w w0.heap.size gp gr k x y v bk Z) ∨ St w w0.heap.size gp gr k y x v bk Z := by
  by_cases e : k = a
  · subst e; exact .inl ⟨rfl, h⟩
  · right
    have h1 : Arr w gp 40 k y.g x.g := by rcases h.ap.swap ha k hk with q | q; exact absurd q.1 e; exact q.2
    have h2 : Arr w gr 43 k y.h x.h := by rcases h.ar.swap ha k hk with q | q; exact absurd q.1 e; exact q.2
    have lo := h.low
    exact ⟨h1, h2, h.fy, h.fx, h.ry, h.rx, ⟨lo.2.1, lo.1, lo.2.2.2.1, lo.2.2.1, lo.2.2.2.2⟩,
      fun j hj => by have q := h.ny j hj; exact ⟨q.1, q.2.1, q.2.2.2.1, q.2.2.1, fun hx => (h.nx j hx).2.2.2.2.1 hj, q.2.2.2.2⟩,
      fun j hj => by have q := h.nx j hj; exact ⟨q.1, q.2.1, q.2.2.2.1, q.2.2.1, q.2.2.2.2.2⟩,
      ⟨h.nh.1.symm, h.nh.2.2.1, h.nh.2.1, h.nh.2.2.2⟩,
      Kd.R_mono h.bk (fun j hj => ⟨hj.2.1, hj.1, hj.2.2.1, hj.2.2.2.1, hj.2.2.2.2.2.1, hj.2.2.2.2.1, hj.2.2.2.2.2.2⟩), ⟨h.rg.2, h.rg.1⟩⟩
/-- One step of both: the document's framer was written (w to w1), then the program's (w2 to w3). -/
theorem St.fed {w2 w3 : World} {bb' : Nat} {B : List Int} {E : Int} (h : St w w0.heap.size gp gr a x y v bk Z) (hb : Below w0.heap.size w0 w) (hb2 : Below w0.heap.size w0 w2) (hb3 : Below w0.heap.size w0 w3)
    (hk1 : Kept w w2 (fun k => k = x.h)) (hr : IsRef w2 x.h x.lim (strOfNums B) E) (hk2 : Kept w2 w3 (fun k => k = x.g ∨ k = x.bb)) (hf : FrO w3 w0.heap.size x.g bb' B x.lim E) (hbb : bb' = x.bb ∨ w2.heap.size ≤ bb') (hB : ∀ b ∈ B, 0 ≤ b ∧ b < 256) {Z' : Nat → Prop} (hZ : ∀ k, Z' k → (Z k ∧ k < w2.heap.size) ∨ (w2.heap.size ≤ k ∧ k ≠ bb')) :
    St w3 w0.heap.size gp gr a { x with bb := bb', bs := B, ref := E } y v bk Z' := by
  obtain ⟨l1, l2, l3, l4, l5, l6, l7, l8⟩ := h.lt
  have le := hk1.1
  have nox : ∀ k, k < w2.heap.size → ¬ Own w0.heap.size x k → ¬ Own w0.heap.size { x with bb := bb', bs := B, ref := E } k := fun k hlt hn hq => by
    rcases hq with ⟨q1, q2 | q2⟩
    · exact hn ⟨q1, .inl q2⟩
    · have q2' : k = bb' := q2
      rcases hbb with e | e
      · exact hn ⟨q1, .inr (q2'.trans e)⟩
      · omega
  have new : ∀ k, Own w0.heap.size { x with bb := bb', bs := B, ref := E } k → Own w0.heap.size x k ∨ w2.heap.size ≤ k := fun k hq => by
    rcases hq with ⟨q1, q2 | q2⟩
    · exact .inl ⟨q1, .inl q2⟩
    · have q2' : k = bb' := q2
      rcases hbb with e | e
      · exact .inl ⟨q1, .inr (q2'.trans e)⟩
      · exact .inr (by omega)
  have same : ∀ k, k < w.heap.size → k ≠ x.h → (w0.heap.size ≤ k → ¬ Own w0.heap.size x k) → w3.heap[k]? = w.heap[k]? := fun k hlt hne hn => by
    have q1 := hk1.2 k hlt hne
    have q2 := own_same rfl hk2 hb2 hb3 k (Nat.lt_of_lt_of_le hlt le) (fun hq hs => hn hq ⟨hq, hs⟩)
    exact q2.trans q1
  have oy : ∀ k, Own w0.heap.size y k → k < w.heap.size := fun k hk => by rcases hk.2 with rfl | rfl <;> assumption
  have lo := h.low
  have no : ∀ k, k < w.heap.size → ¬ Z k → ¬ Z' k := fun k hlt hn hz => (hZ k hz).elim (fun q => hn q.1) (fun q => by omega)
  refine ⟨h.ap.keep (same _ l7 (fun e => by have := blk_ne h.ap h.rx (by decide); omega) (fun _ ho => (h.nx _ ho).1 rfl)), h.ar.keep (same _ l8 (fun e => by have := blk_ne h.ar h.rx (by decide); omega) (fun _ ho => (h.nx _ ho).2.1 rfl)), hf, ?_, ?_, ?_, lo, ?_, ?_, ⟨h.nh.1, no _ l5 h.nh.2.1, no _ l6 h.nh.2.2.1, no _ l7 h.nh.2.2.2.1, no _ l8 h.nh.2.2.2.2.1, h.nh.2.2.2.2.2⟩, ?_, ⟨hB, h.rg.2⟩⟩
  · refine h.fy.keep (Nat.le_trans le hk2.1) (same _ l3 ?_ ?_) ?_
    · exact fun e => (h.ny y.g ⟨lo.2.1, .inl rfl⟩).2.2.1 e
    · exact fun _ ho => (h.nx _ ho).2.2.2.2.1 ⟨lo.2.1, .inl rfl⟩
    · by_cases hy : w0.heap.size ≤ y.bb
      · exact same _ l4 (fun e => (h.ny y.bb ⟨hy, .inr rfl⟩).2.2.1 e) (fun _ ho => (h.nx _ ho).2.2.2.2.1 ⟨hy, .inr rfl⟩)
      · exact (hb3.block _ (by omega)).trans (hb.block _ (by omega)).symm
  · refine Eq.trans ?_ hr
    exact own_same rfl hk2 hb2 hb3 x.h (Nat.lt_of_lt_of_le l5 le) (fun hq hs => (h.nx _ ⟨hq, hs⟩).2.2.1 rfl)
  · exact (same _ l6 (fun e => h.nh.1 e.symm) (fun _ ho => (h.nx _ ho).2.2.2.1 rfl)).trans h.ry
  · intro k hk
    have hkbb : w2.heap.size ≤ k → k = bb' := fun hq => by
      rcases hk with ⟨_, q2 | q2⟩
      · have : k = x.g := q2; omega
      · exact q2
    rcases new k hk with ho | ho
    · have q := h.nx k ho
      have hlt : k < w.heap.size := by rcases ho.2 with rfl | rfl <;> assumption
      exact ⟨q.1, q.2.1, q.2.2.1, q.2.2.2.1, q.2.2.2.2.1, no k hlt q.2.2.2.2.2⟩
    · refine ⟨by omega, by omega, fun (e : k = x.h) => by omega, by omega, fun hq => by have := oy k hq; omega, fun hz => by rcases hZ k hz with q | q; omega; exact q.2 (hkbb ho)⟩
  · exact fun k hk => by have q := h.ny k hk; exact ⟨q.1, q.2.1, q.2.2.1, q.2.2.2.1, no k (oy k hk) q.2.2.2.2⟩
  · refine Kd.R_mono (Kd.R_step (Kd.R_bound h.bk) (fun k hk hlt => same k hlt hk.1.2.2.2.2.1 (fun _ => hk.1.1))) (fun k hk => ?_)
    have q := hk.1
    exact ⟨nox k (by have := hk.2.2.1; omega) q.1, q.2.1, q.2.2.1, q.2.2.2.1, q.2.2.2.2.1, q.2.2.2.2.2.1, no k hk.2.2.1 q.2.2.2.2.2.2⟩
/-- A longer book. -/
theorem St.write {v1 : Value} {e : Nat × Int} (h : St w w0.heap.size gp gr a x y v bk Z) (hb : Below w0.heap.size w0 w) (hb1 : Below w0.heap.size w0 w1) (hk : w.grownBy w1 v.ownBlock) (hr : Kd.R kB 31 w1 w0.heap.size (fun k => ¬ Own w0.heap.size x k ∧ ¬ Own w0.heap.size y k ∧ k ≠ gp ∧ k ≠ gr ∧ k ≠ x.h ∧ k ≠ y.h ∧ ¬ Z k) v1 (bk ++ [e])) :
    St w1 w0.heap.size gp gr a x y v1 (bk ++ [e]) Z := by
  obtain ⟨l1, l2, l3, l4, l5, l6, l7, l8⟩ := h.lt
  have ne := h.bk.1
  have same : ∀ k, k < w.heap.size → some k ≠ v.ownBlock → w1.heap[k]? = w.heap[k]? := fun k hlt hn => hk.block k hlt hn
  have bsame : ∀ k, k < w.heap.size → (w0.heap.size ≤ k → some k ≠ v.ownBlock) → w1.heap[k]? = w.heap[k]? := fun k hlt hn => by
    by_cases hq : w0.heap.size ≤ k
    · exact same k hlt (hn hq)
    · exact (hb1.block _ (by omega)).trans (hb.block _ (by omega)).symm
  exact ⟨h.ap.keep (same _ l7 (fun e => (ne _ e.symm).2.2.1 rfl)), h.ar.keep (same _ l8 (fun e => (ne _ e.symm).2.2.2.1 rfl)),
    h.fx.keep hk.size (bsame _ l1 (fun hq e => (ne _ e.symm).1 ⟨hq, .inl rfl⟩)) (bsame _ l2 (fun hq e => (ne _ e.symm).1 ⟨hq, .inr rfl⟩)),
    h.fy.keep hk.size (bsame _ l3 (fun hq e => (ne _ e.symm).2.1 ⟨hq, .inl rfl⟩)) (bsame _ l4 (fun hq e => (ne _ e.symm).2.1 ⟨hq, .inr rfl⟩)),
    (same _ l5 (fun e => (ne _ e.symm).2.2.2.2.1 rfl)).trans h.rx, (same _ l6 (fun e => (ne _ e.symm).2.2.2.2.2.1 rfl)).trans h.ry, h.low, h.nx, h.ny, h.nh, hr, h.rg⟩
/-- What is written into the book lies outside the state. -/
theorem St.okp {zk : Nat → Prop} (h : St w w0.heap.size gp gr a x y v bk Z) (hz : ∀ k, zk k → Z k ∨ w.heap.size ≤ k) (k : Nat) (hk : zk k) : (¬ Own w0.heap.size x k ∧ ¬ Own w0.heap.size y k ∧ k ≠ gp ∧ k ≠ gr ∧ k ≠ x.h ∧ k ≠ y.h ∧ ¬ (fun _ => False : Nat → Prop) k) ∧ some k ≠ v.ownBlock := by
  obtain ⟨l1, l2, l3, l4, l5, l6, l7, l8⟩ := h.lt
  have no : ∀ j, j < w.heap.size → ¬ Z j → k ≠ j := fun j hlt hn e => by
    subst e
    rcases hz k hk with q | q
    · exact hn q
    · omega
  have ox : ∀ k, Own w0.heap.size x k → k < w.heap.size := fun k hk => by rcases hk.2 with rfl | rfl <;> assumption
  have oy : ∀ k, Own w0.heap.size y k → k < w.heap.size := fun k hk => by rcases hk.2 with rfl | rfl <;> assumption
  refine ⟨⟨fun hq => no k (ox k hq) (h.nx k hq).2.2.2.2.2 rfl, fun hq => no k (oy k hq) (h.ny k hq).2.2.2.2 rfl, no _ l7 h.nh.2.2.2.1, no _ l8 h.nh.2.2.2.2.1, no _ l5 h.nh.2.1, no _ l6 h.nh.2.2.1, id⟩, fun e => ?_⟩
  have hb := Kd.R_bound h.bk
  have q := hb.1 k e.symm
  exact no k q.2.2.1 q.1.2.2.2.2.2.2 rfl
end

end Go.Proofs.Ytkchnocliilapaa.Q
