/- FrameFeeds: what a step leaves, in plain terms. -/
import Derived.Test.YtkchnocliilapaaQx0
import Derived.Test.YtkchnocliilapaaHFeeds4
import Derived.Test.YtkchnocliilapaaHFeeds5
import Derived.IntWalk
namespace Go.Proofs.Ytkchnocliilapaa.Q
open Go.RowKit Go.Proofs.YtkchnocliilapaaW.PrintWords Go.Proofs.YtkchnocliilapaaW.PrintLast Go.Proofs.YtkchnocliilapaaW.PrintMore
attribute [local go_sem] max2_int min2_int max_two min_two max_three min_three max_four min_four   -- for this text's walks alone
set_option linter.unusedVariables false
set_option linter.unusedSimpArgs false

theorem row_front {W : World} {base c : Nat} {ok : Nat → Prop} {A : Option Addr} {z : Int} {ch : List Int} (h : Kd.R (Kd.int .u8) 5 W base ok (.slice A (ch.length + 1) c) (ch ++ [z])) : Kd.C (Kd.int .u8) W A ch.length ch ∧ ch.length + 1 ≤ c := by
  have hr := Kd.R_reads' h
  refine ⟨?_, hr.2.1⟩
  have h1 := hr.2.2
  have h2 : Kd.C (Kd.int .u8) W A (ch ++ [z]).length (ch ++ [z]) := by simpa using h1
  have h3 := Kd.C_take (m := ch.length) h2 (by simp)
  simpa using h3
theorem row_last {W : World} {base c g : Nat} {ok : Nat → Prop} {z : Int} {ch : List Int} (h : Kd.R (Kd.int .u8) 5 W base ok (.slice (some ⟨g, 0, none⟩) (ch.length + 1) c) (ch ++ [z])) : W.cell? ⟨g, ch.length, none⟩ = some (.int .u8 z) := by
  obtain ⟨ce, hcl, hM, hcc, hfr⟩ := Kd.R_elem h (0 : Int) (ch.length : Int) (by omega) (by omega)
  have hM' : ce = [.int .u8 ((ch ++ [z]).getD (ch.length : Int).toNat 0)] := hM
  have := hcc 0 (.int .u8 ((ch ++ [z]).getD (ch.length : Int).toNat 0)) (by rw [hM']; rfl)
  rw [show (Kd.int .u8).sz = 1 from rfl] at this
  simpa using this
/-- One byte of a row of the call's own is written over. -/
theorem byte_put {W : World} {base c g n : Nat} {ok : Nat → Prop} {xs : List Int} (h : Kd.R (Kd.int .u8) 5 W base ok (.slice (some ⟨g, 0, none⟩) n c) xs) (i : Nat) (hi : i < n) :
    ∃ u : Int, W.cell? ⟨g, i, none⟩ = some (.int .u8 u) ∧ W.frozen? ⟨g, i, none⟩ = false ∧ ∀ z : Int, Kd.R (Kd.int .u8) 5 (W.setCell ⟨g, i, none⟩ (.int .u8 z)) base ok (.slice (some ⟨g, 0, none⟩) n c) (xs.set i z) := by
  obtain ⟨ce, hcl, hM, hcc, hfr⟩ := Kd.R_elem h (0 : Int) (i : Int) (by omega) (by omega)
  have hM' : ce = [.int .u8 (xs.getD (i : Int).toNat 0)] := hM
  have h1 := hcc 0 _ (by rw [hM']; rfl)
  have h2 := hfr 0
  have P0 := fun z : Int => (Kd.R_seg h (i : Int) (by omega) (by omega) (seg := [.int .u8 z]) (j := 0) (okp := fun _ => False) hcl hcc (show 1 ≤ 1 from Nat.le_refl _) (x' := z) (by rw [hM']; exact (rfl : [Value.int .u8 z] = [Value.int .u8 z])) (fun _ hk => hk.elim)).1
  rw [show (Kd.int .u8).sz = 1 from rfl] at h1 h2 P0
  simp only [Int.toNat_natCast, Nat.mul_one, Nat.add_zero] at h1 h2 P0
  exact ⟨_, h1, h2, P0⟩
section
variable {w wa wb wq wd : World} {gp gr a g9 go bb' co : Nat} {x y : FS} {v : Value} {bk : List (Nat × Int)} {ch L : List Int}
theorem St.fx_kept (h : St wa w.heap.size gp gr a x y v bk (fun k => k = g9)) (hk : Kept wa wq (fun k => k = x.h)) (hb : Below w.heap.size w wa) (hq : Below w.heap.size w wq) : FrO wq w.heap.size x.g x.bb x.bs x.lim x.ref := by
  have lt := h.lt
  refine h.fx.keep hk.1 (hk.2 _ lt.1 fun e => ?_) (own_same (w0 := w) rfl hk hb hq _ lt.2.1 fun q e => ?_)
  · exact (h.nx x.g ⟨h.low.1, .inl rfl⟩).2.2.1 e
  · exact (h.nx x.bb ⟨q, .inr rfl⟩).2.2.1 e
theorem St.ap_kept (h : St wa w.heap.size gp gr a x y v bk (fun k => k = g9)) (ha : a < 2) (hk : Kept wa wq (fun k => k = x.h)) : wq.cell? ⟨gp, a, none⟩ = some (.pointer (some ⟨x.g, 0, none⟩)) := by
  have lt := h.lt
  have ne := blk_ne h.ap h.rx (by decide)
  exact (World.cell?_of_block (hk.2 gp lt.2.2.2.2.2.2.1 ne)).trans (h.ap.at_ ha).1
/-- What is known behind both steps. -/
theorem St.fed_rel {A14 A11 : Option Addr} {c14 c11 n14 n11 : Nat} {L : List S23} {own : List Int} {E : Int} {B : List Int} {blk9 : Obj}
    (h : St wa w.heap.size gp gr a x y v bk (fun k => k = g9)) (hba : Below w.heap.size w wa) (hbq : Below w.heap.size w wq) (hbd : Below w.heap.size w wd)
    (hka : Kept wa wb (fun k => k = x.h)) (hbb : Below wb.heap.size wb wq) (hr : IsRef wb x.h x.lim (strOfNums B) E) (hk : Kept wq wd (fun k => k = x.g ∨ k = x.bb)) (hf : FrO wd w.heap.size x.g bb' B x.lim E) (hbb' : bb' = x.bb ∨ wq.heap.size ≤ bb') (hB : ∀ b ∈ B, 0 ≤ b ∧ b < 256)
    (h9 : g9 < wa.heap.size) (hg9 : w.heap.size ≤ g9) (hX9 : wq.heap[g9]? = some blk9) (hgo : wb.heap.size ≤ go) (hgl : go < wq.heap.size)
    (hO14 : Kd.R k23 23 wd w.heap.size (fun k => wq.heap.size ≤ k ∧ k ≠ bb' ∧ k ≠ x.g) (.slice A14 n14 c14) L)
    (hO11 : Kd.R k23 23 wb w.heap.size (fun k => wa.heap.size ≤ k) (.slice A11 n11 c11) L)
    (hown : Kd.R (Kd.int .u8) 5 wq wb.heap.size (fun _ => True) (.slice (some ⟨go, 0, none⟩) (ch.length + 1) co) own) :
    St wd w.heap.size gp gr a { x with bb := bb', bs := B, ref := E } y v bk (fun k => k = g9 ∨ k = go ∨ ∃ z, A14 = some z ∧ k = z.block) ∧
    Kd.R k23 23 wd w.heap.size (fun k => k ≠ go ∧ k ≠ g9) (.slice A14 n14 c14) L ∧ Kd.R k23 23 wd w.heap.size (fun k => wa.heap.size ≤ k) (.slice A11 n11 c11) L ∧
    Kd.R (Kd.int .u8) 5 wd w.heap.size (fun k => k = go) (.slice (some ⟨go, 0, none⟩) (ch.length + 1) co) own ∧ wd.heap[g9]? = some blk9 := by
  have lt := h.lt
  have e1 := hka.1
  have e2 := hbb.size
  have e3 := hba.size
  have far : ∀ k, wa.heap.size ≤ k → ¬ (k = x.g ∨ k = x.bb) := fun k h1 h2 => by rcases h2 with q | q <;> omega
  have n9 : ¬ (g9 = x.g ∨ g9 = x.bb) := by
    rintro (q | q)
    · exact (h.nx x.g ⟨h.low.1, .inl rfl⟩).2.2.2.2.2 q.symm
    · exact (h.nx x.bb ⟨q ▸ hg9, .inr rfl⟩).2.2.2.2.2 q.symm
  have sa := h.avoid (fun k => k = g9 ∨ (wa.heap.size ≤ k ∧ k < wq.heap.size)) (fun k hk => hk.elim (fun h => .inl h) (fun h => .inr h.1))
  have hkq : Kept wa wq (fun k => k = x.h) := hka.below hbb
  have hiq : IsRef wq x.h x.lim (strOfNums B) E := (hbb.block _ (blk_lt hr)).trans hr
  refine ⟨sa.fed hba hbq hbd hkq hiq hk hf hbb' hB ?_, Kd.R_mono hO14 (fun k hk => ⟨?_, ?_⟩), Kd.R_step (Kd.R_below hO11 hbb) (fun k hk1 hlt => hk.2 k hlt (far k hk1)), ?_, (hk.2 g9 (by omega) n9).trans hX9⟩
  · rintro k (q | q | ⟨z, q1, q2⟩)
    · left; exact ⟨.inl q, by omega⟩
    · left; exact ⟨.inr ⟨by omega, by omega⟩, by omega⟩
    · right
      have q := hO14.1 z.block (by rw [q1]; rfl)
      rw [q2]
      exact ⟨q.1, q.2.1⟩
  · have := hk.1; omega
  · have := hk.1; omega
  · have ho : (fun k : Nat => k = go) go := rfl
    refine Kd.R_step (Kd.R_lower (base' := w.heap.size) (ok := fun k => k = go) ⟨fun k hk => ?_, hown.2.imp_ (fun _ _ hp => hp)⟩ (by omega)) (fun k hk1 hlt => hk.2 k hlt (far k (by have : k = go := hk1; omega)))
    have : go = k := by simpa [Value.ownBlock] using hk
    exact this.symm
end
/-- How much there is at round i. -/
def NumS (i : Nat) (x y : FS) (bk : List (Nat × Int)) : Prop := x.bs.length ≤ i * 1048576 ∧ y.bs.length ≤ i * 1048576 ∧ bk.length ≤ i ∧ ∀ e ∈ bk, e.1 < 1000000000000 ∧ 0 ≤ e.2 ∧ e.2 < 1000000000000
theorem NumS.nil (g0 b0 h0 g1 b1 h1 : Nat) (l m : Int) : NumS 0 ⟨g0, b0, h0, [], l, 0⟩ ⟨g1, b1, h1, [], m, 0⟩ [] := ⟨Nat.zero_le _, Nat.zero_le _, Nat.zero_le _, fun _ h => by cases h⟩
theorem NumS.more {i : Nat} {x y : FS} {bk : List (Nat × Int)} (h : NumS i x y bk) : NumS (i + 1) x y bk := ⟨Nat.le_trans h.1 (Nat.mul_le_mul_right _ (Nat.le_succ i)), Nat.le_trans h.2.1 (Nat.mul_le_mul_right _ (Nat.le_succ i)), Nat.le_trans h.2.2.1 (Nat.le_succ i), h.2.2.2⟩
theorem NumS.fed {i bb' : Nat} {E : Int} {x y : FS} {bk : List (Nat × Int)} {ch : List Int} (h : NumS i x y bk) (hc : ch.length ≤ 1048576) (hi : i ≤ 200) : NumS (i + 1) { x with bb := bb', bs := stepB x ch, ref := E } y (bk ++ [((stepL x ch).length, (bk.length : Int))]) := by
  have h1 := stepB_len x ch
  have h2 := stepL_len x ch
  obtain ⟨a, b, c, d⟩ := h
  have hm : (i + 1) * 1048576 = i * 1048576 + 1048576 := Nat.succ_mul _ _
  have hq : i * 1048576 ≤ 209715200 := Nat.le_trans (Nat.mul_le_mul_right _ hi) (by decide)
  refine ⟨?_, ?_, by simp; omega, fun e he => ?_⟩
  · rw [hm]; exact Nat.le_trans h1 (Nat.add_le_add a hc)
  · rw [hm]; exact Nat.le_trans b (Nat.le_add_right _ _)
  · rcases List.mem_append.1 he with he | he
    · exact d e he
    · rw [List.mem_singleton.1 he]
      have q1 : (stepL x ch).length ≤ 209715200 + 1048576 := Nat.le_trans h2 (Nat.add_le_add (Nat.le_trans a hq) hc)
      have q2 : bk.length ≤ 200 := Nat.le_trans c hi
      refine ⟨Nat.lt_of_le_of_lt q1 (by decide), Int.natCast_nonneg _, ?_⟩
      show (bk.length : Int) < 1000000000000
      omega
theorem meas_go (n k : Nat) (h : k < n + 1) : n + 2 - (intOf (.int .i64 ((k : Int) + 1))).toNat < n + 2 - (intOf (.int .i64 (k : Int))).toNat := by
  simp only [intOf]; omega
theorem St.kept_row {w wd wr : World} {gp gr a go g9 : Nat} {x y : FS} {v : Value} {bk : List (Nat × Int)} {A14 : Option Addr} (h : St wd w.heap.size gp gr a x y v bk (fun k => k = g9 ∨ k = go ∨ ∃ z, A14 = some z ∧ k = z.block)) (hk : Kept wd wr (fun k => k = go)) (hb : Below w.heap.size w wd) (hr : Below w.heap.size w wr) :
    St wr w.heap.size gp gr a x y v bk (fun k => k = g9 ∨ k = go ∨ ∃ z, A14 = some z ∧ k = z.block) := h.move (hk.mono fun k e => .inr (.inl e)) hb hr
theorem St.kept_list {w wd wr : World} {gp gr a go g9 : Nat} {x y : FS} {v : Value} {bk : List (Nat × Int)} {A14 : Option Addr} (h : St wd w.heap.size gp gr a x y v bk (fun k => k = g9 ∨ k = go ∨ ∃ z, A14 = some z ∧ k = z.block)) (hk : Kept wd wr (fun k => ∃ z, A14 = some z ∧ k = z.block)) (hb : Below w.heap.size w wd) (hr : Below w.heap.size w wr) :
    St wr w.heap.size gp gr a x y v bk (fun _ => False) := (h.move (hk.mono fun k e => .inr (.inr e)) hb hr).lim _ (fun _ e => e.elim)
theorem St.okp14 {w wd : World} {gp gr a go g9 : Nat} {x y : FS} {v : Value} {bk : List (Nat × Int)} {A14 : Option Addr} (h : St wd w.heap.size gp gr a x y v bk (fun k => k = g9 ∨ k = go ∨ ∃ z, A14 = some z ∧ k = z.block)) (k : Nat) (hk : (∃ z, A14 = some z ∧ k = z.block) ∨ wd.heap.size ≤ k) :
    (¬ Own w.heap.size x k ∧ ¬ Own w.heap.size y k ∧ k ≠ gp ∧ k ≠ gr ∧ k ≠ x.h ∧ k ≠ y.h ∧ ¬ False) ∧ some k ≠ v.ownBlock :=
  h.okp (zk := fun k => (∃ z, A14 = some z ∧ k = z.block) ∨ wd.heap.size ≤ k) (fun k hk => hk.imp (fun e => .inr (.inr e)) (fun e => e)) k hk
theorem St.fresh {w wd : World} {gp gr a : Nat} {x y : FS} {v : Value} {bk : List (Nat × Int)} (h : St wd w.heap.size gp gr a x y v bk (fun _ => False)) (k : Nat) (hk : wd.heap.size ≤ k) :
    ¬ Own w.heap.size x k ∧ ¬ Own w.heap.size y k ∧ k ≠ gp ∧ k ≠ gr ∧ k ≠ x.h ∧ k ≠ y.h ∧ ¬ False := (h.okp (zk := fun k => wd.heap.size ≤ k) (fun k hk => .inr hk) k hk).1
theorem book_entry {w we w11 : World} {A14 A2 : Option Addr} {c14 c2 n : Nat} {m : Int} (h1 : n ≤ c14) (h2 : n + 1 ≤ c2) (hk1 : Kd.C k23 w11 A14 n (List.replicate n (mkP m))) (hk2 : Kd.C k23 w11 A2 (n + 1) (List.replicate (n + 1) (mkP m)))
    (hwh : ∀ a, A2 = some a → (∃ a0, A14 = some a0 ∧ a.block = a0.block) ∨ we.heap.size ≤ a.block) (hty : ∀ a, A14 = some a ∨ A2 = some a → w.heap.size ≤ a.block ∧ ∃ cells, w11.heap[a.block]? = some (.cells cells 23 (0, 0))) :
    kB.M w11 w.heap.size (fun k => (∃ z, A14 = some z ∧ k = z.block) ∨ we.heap.size ≤ k) (n, m) [.slice A14 n c14, .slice A2 (n + 1) c2, .int .i64 m] := by
  refine ⟨A14, A2, c14, c2, ⟨rfl, h1, h2, hk1, hk2⟩, fun a ha => ⟨?_, hty a ha⟩⟩
  rcases ha with ha | ha
  · exact .inl ⟨a, ha, rfl⟩
  · rcases hwh a ha with ⟨a0, e1, e2⟩ | h
    · exact .inl ⟨a0, e1, e2⟩
    · exact .inr h

end Go.Proofs.Ytkchnocliilapaa.Q
