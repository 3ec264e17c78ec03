/- FrameFeeds: one step of either framer, whatever it has refused; new framers; the bit that chooses. -/

import Derived.Test.YtkchnocliilapaaQx0
import Derived.Test.YtkchnocliilapaaHFeeds3
import Derived.IntWalk
import Derived.Laws.BitsLemmas
namespace Go.Proofs.Ytkchnocliilapaa.Q
open Go.RowKit Go.Proofs.YtkchnocliilapaaW.PrintWords Go.Proofs.YtkchnocliilapaaW.PrintLast Go.Proofs.YtkchnocliilapaaW.PrintMore
attribute [local go_sem] max2_int min2_int max_two min_two max_three min_three max_four min_four   -- for this text's walks alone
set_option linter.unusedVariables false
set_option linter.unusedSimpArgs false

def stepL (x : FS) (ch : List Int) : List S23 := if x.ref = 0 then feedL x.lim (x.bs ++ ch) else []
def stepE (x : FS) (ch : List Int) : Int := if x.ref = 0 then feedE x.lim (x.bs ++ ch) else x.ref
def stepB (x : FS) (ch : List Int) : List Int := if x.ref = 0 then feedB x.lim (x.bs ++ ch) else x.bs
theorem stepL_len (x : FS) (ch : List Int) : (stepL x ch).length ≤ x.bs.length + ch.length := by
  unfold stepL
  split
  · unfold feedL
    refine Nat.le_trans (parcelsF_count _ _ _ _) ?_
    simp
  · simp
theorem stepB_len (x : FS) (ch : List Int) : (stepB x ch).length ≤ x.bs.length + ch.length := by
  unfold stepB
  split
  · unfold feedB
    split
    · have := parcelsF_len (lim := x.lim) (x.bs ++ ch).length (x.bs ++ ch) []
      simpa using this
    · simp
  · omega
theorem stepB_range (x : FS) (ch : List Int) (h1 : ∀ b ∈ x.bs, 0 ≤ b ∧ b < 256) (h2 : ∀ b ∈ ch, 0 ≤ b ∧ b < 256) : ∀ b ∈ stepB x ch, 0 ≤ b ∧ b < 256 := by
  have h3 : ∀ b ∈ x.bs ++ ch, 0 ≤ b ∧ b < 256 := fun b hb => (List.mem_append.1 hb).elim (h1 b) (h2 b)
  unfold stepB
  split
  · unfold feedB
    split
    · exact parcelsF_range _ _ _ h3
    · intro b hb; cases hb
  · exact h1
theorem feed_step (w0 w : World) (x : FS) (ch : List Int) (A : Option Addr) (c n : Nat) (hn : n = ch.length) (hF : FrO w w0.heap.size x.g x.bb x.bs x.lim x.ref) (hB : Below w0.heap.size w0 w) (hg : w0.heap.size ≤ x.g) (hC : Kd.C (Kd.int .u8) w A ch.length ch) (hc : ch.length ≤ c) (hb : ∀ b ∈ x.bs, 0 ≤ b ∧ b < 256) (hb2 : ∀ b ∈ ch, 0 ≤ b ∧ b < 256) (hl : x.bs.length + ch.length < 1000000000000) :
    Calls Try.prog 18 #[.pointer (some ⟨x.g, 0, none⟩), .slice A n c] w fun e w' => ∃ v bb', e = .returned (.tuple #[v, .int .i64 (stepE x ch)]) ∧ Kd.R k23 23 w' w0.heap.size (fun k => w.heap.size ≤ k ∧ k ≠ bb' ∧ k ≠ x.g) v (stepL x ch) ∧ FrO w' w0.heap.size x.g bb' (stepB x ch) x.lim (stepE x ch) ∧ (bb' = x.bb ∨ w.heap.size ≤ bb') ∧ Below w0.heap.size w0 w' ∧ Kept w w' (fun k => k = x.g ∨ k = x.bb) := by
  subst hn
  by_cases h0 : x.ref = 0
  · have e1 : stepL x ch = feedL x.lim (x.bs ++ ch) := if_pos h0
    have e2 : stepE x ch = feedE x.lim (x.bs ++ ch) := if_pos h0
    have e3 : stepB x ch = feedB x.lim (x.bs ++ ch) := if_pos h0
    rw [e1, e2, e3]
    rw [h0] at hF
    refine Framer_Feed.taken w0 w x.g x.bb x.lim x.bs ch A c hF hB hg hC hc (fun b hb' => (List.mem_append.1 hb').elim (hb b) (hb2 b)) (by rw [List.length_append]; omega) ?_
    have := stepL_len x ch
    rw [e1] at this
    omega
  · have e1 : stepL x ch = [] := if_neg h0
    have e2 : stepE x ch = x.ref := if_neg h0
    have e3 : stepB x ch = x.bs := if_neg h0
    rw [e1, e2, e3]
    have hF' := hF
    obtain ⟨v, hG, _⟩ := hF
    refine (Framer_Feed.refused w x.g v x.lim x.ref A ch.length c h0 hG).mono ?_
    rintro e w' ⟨rfl, hb'⟩
    exact ⟨_, x.bb, rfl, Kd.R_nil _ _ _ _ _, hF'.below hb', .inl rfl, below_then hB hB.size hb', kept_below hb'⟩
theorem ref_step (w0 w : World) (x : FS) (ch : List Int) (C : ByteArray) (hI : IsRef w x.h x.lim (strOfNums x.bs) x.ref) (hC : C = strOfNums ch) (hb : ∀ b ∈ x.bs, 0 ≤ b ∧ b < 256) (hb2 : ∀ b ∈ ch, 0 ≤ b ∧ b < 256) (hl : x.bs.length + ch.length < 1000000000000) (hB : Below w0.heap.size w0 w) (hg : w0.heap.size ≤ x.h) :
    Calls Try.prog 17 #[.pointer (some ⟨x.h, 0, none⟩), .string C] w fun e w' => ∃ v, e = .returned (.tuple #[v, .int .i64 (stepE x ch)]) ∧ Kd.R k23 23 w' w0.heap.size (fun k => w.heap.size ≤ k) v (stepL x ch) ∧ IsRef w' x.h x.lim (strOfNums (stepB x ch)) (stepE x ch) ∧ Below w0.heap.size w0 w' ∧ Kept w w' (fun k => k = x.h) := by
  by_cases h0 : x.ref = 0
  · have e1 : stepL x ch = feedL x.lim (x.bs ++ ch) := if_pos h0
    have e2 : stepE x ch = feedE x.lim (x.bs ++ ch) := if_pos h0
    have e3 : stepB x ch = feedB x.lim (x.bs ++ ch) := if_pos h0
    rw [e1, e2, e3]
    rw [h0] at hI
    exact ref_Feed.taken w0 w x.h x.lim x.bs ch _ C hI rfl hC (fun b hb' => (List.mem_append.1 hb').elim (hb b) (hb2 b)) (by rw [List.length_append]; omega) hB hg
  · have e1 : stepL x ch = [] := if_neg h0
    have e2 : stepE x ch = x.ref := if_neg h0
    have e3 : stepB x ch = x.bs := if_neg h0
    rw [e1, e2, e3]
    refine (ref_Feed.refused w x.h x.lim x.ref _ C h0 hI).mono ?_
    rintro e w' ⟨rfl, hd⟩
    exact ⟨_, rfl, Kd.R_nil _ _ _ _ _, (hd.below.block x.h (blk_lt hI)).trans hI, below_then hB hB.size hd.below, kept_below hd.below⟩
theorem ref_New.calls (w : World) (lim : Int) :
    Calls Try.prog 16 #[.int .i64 lim] w fun e w' => ∃ h : Nat, e = .returned (.pointer (some ⟨h, 0, none⟩)) ∧ h = w.heap.size ∧ IsRef w' h lim (strOfNums []) 0 ∧ Below w.heap.size w w' := by
  have HB := Aside0.mk (Below.refl w.heap.size w)
  go_enter Try.func16, Try.ntmps16
  go_wp2
  go_ret
  exact ⟨w.heap.size, rfl, rfl, blk_new w _, (by repeat (first | (with_reducible first | exact HB.out | apply below_alloc | apply pw_below_drewN | apply below_drew1) | exact HB.out))⟩
def IsNil (w : World) (g : Nat) (lim : Int) : Prop := w.heap[g]? = some (.cells #[.slice none 0 0, .int .i64 lim, .int .i64 0] 62 (0, 0))
theorem new_step (w : World) (lim : Int) :
    Calls Try.prog 15 #[.int .i64 lim] w fun e w' => ∃ g : Nat, e = .returned (.pointer (some ⟨g, 0, none⟩)) ∧ g = w.heap.size ∧ IsNil w' g lim ∧ Below w.heap.size w w' := by
  have HB := Aside0.mk (Below.refl w.heap.size w)
  go_enter Try.func15, Try.ntmps15
  go_wp2
  go_ret
  exact ⟨w.heap.size, rfl, rfl, blk_new w _, (by repeat (first | (with_reducible first | exact HB.out | apply below_alloc | apply pw_below_drewN | apply below_drew1) | exact HB.out))⟩
theorem IsNil.fr {w : World} {g : Nat} {lim : Int} (h : IsNil w g lim) (base sb : Nat) (h1 : sb < base) (h2 : base ≤ g) : FrO w base g sb [] lim 0 :=
  ⟨_, h, Kd.R_nil _ _ _ _ _, by omega, by have := blk_lt h; omega⟩
theorem and_one (x : Int) : ∃ a : Nat, a < 2 ∧ bits .and .i64 x 1 = (a : Int) := by
  refine ⟨(BitVec.ofInt 64 x &&& BitVec.ofInt 64 1).toNat, ?_, ?_⟩
  · rw [BitVec.toNat_and]
    exact Nat.and_lt_two_pow (n := 1) _ (by decide)
  · have h : (BitVec.ofInt 64 x &&& BitVec.ofInt 64 1).toNat < 2 := by rw [BitVec.toNat_and]; exact Nat.and_lt_two_pow (n := 1) _ (by decide)
    simp only [bits]
    show IntKind.i64.wrap _ = _
    rw [IntKind.wrap_i64]
    change ((((BitVec.ofInt 64 x &&& BitVec.ofInt 64 1).toNat : Nat) : Int) + 9223372036854775808) % 18446744073709551616 - 9223372036854775808 = _
    omega
theorem sc_size (w : World) (p : Addr) (v : Value) : (w.setCell p v).heap.size = w.heap.size := by simp
/-- Where the loop begins. -/
theorem St.init {w0 w : World} {gp gr g0 g1 h0 h1 sb : Nat} {lim : Int} (hs : sb < w0.heap.size) (ha : Arr w gp 40 0 g0 g1) (hr : Arr w gr 43 0 h0 h1) (hg0 : IsNil w g0 lim) (hg1 : IsNil w g1 lim) (hh0 : IsRef w h0 lim (strOfNums []) 0) (hh1 : IsRef w h1 lim (strOfNums []) 0) (hne : g0 ≠ g1) (hnh : h0 ≠ h1)
    (lo : w0.heap.size ≤ g0 ∧ w0.heap.size ≤ g1 ∧ w0.heap.size ≤ h0 ∧ w0.heap.size ≤ h1 ∧ w0.heap.size ≤ gp ∧ w0.heap.size ≤ gr) :
    St w w0.heap.size gp gr 0 ⟨g0, sb, h0, [], lim, 0⟩ ⟨g1, sb, h1, [], lim, 0⟩ (.slice none 0 0) [] (fun _ => False) := by
  have t := fun {a b : Nat} {t t' : TypeId} {cs cs' : Array Value} (h : w.heap[a]? = some (.cells cs t (0, 0))) (h' : w.heap[b]? = some (.cells cs' t' (0, 0))) (hn : t ≠ t') => blk_ne h h' hn
  refine ⟨ha, hr, hg0.fr _ _ hs lo.1, hg1.fr _ _ hs lo.2.1, hh0, hh1, lo, ?_, ?_, ⟨hnh, id, id, id, id, blk_ne ha hr (by decide)⟩, Kd.R_nil _ _ _ _ _, ⟨fun _ h => (by cases h), fun _ h => (by cases h)⟩⟩
  · rintro k ⟨q, e | e⟩ <;> rw [show k = _ from e] at q ⊢ <;> clear e
    · exact ⟨t hg0 ha (by decide), t hg0 hr (by decide), t hg0 hh0 (by decide), t hg0 hh1 (by decide), fun ⟨_, e⟩ => by rcases e with e | e; exact hne e; exact absurd e (by have := lo.1; show g0 ≠ sb; omega), id⟩
    · exact absurd q (by show ¬ w0.heap.size ≤ sb; omega)
  · rintro k ⟨q, e | e⟩ <;> rw [show k = _ from e] at q ⊢ <;> clear e
    · exact ⟨t hg1 ha (by decide), t hg1 hr (by decide), t hg1 hh0 (by decide), t hg1 hh1 (by decide), id⟩
    · exact absurd q (by show ¬ w0.heap.size ≤ sb; omega)
/-- Two new framers in the place of x's. -/
theorem St.renew {w0 w w1 w2 : World} {gp gr a : Nat} {x y : FS} {v : Value} {bk : List (Nat × Int)} {g h sb : Nat} {lim : Int} (hS : St w w0.heap.size gp gr a x y v bk (fun _ => False)) (ha : a < 2) (hb : Below w0.heap.size w0 w) (hs : sb < w0.heap.size)
    (h1 : Below w.heap.size w w1) (hg : w.heap.size ≤ g) (hg1 : IsNil w1 g lim) (h2 : Below w1.heap.size (w1.setCell ⟨gp, a, none⟩ (.pointer (some ⟨g, 0, none⟩))) w2) (hh : w1.heap.size ≤ h) (hh1 : IsRef w2 h lim (strOfNums []) 0) :
    St (w2.setCell ⟨gr, a, none⟩ (.pointer (some ⟨h, 0, none⟩))) w0.heap.size gp gr a ⟨g, sb, h, [], lim, 0⟩ y v bk (fun _ => False) ∧ Below w0.heap.size w0 (w2.setCell ⟨gr, a, none⟩ (.pointer (some ⟨h, 0, none⟩))) := by
  obtain ⟨l1, l2, l3, l4, l5, l6, l7, l8⟩ := hS.lt
  have s1 := h1.size
  have s2 := h2.size
  have lo := hS.low
  have b1 : Below w0.heap.size w0 w1 := below_then hb hb.size h1
  have b1' := b1.setCell (p := ⟨gp, a, none⟩) lo.2.2.2.2.1 (.pointer (some ⟨g, 0, none⟩))
  have b2 : Below w0.heap.size w0 w2 := b1'.trans (h2.mono b1.size)
  have e1 : ∀ k, k < w.heap.size → k ≠ gp → w2.heap[k]? = w.heap[k]? := fun k hk hn => (h2.block k (by omega)).trans ((Below.heap_setCell w1 ⟨gp, a, none⟩ _ k hn).trans (h1.block k hk))
  have e2 : ∀ k, k < w.heap.size → k ≠ gp → k ≠ gr → (w2.setCell ⟨gr, a, none⟩ (.pointer (some ⟨h, 0, none⟩))).heap[k]? = w.heap[k]? := fun k hk hn hm => (Below.heap_setCell w2 ⟨gr, a, none⟩ _ k hm).trans (e1 k hk hn)
  have hap : Arr w2 gp 40 a g y.g := Arr.keep ((hS.ap.keep (h1.block _ l7)).put ha g) (h2.block gp (by omega))
  have har : Arr w2 gr 43 a x.h y.h := hS.ar.keep (e1 _ l8 hS.nh.2.2.2.2.2.symm)
  have hgg : IsNil (w2.setCell ⟨gr, a, none⟩ (.pointer (some ⟨h, 0, none⟩))) g lim := by
    have lg := blk_lt hg1
    refine (Below.heap_setCell w2 ⟨gr, a, none⟩ _ g (by show g ≠ gr; omega)).trans ((h2.block g (by omega)).trans ((Below.heap_setCell w1 ⟨gp, a, none⟩ _ g (by show g ≠ gp; omega)).trans hg1))
  have hhh : IsRef (w2.setCell ⟨gr, a, none⟩ (.pointer (some ⟨h, 0, none⟩))) h lim (strOfNums []) 0 := (Below.heap_setCell w2 ⟨gr, a, none⟩ _ h (by show h ≠ gr; omega)).trans hh1
  have ng : g ≠ gp ∧ g ≠ gr ∧ g ≠ y.h ∧ g < w1.heap.size := ⟨by omega, by omega, by omega, blk_lt hg1⟩
  have oy : ∀ k, Own w0.heap.size y k → k < w.heap.size := fun k hk => by rcases hk.2 with rfl | rfl <;> assumption
  have sz : w.heap.size ≤ (w2.setCell ⟨gr, a, none⟩ (.pointer (some ⟨h, 0, none⟩))).heap.size := by rw [sc_size] at s2 ⊢; omega
  refine ⟨⟨?_, har.put ha h, hgg.fr _ _ hs (by omega), ?_, hhh, ?_, ⟨by show w0.heap.size ≤ g; omega, lo.2.1, by show w0.heap.size ≤ h; omega, lo.2.2.2⟩, ?_, ?_, ⟨by show h ≠ y.h; omega, id, id, id, id, hS.nh.2.2.2.2.2⟩, ?_, ⟨fun _ h => (by cases h), hS.rg.2⟩⟩, b2.setCell (p := ⟨gr, a, none⟩) lo.2.2.2.2.2 _⟩
  · exact hap.keep (Below.heap_setCell w2 ⟨gr, a, none⟩ _ gp hS.nh.2.2.2.2.2)
  · refine hS.fy.keep sz (e2 _ l3 ?_ ?_) ?_
    · exact fun e => (hS.ny y.g ⟨lo.2.1, .inl rfl⟩).1 e
    · exact fun e => (hS.ny y.g ⟨lo.2.1, .inl rfl⟩).2.1 e
    · by_cases hy : w0.heap.size ≤ y.bb
      · exact e2 _ l4 (fun e => (hS.ny y.bb ⟨hy, .inr rfl⟩).1 e) (fun e => (hS.ny y.bb ⟨hy, .inr rfl⟩).2.1 e)
      · exact ((b2.setCell (p := ⟨gr, a, none⟩) lo.2.2.2.2.2 _).block _ (by omega)).trans (hb.block _ (by omega)).symm
  · exact (e2 _ l6 (blk_ne hS.ry hS.ap (by decide)) (blk_ne hS.ry hS.ar (by decide))).trans hS.ry
  · rintro k ⟨q, e | e⟩ <;> rw [show k = _ from e] at q ⊢ <;> clear e
    · exact ⟨ng.1, ng.2.1, by show g ≠ h; omega, ng.2.2.1, fun ho => by have := oy _ ho; have e : g < w.heap.size := this; omega, id⟩
    · exact absurd q (by show ¬ w0.heap.size ≤ sb; omega)
  · intro k hk
    have q := hS.ny k hk
    exact ⟨q.1, q.2.1, by have := oy k hk; show k ≠ h; omega, q.2.2.2.1, id⟩
  · refine Kd.R_mono (Kd.R_step (Kd.R_bound hS.bk) (fun k hk hlt => e2 k hlt hk.1.2.2.1 hk.1.2.2.2.1)) (fun k hk => ?_)
    have hlt : k < w.heap.size := hk.2.2.1
    refine ⟨?_, hk.1.2.1, hk.1.2.2.1, hk.1.2.2.2.1, by show k ≠ h; omega, hk.1.2.2.2.2.2.1, id⟩
    rintro ⟨q, e | e⟩
    · have e' : k = g := e; omega
    · have e' : k = sb := e; omega

end Go.Proofs.Ytkchnocliilapaa.Q
