/- A stream that ends in a header that can't be (layer 24): what each call of FrameEnds answers. -/
import Derived.Test.YtkchnocliilapaaQx0
import Derived.Test.YtkchnocliilapaaQx2
import Derived.Test.YtkchnocliilapaaHFrames
import Derived.Test.YtkchnocliilapaaHKeepLaw
import Derived.IntWalk
namespace Go.Proofs.Ytkchnocliilapaa.Q
open Go.RowKit Go.Proofs.YtkchnocliilapaaW.PrintWords Go.Proofs.YtkchnocliilapaaW.PrintLast Go.Proofs.YtkchnocliilapaaW.PrintMore
attribute [local go_sem] max2_int min2_int max_two min_two max_three min_three max_four min_four   -- for this text's walks alone
set_option linter.unusedVariables false
set_option linter.unusedSimpArgs false

def headL (n t : Int) : List Int := [0, 0, n / 256, n % 256, t / 256, t % 256]
def BadH (lim n t te want : Int) : Prop := (0 ≤ n ∧ n ≤ 2000) ∧ (0 ≤ t ∧ t < 65536) ∧ t ≠ 23520 ∧ t ≠ 60240 ∧ ((te = 4 ∧ want = 240 ∧ (n < 6 ∨ lim < n)) ∨ (te = 6 ∧ want = 241 ∧ n = 6))
theorem headL_range {lim n t te want : Int} (h : BadH lim n t te want) : ∀ b ∈ headL n t, 0 ≤ b ∧ b < 256 := by
  obtain ⟨h1, h2, _⟩ := h
  intro b hb
  simp only [headL, List.mem_cons, List.not_mem_nil, or_false] at hb
  rcases hb with h | h | h | h | h | h <;> subst h <;> omega
theorem headL_num (n t : Int) (h : 0 ≤ n ∧ n ≤ 2000) (r : List Int) : numL ((headL n t ++ r).take 4) = n := by
  simp only [headL, List.cons_append, List.nil_append, List.take_succ_cons, List.take_zero, numL, List.foldl_cons, List.foldl_nil]; omega
theorem headL_kind (n t : Int) (h : 0 ≤ t ∧ t < 65536) (r : List Int) : numL (((headL n t ++ r).take 6).drop 4) = t := by
  simp only [headL, List.cons_append, List.nil_append, List.take_succ_cons, List.take_zero, List.drop_succ_cons, List.drop_zero, numL, List.foldl_cons, List.foldl_nil]; omega
theorem look_bad {lim n t te want : Int} (h : BadH lim n t te want) (hl : 6 ≤ lim) (r : List Int) : lookF lim (headL n t ++ r) ≠ 1 ∧ verdictF lim (headL n t ++ r) = want := by
  have e : lookF lim (headL n t ++ r) = if want = 240 then 2 else 3 := by
    obtain ⟨h1, h2, h3, h4, h5⟩ := h
    have hlen : (headL n t ++ r).length = 6 + r.length := by simp [headL]; omega
    unfold lookF
    rw [if_neg (by omega), headL_num n t h1]
    rcases h5 with ⟨_, hw, h5⟩ | ⟨_, hw, h5⟩
    · rw [if_pos h5, if_pos hw]
    · rw [if_neg (by omega), if_neg (by omega), headL_kind n t h2, if_neg (by simp [h3, h4]), if_neg (by omega)]
  have hw : want = 240 ∨ want = 241 := by rcases h.2.2.2.2 with h | h <;> omega
  unfold verdictF
  rw [e]
  rcases hw with h | h <;> subst h <;> simp
theorem look_part {lim n t te want : Int} (h : BadH lim n t te want) (hl : 6 ≤ lim) (k : Nat) (hk : (k : Int) = te - 1) : lookF lim ((headL n t).take k) = 0 ∧ needF 0 ((headL n t).take k) ≥ 1 ∧ ((headL n t).take k).length = k := by
  obtain ⟨h1, h2, h3, h4, h5⟩ := h
  rcases h5 with ⟨ht, hw, h5⟩ | ⟨ht, hw, h5⟩
  · obtain rfl : k = 3 := by omega
    refine ⟨rfl, ?_, rfl⟩
    unfold needF headL; simp
  · obtain rfl : k = 5 := by omega
    have hn : numL (((headL n t).take 5).take 4) = n := by
      have := headL_num n t h1 []
      rwa [List.append_nil, show (headL n t).take 4 = ((headL n t).take 5).take 4 by simp [headL]] at this
    have hln : ((headL n t).take 5).length = 5 := rfl
    refine ⟨?_, ?_, rfl⟩
    · unfold lookF
      rw [if_neg (by omega), hn, if_neg (by omega), if_pos (by omega)]
    · unfold needF
      rw [if_neg (by simp), if_neg (by omega), hn, hln, h5]; decide
theorem feed_first {lim n t te want : Int} (h : BadH lim n t te want) (l : List S23) (hl : ∀ p ∈ l, GoodP p ∧ (p.f1.size : Int) + 6 ≤ lim) (hm : 6 ≤ lim) (k : Nat) (hk : (k : Int) = te - 1) (hlen : l.length ≤ (streamB l ++ (headL n t).take k).length) :
    feedL lim (streamB l ++ (headL n t).take k) = l ∧ feedE lim (streamB l ++ (headL n t).take k) = 0 ∧ feedB lim (streamB l ++ (headL n t).take k) = (headL n t).take k := by
  have h0 := (look_part h hm k hk).1
  have e := parcelsF_all lim l ((headL n t).take k) hl (by rw [h0]; decide) _ hlen
  have ev : feedE lim (streamB l ++ (headL n t).take k) = 0 := by
    unfold feedE
    rw [e]
    unfold verdictF
    rw [h0]; rfl
  refine ⟨by unfold feedL; rw [e], ev, by unfold feedB; rw [if_pos ev, e]⟩
theorem feed_second {lim n t te want : Int} (h : BadH lim n t te want) (hm : 6 ≤ lim) (r : List Int) :
    feedL lim (headL n t ++ r) = [] ∧ feedE lim (headL n t ++ r) = want ∧ feedB lim (headL n t ++ r) = [] := by
  obtain ⟨h1, h2⟩ := look_bad h hm r
  have e : parcelsF lim (headL n t ++ r).length (headL n t ++ r) [] = ([], headL n t ++ r) := by
    have := parcelsF_all lim [] (headL n t ++ r) (fun p hp => by cases hp) h1 (headL n t ++ r).length (by simp)
    simpa [streamB] using this
  have ev : feedE lim (headL n t ++ r) = want := by unfold feedE; rw [e]; exact h2
  have hw : want ≠ 0 := by rcases h.2.2.2.2 with h | h <;> omega
  refine ⟨by unfold feedL; rw [e], ev, by unfold feedB; rw [ev, if_neg hw]⟩
theorem bytesWorld_below (W : World) (S : ByteArray) : Below W.heap.size W (Lib.bytesWorld W 5 S) := by
  have h := Below.refl W.heap.size W
  exact ⟨h.os, h.tape, h.output, by rw [Lib.bytesWorld_size]; omega, fun i hi => Lib.bytesWorld_at_old W 5 S i hi⟩
theorem FrO.below {w w1 : World} {base g bb : Nat} {bs : List Int} {lim ref : Int} (h : FrO w base g bb bs lim ref) (hb : Below w.heap.size w w1) : FrO w1 base g bb bs lim ref := by
  obtain ⟨v, h1, h2, h3, h4⟩ := h
  exact ⟨v, blk_below h1 hb, Kd.R_below h2 hb, h3, Nat.lt_of_lt_of_le h4 hb.size⟩
theorem FrO.drewN {w : World} {base g bb : Nat} {bs : List Int} {lim ref : Int} (h : FrO w base g bb bs lim ref) (n : Nat) : FrO (w.drewN n) base g bb bs lim ref := h.below (pw_below_drewN (Below.refl _ _) n)
theorem FrO.drew {w : World} {base g bb : Nat} {bs : List Int} {lim ref : Int} (h : FrO w base g bb bs lim ref) : FrO w.drew base g bb bs lim ref := h.below (below_drew (Below.refl _ _))
/-- Feed of a text's bytes, by a framer that holds none. -/
theorem feed_str0 (w0 W : World) (g : Nat) (lim : Int) (S : ByteArray) (hG : W.heap[g]? = some (.cells #[.slice none 0 0, .int .i64 lim, .int .i64 0] 62 (0, 0))) (hB : Below w0.heap.size w0 W) (hg : w0.heap.size ≤ g) (hl : S.size ≤ 140737488355328) (hcn : (feedL lim (bytesOf S)).length < 1000000000000) :
    Calls Try.prog 18 #[.pointer (some ⟨g, 0, none⟩), .slice (some ⟨W.heap.size, 0, none⟩) S.size (grownCap W S.size 0 5)] (Lib.bytesWorld W 5 S) fun e w' => ∃ v bb', e = .returned (.tuple #[v, .int .i64 (feedE lim (bytesOf S))]) ∧ Kd.R k23 23 w' w0.heap.size (fun k => W.heap.size ≤ k ∧ k ≠ bb' ∧ k ≠ g) v (feedL lim (bytesOf S)) ∧ FrO w' w0.heap.size g bb' (feedB lim (bytesOf S)) lim (feedE lim (bytesOf S)) ∧ W.heap.size ≤ bb' ∧ Below w0.heap.size w0 w' ∧ Kept W w' (fun k => k = g) := by
  have hb1 := bytesWorld_below W S
  have hF : FrO (Lib.bytesWorld W 5 S) w0.heap.size g W.heap.size [] lim 0 := ⟨_, blk_below hG hb1, Kd.R_nil _ _ _ _ _, Nat.ne_of_gt (blk_lt hG), by rw [Lib.bytesWorld_size]; omega⟩
  have hC := C_bytesWorld W S (by omega)
  have hc := grownCap_ge W S.size 0 5
  have := Framer_Feed.taken w0 (Lib.bytesWorld W 5 S) g W.heap.size lim [] (bytesOf S) _ (grownCap W S.size 0 5) hF (below_step hB hb1) hg hC (by rw [bytesOf_length]; exact hc) (bytesOf_range S) (by rw [List.nil_append, bytesOf_length]; exact hl) hcn
  rw [bytesOf_length] at this
  refine this.mono ?_
  rintro e w' ⟨v, bb', he, hr, hf, hbb, hb, hk⟩
  refine ⟨v, bb', he, Kd.R_mono hr (fun k hk => ⟨Nat.le_trans hb1.size hk.1, hk.2⟩), hf, ?_, hb, Nat.le_trans hb1.size hk.1, fun i hi hn => (hk.2 i (Nat.lt_of_lt_of_le hi hb1.size) (fun h => by rcases h with h | h; exact hn h; omega)).trans (hb1.block i hi)⟩
  rcases hbb with h | h
  · omega
  · exact Nat.le_trans hb1.size h
theorem feed_str (w0 W : World) (g bb : Nat) (lim : Int) (bs : List Int) (S : ByteArray) (hF : FrO W w0.heap.size g bb bs lim 0) (hB : Below w0.heap.size w0 W) (hg : w0.heap.size ≤ g) (hbs : ∀ b ∈ bs, 0 ≤ b ∧ b < 256) (hl : bs.length + S.size ≤ 140737488355328) (hcn : (feedL lim (bs ++ bytesOf S)).length < 1000000000000) :
    Calls Try.prog 18 #[.pointer (some ⟨g, 0, none⟩), .slice (some ⟨W.heap.size, 0, none⟩) S.size (grownCap W S.size 0 5)] (Lib.bytesWorld W 5 S) fun e w' => ∃ v bb', e = .returned (.tuple #[v, .int .i64 (feedE lim (bs ++ bytesOf S))]) ∧ Kd.R k23 23 w' w0.heap.size (fun k => W.heap.size ≤ k ∧ k ≠ bb' ∧ k ≠ g) v (feedL lim (bs ++ bytesOf S)) ∧ FrO w' w0.heap.size g bb' (feedB lim (bs ++ bytesOf S)) lim (feedE lim (bs ++ bytesOf S)) ∧ (bb' = bb ∨ W.heap.size ≤ bb') ∧ Below w0.heap.size w0 w' ∧ Kept W w' (fun k => k = g ∨ k = bb) := by
  have hb1 := bytesWorld_below W S
  have hC := C_bytesWorld W S (by omega)
  have hc := grownCap_ge W S.size 0 5
  have := Framer_Feed.taken w0 (Lib.bytesWorld W 5 S) g bb lim bs (bytesOf S) _ (grownCap W S.size 0 5) (hF.below hb1) (below_step hB hb1) hg hC (by rw [bytesOf_length]; exact hc) (fun b hb => by rcases List.mem_append.1 hb with h | h; exact hbs b h; exact bytesOf_range S b h) (by rw [List.length_append, bytesOf_length]; exact hl) hcn
  rw [bytesOf_length] at this
  refine this.mono ?_
  rintro e w' ⟨v, bb', he, hr, hf, hbb, hb, hk⟩
  refine ⟨v, bb', he, Kd.R_mono hr (fun k hk => ⟨Nat.le_trans hb1.size hk.1, hk.2⟩), hf, ?_, hb, Nat.le_trans hb1.size hk.1, fun i hi hn => (hk.2 i (Nat.lt_of_lt_of_le hi hb1.size) hn).trans (hb1.block i hi)⟩
  rcases hbb with h | h
  · exact .inl h
  · exact .inr (Nat.le_trans hb1.size h)

end Go.Proofs.Ytkchnocliilapaa.Q
