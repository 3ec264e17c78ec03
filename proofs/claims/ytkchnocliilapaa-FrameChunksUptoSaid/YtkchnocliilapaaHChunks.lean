/- A stream of good frames, cut anywhere (layer 24): what Feed tells of a part of it. -/
import Derived.Test.YtkchnocliilapaaQx0
import Derived.Test.YtkchnocliilapaaHEnds
import Derived.IntWalk
namespace Go.Proofs.Ytkchnocliilapaa.Q
open Go.RowKit Go.Proofs.YtkchnocliilapaaW.PrintWords Go.Proofs.YtkchnocliilapaaW.PrintLast Go.Proofs.YtkchnocliilapaaW.PrintMore
attribute [local go_sem] max2_int min2_int max_two min_two max_three min_three max_four min_four   -- for this text's walks alone
set_option linter.unusedVariables false
set_option linter.unusedSimpArgs false

def frL (p : S23) : Nat := p.f1.size + 6
/-- How many whole frames lie in the first m bytes. -/
def cntF : List S23 → Nat → Nat
  | [], _ => 0
  | p :: r, m => if frL p ≤ m then cntF r (m - frL p) + 1 else 0
theorem streamB_cons (p : S23) (r : List S23) : streamB (p :: r) = frB p ++ streamB r := by simp [streamB]
theorem frB_take4 (p : S23) (h : GoodP p) (m : Nat) (hm : 4 ≤ m) : numL (((frB p).take m).take 4) = (p.f1.size : Int) + 6 := by
  rw [List.take_take, Nat.min_eq_left hm]
  have := frB_num p h []
  rwa [List.append_nil] at this
theorem frB_take6 (p : S23) (h : GoodP p) (m : Nat) (hm : 6 ≤ m) : numL ((((frB p).take m).take 6).drop 4) = p.f0 := by
  rw [List.take_take, Nat.min_eq_left hm]
  have := frB_kind p h []
  rwa [List.append_nil] at this
/-- A frame's beginning is no whole frame. -/
theorem look_prefix (lim : Int) (p : S23) (h : GoodP p) (hl : (p.f1.size : Int) + 6 ≤ lim) (m : Nat) (hm : m < frL p) : lookF lim ((frB p).take m) = 0 := by
  have hlen : ((frB p).take m).length = m := by rw [List.length_take, frB_len]; unfold frL at hm; omega
  unfold lookF
  rw [hlen]
  by_cases c1 : m < 4
  · rw [if_pos c1]
  · rw [if_neg c1, frB_take4 p h m (by omega), if_neg (by omega)]
    by_cases c2 : m < 6
    · rw [if_pos c2]
    · rw [if_neg c2, frB_take6 p h m (by omega), if_pos (by rcases h.1 with h | h <;> rw [h] <;> rfl), if_pos (by unfold frL at hm; omega)]
theorem look_nil (lim : Int) : lookF lim [] = 0 := rfl
theorem cntF_le : ∀ (r : List S23) (m : Nat), cntF r m ≤ r.length
  | [], m => Nat.le_refl _
  | p :: r, m => by
    rw [cntF]
    split
    · have := cntF_le r (m - frL p); rw [List.length_cons]; omega
    · omega
/-- The whole frames in the first m bytes of a stream, and what is left of these. -/
theorem parcelsF_part (lim : Int) : ∀ (r : List S23) (m n : Nat) (acc : List S23), (∀ p ∈ r, GoodP p ∧ (p.f1.size : Int) + 6 ≤ lim) → r.length ≤ n →
    parcelsF lim n ((streamB r).take m) acc = (acc ++ r.take (cntF r m), ((streamB r).take m).drop (streamB (r.take (cntF r m))).length) ∧ lookF lim (((streamB r).take m).drop (streamB (r.take (cntF r m))).length) = 0
  | [], m, n, acc, _, _ => by
    refine ⟨?_, ?_⟩
    · cases n with
      | zero => simp [parcelsF, streamB, cntF]
      | succ n => rw [parcelsF, if_neg (by simp [streamB, look_nil])]; simp [streamB, cntF]
    · simp [streamB, cntF, look_nil]
  | p :: r, m, n, acc, h, hn => by
    have hp := h p (by simp)
    obtain ⟨n, rfl⟩ : ∃ j, n = j + 1 := ⟨n - 1, by rw [List.length_cons] at hn; omega⟩
    rw [List.length_cons] at hn
    rw [cntF, streamB_cons]
    by_cases c : frL p ≤ m
    · rw [if_pos c]
      have hc' : p.f1.size + 6 ≤ m := c
      have e : (frB p ++ streamB r).take m = frB p ++ (streamB r).take (m - frL p) := by
        rw [List.take_append, List.take_of_length_le (by rw [frB_len]; exact hc'), frB_len]; rfl
      obtain ⟨ih1, ih2⟩ := parcelsF_part lim r (m - frL p) n (acc ++ [p]) (fun q hq => h q (List.mem_cons_of_mem _ hq)) (by omega)
      have e3 : (frB p ++ (streamB r).take (m - frL p)).drop (streamB ((p :: r).take (cntF r (m - frL p) + 1))).length = ((streamB r).take (m - frL p)).drop (streamB (r.take (cntF r (m - frL p)))).length := by
        rw [List.take_succ_cons, streamB_cons, List.length_append, List.drop_append, List.drop_of_length_le (by omega), List.nil_append]
        congr 1; omega
      rw [e, e3]
      refine ⟨?_, ih2⟩
      have t : ((p.f1.size : Int) + 6).toNat = p.f1.size + 6 := by omega
      rw [parcelsF, if_pos (look_good lim p hp.1 hp.2 _), frB_num p hp.1, frB_kind p hp.1, t, frB_body, List.drop_append_of_le_length (by rw [frB_len]; omega), List.drop_of_length_le (by rw [frB_len]; omega), List.nil_append]
      have e2 : (⟨p.f0, p.f1⟩ : S23) = p := rfl
      rw [e2, ih1, List.take_succ_cons, List.append_assoc]; rfl
    · rw [if_neg c]
      have hc' : m < p.f1.size + 6 := by unfold frL at c; omega
      have e : (frB p ++ streamB r).take m = (frB p).take m := by
        rw [List.take_append, frB_len, Nat.sub_eq_zero_of_le (by omega), List.take_zero, List.append_nil]
      have hk := look_prefix lim p hp.1 hp.2 m (by unfold frL; omega)
      rw [e]
      refine ⟨?_, by simpa [streamB] using hk⟩
      rw [parcelsF, if_neg (by rw [hk]; decide)]
      simp [streamB]
theorem streamB_app (a b : List S23) : streamB (a ++ b) = streamB a ++ streamB b := by unfold streamB; rw [List.flatMap_append]
theorem cntF_fits : ∀ (r : List S23) (m : Nat), (streamB (r.take (cntF r m))).length ≤ m
  | [], m => by simp [cntF, streamB]
  | p :: r, m => by
    rw [cntF]
    split
    · rename_i c
      have := cntF_fits r (m - frL p)
      rw [List.take_succ_cons, streamB_cons, List.length_append, frB_len]
      unfold frL at *
      omega
    · simp [streamB]
/-- Behind the whole frames there is none. -/
theorem cntF_rest : ∀ (r : List S23) (m : Nat), cntF (r.drop (cntF r m)) (m - (streamB (r.take (cntF r m))).length) = 0
  | [], m => by simp [cntF]
  | p :: r, m => by
    rw [cntF]
    split
    · have := cntF_rest r (m - frL p)
      rw [List.drop_succ_cons, List.take_succ_cons, streamB_cons, List.length_append, frB_len]
      rw [show m - (p.f1.size + 6 + (streamB (r.take (cntF r (m - frL p)))).length) = m - frL p - (streamB (r.take (cntF r (m - frL p)))).length by unfold frL; omega]
      exact this
    · rename_i c
      simp [streamB, cntF, c]
/-- What a Feed of a part of a stream answers. -/
theorem chunk_val (lim : Int) (r : List S23) (m : Nat) (h : ∀ p ∈ r, GoodP p ∧ (p.f1.size : Int) + 6 ≤ lim) (hm : m ≤ (streamB r).length) (hj : 6 * cntF r m ≤ m) :
    feedL lim ((streamB r).take m) = r.take (cntF r m) ∧ feedE lim ((streamB r).take m) = 0 ∧ feedB lim ((streamB r).take m) = (streamB (r.drop (cntF r m))).take (m - (streamB (r.take (cntF r m))).length) := by
  have key : ∀ n, cntF r m ≤ n → parcelsF lim n ((streamB r).take m) [] = (r.take (cntF r m), ((streamB r).take m).drop (streamB (r.take (cntF r m))).length) ∧ lookF lim (((streamB r).take m).drop (streamB (r.take (cntF r m))).length) = 0 := by
    intro n hn
    have hb := cntF_fits r m
    have hs : streamB r = streamB (r.take (cntF r m)) ++ streamB (r.drop (cntF r m)) := by rw [← streamB_app, List.take_append_drop]
    have e : (streamB r).take m = streamB (r.take (cntF r m)) ++ ((streamB r).take m).drop (streamB (r.take (cntF r m))).length := by
      conv => lhs; rw [← List.take_append_drop (streamB (r.take (cntF r m))).length ((streamB r).take m)]
      congr 1
      rw [List.take_take, Nat.min_eq_left hb]
      conv => lhs; rw [hs]
      rw [List.take_left]
    have h2 := (parcelsF_part lim r m r.length [] h (Nat.le_refl _)).2
    refine ⟨?_, h2⟩
    generalize ((streamB r).take m).drop (streamB (r.take (cntF r m))).length = q at *
    rw [e]
    exact parcelsF_all lim (r.take (cntF r m)) q (fun p hp => h p (List.mem_of_mem_take hp)) (by rw [h2]; decide) n (by rw [List.length_take]; omega)
  obtain ⟨k1, k2⟩ := key ((streamB r).take m).length (by rw [List.length_take]; omega)
  have ev : feedE lim ((streamB r).take m) = 0 := by unfold feedE; rw [k1]; unfold verdictF; rw [k2]; rfl
  refine ⟨by unfold feedL; rw [k1], ev, ?_⟩
  unfold feedB
  rw [if_pos ev, k1]
  have hs : streamB r = streamB (r.take (cntF r m)) ++ streamB (r.drop (cntF r m)) := by rw [← streamB_app, List.take_append_drop]
  show ((streamB r).take m).drop _ = _
  rw [List.drop_take]
  congr 1
  conv => lhs; rw [hs]
  rw [List.drop_left]
theorem cntF_six : ∀ (r : List S23) (m : Nat), 6 * cntF r m ≤ m
  | [], m => by simp [cntF]
  | p :: r, m => by
    rw [cntF]
    split
    · rename_i c
      have := cntF_six r (m - frL p)
      unfold frL at *
      omega
    · omega
/-- What is needed tells when nothing can come. -/
theorem need_none (r : List S23) (a n : Nat) (hg : ∀ p ∈ r, GoodP p) (h0 : cntF r a = 0) (hn : a + n ≤ (streamB r).length) (hd : (n : Int) < needF 0 ((streamB r).take a)) : cntF r (a + n) = 0 := by
  cases r with
  | nil => rfl
  | cons p r =>
    have gp := hg p (by simp)
    rw [cntF] at h0 ⊢
    by_cases c : frL p ≤ a
    · rw [if_pos c] at h0; cases h0
    · have e : (streamB (p :: r)).take a = (frB p).take a := by
        rw [streamB_cons, List.take_append, frB_len, Nat.sub_eq_zero_of_le (by unfold frL at c; omega), List.take_zero, List.append_nil]
      have hlen : ((frB p).take a).length = a := by rw [List.length_take, frB_len]; unfold frL at c; omega
      rw [e] at hd
      unfold needF at hd
      rw [if_neg (by simp), hlen] at hd
      by_cases c2 : a < 4
      · rw [if_pos c2] at hd
        rw [if_neg (by unfold frL; omega)]
      · rw [if_neg c2, frB_take4 p gp a (by omega)] at hd
        rw [if_neg (by unfold frL; omega)]
/-- A limit one too low refuses at the first of the longest frames. -/
theorem longest_at : ∀ (l : List S23) (m : Int), l.foldl (fun m p => mx m ((p.f1.size : Int) + 6)) m = m ∨ ∃ p ∈ l, (p.f1.size : Int) + 6 = l.foldl (fun m p => mx m ((p.f1.size : Int) + 6)) m
  | [], m => .inl rfl
  | q :: l, m => by
    rcases longest_at l (mx m ((q.f1.size : Int) + 6)) with h | ⟨p, hp, h⟩
    · by_cases c : m < (q.f1.size : Int) + 6
      · exact .inr ⟨q, by simp, by rw [List.foldl_cons, h]; unfold mx; rw [if_pos c]⟩
      · refine .inl ?_
        rw [List.foldl_cons, h]; unfold mx; rw [if_neg c]
    · exact .inr ⟨p, List.mem_cons_of_mem _ hp, h⟩
theorem split_short (lim : Int) (u : List S23) (p : S23) (v : List S23) (hu : ∀ q ∈ u, GoodP q ∧ (q.f1.size : Int) + 6 ≤ lim - 1) (hp : GoodP p) (he : (p.f1.size : Int) + 6 = lim) (n : Nat) (hn : u.length ≤ n) :
    parcelsF (lim - 1) n (streamB (u ++ p :: v)) [] = (u, streamB (p :: v)) ∧ verdictF (lim - 1) (streamB (p :: v)) = 240 := by
  have hk : lookF (lim - 1) (streamB (p :: v)) = 2 := by
    unfold lookF
    rw [streamB_cons, if_neg (by rw [List.length_append, frB_len]; omega), frB_num p hp, if_pos (by omega)]
  refine ⟨?_, by unfold verdictF; rw [hk]; rfl⟩
  rw [streamB_app]
  exact parcelsF_all (lim - 1) u (streamB (p :: v)) hu (by rw [hk]; decide) n hn
/-- A framer, new or not: what it holds lies behind it in memory. -/
def FrZ (w : World) (base g : Nat) (bs : List Int) (lim ref : Int) : Prop :=
  (∃ bb, g < bb ∧ FrO w base g bb bs lim ref) ∨ (bs = [] ∧ w.heap[g]? = some (.cells #[.slice none 0 0, .int .i64 lim, .int .i64 ref] 62 (0, 0)))
theorem FrZ.lt {w : World} {base g : Nat} {bs : List Int} {lim ref : Int} (h : FrZ w base g bs lim ref) : g < w.heap.size := by
  rcases h with ⟨bb, _, v, h, _⟩ | ⟨_, h⟩ <;> exact blk_lt h
theorem FrZ.below {w w1 : World} {base g : Nat} {bs : List Int} {lim ref : Int} (h : FrZ w base g bs lim ref) (hb : Below w.heap.size w w1) : FrZ w1 base g bs lim ref := by
  rcases h with ⟨bb, h1, h2⟩ | ⟨h1, h2⟩
  · exact .inl ⟨bb, h1, h2.below hb⟩
  · exact .inr ⟨h1, blk_below h2 hb⟩
theorem FrZ.drewN {w : World} {base g : Nat} {bs : List Int} {lim ref : Int} (h : FrZ w base g bs lim ref) (n : Nat) : FrZ (w.drewN n) base g bs lim ref := h.below (pw_below_drewN (Below.refl _ _) n)
theorem FrZ.drew {w : World} {base g : Nat} {bs : List Int} {lim ref : Int} (h : FrZ w base g bs lim ref) : FrZ w.drew base g bs lim ref := h.below (below_drew (Below.refl _ _))
theorem held_nil (w : World) (g : Nat) (lim ref : Int) (hG : w.heap[g]? = some (.cells #[.slice none 0 0, .int .i64 lim, .int .i64 ref] 62 (0, 0))) :
    Calls Try.prog 19 #[.pointer (some ⟨g, 0, none⟩)] w fun e w' => e = .returned (.int .i64 0) ∧ Drawn0 w w' := by
  have HS := Aside0.mk (held_size.calls w g none 0 0 (blk_cell hG 0))
  clear hG
  go_enter Try.func19, Try.ntmps19
  go_wp2_with (first | (go_at_call 26; (with_reducible refine HS.out.mono ?_); rintro e w' ⟨rfl, rfl⟩))
  go_ret
  exact ⟨rfl, by repeat (first | exact Drawn0.refl _ | apply Drawn0.step)⟩
theorem need_nil (w : World) (g : Nat) (lim : Int) (hG : w.heap[g]? = some (.cells #[.slice none 0 0, .int .i64 lim, .int .i64 0] 62 (0, 0))) :
    Calls Try.prog 21 #[.pointer (some ⟨g, 0, none⟩)] w fun e w' => e = .returned (.int .i64 6) ∧ Drawn0 w w' := by
  have HS := Aside0.mk (held_size.calls w g none 0 0 (blk_cell hG 0))
  have cr := blk_cell hG 2
  simp only [List.getElem?_toArray, List.getElem?_cons_zero, List.getElem?_cons_succ] at cr
  clear hG
  go_enter Try.func21, Try.ntmps21
  go_wp2_with (first | (go_at_call 26; (with_reducible refine HS.out.mono ?_); rintro e w' ⟨rfl, rfl⟩))
  go_ret
  exact ⟨rfl, by repeat (first | exact Drawn0.refl _ | apply Drawn0.step)⟩
theorem held_any (W : World) (base g : Nat) (bs : List Int) (lim ref v : Int) (hv : (bs.length : Int) = v) (hF : FrZ W base g bs lim ref) : Calls Try.prog 19 #[.pointer (some ⟨g, 0, none⟩)] W fun e w' => e = .returned (.int .i64 v) ∧ Drawn0 W w' := by
  rcases hF with ⟨bb, _, h⟩ | ⟨rfl, h⟩
  · exact hv ▸ Framer_Held.calls W base g bb bs lim ref h
  · obtain rfl : v = 0 := hv.symm
    exact held_nil W g lim ref h
theorem need_any (W : World) (base g : Nat) (bs : List Int) (lim v : Int) (hv : needF 0 bs = v) (hb : ∀ b ∈ bs, 0 ≤ b ∧ b < 256) (hl : bs.length ≤ 140737488355328) (hF : FrZ W base g bs lim 0) : Calls Try.prog 21 #[.pointer (some ⟨g, 0, none⟩)] W fun e w' => e = .returned (.int .i64 v) ∧ Drawn0 W w' := by
  rcases hF with ⟨bb, _, h⟩ | ⟨rfl, h⟩
  · exact hv ▸ Framer_Need.calls W base g bb bs lim 0 h hb hl
  · obtain rfl : v = 6 := by rw [← hv]; rfl
    exact need_nil W g lim h
/-- Feed of a text's bytes that refuses nothing. -/
theorem feed_any (w W : World) (g b : Nat) (lim : Int) (bs P : List Int) (S : ByteArray) (l : List S23) (hbq : b = W.heap.size) (h1 : feedL lim (bs ++ bytesOf S) = l) (h2 : feedE lim (bs ++ bytesOf S) = 0) (h3 : feedB lim (bs ++ bytesOf S) = P) (hbs : ∀ b ∈ bs, 0 ≤ b ∧ b < 256) (hl : bs.length + S.size ≤ 140737488355328) (hc : l.length < 1000000000000) (hF : FrZ W w.heap.size g bs lim 0) (hB : Below w.heap.size w W) (hg : w.heap.size ≤ g) :
    Calls Try.prog 18 #[.pointer (some ⟨g, 0, none⟩), .slice (some ⟨b, 0, none⟩) S.size (grownCap W S.size 0 5)] (Lib.bytesWorld W 5 S) fun e w' => ∃ v, e = .returned (.tuple #[v, .int .i64 0]) ∧ Kd.R k23 23 w' w.heap.size (fun k => W.heap.size ≤ k) v l ∧ FrZ w' w.heap.size g P lim 0 ∧ Below w.heap.size w w' ∧ W.heap.size ≤ w'.heap.size ∧ ∀ i, i < g → w'.heap[i]? = W.heap[i]? := by
  subst hbq
  have hlt := hF.lt
  rcases hF with ⟨bb, hgb, h⟩ | ⟨rfl, h⟩
  · have := feed_str w W g bb lim bs S h hB hg hbs hl (by rw [h1]; exact hc)
    rw [h1, h2, h3] at this
    refine this.mono ?_
    rintro e w' ⟨v, bb', he, hr, hf, hbb, hb, hk⟩
    exact ⟨v, he, Kd.R_mono hr (fun k hk => hk.1), .inl ⟨bb', by rcases hbb with h | h <;> omega, hf⟩, hb, hk.1, fun i hi => hk.2 i (Nat.lt_trans hi hlt) (fun h => by rcases h with h | h <;> omega)⟩
  · rw [List.nil_append] at h1 h2 h3
    have := feed_str0 w W g lim S h hB hg (by simpa using hl) (by rw [h1]; exact hc)
    rw [h1, h2, h3] at this
    refine this.mono ?_
    rintro e w' ⟨v, bb', he, hr, hf, hbb, hb, hk⟩
    exact ⟨v, he, Kd.R_mono hr (fun k hk => hk.1), .inl ⟨bb', by omega, hf⟩, hb, hk.1, fun i hi => hk.2 i (Nat.lt_trans hi hlt) (fun h => by omega)⟩

end Go.Proofs.Ytkchnocliilapaa.Q
