/- What Split tells is the document's answer (layer 24): the plain law. -/

import Derived.Test.YtkchnocliilapaaQx0
import Derived.Test.YtkchnocliilapaaQx2
import Derived.Test.YtkchnocliilapaaHSplit
import Derived.Lib.Strings
namespace Go.Proofs.Ytkchnocliilapaa.Q
open Go.RowKit Go.Proofs.YtkchnocliilapaaW.PrintWords Go.Proofs.YtkchnocliilapaaW.PrintLast Go.Proofs.YtkchnocliilapaaW.PrintMore
attribute [local go_sem] max2_int min2_int max_two min_two max_three min_three max_four min_four   -- for this text's walks alone
set_option linter.unusedVariables false
set_option linter.unusedSimpArgs false

theorem ev_now {α : Type} {g : Nat → Option α} {r : α} (h : ∀ k, g (k + 1) = some r) : Ev g r := ⟨1, fun n hn => by obtain ⟨m, rfl⟩ : ∃ m, n = m + 1 := ⟨n - 1, by omega⟩; exact h m⟩
theorem w64_id {x : Int} (h0 : -9223372036854775808 ≤ x) (h1 : x < 9223372036854775808) : wrap64 x = x := by unfold wrap64; omega
theorem bt_bytes (s : ByteArray) (i : Nat) (h : i < s.size) : ∃ hl : i < (bytesOf s).length, bt s (i : Int) = (bytesOf s)[i] := by
  refine ⟨by rw [bytesOf_length]; exact h, ?_⟩
  unfold bt bytesOf
  rw [dif_pos (by simpa using h)]
  simp
  rfl
theorem refNumber (s : ByteArray) (at_ n : Nat) (hs : s.size < 1000000000000) (han : at_ + n ≤ s.size) (hn : n ≤ 4) : ∀ (d i : Nat), i + d = n → Ev (fun k => stencilref24_number.l0 k s (at_ : Int) (n : Int) (numL ((((bytesOf s).drop at_).take n).take i)) (i : Int)) (numL (((bytesOf s).drop at_).take n))
  | 0, i, hi => by
    refine ev_now (g := fun k => stencilref24_number.l0 k s (at_ : Int) (n : Int) (numL ((((bytesOf s).drop at_).take n).take i)) (i : Int)) fun k => ?_
    rw [stencilref24_number.l0, if_neg (by omega), List.take_of_length_le (by rw [List.length_take]; omega)]
  | d + 1, i, hi => by
    have ih := refNumber s at_ n hs han hn d (i + 1) (by omega)
    obtain ⟨hl, hb⟩ := bt_bytes s (at_ + i) (by omega)
    have hlen : (((bytesOf s).drop at_).take n).length = n := by rw [List.length_take, List.length_drop, bytesOf_length]; omega
    have hil : i < (((bytesOf s).drop at_).take n).length := by omega
    have hg : (((bytesOf s).drop at_).take n)[i] = (bytesOf s)[at_ + i] := by simp
    have hx := numL_bound i ((((bytesOf s).drop at_).take n).take i) (by rw [List.length_take]; omega) (fun b hb => bytesOf_range s b (List.mem_of_mem_drop (List.mem_of_mem_take (List.mem_of_mem_take hb))))
    have hv := bytesOf_range s _ (List.getElem_mem hl)
    have hp : (256 : Int) ^ i ≤ 16777216 := by
      have : i = 0 ∨ i = 1 ∨ i = 2 ∨ i = 3 := by omega
      rcases this with h | h | h | h <;> subst h <;> decide
    rw [List.take_succ_eq_append_getElem hil, numL_snoc, hg] at ih
    generalize numL ((((bytesOf s).drop at_).take n).take i) = x at *
    generalize (bytesOf s)[at_ + i] = y at *
    have c1 : (i : Int) < (n : Int) := by omega
    have c2 : 0 ≤ ((at_ + i : Nat) : Int) := by omega
    have c3 : ((at_ + i : Nat) : Int) < (s.size : Int) := by omega
    have c4 : 0 ≤ x ∧ x < 16777216 := by omega
    have d0 : (at_ : Int) + (i : Int) < 9223372036854775808 := by omega
    have d4 : (i : Int) + 1 < 9223372036854775808 := by omega
    have w0 : wrap64 ((at_ : Int) + (i : Int)) = ((at_ + i : Nat) : Int) := w64_id (by omega) d0
    have w1 : wrap64 (x * 256) = x * 256 := w64_id (by omega) (by omega)
    have w2 : wrap64 y = y := w64_id (by omega) (by omega)
    have w3 : wrap64 (x * 256 + y) = x * 256 + y := w64_id (by omega) (by omega)
    have w4 : wrap64 ((i : Int) + 1) = ((i + 1 : Nat) : Int) := w64_id (by omega) d4
    refine Ev.step (fun k => ?_) ih
    rw [stencilref24_number.l0, if_pos c1, w0, if_pos c2, if_pos c3, hb, w1, w2, w3, w4]
theorem refNumber_f (s : ByteArray) (at_ n : Nat) (hs : s.size < 1000000000000) (han : at_ + n ≤ s.size) (hn : n ≤ 4) : Ev (fun k => stencilref24_number.f k s (at_ : Int) (n : Int)) (numL (((bytesOf s).drop at_).take n)) := by
  have := refNumber s at_ n hs han hn n 0 (by omega)
  simpa [stencilref24_number.f, numL] using this
theorem refKnown_f (x : Int) : stencilref24_known.f x = some (x == 23520 || x == 60240) := by
  unfold stencilref24_known.f
  by_cases h : x = 23520
  · rw [if_pos h, h]; rfl
  · rw [if_neg h]; simp [h]
theorem str_extract (s : ByteArray) (at_ n : Nat) (hn : 6 ≤ n) (han : at_ + n ≤ s.size) : strOfNums ((((bytesOf s).drop at_).take n).drop 6) = s.extract (at_ + 6) (at_ + n) := by
  have h1 : (((bytesOf s).drop at_).take n).drop 6 = ((s.data.toList.drop (at_ + 6)).take (n - 6)).map fun b => (b.toNat : Int) := by
    unfold bytesOf
    rw [← List.map_drop, ← List.map_take, ← List.map_drop, List.drop_take, List.drop_drop]
  rw [h1]
  have h2 := Lib.extract_data s (at_ + 6) (at_ + n)
  have h3 : at_ + n - (at_ + 6) = n - 6 := by omega
  rw [h3] at h2
  rw [← h2]
  apply ByteArray.ext
  unfold strOfNums
  apply Array.ext'
  have hid : ((fun n : Int => UInt8.ofNat n.toNat) ∘ fun b : UInt8 => (b.toNat : Int)) = id := by funext b; simp
  simp [hid]

theorem drop_take_take (s : ByteArray) (at_ : Nat) : ((((bytesOf s).drop at_).take 6).drop 4) = ((bytesOf s).drop (at_ + 4)).take 2 := by
  rw [List.drop_take, List.drop_drop]
theorem refSplit_loop (lim : Int) (s : ByteArray) (hs : s.size < 1000000000000) : ∀ (f at_ : Nat) (acc : List S23), at_ ≤ s.size → s.size - at_ ≤ f → acc.length ≤ at_ →
    Ev (fun k => stencilref24_Split.l0 k lim s acc (at_ : Int)) ((parcelsF lim f ((bytesOf s).drop at_) acc).1, (s.size : Int) - (parcelsF lim f ((bytesOf s).drop at_) acc).2.length, verdictF lim (parcelsF lim f ((bytesOf s).drop at_) acc).2) := by
  intro f
  induction f with
  | zero =>
    intro at_ acc h1 h2 h3
    have hnil : (bytesOf s).drop at_ = [] := List.drop_eq_nil_of_le (by rw [bytesOf_length]; omega)
    refine ev_now (g := fun k => stencilref24_Split.l0 k lim s acc (at_ : Int)) fun k => ?_
    have c1 : (s.size : Int) - (at_ : Int) < 4 := by omega
    have e : (at_ : Int) = (s.size : Int) := by omega
    have w1 : wrap64 ((s.size : Int) - (at_ : Int)) = (s.size : Int) - (at_ : Int) := w64_id (by omega) (by omega)
    rw [stencilref24_Split.l0, w1, if_pos c1, parcelsF, hnil]
    simp [verdictF, lookF, e]
  | succ f ih =>
    intro at_ acc h1 h2 h3
    have hbl : ((bytesOf s).drop at_).length = s.size - at_ := by rw [List.length_drop, bytesOf_length]
    have w1 : wrap64 ((s.size : Int) - (at_ : Int)) = (s.size : Int) - (at_ : Int) := w64_id (by omega) (by omega)
    rw [parcelsF]
    by_cases c1 : (s.size : Int) - (at_ : Int) < 4
    · have hk : lookF lim ((bytesOf s).drop at_) = 0 := by unfold lookF; rw [if_pos (by rw [hbl]; omega)]
      rw [if_neg (by rw [hk]; decide)]
      refine ev_now (g := fun k => stencilref24_Split.l0 k lim s acc (at_ : Int)) fun k => ?_
      have e : (s.size : Int) - ((s.size - at_ : Nat) : Int) = (at_ : Int) := by omega
      rw [stencilref24_Split.l0, w1, if_pos c1]
      simp [verdictF, hk, hbl, e]
    · have hn4 := refNumber_f s at_ 4 hs (by omega) (by omega)
      have d4 : ¬ ((bytesOf s).drop at_).length < 4 := by rw [hbl]; omega
      have e : (s.size : Int) - ((s.size - at_ : Nat) : Int) = (at_ : Int) := by omega
      generalize hn : numL (((bytesOf s).drop at_).take 4) = n at *
      have hnb := numL_bound 4 (((bytesOf s).drop at_).take 4) (by rw [List.length_take, hbl]; omega) (fun b hb => bytesOf_range s b (List.mem_of_mem_drop (List.mem_of_mem_take hb)))
      rw [hn] at hnb
      have hp : (256 : Int) ^ 4 = 4294967296 := by decide
      rw [hp] at hnb
      -- the first look
      have st : ∀ r, Ev (fun k => stencilref24_Split.j1 k lim s acc (at_ : Int) ((s.size : Int) - (at_ : Int)) n (decide (n < 6 ∨ n > lim))) r → Ev (fun k => stencilref24_Split.l0 k lim s acc (at_ : Int)) r := by
        intro r hr
        refine Ev.step (f := fun k => (stencilref24_number.f k s (at_ : Int) 4).bind fun t => if t < 6 then stencilref24_Split.j1 k lim s acc (at_ : Int) ((s.size : Int) - (at_ : Int)) t true else stencilref24_Split.j1 k lim s acc (at_ : Int) ((s.size : Int) - (at_ : Int)) t (decide (t > lim))) (fun k => ?_) (Ev.bind hn4 (Ev.congr (fun k => ?_) hr))
        · rw [stencilref24_Split.l0, w1, if_neg c1]
        · by_cases q : n < 6
          · rw [if_pos q, decide_eq_true (Or.inl q)]
          · rw [if_neg q]
            congr 1
            rw [decide_eq_decide]
            omega
      by_cases c2 : n < 6 ∨ n > lim
      · have hk : lookF lim ((bytesOf s).drop at_) = 2 := by unfold lookF; rw [if_neg d4, hn, if_pos (by omega)]
        rw [if_neg (by rw [hk]; decide)]
        refine st _ ?_
        rw [decide_eq_true c2]
        refine ev_now (g := fun k => stencilref24_Split.j1 k lim s acc (at_ : Int) ((s.size : Int) - (at_ : Int)) n true) fun k => ?_
        rw [stencilref24_Split.j1, if_pos rfl]
        simp [verdictF, hk, hbl, e]
      · rw [decide_eq_false c2] at st
        by_cases c3 : (s.size : Int) - (at_ : Int) < 6
        · have hk : lookF lim ((bytesOf s).drop at_) = 0 := by unfold lookF; rw [if_neg d4, hn, if_neg (by omega), if_pos (by rw [hbl]; omega)]
          rw [if_neg (by rw [hk]; decide)]
          refine st _ (ev_now (g := fun k => stencilref24_Split.j1 k lim s acc (at_ : Int) ((s.size : Int) - (at_ : Int)) n false) fun k => ?_)
          rw [stencilref24_Split.j1, if_neg (by simp), if_pos c3]
          simp [verdictF, hk, hbl, e]
        · have hn2 := refNumber_f s (at_ + 4) 2 hs (by omega) (by omega)
          have hd6 : ¬ ((bytesOf s).drop at_).length < 6 := by rw [hbl]; omega
          have ht : numL ((((bytesOf s).drop at_).take 6).drop 4) = numL (((bytesOf s).drop (at_ + 4)).take 2) := by rw [drop_take_take]
          have w4 : wrap64 ((at_ : Int) + 4) = ((at_ + 4 : Nat) : Int) := w64_id (by omega) (by omega)
          have hl0 : lookF lim ((bytesOf s).drop at_) = if (numL (((bytesOf s).drop (at_ + 4)).take 2) == 23520 || numL (((bytesOf s).drop (at_ + 4)).take 2) == 60240) = true then (if (((bytesOf s).drop at_).length : Int) < n then 0 else 1) else 3 := by
            unfold lookF; rw [if_neg d4, hn, if_neg (by omega), if_neg hd6, ht]
          generalize numL (((bytesOf s).drop (at_ + 4)).take 2) = t at *
          have st2 : ∀ r, Ev (fun k => if (t == 23520 || t == 60240) = true then (if (s.size : Int) - (at_ : Int) < n then some (acc, (at_ : Int), 0) else if 0 ≤ wrap64 ((at_ : Int) + 6) then if wrap64 ((at_ : Int) + 6) ≤ wrap64 ((at_ : Int) + n) then if wrap64 ((at_ : Int) + n) ≤ (s.size : Int) then if acc.length < 5864062014805 then stencilref24_Split.l0 k lim s (acc ++ [⟨t, s.extract (wrap64 ((at_ : Int) + 6)).toNat (wrap64 ((at_ : Int) + n)).toNat⟩]) (wrap64 ((at_ : Int) + n)) else none else none else none else none) else some (acc, (at_ : Int), 241)) r → Ev (fun k => stencilref24_Split.l0 k lim s acc (at_ : Int)) r := by
            intro r hr
            refine st r (Ev.step (f := fun k => (stencilref24_number.f k s ((at_ + 4 : Nat) : Int) 2).bind fun t' => (stencilref24_known.f t').bind fun b => if b = true then (if (s.size : Int) - (at_ : Int) < n then some (acc, (at_ : Int), 0) else if 0 ≤ wrap64 ((at_ : Int) + 6) then if wrap64 ((at_ : Int) + 6) ≤ wrap64 ((at_ : Int) + n) then if wrap64 ((at_ : Int) + n) ≤ (s.size : Int) then if acc.length < 5864062014805 then stencilref24_Split.l0 k lim s (acc ++ [⟨t', s.extract (wrap64 ((at_ : Int) + 6)).toNat (wrap64 ((at_ : Int) + n)).toNat⟩]) (wrap64 ((at_ : Int) + n)) else none else none else none else none) else some (acc, (at_ : Int), 241)) (fun k => ?_) (Ev.bind hn2 (Ev.congr (fun k => ?_) hr)))
            · rw [stencilref24_Split.j1, if_neg (by simp), if_neg c3, w4]
            · rw [refKnown_f]; rfl
          cases hb : (t == 23520 || t == 60240) with
          | false =>
            rw [hb] at st2 hl0
            rw [if_neg (by simp)] at hl0
            rw [if_neg (by rw [hl0]; decide)]
            refine st2 _ (Ev.congr (fun k => if_neg (by simp)) ?_)
            have : (acc, (s.size : Int) - (((bytesOf s).drop at_).length : Int), verdictF lim ((bytesOf s).drop at_)) = (acc, (at_ : Int), 241) := by simp [verdictF, hl0, hbl, e]
            rw [this]
            exact Ev.now _
          | true =>
            rw [hb] at st2 hl0
            rw [if_pos rfl, hbl] at hl0
            by_cases c4 : (s.size : Int) - (at_ : Int) < n
            · rw [if_pos (by omega)] at hl0
              rw [if_neg (by rw [hl0]; decide)]
              refine st2 _ (Ev.congr (fun k => by rw [if_pos rfl, if_pos c4]) ?_)
              have : (acc, (s.size : Int) - (((bytesOf s).drop at_).length : Int), verdictF lim ((bytesOf s).drop at_)) = (acc, (at_ : Int), 0) := by simp [verdictF, hl0, hbl, e]
              rw [this]
              exact Ev.now _
            · rw [if_neg (by omega)] at hl0
              rw [if_pos hl0]
              obtain ⟨m, rfl⟩ := Int.eq_ofNat_of_zero_le hnb.1
              clear w1 w4
              have p6 : (at_ : Int) + 6 < 9223372036854775808 := by omega
              have p7 : (at_ : Int) + (m : Int) < 9223372036854775808 := by omega
              have w6 : wrap64 ((at_ : Int) + 6) = ((at_ + 6 : Nat) : Int) := w64_id (by omega) p6
              have w7 : wrap64 ((at_ : Int) + (m : Int)) = ((at_ + m : Nat) : Int) := w64_id (by clear w6; omega) p7
              have b1 : 6 ≤ m := by clear w6 w7; omega
              have b2 : at_ + m ≤ s.size := by clear w6 w7; omega
              have b3 : (0 : Int) ≤ ((at_ + 6 : Nat) : Int) := by clear w6 w7; omega
              have b4 : ((at_ + 6 : Nat) : Int) ≤ ((at_ + m : Nat) : Int) := by clear w6 w7; omega
              have b5 : ((at_ + m : Nat) : Int) ≤ (s.size : Int) := by clear w6 w7; omega
              have b6 : acc.length < 5864062014805 := by clear w6 w7; omega
              have b7 : s.size - (at_ + m) ≤ f := by clear w6 w7; omega
              have b8 : (acc ++ [(⟨t, s.extract (at_ + 6) (at_ + m)⟩ : S23)]).length ≤ at_ + m := by clear w6 w7; simp; omega
              have ih' := ih (at_ + m) (acc ++ [⟨t, s.extract (at_ + 6) (at_ + m)⟩]) b2 b7 b8
              rw [ht, Int.toNat_natCast, List.drop_drop, str_extract s at_ m b1 b2]
              refine st2 _ (Ev.congr (fun k => ?_) ih')
              rw [if_pos rfl, if_neg c4, w6, w7, if_pos b3, if_pos b4, if_pos b5, if_pos b6, Int.toNat_natCast, Int.toNat_natCast]

theorem refSplit (lim : Int) (s : ByteArray) (hs : s.size < 1000000000000) : ∃ k, stencilref24_Split.f k lim s = some ((parcelsF lim s.size (bytesOf s) []).1, (s.size : Int) - (parcelsF lim s.size (bytesOf s) []).2.length, verdictF lim (parcelsF lim s.size (bytesOf s) []).2) := by
  have := (refSplit_loop lim s hs s.size 0 [] (Nat.zero_le _) (by omega) (Nat.zero_le _)).rounds
  simpa [stencilref24_Split.f] using this

end Go.Proofs.Ytkchnocliilapaa.Q
