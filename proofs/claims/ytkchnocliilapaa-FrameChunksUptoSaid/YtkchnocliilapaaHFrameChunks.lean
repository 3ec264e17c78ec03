/- The walk of FrameChunks (layer 24), by hand; written by gen_chunks.py. -/
import Derived.Test.YtkchnocliilapaaQx0
import Derived.Test.YtkchnocliilapaaQx2
import Derived.Test.YtkchnocliilapaaQx4
import Derived.Test.YtkchnocliilapaaHStreamP
import Derived.Test.YtkchnocliilapaaHChunks
import Derived.Test.YtkchnocliilapaaHKeepLaw
import Derived.IntWalk
import Derived.Laws.Small
namespace Go.Proofs.Ytkchnocliilapaa.Q
open Go.RowKit Go.Proofs.YtkchnocliilapaaW.PrintWords Go.Proofs.YtkchnocliilapaaW.PrintLast Go.Proofs.YtkchnocliilapaaW.PrintMore
attribute [local go_sem] max2_int min2_int max_two min_two max_three min_three max_four min_four   -- for this text's walks alone
set_option linter.unusedVariables false
set_option linter.unusedSimpArgs false

theorem streamB_nil : streamB [] = [] := rfl
theorem rounds_cut (l : List S23) (j fed n : Nat) (hg : ∀ p ∈ l, GoodP p) (hE : (streamB (l.take j)).length ≤ fed) :
    (streamB (l.drop j)).take (fed - (streamB (l.take j)).length) ++ bytesOf ((strOfNums (streamB l)).extract fed (fed + n)) = (streamB (l.drop j)).take (fed - (streamB (l.take j)).length + n) := by
  have hs : streamB l = streamB (l.take j) ++ streamB (l.drop j) := by rw [← streamB_app, List.take_append_drop]
  have hr := streamB_range l hg
  have h1 : (streamB l).drop fed = (streamB (l.drop j)).drop (fed - (streamB (l.take j)).length) := by
    conv => lhs; rw [hs]
    rw [List.drop_append, List.drop_of_length_le hE, List.nil_append]
  rw [strOf_cut, bytes_strOf _ (fun b hb => hr b (List.mem_of_mem_drop (List.mem_of_mem_take hb))), show fed + n - fed = n by omega, h1, ← List.take_add]
/-- A round of a stream that is cut anywhere. -/
theorem chunk_round (lim : Int) (l : List S23) (j fed n : Nat) (hl : ∀ p ∈ l, GoodP p ∧ (p.f1.size : Int) + 6 ≤ lim) (hj : j ≤ l.length) (hE : (streamB (l.take j)).length ≤ fed) (hT : fed + n ≤ (streamB l).length) (h0 : cntF (l.drop j) (fed - (streamB (l.take j)).length) = 0) (bs : List Int) (hbs : (streamB (l.drop j)).take (fed - (streamB (l.take j)).length) = bs) (X : ByteArray) (hX : (strOfNums (streamB l)).extract fed (fed + n) = X) :
    ∃ c2, j + c2 ≤ l.length ∧ (streamB (l.take (j + c2))).length ≤ fed + n ∧ cntF (l.drop (j + c2)) (fed + n - (streamB (l.take (j + c2))).length) = 0 ∧ feedL lim (bs ++ bytesOf X) = (l.drop j).take c2 ∧ feedE lim (bs ++ bytesOf X) = 0 ∧ feedB lim (bs ++ bytesOf X) = (streamB (l.drop (j + c2))).take (fed + n - (streamB (l.take (j + c2))).length) ∧ bs.length = fed - (streamB (l.take j)).length ∧ X.size = n ∧ (∀ b ∈ bs, 0 ≤ b ∧ b < 256) ∧ ((n : Int) < needF 0 bs → c2 = 0) := by
  have hg : ∀ p ∈ l, GoodP p := fun p hp => (hl p hp).1
  have hcut := rounds_cut l j fed n hg hE
  rw [hbs, hX] at hcut
  have hs : streamB l = streamB (l.take j) ++ streamB (l.drop j) := by rw [← streamB_app, List.take_append_drop]
  have hlen := congrArg List.length hs
  rw [List.length_append] at hlen
  obtain ⟨d, hd⟩ : ∃ d, d = fed - (streamB (l.take j)).length := ⟨_, rfl⟩
  rw [← hd] at h0 hbs hcut
  have hm : d + n ≤ (streamB (l.drop j)).length := by omega
  have hv := chunk_val lim (l.drop j) (d + n) (fun p hp => hl p (List.mem_of_mem_drop hp)) hm (cntF_six _ _)
  have hle := cntF_le (l.drop j) (d + n)
  have hfit := cntF_fits (l.drop j) (d + n)
  have hrest := cntF_rest (l.drop j) (d + n)
  obtain ⟨c2, hc2⟩ : ∃ c, c = cntF (l.drop j) (d + n) := ⟨_, rfl⟩
  rw [← hc2] at hv hle hfit hrest
  have htk : l.take (j + c2) = l.take j ++ (l.drop j).take c2 := List.take_add
  have hst : (streamB (l.take (j + c2))).length = (streamB (l.take j)).length + (streamB ((l.drop j).take c2)).length := by rw [htk, streamB_app, List.length_append]
  rw [List.length_drop] at hle
  have hdd : (l.drop j).drop c2 = l.drop (j + c2) := by rw [List.drop_drop]
  have hsub : fed + n - (streamB (l.take (j + c2))).length = d + n - (streamB ((l.drop j).take c2)).length := by omega
  rw [hdd] at hv hrest
  refine ⟨c2, by omega, by omega, by rw [hsub]; exact hrest, by rw [hcut]; exact hv.1, by rw [hcut]; exact hv.2.1, by rw [hcut, hsub]; exact hv.2.2, ?_, ?_, ?_, ?_⟩
  · rw [← hbs, List.length_take]; omega
  · rw [← hX, ByteArray.size_extract, strOf_size]; omega
  · intro b hb; rw [← hbs] at hb; exact streamB_range _ (fun p hp => hg p (List.mem_of_mem_drop hp)) b (List.mem_of_mem_take hb)
  · intro h; rw [← hbs] at h; rw [hc2]; exact need_none (l.drop j) d n (fun p hp => hg p (List.mem_of_mem_drop hp)) h0 hm h
theorem rdT_get (l : List S23) (i : Nat) (hi : i < l.length) : rd_T23 l (i : Int) = l[i] := by simp [rd_T23, List.getD_eq_getElem?_getD, List.getElem?_eq_getElem hi]
theorem next_none (l : List S23) (q d : Nat) (hq : q < l.length) (h : cntF (l.drop q) d = 0) : d < (rd_T23 l (q : Int)).f1.size + 6 := by
  rw [rdT_get l q hq]
  rw [List.drop_eq_getElem_cons hq, cntF] at h
  split at h
  · cases h
  · rename_i c; unfold frL at c; omega
theorem ends_next (l : List S23) (q : Nat) (hq : q < l.length) : (streamB (l.take (q + 1))).length = (streamB (l.take q)).length + 6 + (rd_T23 l (q : Int)).f1.size := by
  rw [rdT_get l q hq, List.take_succ_eq_append_getElem hq, streamB_app, List.length_append, streamB_cons, List.length_append, frB_len]
  simp [streamB]; omega
theorem all_out (l : List S23) (j : Nat) (hj : j ≤ l.length) (h : cntF (l.drop j) ((streamB l).length - (streamB (l.take j)).length) = 0) : j = l.length := by
  by_cases c : j < l.length
  · have h1 := next_none l j _ c h
    have h2 := ends_next l j c
    have hs : streamB l = streamB (l.take (j + 1)) ++ streamB (l.drop (j + 1)) := by rw [← streamB_app, List.take_append_drop]
    have hlen := congrArg List.length hs
    rw [List.length_append] at hlen
    omega
  · omega
theorem first_of (l : List S23) (lim : Int) : (∃ p ∈ l, (p.f1.size : Int) + 6 = lim) → ∃ u p v, l = u ++ p :: v ∧ (p.f1.size : Int) + 6 = lim ∧ ∀ q ∈ u, (q.f1.size : Int) + 6 ≠ lim := by
  induction l with
  | nil => rintro ⟨p, hp, _⟩; cases hp
  | cons a l ih =>
    rintro ⟨p, hp, h⟩
    by_cases c : (a.f1.size : Int) + 6 = lim
    · exact ⟨[], a, l, rfl, c, fun q hq => by cases hq⟩
    · rcases List.mem_cons.1 hp with rfl | hp
      · exact absurd h c
      · obtain ⟨u, p, v, h1, h2, h3⟩ := ih ⟨p, hp, h⟩
        exact ⟨a :: u, p, v, by rw [h1]; rfl, h2, fun q hq => by
          rcases List.mem_cons.1 hq with rfl | hq
          · exact c
          · exact h3 q hq⟩
/-- What Split tells with a limit that is one too low. -/
theorem short_all (lim : Int) (l : List S23) (hlim : lim = longest l) (hl : ∀ p ∈ l, GoodP p ∧ (p.f1.size : Int) + 6 ≤ lim) (n : Nat) (hn : l.length ≤ n) :
    ∃ U R, parcelsF (lim - 1) n (streamB l) [] = (U, R) ∧ U.length ≤ l.length ∧ (∀ k : Nat, k < U.length → rd_T23 U (k : Int) = rd_T23 l (k : Int) ∧ ((rd_T23 l (k : Int)).f1.size : Int) + 6 ≤ lim - 1) ∧ (l = [] → verdictF (lim - 1) R = 0 ∧ R = []) ∧ (l ≠ [] → verdictF (lim - 1) R = 240 ∧ U.length < l.length ∧ ((rd_T23 l (U.length : Int)).f1.size : Int) + 6 = lim) := by
  by_cases c : l = []
  · subst c
    refine ⟨[], [], ?_, Nat.le_refl _, fun k hk => absurd hk (Nat.not_lt_zero _), fun _ => ⟨rfl, rfl⟩, fun h => absurd rfl h⟩
    have := parcelsF_all (lim - 1) [] [] (fun p hp => by cases hp) (by rw [look_nil]; decide) n (Nat.zero_le _)
    rwa [List.append_nil] at this
  · have hex : ∃ p ∈ l, (p.f1.size : Int) + 6 = lim := by
      rcases longest_at l 6 with h | ⟨p, hp, h⟩
      · obtain ⟨p, r, rfl⟩ := List.exists_cons_of_ne_nil c
        refine ⟨p, by simp, ?_⟩
        have h2 := (hl p (by simp)).2
        unfold longest at hlim
        rw [h] at hlim
        omega
      · exact ⟨p, hp, by rw [hlim]; exact h⟩
    obtain ⟨u, p, v, rfl, h2, h3⟩ := first_of l lim hex
    have hk := split_short lim u p v (fun q hq => ⟨(hl q (by simp [hq])).1, by have := (hl q (by simp [hq])).2; have := h3 q hq; omega⟩) (hl p (by simp)).1 h2 n (by rw [List.length_append] at hn; omega)
    refine ⟨u, _, hk.1, by simp, ?_, fun h => absurd h c, fun _ => ⟨hk.2, by simp, ?_⟩⟩
    · intro k hku
      have h4 : k < (u ++ p :: v).length := by rw [List.length_append]; omega
      rw [rdT_get u k hku, rdT_get _ k h4, List.getElem_append_left hku]
      have hm := List.getElem_mem hku
      have := (hl u[k] (by simp [hm])).2
      have := h3 _ hm
      exact ⟨rfl, by omega⟩
    · rw [rdT_get _ u.length (by simp), List.getElem_append_right (Nat.le_refl _)]
      simpa using h2
/-- All that a round of the stream's cuts needs. -/
theorem round_facts (lim : Int) (l : List S23) (s : ByteArray) (T j fed n k1 : Nat) (bs : List Int) (hl : ∀ p ∈ l, GoodP p ∧ (p.f1.size : Int) + 6 ≤ lim) (hsv : s = strOfNums (streamB l)) (hT : T = (streamB l).length) (hsz : s.size = T) (hsl : 6 * l.length ≤ T ∧ T ≤ 306 * l.length) (hll : l.length ≤ 40) (hI : j ≤ l.length ∧ fed ≤ T ∧ k1 ≤ k1 ∧ (streamB (l.take j)).length ≤ fed ∧ cntF (l.drop j) (fed - (streamB (l.take j)).length) = 0) (hbs : (streamB (l.drop j)).take (fed - (streamB (l.take j)).length) = bs) (hn : fed + n ≤ T) :
    ∃ (m c2 e2 : Nat) (X : ByteArray) (nd h0 h9 : Int) (L2 : List S23) (P : List Int), (wrap64 ((fed : Int) + (n : Int)) = (m : Int) ∧ s.extract fed m = X ∧ ((fed ≤ m) = True) ∧ ((m ≤ s.size) = True) ∧ (((fed : Int) ≤ (m : Int)) = True) ∧ (((m : Int) ≤ (s.size : Int)) = True)) ∧ ((needF 0 bs = nd ∧ (bs.length : Int) = h0 ∧ (P.length : Int) = h9) ∧ (feedL lim (bs ++ bytesOf X) = L2 ∧ feedE lim (bs ++ bytesOf X) = 0 ∧ feedB lim (bs ++ bytesOf X) = P) ∧ (∀ b ∈ bs, 0 ≤ b ∧ b < 256) ∧ bs.length + X.size ≤ 140737488355328 ∧ L2.length < 1000000000000) ∧ ((n : Int) < nd → L2 = [] ∧ wrap64 (h0 + (n : Int)) = h9) ∧ (j + c2 ≤ l.length ∧ e2 ≤ m ∧ m ≤ T ∧ L2.length = c2 ∧ m = fed + n ∧ e2 = (streamB (l.take (j + c2))).length ∧ cntF (l.drop (j + c2)) (m - e2) = 0 ∧ P = (streamB (l.drop (j + c2))).take (m - e2) ∧ ((m - e2 : Nat) : Int) = h9 ∧ L2 = (l.drop j).take c2) := by
  obtain ⟨c2, hj2, he2, hc2, hL2, hE2, hP2, hbl, hxz, hbr, hn2⟩ := chunk_round lim l j fed n hl hI.1 hI.2.2.2.1 (by omega) hI.2.2.2.2 bs hbs (s.extract fed (fed + n)) (by rw [hsv])
  have hl2 : ((l.drop j).take c2).length = c2 := by rw [List.length_take, List.length_drop]; omega
  have hpl : (((streamB (l.drop (j + c2))).take (fed + n - (streamB (l.take (j + c2))).length)).length : Int) = ((fed + n - (streamB (l.take (j + c2))).length : Nat) : Int) := by
    rw [List.length_take]
    have hs : streamB l = streamB (l.take (j + c2)) ++ streamB (l.drop (j + c2)) := by rw [← streamB_app, List.take_append_drop]
    have hlen := congrArg List.length hs
    rw [List.length_append] at hlen
    omega
  refine ⟨fed + n, c2, (streamB (l.take (j + c2))).length, s.extract fed (fed + n), needF 0 bs, bs.length, ((fed + n - (streamB (l.take (j + c2))).length : Nat) : Int), _, _, ⟨?_, rfl, eq_true (by omega), eq_true (by omega), eq_true (by omega), eq_true (by omega)⟩, ⟨⟨rfl, rfl, hpl⟩, ⟨hL2, hE2, hP2⟩, hbr, by rw [hbl, hxz]; omega, by rw [hl2]; omega⟩, ?_, hj2, he2, hn, hl2, rfl, rfl, hc2, rfl, rfl, rfl⟩
  · rw [w64f (by omega) (by omega)]; rfl
  · intro h
    have hc := hn2 h
    refine ⟨List.eq_nil_of_length_eq_zero (by rw [hl2]; exact hc), ?_⟩
    rw [hbl, hc, Nat.add_zero, w64f (by omega) (by omega)]
    omega
theorem inner_facts (l L2 : List S23) (j c2 k T m e2 : Nat) (x10 x12 x20 : Int) (hK : x20 = (k : Int) ∧ x10 = (j : Int) + (k : Int) ∧ x12 = ((streamB (l.take (j + k))).length : Int) ∧ k ≤ c2) (hk : k < c2) (h1 : j + c2 ≤ l.length) (h2 : L2.length = c2) (h3 : L2 = (l.drop j).take c2) (h4 : e2 = (streamB (l.take (j + c2))).length) (h5 : e2 ≤ m) (h6 : m ≤ T) (hT : T ≤ 306 * l.length) (hll : l.length ≤ 40) :
    ∃ (p : S23) (y1 y2 y10 y20 : Int), (0 ≤ x20 ∧ x20 < (L2.length : Int) ∧ 0 ≤ x10 ∧ x10 < (l.length : Int)) ∧ (rd_T23 L2 x20 = p ∧ rd_T23 l x10 = p) ∧ (wrap64 (x12 + 6) = y1 ∧ wrap64 (y1 + (p.f1.size : Int)) = y2 ∧ wrap64 (x10 + 1) = y10 ∧ wrap64 (x20 + 1) = y20) ∧ (y20 = ((k + 1 : Nat) : Int) ∧ y10 = (j : Int) + ((k + 1 : Nat) : Int) ∧ y2 = ((streamB (l.take (j + (k + 1)))).length : Int) ∧ k + 1 ≤ c2) := by
  obtain ⟨rfl, e10, e12, _⟩ := hK
  have e10' : x10 = ((j + k : Nat) : Int) := by rw [e10]; rfl
  have hn := ends_next l (j + k) (by omega)
  have hmono : (streamB (l.take (j + (k + 1)))).length ≤ (streamB (l.take (j + c2))).length := by
    have : l.take (j + c2) = l.take (j + (k + 1)) ++ (l.drop (j + (k + 1))).take (c2 - (k + 1)) := by rw [← List.take_add]; congr 1; omega
    rw [this, streamB_app, List.length_append]
    omega
  rw [show j + k + 1 = j + (k + 1) by omega, ← e10'] at hn
  have hp : rd_T23 l x10 = l[j + k]'(by omega) := (congrArg (rd_T23 l) e10').trans (rdT_get l (j + k) (by omega))
  have hp2 : rd_T23 L2 (k : Int) = L2[k]'(by omega) := rdT_get L2 k (by omega)
  refine ⟨rd_T23 l x10, x12 + 6, x12 + 6 + ((rd_T23 l x10).f1.size : Int), x10 + 1, (k : Int) + 1, ⟨by omega, by omega, by omega, by omega⟩, ⟨?_, rfl⟩, ⟨w64f ?_ ?_, w64f ?_ ?_, w64f ?_ ?_, w64f ?_ ?_⟩, rfl, ?_, ?_, hk⟩
  · rw [hp, hp2]
    simp only [h3, List.getElem_take, List.getElem_drop]
  all_goals clear hp hp2
  all_goals omega
theorem next_facts (l : List S23) (hg : ∀ p ∈ l, GoodP p ∧ (p.f1.size : Int) + 6 ≤ 306) (q e2 m : Nat) (x10 x12 : Int) (h1 : x10 = (q : Int)) (h2 : x12 = (e2 : Int)) (hq : x10 < (l.length : Int)) (h3 : e2 ≤ m) (h4 : m ≤ 1000000) (h : cntF (l.drop q) (m - e2) = 0) :
    ∃ y1 y2 : Int, wrap64 (x12 + 6) = y1 ∧ wrap64 (y1 + ((rd_T23 l x10).f1.size : Int)) = y2 ∧ decide (y2 ≤ (m : Int)) = false := by
  subst h1 h2
  have hn := next_none l q (m - e2) (by omega) h
  have hz : ((rd_T23 l (q : Int)).f1.size : Int) + 6 ≤ 306 := by rw [rdT_get l q (by omega)]; exact (hg _ (List.getElem_mem _)).2
  refine ⟨(e2 : Int) + 6, (e2 : Int) + 6 + ((rd_T23 l (q : Int)).f1.size : Int), w64f (by omega) (by omega), w64f (by omega) (by omega), decide_eq_false (by omega)⟩
theorem last_facts (e2 m : Nat) (x12 h9 : Int) (h2 : x12 = (e2 : Int)) (h3 : e2 ≤ m) (h4 : m ≤ 1000000) (h : ((m - e2 : Nat) : Int) = h9) : wrap64 ((m : Int) - x12) = h9 := by rw [h2, ← h, w64f (by omega) (by omega)]; omega
theorem meas_out (a i : Nat) (h : i ≤ a) (x : Int) (hx : x = ((i + 1 : Nat) : Int)) : a + 1 - (intOf (.int .i64 x)).toNat < a + 1 - (intOf (.int .i64 (i : Int))).toNat := by
  subst hx
  show a + 1 - (((i + 1 : Nat) : Int)).toNat < a + 1 - ((i : Int)).toNat
  omega
/-- Behind the last round all has come. -/
theorem exit_facts (lim : Int) (l : List S23) (s : ByteArray) (T j fed i n1 : Nat) (hlim : lim = longest l) (hl : ∀ p ∈ l, GoodP p ∧ (p.f1.size : Int) + 6 ≤ lim) (hsv : s = strOfNums (streamB l)) (hT : T = (streamB l).length) (hsz : s.size = T) (hsl : 6 * l.length ≤ T ∧ T ≤ 306 * l.length) (hll : l.length ≤ 40) (hI : j ≤ l.length ∧ fed ≤ T ∧ i ≤ n1 + 1 ∧ (streamB (l.take j)).length ≤ fed ∧ (i = n1 + 1 → fed = T) ∧ cntF (l.drop j) (fed - (streamB (l.take j)).length) = 0) (hi : ¬ i ≤ n1) :
    j = l.length ∧ (streamB (l.drop j)).take (fed - (streamB (l.take j)).length) = [] ∧ parcelsF lim s.size (bytesOf s) [] = (l, []) ∧ ∃ (U : List S23) (R : List Int) (wv av : Int), parcelsF (lim - 1) s.size (bytesOf s) [] = (U, R) ∧ verdictF (lim - 1) R = wv ∧ (s.size : Int) - R.length = av ∧ U.length ≤ l.length ∧ (∀ k : Nat, k < U.length → rd_T23 U (k : Int) = rd_T23 l (k : Int) ∧ ((rd_T23 l (k : Int)).f1.size : Int) + 6 ≤ lim - 1) ∧ (l = [] → wv = 0 ∧ av = 0) ∧ (l ≠ [] → wv = 240 ∧ U.length < l.length ∧ ((rd_T23 l (U.length : Int)).f1.size : Int) + 6 = lim) := by
  have hf : fed = T := hI.2.2.2.2.1 (by omega)
  have hj := all_out l j hI.1 (by rw [← hT, ← hf]; exact hI.2.2.2.2.2)
  have hb : bytesOf s = streamB l := by rw [hsv]; exact bytes_strOf _ (streamB_range l (fun p hp => (hl p hp).1))
  have hp := parcelsF_all lim l [] hl (by rw [look_nil]; decide) s.size (by omega)
  rw [List.append_nil, ← hb] at hp
  obtain ⟨U, R, h1, h2, h3, h4, h5⟩ := short_all lim l hlim hl s.size (by omega)
  rw [← hb] at h1
  refine ⟨hj, by rw [hj, List.drop_length]; simp [streamB], hp, U, R, _, _, h1, rfl, rfl, h2, h3, ?_, h5⟩
  intro e
  obtain ⟨h6, h7⟩ := h4 e
  refine ⟨h6, ?_⟩
  subst e
  rw [h7, hsz, hT]
  simp [streamB]
theorem short_facts (lim : Int) (l U : List S23) (hm : 6 ≤ lim ∧ lim ≤ 306) (k : Nat) (x : Int) (hx : x = (k : Int) ∧ k ≤ U.length) (hk : k < U.length) (hul : U.length ≤ l.length) (hll : l.length ≤ 40) (h : ∀ k : Nat, k < U.length → rd_T23 U (k : Int) = rd_T23 l (k : Int) ∧ ((rd_T23 l (k : Int)).f1.size : Int) + 6 ≤ lim - 1) :
    ∃ (p : S23) (y1 y2 : Int), (0 ≤ x ∧ x < (U.length : Int) ∧ x < (l.length : Int)) ∧ (rd_T23 U x = p ∧ rd_T23 l x = p) ∧ (wrap64 ((p.f1.size : Int) + 6) = y1 ∧ decide (lim - 1 < y1) = false ∧ wrap64 (x + 1) = y2) ∧ (y2 = ((k + 1 : Nat) : Int) ∧ k + 1 ≤ U.length) := by
  obtain ⟨rfl, _⟩ := hx
  obtain ⟨h1, h2⟩ := h k hk
  refine ⟨rd_T23 l (k : Int), ((rd_T23 l (k : Int)).f1.size : Int) + 6, (k : Int) + 1, ⟨by omega, by omega, by omega⟩, ⟨h1, rfl⟩, ⟨w64f (by omega) (by omega), decide_eq_false (by omega), w64f (by omega) (by omega)⟩, rfl, hk⟩
theorem meas_k (a k : Nat) (h : k < a) (x y : Int) (hx : x = ((k + 1 : Nat) : Int)) (hy : y = (k : Int)) : a + 1 - (intOf (.int .i64 x)).toNat < a + 1 - (intOf (.int .i64 y)).toNat := by
  subst hx hy
  show a + 1 - (((k + 1 : Nat) : Int)).toNat < a + 1 - ((k : Int)).toNat
  omega
theorem split_val (W : World) (lim want : Int) (S : ByteArray) (l : List S23) (R : List Int) (v : Int) (h1 : parcelsF lim S.size (bytesOf S) [] = (l, R)) (h2 : verdictF lim R = want) (h3 : (S.size : Int) - R.length = v) (hs : S.size < 1000000000000000) (hc : l.length < 1000000000000) :
    Calls Try.prog 7 #[.int .i64 lim, .string S] W fun e w' => ∃ v1, e = .returned (.tuple #[v1, .int .i64 v, .int .i64 want]) ∧ Kd.R k23 23 w' W.heap.size (fun _ => True) v1 l ∧ Below W.heap.size W w' := by
  have := frame_Split.calls W lim S hs (by rw [h1]; exact hc)
  rw [h1, h2, h3] at this
  exact this
theorem cntF_zero (r : List S23) : cntF r 0 = 0 := by have := cntF_six r 0; omega
def stencillaw24_FrameChunks.f (l0 : List S23) (l1 : List Int) : Option Bool := if l1.length ≤ 1000000000000 ∧ ∀ x ∈ l1, -9223372036854775808 ≤ x ∧ x ≤ 9223372036854775807 then some true else none
set_option maxHeartbeats 8000000 in
set_option maxRecDepth 100000 in
theorem stencillaw24_FrameChunks.calls (A0 : Option Addr) (c0 : Nat) (l0 : List S23) (A1 : Option Addr) (c1 : Nat) (l1 : List Int) (r : Bool) (w : World) (hr0 : Kd.C k23 w A0 l0.length l0) (hc0 : l0.length ≤ c0) (hr1 : Kd.C (Kd.int .i64) w A1 l1.length l1) (hc1 : l1.length ≤ c1) (h : stencillaw24_FrameChunks.f l0 l1 = some r) :
    Calls Try.prog 5 #[.slice A0 l0.length c0, .slice A1 l1.length c1] w fun e w' => e = .returned (.bool r) ∧ Below w.heap.size w w' := by
  unfold stencillaw24_FrameChunks.f at h
  split at h
  case isFalse => cases h
  rename_i hh
  obtain ⟨h1, h2⟩ := hh
  obtain rfl := Option.some.inj h
  clear h
  have H1 := Aside0.mk h1
  have H2 := Aside0.mk h2
  clear h1 h2
  have HR0 := Aside0.mk hr0
  have HC0 := Aside0.mk hc0
  have HR1 := Aside0.mk hr1
  clear hr0 hc0 hr1 hc1
  obtain ⟨kp, l, hp, hll, hg⟩ := parcels_some l0
  obtain ⟨ks, hs⟩ := stream_some l hll hg
  obtain ⟨lim, hlim⟩ : ∃ x, x = longest l := ⟨_, rfl⟩
  obtain ⟨s, hsv⟩ : ∃ x, x = strOfNums (streamB l) := ⟨_, rfl⟩
  rw [← hlim, ← hsv] at hs
  have HP := Aside0.mk hp
  have HS := Aside0.mk hs
  have hm1 : 6 ≤ lim := by rw [hlim]; exact (longest_ge l 6).1
  have hm2 : lim ≤ 306 := by rw [hlim]; exact longest_le l 6 (by decide) hg
  have HM := Aside0.mk (show 6 ≤ lim ∧ lim ≤ 306 from ⟨hm1, hm2⟩)
  have HLIM := Aside0.mk hlim
  have HGL := Aside0.mk (show ∀ p ∈ l, GoodP p ∧ (p.f1.size : Int) + 6 ≤ lim from fun p hp => ⟨hg p hp, by rw [hlim]; exact (longest_ge l 6).2 p hp⟩)
  have HLL := Aside0.mk hll
  have HSV := Aside0.mk hsv
  obtain ⟨T, hT⟩ : ∃ x, x = (streamB l).length := ⟨_, rfl⟩
  have HSL := Aside0.mk (show 6 * l.length ≤ T ∧ T ≤ 306 * l.length from hT ▸ streamB_len l hg)
  have HSR := Aside0.mk (streamB_range l hg)
  have HT := Aside0.mk hT
  have HSZ := Aside0.mk (show s.size = T by rw [hsv, strOf_size, hT])
  clear hp hs hlim hsv hm1 hm2 hg hll hT
  have HB := Aside0.mk (Below.refl w.heap.size w)
  go_enter Try.func5, Try.ntmps5
  have tk29 : Aside0 True := ⟨trivial⟩
  go_wp2_with (first | (go_at_call 23; clear tk29; have tk32 : Aside0 True := ⟨trivial⟩; (with_reducible refine (stencillaw24_parcels.calls kp A0 c0 l0 l _ (Kd.C_below HR0.out (by repeat (first | (with_reducible first | exact HB.out | apply below_alloc | apply pw_below_drewN | apply below_drew1) | exact HB.out))) HC0.out HP.out).mono ?_); rintro e_ w_29 ⟨v_, rfl, ho_, hb_⟩; have n0_ := Aside0.mk (below_step (by repeat (first | (with_reducible first | exact HB.out | apply below_alloc | apply pw_below_drewN | apply below_drew1) | exact HB.out)) hb_); clear HB; have HB := n0_; clear n0_; obtain ⟨A, c, rfl⟩ := Kd.R_slice ho_; have CL := Aside0.mk (Kd.R_reads' ho_).2.2; have YL := Aside0.mk (Kd.R_reads' ho_).2.1; have LT := Aside0.mk (show ∀ a, A = some a → a.block < w_29.heap.size from fun a ha => ((Kd.R_bound ho_).1 a.block (by rw [ha]; rfl)).2.2.1); clear ho_ hb_) | (go_at_call 24; clear tk32; have tk39 : Aside0 True := ⟨trivial⟩; (with_reducible refine (stencillaw24_stream.calls ks A c l s lim true _ (by repeat (first | exact CL.out | (with_reducible refine Kd.C_alloc ?_ _) | (with_reducible refine Kd.C_drewN ?_ _) | (with_reducible refine Kd.C_drew ?_))) YL.out HS.out rfl).mono ?_); rintro e_ w_32 ⟨rfl, hb_⟩; have n0_ := Aside0.mk (below_step (by repeat (first | (with_reducible first | exact HB.out | apply below_alloc | apply pw_below_drewN | apply below_drew1) | exact HB.out)) hb_); clear HB; have HB := n0_; clear n0_; have n1_ := Aside0.mk (Kd.C_below (by repeat (first | exact CL.out | (with_reducible refine Kd.C_alloc ?_ _) | (with_reducible refine Kd.C_drewN ?_ _) | (with_reducible refine Kd.C_drew ?_))) hb_); have n2_ := Aside0.mk (show ∀ a, A = some a → a.block < w_32.heap.size from fun a ha => Nat.lt_of_lt_of_le (LT.out a ha) hb_.size); clear CL LT; have CL := n1_; have LT := n2_; clear n1_ n2_ hb_) | (go_at_call 15; clear tk39; (with_reducible refine (frame_New2.calls _ lim).mono ?_); rintro e_ w_39 ⟨g, rfl, hg_, hG_, hb_⟩; have GE := Aside0.mk (show w.heap.size ≤ g from hg_ ▸ (below_size (by repeat (first | (with_reducible first | exact HB.out | apply below_alloc | apply pw_below_drewN | apply below_drew1) | exact HB.out)))); have LG := Aside0.mk (show ∀ a, A = some a → a.block < g from fun a ha => hg_ ▸ LT.out a ha); have n0_ := Aside0.mk (below_step (by repeat (first | (with_reducible first | exact HB.out | apply below_alloc | apply pw_below_drewN | apply below_drew1) | exact HB.out)) hb_); clear HB; have HB := n0_; clear n0_; have n1_ := Aside0.mk (Kd.C_below (by repeat (first | exact CL.out | (with_reducible refine Kd.C_alloc ?_ _) | (with_reducible refine Kd.C_drewN ?_ _) | (with_reducible refine Kd.C_drew ?_))) hb_); clear CL LT; have CL := n1_; have HZ := Aside0.mk (show FrZ w_39 w.heap.size g [] lim 0 from .inr ⟨rfl, hG_⟩); clear n1_ hb_ hg_ hG_))
  go_loopw [10, 11, 12, 13] (fun v10 v11 v12 v13 wr => ∃ j fed i : Nat, v10 = .int .i64 j ∧ v11 = .int .i64 fed ∧ v12 = .int .i64 ((streamB (l.take j)).length : Int) ∧ v13 = .int .i64 i ∧ Aside0 (j ≤ l.length ∧ fed ≤ T ∧ i ≤ l1.length + 1 ∧ (streamB (l.take j)).length ≤ fed ∧ (i = l1.length + 1 → fed = T) ∧ cntF (l.drop j) (fed - (streamB (l.take j)).length) = 0) ∧ Aside0 (FrZ wr w.heap.size g ((streamB (l.drop j)).take (fed - (streamB (l.take j)).length)) lim 0) ∧ Aside0 (Below w.heap.size w wr) ∧ Aside0 (Kd.C k23 wr A l.length l)) (fun _ _ _ v13 _ => l1.length + 1 - (intOf v13).toNat)
  case atStart => exact ⟨0, 0, 0, rfl, rfl, rfl, rfl, ⟨Nat.zero_le _, Nat.zero_le _, Nat.zero_le _, by simp [streamB], fun h => by omega, by simp only [List.drop_zero, List.take_zero, streamB_nil, List.length_nil, Nat.sub_zero]; exact cntF_zero l⟩, ⟨by simp only [List.take_zero, streamB_nil, List.length_nil, Nat.sub_zero]; repeat (first | exact HZ.out | apply FrZ.drewN | apply FrZ.drew)⟩, ⟨(by repeat (first | (with_reducible first | exact HB.out | apply below_alloc | apply pw_below_drewN | apply below_drew1) | exact HB.out))⟩, ⟨(by repeat (first | exact CL.out | (with_reducible refine Kd.C_alloc ?_ _) | (with_reducible refine Kd.C_drewN ?_ _) | (with_reducible refine Kd.C_drew ?_)))⟩⟩
  case round =>
  clear HB HZ CL
  obtain ⟨j, fed, i, rfl, rfl, rfl, rfl, HI, HZ, HB, CL⟩ := hrel
  by_cases hle : i ≤ l1.length
  case neg => as_aux_lemma =>
    obtain ⟨hj, hnil, hpl, U, R, wv, av, h1, h2, h3, hul, hk, hN0, hN1⟩ := exit_facts lim l s T j fed i l1.length HLIM.out HGL.out HSV.out HT.out HSZ.out HSL.out HLL.out HI.out hle
    subst hj
    rw [hnil] at HZ
    have hz := HSZ.out
    have hsl := HSL.out
    have hll := HLL.out
    have T170 := Aside0.mk (fun W base => held_any W base g [] lim 0 0 rfl)
    have T175 := Aside0.mk (fun W base => need_any W base g [] lim 6 rfl (fun b hb => by cases hb) (by decide))
    have T181 := Aside0.mk (fun W => split_val W lim 0 s l [] (s.size : Int) hpl rfl (by simp) (by omega) (by omega))
    obtain ⟨lim1, hlim1⟩ : ∃ x, x = lim - 1 := ⟨_, rfl⟩
    rw [← hlim1] at h1 h2
    have T204 := Aside0.mk (fun W => split_val W lim1 wv s U R av h1 h2 h3 (by omega) (by omega))
    have T187 := Aside0.mk (sameS_self l (by omega))
    have HUL := Aside0.mk hul
    have HKK := Aside0.mk hk
    have HN0 := Aside0.mk hN0
    have HN1 := Aside0.mk hN1
    have HL1 := Aside0.mk hlim1
    have w_l : wrap64 (lim - 1) = lim1 := by rw [hlim1]; have := HM.out; exact w64f (by omega) (by omega)
    clear hnil hpl h1 h2 h3 hul hk hN0 hN1 hz hsl hll hlim1
    have tk170 : Aside0 True := ⟨trivial⟩
    go_wp2_with (first | (go_at_call 19; clear tk170; have tk175 : Aside0 True := ⟨trivial⟩; (with_reducible refine (T170.out _ _ (by repeat (first | exact HZ.out | apply FrZ.drewN | apply FrZ.drew))).mono ?_); rintro e_ w_170 ⟨rfl, ⟨m170, rfl⟩⟩) | (go_at_call 21; clear tk175; have tk181 : Aside0 True := ⟨trivial⟩; (with_reducible refine (T175.out _ _ (by repeat (first | exact HZ.out | apply FrZ.drewN | apply FrZ.drew))).mono ?_); rintro e_ w_175 ⟨rfl, ⟨m175, rfl⟩⟩) | (go_at_call 7; clear tk181; have tk187 : Aside0 True := ⟨trivial⟩; (with_reducible refine (T181.out _).mono ?_); rintro e_ w_181 ⟨v_, rfl, ho_, hb_⟩; have n0_ := Aside0.mk (below_step (by repeat (first | (with_reducible first | exact HB.out | apply below_alloc | apply pw_below_drewN | apply below_drew1) | exact HB.out)) hb_); clear HB; have HB := n0_; clear n0_; have n1_ := Aside0.mk (Kd.C_below (by repeat (first | exact CL.out | (with_reducible refine Kd.C_alloc ?_ _) | (with_reducible refine Kd.C_drewN ?_ _) | (with_reducible refine Kd.C_drew ?_))) hb_); clear CL; have CL := n1_; clear n1_; obtain ⟨Am2, cm2, rfl⟩ := Kd.R_slice ho_; have CM2 := Aside0.mk (Kd.R_reads' ho_).2.2; have YM2 := Aside0.mk (Kd.R_reads' ho_).2.1; clear ho_ hb_ HZ) | (go_at_call 9; clear tk187; have tk197 : Aside0 True := ⟨trivial⟩; (with_reducible refine (stencillaw24_same.calls _ Am2 cm2 l A c l true _ (by repeat (first | exact CM2.out | (with_reducible refine Kd.C_alloc ?_ _) | (with_reducible refine Kd.C_drewN ?_ _) | (with_reducible refine Kd.C_drew ?_))) YM2.out (by repeat (first | exact CL.out | (with_reducible refine Kd.C_alloc ?_ _) | (with_reducible refine Kd.C_drewN ?_ _) | (with_reducible refine Kd.C_drew ?_))) YL.out T187.out).mono ?_); rintro e_ w_187 ⟨rfl, ⟨m187, rfl⟩⟩) | (go_at_call 10; clear tk197; have tk204 : Aside0 True := ⟨trivial⟩; (with_reducible refine (stencillaw24_num.calls 0 0 _ rfl).mono ?_); rintro e_ w_197 ⟨rfl, ⟨m197, rfl⟩⟩) | (go_at_call 7; clear tk204; (with_reducible refine (T204.out _).mono ?_); rintro e_ w_204 ⟨v_, rfl, ho_, hb_⟩; have n0_ := Aside0.mk (below_step (by repeat (first | (with_reducible first | exact HB.out | apply below_alloc | apply pw_below_drewN | apply below_drew1) | exact HB.out)) hb_); clear HB; have HB := n0_; clear n0_; have n1_ := Aside0.mk (Kd.C_below (by repeat (first | exact CL.out | (with_reducible refine Kd.C_alloc ?_ _) | (with_reducible refine Kd.C_drewN ?_ _) | (with_reducible refine Kd.C_drew ?_))) hb_); clear CL; have CL := n1_; clear n1_; obtain ⟨Am3, cm3, rfl⟩ := Kd.R_slice ho_; have CM3 := Aside0.mk (Kd.R_reads' ho_).2.2; have YM3 := Aside0.mk (Kd.R_reads' ho_).2.1; clear ho_ hb_))
    go_loopw [27] (fun v27 wr => ∃ (x27 : Int) (k : Nat), v27 = .int .i64 x27 ∧ Aside0 (x27 = (k : Int) ∧ k ≤ U.length) ∧ Aside0 (Below w.heap.size w wr) ∧ Aside0 (Kd.C k23 wr A l.length l) ∧ Aside0 (Kd.C k23 wr Am3 U.length U)) (fun v27 _ => U.length + 1 - (intOf v27).toNat)
    case atStart => exact ⟨0, 0, rfl, ⟨rfl, Nat.zero_le _⟩, ⟨(by repeat (first | (with_reducible first | exact HB.out | apply below_alloc | apply pw_below_drewN | apply below_drew1) | exact HB.out))⟩, ⟨(by repeat (first | exact CL.out | (with_reducible refine Kd.C_alloc ?_ _) | (with_reducible refine Kd.C_drewN ?_ _) | (with_reducible refine Kd.C_drew ?_)))⟩, ⟨(by repeat (first | exact CM3.out | (with_reducible refine Kd.C_alloc ?_ _) | (with_reducible refine Kd.C_drewN ?_ _) | (with_reducible refine Kd.C_drew ?_)))⟩⟩
    case round =>
    clear HB CL CM3
    obtain ⟨x27, k, rfl, HK, HB, CL, CM3⟩ := hrel
    by_cases hk : k < U.length
    case pos => as_aux_lemma =>
      obtain ⟨p, y1, y2, ⟨p0, p1, p2⟩, ⟨r1, r2⟩, ⟨w1, d1, w3⟩, hN⟩ := short_facts lim l U HM.out k x27 HK.out hk HUL.out HLL.out HKK.out
      have HNN := Aside0.mk hN
      have HK0 := Aside0.mk HK.out.1
      have HKU := Aside0.mk hk
      obtain ⟨ad1, ea1, hx1_0, hx1_1⟩ := at_T23 CM3.out x27 p0 p1
      cases ea1
      obtain ⟨ad2, ea2, hx2_0, hx2_1⟩ := at_T23 CL.out x27 p0 p2
      cases ea2
      rw [r1] at hx1_0 hx1_1
      rw [r2] at hx2_0 hx2_1
      rw [← HL1.out] at d1
      have q1 := decide_eq_true p1
      have q2 := decide_eq_false (Int.not_le.2 p2)
      replace p0 := eq_true p0
      replace p1 := eq_true p1
      replace p2 := eq_true p2
      clear hN r1 r2 hk HK
      go_wp2
      repeat (go_quiet (fail); try go_wp2)
      go_roundw
      case rel => exact ⟨y2, k + 1, by first | rfl | rw [w3], HNN, ⟨(by repeat (first | (with_reducible first | exact HB.out | apply below_alloc | apply pw_below_drewN | apply below_drew1) | exact HB.out))⟩, ⟨(by repeat (first | exact CL.out | (with_reducible refine Kd.C_alloc ?_ _) | (with_reducible refine Kd.C_drewN ?_ _) | (with_reducible refine Kd.C_drew ?_)))⟩, ⟨(by repeat (first | exact CM3.out | (with_reducible refine Kd.C_alloc ?_ _) | (with_reducible refine Kd.C_drewN ?_ _) | (with_reducible refine Kd.C_drew ?_)))⟩⟩
      case measure => exact meas_k _ k HKU.out _ _ (by first | exact HNN.out.1 | (rw [w3]; exact HNN.out.1)) HK0.out
    case neg =>
      have d_ : decide (x27 < (U.length : Int)) = false := decide_eq_false (by have := HK.out; omega)
      clear hk HK
      by_cases cn : l = []
      · obtain ⟨hw, hv⟩ := HN0.out cn
        have d0 : ((l.length : Int) == 0) = true := by rw [cn]; rfl
        have d1 : (wv == 0) = true := by rw [hw]; rfl
        have d2 : (av == 0) = true := by rw [hv]; rfl
        clear cn hw hv
        have tk245 : Aside0 True := ⟨trivial⟩
        go_wp2_with (first | (go_at_call 10; clear tk245; (with_reducible refine (stencillaw24_num.calls wv wv _ rfl).mono ?_); rintro e_ w_245 ⟨rfl, ⟨m245, rfl⟩⟩))
        go_ret
        exact ⟨by first | rfl | simp [*], (by repeat (first | (with_reducible first | exact HB.out | apply below_alloc | apply pw_below_drewN | apply below_drew1) | exact HB.out))⟩
      · obtain ⟨hw, hu, hz⟩ := HN1.out cn
        have d0 : ((l.length : Int) == 0) = false := beq_eq_false_iff_ne.mpr (by omega)
        have d1 : (wv == 240) = true := by rw [hw]; rfl
        have hu' : (U.length : Int) < (l.length : Int) := by omega
        obtain ⟨ad2, ea2, hx2_0, hx2_1⟩ := at_T23 CL.out (U.length : Int) (by omega) hu'
        cases ea2
        rw [Int.toNat_natCast] at hx2_0 hx2_1
        have w1 : wrap64 (((rd_T23 l (U.length : Int)).f1.size : Int) + 6) = lim := by rw [hz]; have := HM.out; exact w64f (by omega) (by omega)
        generalize rd_T23 l (U.length : Int) = p at *
        have q1 := decide_eq_true hu'
        have q2 := eq_true hu'
        have q3 := decide_eq_true hu
        have q4 := eq_true hu
        clear cn hw hu hz hu'
        have tk252 : Aside0 True := ⟨trivial⟩
        go_wp2_with (first | (go_at_call 10; clear tk252; (with_reducible refine (stencillaw24_num.calls wv wv _ rfl).mono ?_); rintro e_ w_252 ⟨rfl, ⟨m252, rfl⟩⟩))
        go_ret
        exact ⟨by first | rfl | simp [*], (by repeat (first | (with_reducible first | exact HB.out | apply below_alloc | apply pw_below_drewN | apply below_drew1) | exact HB.out))⟩
  have HLE := Aside0.mk hle
  have f_nn : wrap64 ((s.size : Int) - (fed : Int)) = (((T - fed : Nat) : Nat) : Int) := by have h1 := HI.out; have h2 := HSL.out; have h3 := HLL.out; rw [HSZ.out]; unfold wrap64; omega
  generalize hbs : (streamB (l.drop j)).take (fed - (streamB (l.take j)).length) = bs at *
  have HBS := Aside0.mk hbs
  clear hbs
  go_upto_if 55 with (fail)
  go_cut [14] (fun v wc => ∃ n : Nat, v = .int .i64 n ∧ Aside0 (fed + n ≤ T ∧ (i = l1.length → fed + n = T)) ∧ Aside0 (FrZ wc w.heap.size g bs lim 0) ∧ Aside0 (Below w.heap.size w wc) ∧ Aside0 (Kd.C k23 wc A l.length l))
  case first => as_aux_lemma =>
    by_cases hlt : i < l1.length
    · obtain ⟨ad, e_, hcell⟩ := Kd.at_int (Kd.C_below HR1.out (by repeat (first | (with_reducible first | exact HB.out | apply below_alloc | apply pw_below_drewN | apply below_drew1) | exact HB.out))) (i : Int) (by omega) (by omega)
      cases e_
      rw [Int.toNat_natCast] at hcell
      have hx : rd l1 (i : Int) ∈ l1 := by
        have : rd l1 (i : Int) = l1[i] := by simp [rd, List.getD_eq_getElem?_getD, List.getElem?_eq_getElem hlt]
        rw [this]; exact List.getElem_mem hlt
      have HX := Aside0.mk (H2.out _ hx)
      clear hx
      generalize rd l1 (i : Int) = x at *
      by_cases c : x < 0
      · have d_ : decide (x < 0) = true := decide_eq_true c
        obtain ⟨x2, hx2⟩ : ∃ m : Int, wrap64 (-wrap64 (x + 1)) = m := ⟨_, rfl⟩
        have hx2b : 0 ≤ x2 ∧ x2 ≤ 9223372036854775807 := by have h1 := HX.out; clear d_; rw [← hx2]; unfold wrap64; omega
        obtain ⟨x3, hx3⟩ : ∃ m : Nat, x2.tmod 64 = (m : Int) := ⟨(x2 % 64).toNat, by rw [Int.tmod_eq_emod_of_nonneg hx2b.1]; omega⟩
        clear c hx2b
        go_wp2
        all_goals
          go_meet
          case rel => refine ⟨_, rfl, ⟨?_, fun h => ?_⟩, ⟨by repeat (first | exact HZ.out | apply FrZ.drewN | apply FrZ.drew)⟩, ⟨(by repeat (first | (with_reducible first | exact HB.out | apply below_alloc | apply pw_below_drewN | apply below_drew1) | exact HB.out))⟩, ⟨(by repeat (first | exact CL.out | (with_reducible refine Kd.C_alloc ?_ _) | (with_reducible refine Kd.C_drewN ?_ _) | (with_reducible refine Kd.C_drew ?_)))⟩⟩ <;> (have h1 := HI.out; omega)
      · have d_ : decide (x < 0) = false := decide_eq_false c
        obtain ⟨x3, hx3⟩ : ∃ m : Nat, x.tmod 64 = (m : Int) := ⟨(x % 64).toNat, by rw [Int.tmod_eq_emod_of_nonneg (by omega)]; omega⟩
        clear c
        go_wp2
        all_goals
          go_meet
          case rel => refine ⟨_, rfl, ⟨?_, fun h => ?_⟩, ⟨by repeat (first | exact HZ.out | apply FrZ.drewN | apply FrZ.drew)⟩, ⟨(by repeat (first | (with_reducible first | exact HB.out | apply below_alloc | apply pw_below_drewN | apply below_drew1) | exact HB.out))⟩, ⟨(by repeat (first | exact CL.out | (with_reducible refine Kd.C_alloc ?_ _) | (with_reducible refine Kd.C_drewN ?_ _) | (with_reducible refine Kd.C_drew ?_)))⟩⟩ <;> (have h1 := HI.out; omega)
    · go_wp2
      go_meet
      case rel => refine ⟨T - fed, by rw [f_nn], ⟨?_, fun h => ?_⟩, ⟨by repeat (first | exact HZ.out | apply FrZ.drewN | apply FrZ.drew)⟩, ⟨(by repeat (first | (with_reducible first | exact HB.out | apply below_alloc | apply pw_below_drewN | apply below_drew1) | exact HB.out))⟩, ⟨(by repeat (first | exact CL.out | (with_reducible refine Kd.C_alloc ?_ _) | (with_reducible refine Kd.C_drewN ?_ _) | (with_reducible refine Kd.C_drew ?_)))⟩⟩ <;> (have h1 := HI.out; omega)
  obtain ⟨n, rfl, HN, HZ', HB', CL'⟩ := hcut
  clear HZ HB CL
  have HZ := HZ'
  have HB := HB'
  have CL := CL'
  clear HZ' HB' CL'
  clear f_nn HLE
  obtain ⟨m, c2, e2, X, nd, h0, h9, L2, P, ⟨f_m, f_x, f_b0, f_b1, f_b2, f_b3⟩, hA, hND, hQ⟩ := round_facts lim l s T j fed n 0 bs HGL.out HSV.out HT.out HSZ.out HSL.out HLL.out ⟨HI.out.1, HI.out.2.1, Nat.le_refl _, HI.out.2.2.2.1, HI.out.2.2.2.2.2⟩ HBS.out HN.out.1
  have f_x2 : s.extract ((fed : Int).toNat) ((m : Int).toNat) = X := f_x
  have T70 := Aside0.mk (fun W base => held_any W base g bs lim 0 h0 hA.1.2.1)
  have T72 := Aside0.mk (fun W base => need_any W base g bs lim nd hA.1.1 hA.2.2.1 (Nat.le_trans (Nat.le_add_right _ _) hA.2.2.2.1))
  have T82 := Aside0.mk (fun W b hbq hF hB => feed_any w W g b lim bs P X L2 hbq hA.2.1.1 hA.2.1.2.1 hA.2.1.2.2 hA.2.2.1 hA.2.2.2.1 hA.2.2.2.2 hF hB GE.out)
  have T101 := Aside0.mk (fun W base => held_any W base g P lim 0 h9 hA.1.2.2)
  have HND := Aside0.mk hND
  have HQ := Aside0.mk hQ
  have kb := fun W => print_bytes (P := Try.prog) 9 45 5 Try.underlying9 Try.underlying45 Try.underlying5 X W
  clear hA hND hQ
  have tk70 : Aside0 True := ⟨trivial⟩
  go_upto_region 24 with (first | (go_at_call 19; clear tk70; have tk72 : Aside0 True := ⟨trivial⟩; (with_reducible refine (T70.out _ _ (by repeat (first | exact HZ.out | apply FrZ.drewN | apply FrZ.drew))).mono ?_); rintro e_ w_70 ⟨rfl, ⟨m70, rfl⟩⟩) | (go_at_call 21; clear tk72; have tk82 : Aside0 True := ⟨trivial⟩; (with_reducible refine (T72.out _ _ (by repeat (first | exact HZ.out | apply FrZ.drewN | apply FrZ.drew))).mono ?_); rintro e_ w_72 ⟨rfl, ⟨m72, rfl⟩⟩) | (go_at_call 18; clear tk82; (with_reducible refine (T82.out _ _ (by with_unfolding_all exact rfl) (by repeat (first | exact HZ.out | apply FrZ.drewN | apply FrZ.drew)) (by repeat (first | (with_reducible first | exact HB.out | apply below_alloc | apply pw_below_drewN | apply below_drew1) | exact HB.out))).mono ?_); rintro e_ w_82 ⟨v_, rfl, ho_, hz_, hb_, hs_, hk_⟩; have n1_ := Aside0.mk (C23_same (by repeat (first | exact CL.out | (with_reducible refine Kd.C_alloc ?_ _) | (with_reducible refine Kd.C_drewN ?_ _) | (with_reducible refine Kd.C_drew ?_))) (fun a ha => hk_ a.block (LG.out a ha))); clear CL HB HZ; have CL := n1_; clear n1_; have HB := Aside0.mk hb_; have HZ := Aside0.mk hz_; obtain ⟨Am1, cm1, rfl⟩ := Kd.R_slice ho_; have CM1 := Aside0.mk (Kd.R_reads' ho_).2.2; have YM1 := Aside0.mk (Kd.R_reads' ho_).2.1; clear ho_ hz_ hb_ hs_ hk_ kb))
  go_cut [11, 108] (fun v11 v wc => v11 = .int .i64 m ∧ v = .bool false ∧ Aside0 (FrZ wc w.heap.size g P lim 0) ∧ Aside0 (Below w.heap.size w wc) ∧ Aside0 (Kd.C k23 wc A l.length l) ∧ Aside0 (Kd.C k23 wc Am1 L2.length L2))
  case first => as_aux_lemma =>
    clear T70 T72 T82
    by_cases c : (n : Int) < nd
    · have d_ : decide ((n : Int) < nd) = true := decide_eq_true c
      obtain ⟨rfl, f_h⟩ := HND.out c
      clear c HND
      have tk89 : Aside0 True := ⟨trivial⟩
      go_wp2_with (first | (go_at_call 10; clear tk89; have tk101 : Aside0 True := ⟨trivial⟩; (with_reducible refine (stencillaw24_num.calls 0 0 _ rfl).mono ?_); rintro e_ w_89 ⟨rfl, ⟨m89, rfl⟩⟩) | (go_at_call 19; clear tk101; (with_reducible refine (T101.out _ _ (by repeat (first | exact HZ.out | apply FrZ.drewN | apply FrZ.drew))).mono ?_); rintro e_ w_101 ⟨rfl, ⟨m101, rfl⟩⟩))
      go_meet
      case rel => exact ⟨by first | rfl | rw [f_m], rfl, ⟨by repeat (first | exact HZ.out | apply FrZ.drewN | apply FrZ.drew)⟩, ⟨(by repeat (first | (with_reducible first | exact HB.out | apply below_alloc | apply pw_below_drewN | apply below_drew1) | exact HB.out))⟩, ⟨(by repeat (first | exact CL.out | (with_reducible refine Kd.C_alloc ?_ _) | (with_reducible refine Kd.C_drewN ?_ _) | (with_reducible refine Kd.C_drew ?_)))⟩, ⟨(by repeat (first | exact CM1.out | (with_reducible refine Kd.C_alloc ?_ _) | (with_reducible refine Kd.C_drewN ?_ _) | (with_reducible refine Kd.C_drew ?_)))⟩⟩
    · have d_ : decide ((n : Int) < nd) = false := decide_eq_false c
      clear c HND
      have tk89 : Aside0 True := ⟨trivial⟩
      go_wp2_with (first | (go_at_call 10; clear tk89; (with_reducible refine (stencillaw24_num.calls 0 0 _ rfl).mono ?_); rintro e_ w_89 ⟨rfl, ⟨m89, rfl⟩⟩))
      go_meet
      case rel => exact ⟨by first | rfl | rw [f_m], rfl, ⟨by repeat (first | exact HZ.out | apply FrZ.drewN | apply FrZ.drew)⟩, ⟨(by repeat (first | (with_reducible first | exact HB.out | apply below_alloc | apply pw_below_drewN | apply below_drew1) | exact HB.out))⟩, ⟨(by repeat (first | exact CL.out | (with_reducible refine Kd.C_alloc ?_ _) | (with_reducible refine Kd.C_drewN ?_ _) | (with_reducible refine Kd.C_drew ?_)))⟩, ⟨(by repeat (first | exact CM1.out | (with_reducible refine Kd.C_alloc ?_ _) | (with_reducible refine Kd.C_drewN ?_ _) | (with_reducible refine Kd.C_drew ?_)))⟩⟩
  obtain ⟨rfl, rfl, HZ', HB', CL', CM1'⟩ := hcut
  clear HZ HB CL CM1
  have HZ := HZ'
  have HB := HB'
  have CL := CL'
  have CM1 := CM1'
  clear HZ' HB' CL' CM1'
  clear f_m f_x f_b0 f_b1 f_b2 f_b3 f_x2 T70 T72 T82 HND
  go_wp2
  go_loopw [10, 12, 20] (fun v10 v12 v20 wr => ∃ (x10 x12 x20 : Int) (k : Nat), v10 = .int .i64 x10 ∧ v12 = .int .i64 x12 ∧ v20 = .int .i64 x20 ∧ Aside0 (x20 = (k : Int) ∧ x10 = (j : Int) + (k : Int) ∧ x12 = ((streamB (l.take (j + k))).length : Int) ∧ k ≤ c2) ∧ Aside0 (FrZ wr w.heap.size g P lim 0) ∧ Aside0 (Below w.heap.size w wr) ∧ Aside0 (Kd.C k23 wr A l.length l) ∧ Aside0 (Kd.C k23 wr Am1 L2.length L2)) (fun _ _ v20 _ => c2 + 1 - (intOf v20).toNat)
  case atStart => exact ⟨(j : Int), _, 0, 0, rfl, rfl, rfl, ⟨rfl, (Int.add_zero _).symm, rfl, Nat.zero_le _⟩, ⟨by repeat (first | exact HZ.out | apply FrZ.drewN | apply FrZ.drew)⟩, ⟨(by repeat (first | (with_reducible first | exact HB.out | apply below_alloc | apply pw_below_drewN | apply below_drew1) | exact HB.out))⟩, ⟨(by repeat (first | exact CL.out | (with_reducible refine Kd.C_alloc ?_ _) | (with_reducible refine Kd.C_drewN ?_ _) | (with_reducible refine Kd.C_drew ?_)))⟩, ⟨(by repeat (first | exact CM1.out | (with_reducible refine Kd.C_alloc ?_ _) | (with_reducible refine Kd.C_drewN ?_ _) | (with_reducible refine Kd.C_drew ?_)))⟩⟩
  case round =>
  clear HZ HB CL CM1
  obtain ⟨x10, x12, x20, k, rfl, rfl, rfl, HK, HZ, HB, CL, CM1⟩ := hrel
  by_cases hk : k < c2
  case pos => as_aux_lemma =>
    obtain ⟨p, y1, y2, y10, y20, ⟨p0, p1, p2, p3⟩, ⟨r1, r2⟩, ⟨w1, w2, w3, w4⟩, hN⟩ := inner_facts l L2 j c2 k T m e2 x10 x12 x20 HK.out hk HQ.out.1 HQ.out.2.2.2.1 HQ.out.2.2.2.2.2.2.2.2.2 HQ.out.2.2.2.2.2.1 HQ.out.2.1 HQ.out.2.2.1 HSL.out.2 HLL.out
    have HNN := Aside0.mk hN
    obtain ⟨ad1, ea1, hx1_0, hx1_1⟩ := at_T23 CM1.out x20 p0 p1
    cases ea1
    obtain ⟨ad2, ea2, hx2_0, hx2_1⟩ := at_T23 CL.out x10 p2 p3
    cases ea2
    rw [r1] at hx1_0 hx1_1
    rw [r2] at hx2_0 hx2_1
    have q1 := decide_eq_true p1
    have q2 := decide_eq_false (Int.not_le.2 p3)
    replace p0 := eq_true p0
    replace p1 := eq_true p1
    replace p2 := eq_true p2
    replace p3 := eq_true p3
    have HK0 := Aside0.mk (show x20 = (k : Int) ∧ k < c2 from ⟨HK.out.1, hk⟩)
    clear hN r1 r2 hk HK
    go_wp2
    repeat (go_quiet (fail); try go_wp2)
    go_roundw
    case rel => exact ⟨y10, y2, y20, k + 1, by first | rfl | rw [w3], by first | rfl | rw [w1, w2] | rw [w2], by first | rfl | rw [w4], HNN, ⟨by repeat (first | exact HZ.out | apply FrZ.drewN | apply FrZ.drew)⟩, ⟨(by repeat (first | (with_reducible first | exact HB.out | apply below_alloc | apply pw_below_drewN | apply below_drew1) | exact HB.out))⟩, ⟨(by repeat (first | exact CL.out | (with_reducible refine Kd.C_alloc ?_ _) | (with_reducible refine Kd.C_drewN ?_ _) | (with_reducible refine Kd.C_drew ?_)))⟩, ⟨(by repeat (first | exact CM1.out | (with_reducible refine Kd.C_alloc ?_ _) | (with_reducible refine Kd.C_drewN ?_ _) | (with_reducible refine Kd.C_drew ?_)))⟩⟩
    case measure => have h1 := HNN.out; have h2 := HK0.out; simp [intOf, w4]; omega
  case neg => as_aux_lemma =>
    have HKC := Aside0.mk (show x20 = (c2 : Int) ∧ x10 = ((j + c2 : Nat) : Int) ∧ x12 = (e2 : Int) ∧ (L2.length : Int) = c2 by
      have h1 := HK.out
      have h2 := HQ.out
      obtain rfl : k = c2 := by omega
      refine ⟨h1.1, by rw [h1.2.1]; rfl, by rw [h1.2.2.1, h2.2.2.2.2.2.1], by rw [h2.2.2.2.1]⟩)
    have d_ : decide (x20 < (L2.length : Int)) = false := decide_eq_false (by have := HKC.out; omega)
    clear HK hk
    go_upto_region 33 with (fail)
    clear d_
    go_cut [157] (fun v wc => v = .bool false ∧ Aside0 (FrZ wc w.heap.size g P lim 0) ∧ Aside0 (Below w.heap.size w wc) ∧ Aside0 (Kd.C k23 wc A l.length l))
    case first => as_aux_lemma =>
      by_cases c : x10 < (l.length : Int)
      · have d_ : decide (x10 < (l.length : Int)) = true := decide_eq_true c
        obtain ⟨ad2, ea2, hx2_0, hx2_1⟩ := at_T23 CL.out x10 (by have := HKC.out; omega) c
        cases ea2
        obtain ⟨y1, y2, w1, w2, d2⟩ := next_facts l (fun p hp => ⟨(HGL.out p hp).1, Int.le_trans (HGL.out p hp).2 HM.out.2⟩) (j + c2) e2 m x10 x12 HKC.out.2.1 HKC.out.2.2.1 c (by have := HQ.out; omega) (by have h1 := HQ.out; have h2 := HSL.out; have h3 := HLL.out; omega) HQ.out.2.2.2.2.2.2.1
        generalize rd_T23 l x10 = p at *
        have p2 := eq_true (show 0 ≤ x10 by have := HKC.out; omega)
        have p3 := eq_true c
        clear c
        go_wp2
        go_meet
        case rel => exact ⟨rfl, ⟨by repeat (first | exact HZ.out | apply FrZ.drewN | apply FrZ.drew)⟩, ⟨(by repeat (first | (with_reducible first | exact HB.out | apply below_alloc | apply pw_below_drewN | apply below_drew1) | exact HB.out))⟩, ⟨(by repeat (first | exact CL.out | (with_reducible refine Kd.C_alloc ?_ _) | (with_reducible refine Kd.C_drewN ?_ _) | (with_reducible refine Kd.C_drew ?_)))⟩⟩
      · have d_ : decide (x10 < (l.length : Int)) = false := decide_eq_false c
        clear c
        go_wp2
        go_meet
        case rel => exact ⟨rfl, ⟨by repeat (first | exact HZ.out | apply FrZ.drewN | apply FrZ.drew)⟩, ⟨(by repeat (first | (with_reducible first | exact HB.out | apply below_alloc | apply pw_below_drewN | apply below_drew1) | exact HB.out))⟩, ⟨(by repeat (first | exact CL.out | (with_reducible refine Kd.C_alloc ?_ _) | (with_reducible refine Kd.C_drewN ?_ _) | (with_reducible refine Kd.C_drew ?_)))⟩⟩
    obtain ⟨rfl, HZ', HB', CL'⟩ := hcut
    clear HZ HB CL
    have HZ := HZ'
    have HB := HB'
    have CL := CL'
    clear HZ' HB' CL'
    have w3 := last_facts e2 m x12 h9 HKC.out.2.2.1 (by have := HQ.out; omega) (by have h1 := HQ.out; have h2 := HSL.out; have h3 := HLL.out; omega) HQ.out.2.2.2.2.2.2.2.2.1
    have w5 : wrap64 ((i : Int) + 1) = ((i + 1 : Nat) : Int) := by rw [w64f (by omega) (by have := H1.out; omega)]; rfl
    have tk159 : Aside0 True := ⟨trivial⟩
    go_wp2_with (first | (go_at_call 19; clear tk159; (with_reducible refine (T101.out _ _ (by repeat (first | exact HZ.out | apply FrZ.drewN | apply FrZ.drew))).mono ?_); rintro e_ w_159 ⟨rfl, ⟨m159, rfl⟩⟩))
    go_roundw
    case rel => exact ⟨j + c2, m, i + 1, by rw [HKC.out.2.1], rfl, by rw [HKC.out.2.2.1, HQ.out.2.2.2.2.2.1], by rw [w5], ⟨HQ.out.1, HQ.out.2.2.1, by omega, by have h1 := HQ.out; omega, fun h => by have h1 := HQ.out; have h2 := HN.out.2 (by omega); omega, by have h1 := HQ.out; rw [← h1.2.2.2.2.2.1]; exact h1.2.2.2.2.2.2.1⟩, ⟨by have h1 := HQ.out; rw [← h1.2.2.2.2.2.1, ← h1.2.2.2.2.2.2.2.1]; repeat (first | exact HZ.out | apply FrZ.drewN | apply FrZ.drew)⟩, ⟨(by repeat (first | (with_reducible first | exact HB.out | apply below_alloc | apply pw_below_drewN | apply below_drew1) | exact HB.out))⟩, ⟨(by repeat (first | exact CL.out | (with_reducible refine Kd.C_alloc ?_ _) | (with_reducible refine Kd.C_drewN ?_ _) | (with_reducible refine Kd.C_drew ?_)))⟩⟩
    case measure => exact meas_out _ i hle _ w5
theorem FrameChunks_pure (l0 : List S23) (l1 : List Int) (h1 : ∀ x_ ∈ l1, (Lit.int .i64 x_).wf = true) (h2 : (l1.map fun _ => 1).sum + 1 ≤ 1048576) : stencillaw24_FrameChunks.f l0 l1 = some true := by
  have hs : (l1.map fun _ => 1).sum = l1.length := by
    clear h1 h2
    induction l1 with
    | nil => rfl
    | cons a l ih => rw [List.map_cons, List.sum_cons, ih, List.length_cons, Nat.add_comm]
  unfold stencillaw24_FrameChunks.f
  refine if_pos ⟨by omega, fun x hx => ?_⟩
  have z1 : IntKind.i64.min ≤ x ∧ x ≤ IntKind.i64.max := by simpa [Lit.wf] using h1 x hx
  have e1 : IntKind.i64.min = -9223372036854775808 := by decide
  have e2 : IntKind.i64.max = 9223372036854775807 := by decide
  rwa [e1, e2] at z1

end Go.Proofs.Ytkchnocliilapaa.Q
