/- The frames of good parcels (layer 24): what Wrap writes, what the stream is, what parcels takes off it. -/
import Derived.Test.YtkchnocliilapaaQx0
import Derived.Test.YtkchnocliilapaaQx2
import Derived.Test.YtkchnocliilapaaQx3
import Derived.Test.YtkchnocliilapaaQx4
import Derived.Test.YtkchnocliilapaaHStreamP
import Derived.Test.YtkchnocliilapaaHFeed
import Derived.IntWalk
namespace Go.Proofs.Ytkchnocliilapaa.Q
open Go.RowKit Go.Proofs.YtkchnocliilapaaW.PrintWords Go.Proofs.YtkchnocliilapaaW.PrintLast Go.Proofs.YtkchnocliilapaaW.PrintMore
attribute [local go_sem] max2_int min2_int max_two min_two max_three min_three max_four min_four   -- for this text's walks alone
set_option linter.unusedVariables false
set_option linter.unusedSimpArgs false

theorem w64f {x : Int} (h0 : -9223372036854775808 ≤ x) (h1 : x < 9223372036854775808) : wrap64 x = x := by unfold wrap64; omega
theorem strOf_bytes (s : ByteArray) : strOfNums (bytesOf s) = s := by
  apply ByteArray.ext
  simp [strOfNums, bytesOf]
  cases s
  simp [Function.comp_def]
theorem bytes_strOf (l : List Int) (h : ∀ x ∈ l, 0 ≤ x ∧ x < 256) : bytesOf (strOfNums l) = l := by
  unfold bytesOf strOfNums
  simp only [List.map_map]
  conv => rhs; rw [← List.map_id l]
  refine List.map_congr_left fun x hx => ?_
  have := h x hx
  simp
  omega
theorem strOf_size (l : List Int) : (strOfNums l).size = l.length := strOfNums_size l
theorem strOf_app (a b : List Int) : strOfNums a ++ strOfNums b = strOfNums (a ++ b) := by
  apply ByteArray.ext; simp [strOfNums]
theorem strOf_bt (l : List Int) (h : ∀ x ∈ l, 0 ≤ x ∧ x < 256) (i : Nat) (x : Int) (hi : l[i]? = some x) : bt (strOfNums l) (i : Int) = x := by
  rw [← rd_bytesOf, bytes_strOf l h]
  simp [rd, List.getD_eq_getElem?_getD, hi]
theorem strOf_cut (l : List Int) (a b : Nat) : (strOfNums l).extract a b = strOfNums ((l.drop a).take (b - a)) := by
  unfold strOfNums
  rw [ByteArray.extract_mk, ← List.map_drop, ← List.map_take]

def GoodP (p : S23) : Prop := (p.f0 = 23520 ∨ p.f0 = 60240) ∧ p.f1.size ≤ 300
/-- A good parcel's frame, byte by byte. -/
def frB (p : S23) : List Int := [0, 0, ((p.f1.size : Int) + 6) / 256, ((p.f1.size : Int) + 6) % 256, p.f0 / 256, p.f0 % 256] ++ bytesOf p.f1
def streamB (l : List S23) : List Int := l.flatMap frB
def longest (l : List S23) : Int := l.foldl (fun m p => mx m ((p.f1.size : Int) + 6)) 6
theorem frB_len (p : S23) : (frB p).length = p.f1.size + 6 := by simp [frB, bytesOf_length]
theorem bytes_range (s : ByteArray) : ∀ b ∈ bytesOf s, 0 ≤ b ∧ b < 256 := bytesOf_range s
theorem frB_range (p : S23) (h : GoodP p) : ∀ b ∈ frB p, 0 ≤ b ∧ b < 256 := by
  obtain ⟨h1, h2⟩ := h
  intro b hb
  unfold frB at hb
  rcases List.mem_append.1 hb with hb | hb
  · simp only [List.mem_cons, List.not_mem_nil, or_false] at hb
    rcases h1 with h1 | h1 <;> rcases hb with h | h | h | h | h | h <;> subst h <;> omega
  · exact bytes_range _ b hb
theorem frB_num (p : S23) (h : GoodP p) (r : List Int) : numL ((frB p ++ r).take 4) = (p.f1.size : Int) + 6 := by
  simp only [frB, List.cons_append, List.nil_append, List.take_succ_cons, List.take_zero, numL, List.foldl_cons, List.foldl_nil]
  have := h.2
  omega
theorem frB_kind (p : S23) (h : GoodP p) (r : List Int) : numL (((frB p ++ r).take 6).drop 4) = p.f0 := by
  simp only [frB, List.cons_append, List.nil_append, List.take_succ_cons, List.take_zero, List.drop_succ_cons, List.drop_zero, numL, List.foldl_cons, List.foldl_nil]
  rcases h.1 with h | h <;> omega
theorem frB_body (p : S23) (r : List Int) : strOfNums (((frB p ++ r).take (p.f1.size + 6)).drop 6) = p.f1 := by
  have : ((frB p ++ r).take (p.f1.size + 6)).drop 6 = bytesOf p.f1 := by
    rw [List.take_append_of_le_length (by rw [frB_len]; omega), List.take_of_length_le (by rw [frB_len]; omega)]
    simp [frB]
  rw [this, strOf_bytes]
theorem wrap_good (p : S23) (h : GoodP p) : frame_Wrap.f p.f0 p.f1 = some (strOfNums (frB p), 0) := by
  obtain ⟨h1, h2⟩ := h
  unfold frame_Wrap.f
  have hk : frame_known.f p.f0 = some true := by rw [known_f]; rcases h1 with h | h <;> rw [h] <;> rfl
  have hw : wrap64 (6 + (p.f1.size : Int)) = (p.f1.size : Int) + 6 := by rw [w64f (by omega) (by omega)]; omega
  rw [hk, hw]
  simp only [Option.bind_some, if_true]
  rw [if_neg (by omega), if_pos (by rw [strOf_size]; simp; omega)]
  have e : ([((p.f1.size : Int) + 6) / 16777216 % 256, ((p.f1.size : Int) + 6) / 65536 % 256, ((p.f1.size : Int) + 6) / 256 % 256, ((p.f1.size : Int) + 6) % 256, p.f0 / 256 % 256, p.f0 % 256] : List Int) = [0, 0, ((p.f1.size : Int) + 6) / 256, ((p.f1.size : Int) + 6) % 256, p.f0 / 256, p.f0 % 256] := by
    have e1 : ((p.f1.size : Int) + 6) / 16777216 % 256 = 0 := by omega
    have e2 : ((p.f1.size : Int) + 6) / 65536 % 256 = 0 := by omega
    have e3 : ((p.f1.size : Int) + 6) / 256 % 256 = ((p.f1.size : Int) + 6) / 256 := by omega
    have e4 : p.f0 / 256 % 256 = p.f0 / 256 := by rcases h1 with h | h <;> omega
    rw [e1, e2, e3, e4]
  rw [e]
  conv => lhs; rw [← strOf_bytes p.f1]
  rw [strOf_app]
  congr 2
  unfold frB
  rw [strOf_bytes]

theorem parcels_go (l0 : List S23) : ∀ (d : Nat) (i : Nat) (acc : List S23), i + d = 40 → acc.length = i → (∀ p ∈ acc, GoodP p) →
    ∃ k r, stencillaw24_parcels.l0 k l0 acc (i : Int) = some r ∧ r.length ≤ 40 ∧ ∀ p ∈ r, GoodP p := by
  intro d
  induction d with
  | zero =>
    intro i acc hi ha hg
    refine ⟨2, acc, ?_, by omega, hg⟩
    rw [stencillaw24_parcels.l0, decide_eq_false (by omega), ite_self, stencillaw24_parcels.j1, if_neg (by decide)]
  | succ d ih =>
    intro i acc hi ha hg
    by_cases c : (i : Int) < (l0.length : Int)
    · have hw : wrap64 ((i : Int) + 1) = ((i + 1 : Nat) : Int) := by rw [w64f (by omega) (by omega)]; rfl
      have fin : ∀ (t : Int) (b : ByteArray), (t = 23520 ∨ t = 60240) → ∃ k r, stencillaw24_parcels.j2 k l0 acc (i : Int) t b = some r ∧ r.length ≤ 40 ∧ ∀ p ∈ r, GoodP p := by
        intro t b ht
        have go : ∀ b' : ByteArray, b'.size ≤ 300 → ∃ k r, stencillaw24_parcels.l0 k l0 (acc ++ [⟨t, b'⟩]) (wrap64 ((i : Int) + 1)) = some r ∧ r.length ≤ 40 ∧ ∀ p ∈ r, GoodP p := by
          intro b' hb
          rw [hw]
          exact ih (i + 1) _ (by omega) (by simp [ha]) (fun p hp => by
            rcases List.mem_append.1 hp with hp | hp
            · exact hg p hp
            · rw [List.mem_singleton.1 hp]; exact ⟨ht, hb⟩)
        by_cases cb : (b.size : Int) > 300
        · obtain ⟨k, r, h1, h2, h3⟩ := go (b.extract 0 300) (by rw [ByteArray.size_extract]; omega)
          exact ⟨k + 1, r, by rw [stencillaw24_parcels.j2, if_pos cb, if_pos (by decide), if_pos (by omega), if_pos (by omega)]; exact h1, h2, h3⟩
        · obtain ⟨k, r, h1, h2, h3⟩ := go b (by omega)
          exact ⟨k + 1, r, by rw [stencillaw24_parcels.j2, if_neg cb, if_pos (by omega)]; exact h1, h2, h3⟩
      by_cases ct : Int.tmod ((rd_T23 l0 (i : Int)).f0) 2 = 0
      · obtain ⟨k, r, h1, h2, h3⟩ := fin 23520 ((rd_T23 l0 (i : Int)).f1) (.inl rfl)
        exact ⟨k + 1 + 1, r, by rw [stencillaw24_parcels.l0, if_pos c, decide_eq_true (by omega), stencillaw24_parcels.j1, if_pos rfl, if_pos (by omega), if_pos c, if_pos ct]; exact h1, h2, h3⟩
      · obtain ⟨k, r, h1, h2, h3⟩ := fin 60240 ((rd_T23 l0 (i : Int)).f1) (.inr rfl)
        exact ⟨k + 1 + 1, r, by rw [stencillaw24_parcels.l0, if_pos c, decide_eq_true (by omega), stencillaw24_parcels.j1, if_pos rfl, if_pos (by omega), if_pos c, if_neg ct]; exact h1, h2, h3⟩
    · refine ⟨2, acc, ?_, by omega, hg⟩
      rw [stencillaw24_parcels.l0, if_neg c, stencillaw24_parcels.j1, if_neg (by decide)]
theorem parcels_some (l0 : List S23) : ∃ k r, stencillaw24_parcels.f k l0 = some r ∧ r.length ≤ 40 ∧ ∀ p ∈ r, GoodP p := parcels_go l0 40 0 [] rfl rfl (fun p hp => by cases hp)

theorem streamB_len : ∀ (l : List S23), (∀ p ∈ l, GoodP p) → 6 * l.length ≤ (streamB l).length ∧ (streamB l).length ≤ 306 * l.length
  | [], _ => by simp [streamB]
  | p :: l, h => by
    have h1 := streamB_len l (fun q hq => h q (List.mem_cons_of_mem _ hq))
    have h2 := (h p (by simp)).2
    have : streamB (p :: l) = frB p ++ streamB l := by simp [streamB]
    rw [this, List.length_append, frB_len, List.length_cons]
    omega
theorem streamB_range : ∀ (l : List S23), (∀ p ∈ l, GoodP p) → ∀ b ∈ streamB l, 0 ≤ b ∧ b < 256 := by
  intro l h b hb
  unfold streamB at hb
  obtain ⟨p, hp, hb⟩ := List.mem_flatMap.1 hb
  exact frB_range p (h p hp) b hb
theorem longest_ge : ∀ (l : List S23) (m : Int), m ≤ l.foldl (fun m p => mx m ((p.f1.size : Int) + 6)) m ∧ ∀ p ∈ l, (p.f1.size : Int) + 6 ≤ l.foldl (fun m p => mx m ((p.f1.size : Int) + 6)) m
  | [], m => ⟨by simp, fun p hp => by cases hp⟩
  | q :: l, m => by
    obtain ⟨h1, h2⟩ := longest_ge l (mx m ((q.f1.size : Int) + 6))
    have h3 : m ≤ mx m ((q.f1.size : Int) + 6) ∧ (q.f1.size : Int) + 6 ≤ mx m ((q.f1.size : Int) + 6) := by unfold mx; split <;> omega
    refine ⟨Int.le_trans h3.1 h1, fun p hp => ?_⟩
    rcases List.mem_cons.1 hp with rfl | hp
    · exact Int.le_trans h3.2 h1
    · exact h2 p hp
theorem longest_le : ∀ (l : List S23) (m : Int), m ≤ 306 → (∀ p ∈ l, GoodP p) → l.foldl (fun m p => mx m ((p.f1.size : Int) + 6)) m ≤ 306
  | [], m, h, _ => h
  | q :: l, m, h, hg => longest_le l _ (by have := (hg q (by simp)).2; show mx m ((q.f1.size : Int) + 6) ≤ 306; unfold mx; split <;> omega) (fun p hp => hg p (List.mem_cons_of_mem _ hp))

theorem stream_step (p : S23) (gp : GoodP p) (k : Nat) (l : List S23) (x5 : List Int) (x6 x7 : Int) (hi : x7 < (l.length : Int)) (h0 : 0 ≤ x7) (hp : rd_T23 l x7 = p) (h5 : x5.length ≤ 100000) :
    stencillaw24_stream.l0 (k + 1 + 1) l x5 x6 x7 = stencillaw24_stream.l0 k l (x5 ++ frB p) (mx x6 ((p.f1.size : Int) + 6)) (wrap64 (x7 + 1)) := by
  have hn := frB_len p
  have hr := frB_range p gp
  have h2 := gp.2
  have b0 : bt (strOfNums (frB p)) 0 = 0 := strOf_bt (frB p) hr 0 0 rfl
  have b1 : bt (strOfNums (frB p)) 1 = 0 := strOf_bt (frB p) hr 1 0 rfl
  have b2 : bt (strOfNums (frB p)) 2 = ((p.f1.size : Int) + 6) / 256 := strOf_bt (frB p) hr 2 _ rfl
  have b3 : bt (strOfNums (frB p)) 3 = ((p.f1.size : Int) + 6) % 256 := strOf_bt (frB p) hr 3 _ rfl
  have b4 : bt (strOfNums (frB p)) 4 = p.f0 / 256 := strOf_bt (frB p) hr 4 _ rfl
  have b5 : bt (strOfNums (frB p)) 5 = p.f0 % 256 := strOf_bt (frB p) hr 5 _ rfl
  have hc : ((strOfNums (frB p)).extract 6 (strOfNums (frB p)).size).toList = p.f1.toList := by
    rw [strOf_size, strOf_cut, List.take_of_length_le (by rw [List.length_drop]; exact Nat.le_refl _)]
    have : (frB p).drop 6 = bytesOf p.f1 := by simp [frB]
    rw [this, strOf_bytes]
  have hz : ((strOfNums (frB p)).size : Int) = (p.f1.size : Int) + 6 := by rw [strOf_size, hn]; omega
  have hzn : (strOfNums (frB p)).size = p.f1.size + 6 := by rw [strOf_size, hn]
  have hw := wrap_good p gp
  have hbs := bytes_strOf _ hr
  have hf0 : 0 ≤ p.f0 ∧ p.f0 < 65536 := by rcases gp.1 with h | h <;> omega
  rw [stencillaw24_stream.l0, hp, if_pos hi, if_pos h0, hw]
  clear hw hr hn gp hp hi h0
  generalize strOfNums (frB p) = s at *
  generalize hN : (p.f1.size : Int) + 6 = N at *
  have hN1 : 6 ≤ N ∧ N ≤ 306 := by omega
  rw [Option.bind_some]
  dsimp only
  rw [show stencillaw24_num.f 0 = some 0 from rfl, Option.bind_some]
  rw [if_pos rfl, w64f (x := N) (by omega) (by omega), hz, if_pos rfl, if_pos hN1.1, if_pos hc, if_pos (by omega), b0, if_pos rfl, if_pos (by omega), b1, if_pos rfl, if_pos (by omega), if_pos (by omega), b2, b3, b4, b5]
  have e1 : wrap64 (wrap64 (wrap64 (N / 256) * 256) + wrap64 (N % 256)) = N := by
    rw [w64f (x := N / 256) (by omega) (by omega), w64f (x := N % 256) (by omega) (by omega), w64f (x := N / 256 * 256) (by omega) (by omega), w64f (by omega) (by omega)]; omega
  have e2 : wrap64 (wrap64 (wrap64 (p.f0 / 256) * 256) + wrap64 (p.f0 % 256)) = p.f0 := by
    generalize p.f0 = t at *
    rw [w64f (x := t / 256) (by omega) (by omega), w64f (x := t % 256) (by omega) (by omega), w64f (x := t / 256 * 256) (by omega) (by omega), w64f (by omega) (by omega)]; omega
  rw [e1, e2, if_pos rfl, if_pos (by omega), if_pos (by omega), bne_self_eq_false, stencillaw24_stream.j1, if_neg (by decide), if_pos (by omega), hbs]
theorem stream_go (l : List S23) (hl : l.length ≤ 40) (hg : ∀ p ∈ l, GoodP p) : ∀ (d i : Nat), i + d = l.length →
    ∃ k, stencillaw24_stream.l0 k l (streamB (l.take i)) (longest (l.take i)) (i : Int) = some (strOfNums (streamB l), longest l, true) := by
  intro d
  induction d with
  | zero =>
    intro i hi
    refine ⟨1, ?_⟩
    rw [stencillaw24_stream.l0, if_neg (by omega), List.take_of_length_le (by omega)]
  | succ d ih =>
    intro i hi
    have hlt : i < l.length := by omega
    obtain ⟨k, hk⟩ := ih (i + 1) (by omega)
    have hp : rd_T23 l (i : Int) = l[i] := by simp [rd_T23, List.getD_eq_getElem?_getD, List.getElem?_eq_getElem hlt]
    have gp := hg l[i] (List.getElem_mem hlt)
    have ht : l.take (i + 1) = l.take i ++ [l[i]] := List.take_succ_eq_append_getElem hlt
    have hs : streamB (l.take (i + 1)) = streamB (l.take i) ++ frB l[i] := by rw [ht]; unfold streamB; rw [List.flatMap_append, List.flatMap_cons, List.flatMap_nil, List.append_nil]
    have hm : longest (l.take (i + 1)) = mx (longest (l.take i)) ((l[i].f1.size : Int) + 6) := by rw [ht]; unfold longest; rw [List.foldl_append]; rfl
    have hlen := streamB_len (l.take i) (fun p hp => hg p (List.mem_of_mem_take hp))
    rw [List.length_take] at hlen
    have hw1 : wrap64 ((i : Int) + 1) = ((i + 1 : Nat) : Int) := by rw [w64f (by omega) (by omega)]; rfl
    rw [hs, hm] at hk
    exact ⟨k + 1 + 1, by rw [stream_step l[i] gp k l _ _ _ (by omega) (by omega) hp (by omega), hw1]; exact hk⟩
theorem stream_some (l : List S23) (hl : l.length ≤ 40) (hg : ∀ p ∈ l, GoodP p) : ∃ k, stencillaw24_stream.f k l = some (strOfNums (streamB l), longest l, true) := stream_go l hl hg l.length 0 (by omega)

theorem look_good (lim : Int) (p : S23) (h : GoodP p) (hl : (p.f1.size : Int) + 6 ≤ lim) (r : List Int) : lookF lim (frB p ++ r) = 1 := by
  unfold lookF
  rw [if_neg (by rw [List.length_append, frB_len]; omega), frB_num p h, if_neg (by omega), if_neg (by rw [List.length_append, frB_len]; omega), frB_kind p h, if_pos (by rcases h.1 with h | h <;> rw [h] <;> rfl), if_neg (by rw [List.length_append, frB_len]; omega)]
/-- The whole frames of a stream are its parcels. -/
theorem parcelsF_stream (lim : Int) (rest : List Int) : ∀ (l : List S23) (f : Nat) (acc : List S23), (∀ p ∈ l, GoodP p ∧ (p.f1.size : Int) + 6 ≤ lim) → parcelsF lim (f + l.length) (streamB l ++ rest) acc = parcelsF lim f rest (acc ++ l)
  | [], f, acc, _ => by simp [streamB]
  | p :: l, f, acc, h => by
    have hp := h p (by simp)
    have e : streamB (p :: l) ++ rest = frB p ++ (streamB l ++ rest) := by simp [streamB]
    have ih := parcelsF_stream lim rest l f (acc ++ [p]) (fun q hq => h q (List.mem_cons_of_mem _ hq))
    rw [List.length_cons, ← Nat.add_assoc, parcelsF, e, if_pos (look_good lim p hp.1 hp.2 _), frB_num p hp.1, frB_kind p hp.1]
    have t : ((p.f1.size : Int) + 6).toNat = p.f1.size + 6 := by omega
    rw [t, frB_body, List.drop_append_of_le_length (by rw [frB_len]; omega), List.drop_of_length_le (by rw [frB_len]; omega), List.nil_append]
    have e2 : (⟨p.f0, p.f1⟩ : S23) = p := rfl
    rw [e2, ih, List.append_assoc]; rfl
/-- Behind a stream's frames stands what is no frame. -/
theorem parcelsF_all (lim : Int) (l : List S23) (rest : List Int) (h : ∀ p ∈ l, GoodP p ∧ (p.f1.size : Int) + 6 ≤ lim) (hr : lookF lim rest ≠ 1) (n : Nat) (hn : l.length ≤ n) : parcelsF lim n (streamB l ++ rest) [] = (l, rest) := by
  obtain ⟨f, rfl⟩ : ∃ f, n = f + l.length := ⟨n - l.length, by omega⟩
  rw [parcelsF_stream lim rest l f [] h, List.nil_append]
  cases f with
  | zero => rfl
  | succ f => rw [parcelsF, if_neg hr]
theorem sameS_refl (l : List S23) (hl : l.length ≤ 9223372036854775807) : ∀ (d i : Nat), i + d = l.length → stencillaw24_same.l0 (d + 1) l l (i : Int) = some true
  | 0, i, h => by rw [stencillaw24_same.l0, if_neg (by omega)]
  | d + 1, i, h => by
    have c1 : (i : Int) < (l.length : Int) := by omega
    have c2 : 0 ≤ (i : Int) := by omega
    have ih := sameS_refl l hl d (i + 1) (by omega)
    have w1 : wrap64 ((i : Int) + 1) = ((i + 1 : Nat) : Int) := w64f (by omega) (by omega)
    rw [stencillaw24_same.l0, if_pos c1, if_pos c2, if_pos c1, if_neg (by simp), w1]
    exact ih
theorem sameS_self (l : List S23) (hl : l.length ≤ 9223372036854775807) : stencillaw24_same.f (l.length + 1) l l = some true := by
  unfold stencillaw24_same.f
  rw [if_pos rfl]
  exact sameS_refl l hl l.length 0 (by omega)
theorem frame_New2.calls (w : World) (lim : Int) :
    Calls Try.prog 15 #[.int .i64 lim] w fun e w' => ∃ g : Nat, e = .returned (.pointer (some ⟨g, 0, none⟩)) ∧ g = w.heap.size ∧ w'.heap[g]? = some (.cells #[.slice none 0 0, .int .i64 lim, .int .i64 0] 62 (0, 0)) ∧ Below w.heap.size w w' := by
  have HB := Aside0.mk (Below.refl w.heap.size w)
  go_enter Try.func15, Try.ntmps15
  go_wp2
  go_ret
  exact ⟨w.heap.size, rfl, rfl, blk_new w _, (by repeat (first | (with_reducible first | exact HB.out | apply below_alloc | apply pw_below_drewN | apply below_drew1) | exact HB.out))⟩

end Go.Proofs.Ytkchnocliilapaa.Q
