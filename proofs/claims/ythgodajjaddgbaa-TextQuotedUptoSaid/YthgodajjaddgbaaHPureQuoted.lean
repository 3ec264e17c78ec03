/- Quote, Hex and Unhex over the lists of bytes (layer 2). Plain. -/
import Derived.Test.YthgodajjaddgbaaTx0
import Derived.Test.YthgodajjaddgbaaTx1
import Derived.Test.YthgodajjaddgbaaTx2
import Derived.Test.YthgodajjaddgbaaHUnquote
import Derived.IntWalk
namespace Go.Proofs.Ythgodajjaddgbaa.T
open Go.RowKit Go.Proofs.YthgodajjaddgbaaW.PrintWords Go.Proofs.YthgodajjaddgbaaW.PrintLast Go.Proofs.YthgodajjaddgbaaW.PrintMore
attribute [local go_sem] max2_int min2_int max_two min_two max_three min_three max_four min_four   -- for this text's walks alone
set_option linter.unusedVariables false
set_option linter.unusedSimpArgs false

def bytesT (s : ByteArray) : List Int := s.data.toList.map fun b => (b.toNat : Int)
theorem strOf_bytesT (s : ByteArray) : strOfNums (bytesT s) = s := by
  apply ByteArray.ext
  simp [strOfNums, bytesT]
  cases s
  simp [Function.comp_def]
theorem bytesT_range (s : ByteArray) : ∀ x ∈ bytesT s, 0 ≤ x ∧ x ≤ 255 := by
  intro x hx
  unfold bytesT at hx
  obtain ⟨b, _, rfl⟩ := List.mem_map.1 hx
  have := b.toNat_lt
  omega
theorem bytesT_len (s : ByteArray) : (bytesT s).length = s.size := by simp [bytesT]
theorem strOf_appT (a b : List Int) : strOfNums a ++ strOfNums b = strOfNums (a ++ b) := by apply ByteArray.ext; simp [strOfNums]
theorem strOf_cutT (l : List Int) (a b : Nat) : (strOfNums l).extract a b = strOfNums ((l.drop a).take (b - a)) := by
  unfold strOfNums
  rw [ByteArray.extract_mk, ← List.map_drop, ← List.map_take]
theorem dig (n : Int) (h0 : 0 ≤ n) (h1 : n < 16) : bt (⟨#[48, 49, 50, 51, 52, 53, 54, 55, 56, 57, 97, 98, 99, 100, 101, 102]⟩ : ByteArray) n = hxD n := by
  have : n = 0 ∨ n = 1 ∨ n = 2 ∨ n = 3 ∨ n = 4 ∨ n = 5 ∨ n = 6 ∨ n = 7 ∨ n = 8 ∨ n = 9 ∨ n = 10 ∨ n = 11 ∨ n = 12 ∨ n = 13 ∨ n = 14 ∨ n = 15 := by omega
  rcases this with rfl | rfl | rfl | rfl | rfl | rfl | rfl | rfl | rfl | rfl | rfl | rfl | rfl | rfl | rfl | rfl <;> rfl
theorem and15 (c : Int) (h0 : 0 ≤ c) (h1 : c ≤ 255) : bits .and .u8 c 15 = c % 16 := bits_mask .u8 8 (by decide) (fun n a b => by rw [IntKind.wrap_u8]; omega) 4 (by decide) c h0 (by omega)
theorem quote_step (k : Nat) (S : ByteArray) (x3 : List Int) (i c : Int) (hc : 0 ≤ c ∧ c ≤ 255) (hb : bt S i = c) (h0 : 0 ≤ i) (h1 : i < (S.size : Int)) (hl : x3.length ≤ 100000000000000) :
    text_Quote.l0 (k + 1 + 1) S x3 (S.size : Int) i = text_Quote.l0 k S (x3 ++ itemQ c) (S.size : Int) (wrap64 (i + 1)) := by
  have l4 : ∀ y : List Int, y.length ≤ 4 → x3.length + y.length < 140737488355328 := fun y hy => by omega
  rw [text_Quote.l0, if_pos h1, if_pos h0, if_pos h1, hb]
  have hx : 0 ≤ c / 16 ∧ c / 16 < 16 := by omega
  have hy : 0 ≤ bits .and .u8 c 15 ∧ bits .and .u8 c 15 < 16 := by rw [and15 c hc.1 hc.2]; omega
  have d1 := dig (c / 16) hx.1 hx.2
  have d2 := dig (bits .and .u8 c 15) hy.1 hy.2
  rw [and15 c hc.1 hc.2] at d2
  by_cases c1 : c = 92
  · rw [if_pos c1, text_Quote.j1, if_pos rfl, Option.bind_some, if_pos (l4 _ (by simp))]
    unfold itemQ; rw [if_pos (.inl c1)]
  · rw [if_neg c1]
    by_cases c2 : c = 34
    · rw [beq_iff_eq.mpr c2, text_Quote.j1, if_pos rfl, Option.bind_some, if_pos (l4 _ (by simp))]
      unfold itemQ; rw [if_pos (.inr c2)]
    · rw [beq_eq_false_iff_ne.mpr c2, text_Quote.j1, if_neg (by decide)]
      unfold itemQ
      rw [if_neg (show ¬(c = 92 ∨ c = 34) by omega)]
      by_cases c3 : c = 10
      · rw [if_pos c3, if_pos c3, Option.bind_some, if_pos (l4 _ (by simp))]
      · rw [if_neg c3, if_neg c3]
        by_cases c4 : c = 13
        · rw [if_pos c4, if_pos c4, Option.bind_some, if_pos (l4 _ (by simp))]
        · rw [if_neg c4, if_neg c4]
          by_cases c5 : c = 9
          · rw [if_pos c5, if_pos c5, Option.bind_some, if_pos (l4 _ (by simp))]
          · rw [if_neg c5, if_neg c5]
            by_cases c6 : c ≥ 32
            · rw [if_pos c6]
              by_cases c7 : c ≤ 126
              · rw [if_pos c7, if_pos (show x3.length < 140737488355328 by omega), if_pos (show 32 ≤ c ∧ c ≤ 126 from ⟨c6, c7⟩)]
              · rw [if_neg c7, if_neg (show ¬(32 ≤ c ∧ c ≤ 126) by omega), if_pos hx.1, if_pos hx.2, if_pos hy.1, if_pos hy.2, Option.bind_some, if_pos (l4 _ (by simp)), and15 c hc.1 hc.2, d1, d2]
            · rw [if_neg c6, if_neg (show ¬(32 ≤ c ∧ c ≤ 126) by omega), if_pos hx.1, if_pos hx.2, if_pos hy.1, if_pos hy.2, Option.bind_some, if_pos (l4 _ (by simp)), and15 c hc.1 hc.2, d1, d2]
theorem quote_some (l : List Int) (hr : ∀ x ∈ l, 0 ≤ x ∧ x ≤ 255) (hl : l.length ≤ 10000000) : ∃ k, text_Quote.f k (strOfNums l) = some (strOfNums (quoteL l)) := by
  have hsz := strOfNums_size l
  have go : ∀ d i, i + d = l.length → ∃ k, text_Quote.l0 k (strOfNums l) (34 :: bodyQ (l.take i)) ((strOfNums l).size : Int) (i : Int) = some (strOfNums (quoteL l)) := by
    intro d
    induction d with
    | zero =>
      intro i hi
      have hb := (bodyQ_len l).2
      refine ⟨1, ?_⟩
      rw [List.take_of_length_le (by omega), text_Quote.l0, if_neg (by omega), if_pos (by rw [List.length_cons]; omega)]
      rfl
    | succ d ih =>
      intro i hi
      obtain ⟨k, hk⟩ := ih (i + 1) (by omega)
      have hlt : i < l.length := by omega
      have hb := (bodyQ_len (l.take i)).2
      rw [List.length_take] at hb
      refine ⟨k + 1 + 1, ?_⟩
      rw [quote_step k _ _ _ l[i] (hr _ (List.getElem_mem hlt)) (bt_of l hr i _ (List.getElem?_eq_getElem hlt)) (by omega) (by omega) (by rw [List.length_cons]; omega), w64q (by omega) (by omega)]
      rw [List.take_succ_eq_append_getElem hlt, bodyQ_app] at hk
      have : bodyQ [l[i]] = itemQ l[i] := by simp [bodyQ]
      rw [this] at hk
      exact hk
  exact go l.length 0 (by omega)
theorem hex_some (l : List Int) (hr : ∀ x ∈ l, 0 ≤ x ∧ x ≤ 255) (hl : l.length ≤ 10000000) : ∃ k, text_Hex.f k (strOfNums l) = some (strOfNums (hexL l)) := by
  have hsz := strOfNums_size l
  have go : ∀ d i, i + d = l.length → ∃ k, text_Hex.l0 k (strOfNums l) (hexL (l.take i)) ((strOfNums l).size : Int) (i : Int) = some (strOfNums (hexL l)) := by
    intro d
    induction d with
    | zero =>
      intro i hi
      refine ⟨1, ?_⟩
      rw [List.take_of_length_le (by omega), text_Hex.l0, if_neg (by omega)]
    | succ d ih =>
      intro i hi
      obtain ⟨k, hk⟩ := ih (i + 1) (by omega)
      have hlt : i < l.length := by omega
      have hc := hr _ (List.getElem_mem hlt)
      have hb := hexL_len (l.take i)
      rw [List.length_take] at hb
      refine ⟨k + 1, ?_⟩
      have hbt := bt_of l hr i _ (List.getElem?_eq_getElem hlt)
      rw [List.take_succ_eq_append_getElem hlt] at hk
      have happ : ∀ (a : List Int) (c : Int), hexL (a ++ [c]) = hexL a ++ [hxD (c / 16), hxD (c % 16)] := fun a c => by simp [hexL, hexI]
      rw [happ] at hk
      generalize l[i] = c at *
      have hx : 0 ≤ c / 16 ∧ c / 16 < 16 := by omega
      have hy : 0 ≤ c % 16 ∧ c % 16 < 16 := by omega
      rw [text_Hex.l0, if_pos (by omega), if_pos (by omega), if_pos (by omega), hbt, and15 c hc.1 hc.2, if_pos hx.1, if_pos hx.2, if_pos hy.1, if_pos hy.2, Option.bind_some, if_pos (by simp; omega), dig _ hx.1 hx.2, dig _ hy.1 hy.2, w64q (by omega) (by omega)]
      exact hk
  obtain ⟨k, hk⟩ := go l.length 0 (by omega)
  refine ⟨k, ?_⟩
  unfold text_Hex.f
  rw [w64q (by omega) (by omega), if_pos (by omega), if_pos (by omega)]
  exact hk
def pairL : List Int → List Int
  | a :: b :: r => (a * 16 + b) :: pairL r
  | _ => []
theorem unhex_some (F : Int → Int) (hF : ∀ k d, 0 ≤ d → d < 16 → text_nibble.f (k + 1) (F d) = some (d, true)) (hFr : ∀ d, 0 ≤ d → d < 16 → 0 ≤ F d ∧ F d ≤ 255) (ds : List Int) (hds : ∀ d ∈ ds, 0 ≤ d ∧ d < 16) (hl : ds.length ≤ 100000000) :
    ∃ k, text_Unhex.f k (strOfNums (ds.map F)) = some (if ds.length % 2 = 1 then ((⟨#[]⟩ : ByteArray), 1, (ds.length : Int)) else (strOfNums (pairL ds), 0, 0)) := by
  obtain ⟨S, hS⟩ : ∃ S, S = strOfNums (ds.map F) := ⟨_, rfl⟩
  have hsz : S.size = ds.length := by rw [hS, strOfNums_size, List.length_map]
  have hbt : ∀ (i : Nat) (h : i < ds.length), bt S (i : Int) = F ds[i] := fun i h => by
    rw [hS]
    refine bt_of _ ?_ i _ (by rw [List.getElem?_map, List.getElem?_eq_getElem h]; rfl)
    intro x hx
    obtain ⟨d, hd, rfl⟩ := List.mem_map.1 hx
    exact hFr d (hds d hd).1 (hds d hd).2
  have step : ∀ (k i : Nat) (x5 : List Int) (x6 : Int) (h : i < ds.length), x5.length ≤ 200000000 → text_Unhex.l0 (k + 1 + 1) S x5 x6 (S.size : Int) (i : Int) = if i % 2 = 1 then text_Unhex.l0 (k + 1) S (x5 ++ [(bits .or .i64 (wrap64 (x6 * 16)) ds[i]) % 256]) ds[i] (S.size : Int) ((i + 1 : Nat) : Int) else text_Unhex.l0 (k + 1) S x5 ds[i] (S.size : Int) ((i + 1 : Nat) : Int) := by
    intro k i x5 x6 h h5
    have hd := hds _ (List.getElem_mem h)
    rw [text_Unhex.l0, if_pos (by omega), if_pos (by omega), if_pos (by omega), hbt i h, hF k _ hd.1 hd.2, Option.bind_some]
    dsimp only
    rw [if_pos rfl, w64q (x := (i : Int) + 1) (by omega) (by omega)]
    by_cases c : i % 2 = 1
    · rw [if_pos c, if_pos (by rw [Int.tmod_eq_emod_of_nonneg (by omega)]; omega), if_pos (by omega)]; rfl
    · rw [if_neg c, if_neg (by rw [Int.tmod_eq_emod_of_nonneg (by omega)]; omega)]; rfl
  have go : ∀ (n : Nat) (r : List Int) (i : Nat) (x5 : List Int) (x6 : Int), r.length ≤ n → ds.drop i = r → i ≤ ds.length → i % 2 = 0 → x5.length ≤ i → ∃ k, text_Unhex.l0 k S x5 x6 (S.size : Int) (i : Int) = some (if r.length % 2 = 1 then ((⟨#[]⟩ : ByteArray), 1, (ds.length : Int)) else (strOfNums (x5 ++ pairL r), 0, 0)) := by
    intro n
    induction n with
    | zero =>
      intro r i x5 x6 hr hd hi he h5
      obtain rfl : r = [] := List.eq_nil_of_length_eq_zero (by omega)
      have := congrArg List.length hd
      rw [List.length_drop] at this
      simp at this
      refine ⟨1, ?_⟩
      rw [text_Unhex.l0, if_neg (by omega), if_neg (by omega), if_neg (by decide)]
      simp [pairL]
    | succ n ih =>
      intro r i x5 x6 hr hd hi he h5
      have hlen := congrArg List.length hd
      rw [List.length_drop] at hlen
      match r, hr, hd, hlen with
      | [], hr, hd, hlen =>
        simp at hlen
        refine ⟨1, ?_⟩
        rw [text_Unhex.l0, if_neg (by omega), if_neg (by omega), if_neg (by decide)]
        simp [pairL]
      | [a], hr, hd, hlen =>
        simp at hlen
        refine ⟨0 + 1 + 1, ?_⟩
        rw [step 0 i x5 x6 (by omega) (by omega), if_neg (by omega), text_Unhex.l0, if_neg (by omega), if_pos (by omega), if_pos (by rfl), hsz]
      | a :: b :: r', hr, hd, hlen =>
        simp only [List.length_cons] at hlen hr
        have h0 : i < ds.length := by omega
        have h1 : i + 1 < ds.length := by omega
        have e0 : ds[i] = a := by have := List.drop_eq_getElem_cons h0; rw [hd] at this; injection this with h _; exact h.symm
        have e1 : ds.drop (i + 1) = b :: r' := by have := List.drop_eq_getElem_cons h0; rw [hd] at this; injection this with _ h; exact h.symm
        have e2 : ds[i + 1] = b := by have := List.drop_eq_getElem_cons h1; rw [e1] at this; injection this with h _; exact h.symm
        have e3 : ds.drop (i + 1 + 1) = r' := by have := List.drop_eq_getElem_cons h1; rw [e1] at this; injection this with _ h; exact h.symm
        have ha := hds _ (List.getElem_mem h0)
        have hb := hds _ (List.getElem_mem h1)
        rw [e0] at ha
        rw [e2] at hb
        obtain ⟨k, hk⟩ := ih r' (i + 2) (x5 ++ [a * 16 + b]) b (by omega) e3 (by omega) (by omega) (by simp; omega)
        obtain ⟨k, rfl⟩ : ∃ j, k = j + 1 := by
          cases k with
          | zero => rw [text_Unhex.l0] at hk; cases hk
          | succ j => exact ⟨j, rfl⟩
        refine ⟨k + 1 + 1 + 1, ?_⟩
        rw [step (k + 1) i x5 x6 h0 (by omega), if_neg (by omega), step k (i + 1) x5 _ h1 (by omega), if_pos (by omega), e0, e2, or16 ha.1 ha.2 hb.1 hb.2, show (a * 16 + b) % 256 = a * 16 + b by omega]
        rw [show ((i + 1 + 1 : Nat) : Int) = ((i + 2 : Nat) : Int) from rfl, hk]
        have hp : (a :: b :: r').length % 2 = r'.length % 2 := by simp only [List.length_cons]; omega
        rw [hp, pairL, List.append_assoc]; rfl
  obtain ⟨k, hk⟩ := go ds.length ds 0 [] 0 (Nat.le_refl _) rfl (Nat.zero_le _) rfl (Nat.zero_le _)
  refine ⟨k, ?_⟩
  rw [← hS]
  unfold text_Unhex.f
  rw [w64q (by omega) (by omega), if_pos (by omega), if_pos (by omega)]
  exact hk
/-- The digits of bytes. -/
def digL (l : List Int) : List Int := l.flatMap fun c => [c / 16, c % 16]
theorem digL_range (l : List Int) (hr : ∀ x ∈ l, 0 ≤ x ∧ x ≤ 255) : ∀ d ∈ digL l, 0 ≤ d ∧ d < 16 := by
  intro d hd
  unfold digL at hd
  obtain ⟨c, hc, hd⟩ := List.mem_flatMap.1 hd
  have := hr c hc
  simp only [List.mem_cons, List.not_mem_nil, or_false] at hd
  omega
theorem digL_hex : ∀ l : List Int, (digL l).map hxD = hexL l
  | [] => rfl
  | c :: l => by
    have := digL_hex l
    rw [hexL_cons, ← this]; simp [digL]
theorem digL_up (l : List Int) : (digL l).map (fun d => upH (hxD d)) = (hexL l).map upH := by rw [← digL_hex, List.map_map]; rfl
theorem digL_pair : ∀ l : List Int, pairL (digL l) = l
  | [] => rfl
  | c :: l => by
    have := digL_pair l
    have e : digL (c :: l) = c / 16 :: c % 16 :: digL l := by simp [digL]
    rw [e, pairL, this]; congr 1; omega
theorem digL_len : ∀ l : List Int, (digL l).length = 2 * l.length
  | [] => rfl
  | c :: l => by
    have := digL_len l
    have e : digL (c :: l) = c / 16 :: c % 16 :: digL l := by simp [digL]
    rw [e, List.length_cons, List.length_cons, this, List.length_cons]; omega

end Go.Proofs.Ythgodajjaddgbaa.T
