/- What letter, digit, XMLName, Symbol, blank, Trim, Blank compute, on lists of bytes. -/
import Derived.Test.YthgodajjaddgbaaQx0
import Derived.Test.YthgodajjaddgbaaQx1
import Derived.Test.YthgodajjaddgbaaQx2
namespace Go.Proofs.Ythgodajjaddgbaa.Q
open Go.RowKit Go.Proofs.YthgodajjaddgbaaW.PrintWords Go.Proofs.YthgodajjaddgbaaW.PrintLast Go.Proofs.YthgodajjaddgbaaW.PrintMore
attribute [local go_sem] max2_int min2_int max_two min_two max_three min_three max_four min_four   -- for this text's walks alone
set_option linter.unusedVariables false
set_option linter.unusedSimpArgs false

/-- The string of a list of bytes. -/
def S (l : List UInt8) : ByteArray := ⟨l.toArray⟩
theorem S_of (a : ByteArray) : a = S a.toList := by rw [ByteArray.toList_eq]; cases a; simp [S]
theorem S_size (l : List UInt8) : (S l).size = l.length := by simp [S, ByteArray.size]
theorem S_toList (l : List UInt8) : (S l).toList = l := by unfold S; simp
theorem S_bt (l : List UInt8) (i : Int) : bt (S l) i = ((l.getD i.toNat 0).toNat : Int) := by
  unfold bt
  by_cases h : i.toNat < (S l).size
  · rw [dif_pos h]
    have h' : i.toNat < l.length := by rw [S_size] at h; exact h
    have : (S l)[i.toNat]'h = l[i.toNat]'h' := by simp [S, ByteArray.getElem_eq_getElem_data]
    rw [this]; simp [List.getD, h']
  · rw [dif_neg h]
    have h' : ¬ i.toNat < l.length := by rw [S_size] at h; exact h
    simp [List.getD, h']
theorem S_extract (l : List UInt8) (a b : Nat) : (S l).extract a b = S ((l.drop a).take (b - a)) := by unfold S; exact ByteArray.extract_mk l a b
theorem S_append (a b : List UInt8) : S a ++ S b = S (a ++ b) := by
  apply ByteArray.ext; simp [S]
def letV (c : Int) : Bool := decide (97 ≤ c ∧ c ≤ 122 ∨ 65 ≤ c ∧ c ≤ 90 ∨ c = 95)
def digV (c : Int) : Bool := decide (48 ≤ c ∧ c ≤ 57)
def blkV (c : Int) : Bool := decide (c = 9 ∨ c = 10 ∨ c = 13 ∨ c = 32)
def iv (c : UInt8) : Int := (c.toNat : Int)
theorem letter_some (c : Int) : text_letter.f c = some (letV c) := by
  unfold text_letter.f letV
  have e : ∀ b : Bool, ∀ P : Prop, [Decidable P] → (b = true ↔ P) → some b = some (decide P) := fun b P _ h => by congr 1; rw [Bool.eq_iff_iff, h, decide_eq_true_iff]
  by_cases h1 : c ≥ 97 <;> by_cases h2 : c ≤ 122 <;> by_cases h3 : c ≥ 65 <;> by_cases h4 : c ≤ 90 <;> simp only [h1, h2, h3, h4, if_true, if_false] <;> (first | (exfalso; omega) | (apply e; simp; omega) | (apply e; simp))
theorem digit_some (c : Int) : text_digit.f c = some (digV c) := by
  unfold text_digit.f digV
  by_cases h1 : c ≥ 48
  · rw [if_pos h1]; congr 1; rw [Bool.eq_iff_iff, decide_eq_true_iff, decide_eq_true_iff]; omega
  · rw [if_neg h1, decide_eq_false (by omega)]
theorem blank_some (c : Int) : text_blank.f c = some (blkV c) := by
  unfold text_blank.f blkV
  by_cases h1 : c = 9
  · subst h1; rfl
  · rw [if_neg h1]
    by_cases h2 : c = 10
    · subst h2; rfl
    · rw [if_neg h2]
      by_cases h3 : c = 13
      · subst h3; rfl
      · rw [if_neg h3]; congr 1; rw [Bool.eq_iff_iff, beq_iff_eq, decide_eq_true_iff]; omega
theorem w64_id {x : Int} (h0 : -9223372036854775808 ≤ x) (h1 : x < 9223372036854775808) : wrap64 x = x := by unfold wrap64; omega
theorem bt_nat (l : List UInt8) (i : Nat) (h : i < l.length) : bt (S l) (i : Int) = iv l[i] := by
  rw [S_bt]; simp [List.getD, h, iv]
def xmlC (i : Nat) (c : Int) : Bool := letV c || c == 58 || (i != 0 && (digV c || c == 45 || c == 46))
def xmlAll : Nat → List UInt8 → Bool
  | _, [] => true
  | i, c :: r => xmlC i (iv c) && xmlAll (i + 1) r
def xmlV (l : List UInt8) : Bool := xmlAll 0 l && decide (l ≠ [])
theorem xml_l0 (l : List UInt8) (hl : l.length < 9223372036854775807) : ∀ (n i k : Nat), l.length - i = n → i ≤ l.length → n < k →
    text_XMLName.l0 k (S l) (l.length : Int) (i : Int) = some (xmlAll i (l.drop i) && decide (l ≠ [])) := by
  intro n
  induction n with
  | zero =>
    intro i k hn hi hk
    obtain ⟨k, rfl⟩ : ∃ j, k = j + 1 := ⟨k - 1, by omega⟩
    have e : i = l.length := by omega
    subst e
    unfold text_XMLName.l0
    rw [if_neg (by omega), S_toList, List.drop_length]
    congr 1
    cases l <;> simp [xmlAll]
  | succ n ih =>
    intro i k hn hi hk
    obtain ⟨k, rfl⟩ : ∃ j, k = j + 1 := ⟨k - 1, by omega⟩
    have lt : i < l.length := by omega
    have w : wrap64 ((i : Int) + 1) = ((i + 1 : Nat) : Int) := by rw [w64_id (by omega) (by omega)]; rfl
    have step := ih (i + 1) k (by omega) (by omega) (by omega)
    rw [List.drop_eq_getElem_cons lt]
    unfold text_XMLName.l0 xmlAll xmlC
    rw [if_pos (by omega), if_pos (by omega), if_pos (by rw [S_size]; omega), bt_nat l i lt, letter_some, digit_some, w, step]
    generalize hX : (xmlAll (i + 1) (List.drop (i + 1) l) && decide (l ≠ [])) = X
    simp only [Option.bind_some]
    generalize iv l[i] = c
    by_cases a1 : letV c = true
    · rw [if_pos a1, a1, ← hX]; simp
    · rw [if_neg a1, Bool.eq_false_iff.mpr a1]
      by_cases a2 : c = 58
      · rw [if_pos a2, ← hX]; simp [a2]
      · rw [if_neg a2]
        by_cases a3 : (i : Int) = 0
        · rw [if_pos a3]; have : i = 0 := by omega
          simp [this, a2]
        · rw [if_neg a3]
          have i0 : (i != 0) = true := bne_iff_ne.mpr (by omega)
          rw [i0]
          by_cases a4 : digV c = true
          · rw [if_pos a4, a4, ← hX]; simp
          · rw [if_neg a4, Bool.eq_false_iff.mpr a4]
            by_cases a5 : c = 45
            · rw [if_pos a5, ← hX]; simp [a5]
            · rw [if_neg a5]
              by_cases a6 : c = 46
              · rw [if_pos a6, ← hX]; simp [a6]
              · rw [if_neg a6]; simp [a2, a5, a6]
theorem xml_some (l : List UInt8) (hl : l.length < 9223372036854775807) (k : Nat) (hk : l.length < k) : text_XMLName.f k (S l) = some (xmlV l) := by
  unfold text_XMLName.f
  rw [S_size]
  have := xml_l0 l hl l.length 0 k (by omega) (by omega) hk
  simpa [xmlV] using this
def symC (i : Nat) (c : Int) : Bool := letV c || (i != 0 && digV c)
def symAll : Nat → List UInt8 → Bool
  | _, [] => true
  | i, c :: r => symC i (iv c) && symAll (i + 1) r
def symV (l : List UInt8) : Bool := symAll 0 l && decide (l ≠ [] ∧ l.length ≤ 64)
theorem sym_l0 (l : List UInt8) (hl : l.length < 9223372036854775807) : ∀ (n i k : Nat), l.length - i = n → i ≤ l.length → n < k →
    text_Symbol.l0 k (S l) (l.length : Int) (i : Int) = some (symAll i (l.drop i) && decide (l ≠ [] ∧ l.length ≤ 64)) := by
  intro n
  induction n with
  | zero =>
    intro i k hn hi hk
    obtain ⟨k, rfl⟩ : ∃ j, k = j + 1 := ⟨k - 1, by omega⟩
    have e : i = l.length := by omega
    subst e
    unfold text_Symbol.l0
    rw [if_neg (by omega), S_toList, List.drop_length, S_size]
    by_cases c : l = []
    · rw [if_pos c]; simp [c]
    · rw [if_neg c]; congr 1; rw [Bool.eq_iff_iff]; simp [symAll, c]; omega
  | succ n ih =>
    intro i k hn hi hk
    obtain ⟨k, rfl⟩ : ∃ j, k = j + 1 := ⟨k - 1, by omega⟩
    have lt : i < l.length := by omega
    have w : wrap64 ((i : Int) + 1) = ((i + 1 : Nat) : Int) := by rw [w64_id (by omega) (by omega)]; rfl
    have step := ih (i + 1) k (by omega) (by omega) (by omega)
    rw [List.drop_eq_getElem_cons lt]
    unfold text_Symbol.l0 symAll symC
    rw [if_pos (by omega), if_pos (by omega), if_pos (by rw [S_size]; omega), bt_nat l i lt, letter_some, digit_some, w, step]
    generalize hX : (symAll (i + 1) (List.drop (i + 1) l) && decide (l ≠ [] ∧ l.length ≤ 64)) = X
    simp only [Option.bind_some]
    generalize iv l[i] = c
    by_cases a1 : letV c = true
    · rw [if_pos a1, a1, ← hX]; simp
    · rw [if_neg a1, Bool.eq_false_iff.mpr a1]
      by_cases a3 : (i : Int) = 0
      · rw [if_pos a3]; have : i = 0 := by omega
        simp [this]
      · rw [if_neg a3]
        have i0 : (i != 0) = true := bne_iff_ne.mpr (by omega)
        rw [i0]
        by_cases a4 : digV c = true
        · rw [if_pos a4, a4, ← hX]; simp
        · rw [if_neg a4, Bool.eq_false_iff.mpr a4]; simp
theorem sym_some (l : List UInt8) (hl : l.length < 9223372036854775807) (k : Nat) (hk : l.length < k) : text_Symbol.f k (S l) = some (symV l) := by
  unfold text_Symbol.f
  rw [S_size]
  have := sym_l0 l hl l.length 0 k (by omega) (by omega) hk
  simpa [symV] using this
theorem sym_xml (l : List UInt8) (h : symV l = true) : xmlV l = true ∧ l.length ≤ 64 := by
  unfold symV at h
  rw [Bool.and_eq_true, decide_eq_true_iff] at h
  have all : ∀ (m : List UInt8) (i : Nat), symAll i m = true → xmlAll i m = true := by
    intro m
    induction m with
    | nil => intro i _; rfl
    | cons c r ih =>
      intro i q
      unfold symAll at q
      rw [Bool.and_eq_true] at q
      unfold xmlAll
      rw [Bool.and_eq_true]
      refine ⟨?_, ih _ q.2⟩
      have z := q.1
      unfold symC at z
      unfold xmlC
      simp only [Bool.or_eq_true, Bool.and_eq_true] at z ⊢
      rcases z with z | z
      · exact Or.inl (Or.inl z)
      · exact Or.inr ⟨z.1, Or.inl (Or.inl z.2)⟩
  refine ⟨?_, h.2.2⟩
  unfold xmlV
  rw [all _ _ h.1]; simp [h.2.1]
def bk (c : UInt8) : Bool := blkV (iv c)
def ls (l : List UInt8) : List UInt8 := l.dropWhile bk
def rs (l : List UInt8) : List UInt8 := (l.reverse.dropWhile bk).reverse
def trimV (l : List UInt8) : List UInt8 := rs (ls l)
theorem rs_snoc (m : List UInt8) (c : UInt8) : rs (m ++ [c]) = if bk c = true then rs m else m ++ [c] := by
  unfold rs
  rw [List.reverse_append]
  show (List.dropWhile bk (c :: m.reverse)).reverse = _
  rw [List.dropWhile_cons]
  by_cases h : bk c = true
  · rw [if_pos h, if_pos h]
  · rw [if_neg h, if_neg h]; simp
theorem trim_l1 : ∀ (n : Nat) (l : List UInt8) (k : Nat), l.length = n → n < 9223372036854775807 → n < k → text_Trim.l1 k (S l) = some (S (rs l)) := by
  intro n
  induction n with
  | zero =>
    intro l k hn hl hk
    obtain ⟨k, rfl⟩ : ∃ j, k = j + 1 := ⟨k - 1, by omega⟩
    obtain rfl : l = [] := List.length_eq_zero_iff.mp hn
    unfold text_Trim.l1
    rw [S_toList, if_pos rfl]; rfl
  | succ n ih =>
    intro l k hn hl hk
    obtain ⟨k, rfl⟩ : ∃ j, k = j + 1 := ⟨k - 1, by omega⟩
    rcases List.eq_nil_or_concat l with rfl | ⟨m, c, hmc⟩
    · simp at hn
    · rw [List.concat_eq_append] at hmc
      subst hmc
      have hm : m.length = n := by simpa using hn
      have w : wrap64 (((m ++ [c]).length : Int) - 1) = (n : Int) := by rw [hn, w64_id (by omega) (by omega)]; omega
      unfold text_Trim.l1
      rw [S_toList, S_size, w, if_neg (by simp), if_pos (by omega), if_pos (by omega), bt_nat (m ++ [c]) n (by omega), blank_some]
      have gc : (m ++ [c])[n]'(by omega) = c := by simp [← hm]
      rw [gc]
      show (if bk c = true then (if (n : Int) ≤ ((m ++ [c]).length : Int) then (text_Trim.l1 k ((S (m ++ [c])).extract 0 (n : Int).toNat)) else none) else some (S (m ++ [c]))) = _
      rw [rs_snoc]
      by_cases h : bk c = true
      · rw [if_pos h, if_pos h, if_pos (by omega), S_extract]
        have e : List.take ((n : Int).toNat - 0) (List.drop 0 (m ++ [c])) = m := by simp [← hm]
        rw [e]
        exact ih m k hm (by omega) (by omega)
      · rw [if_neg h, if_neg h]
theorem trim_l0 : ∀ (n : Nat) (l : List UInt8) (k : Nat), l.length = n → n < 9223372036854775807 → 2 * n + 3 < k → text_Trim.l0 k (S l) = some (S (trimV l)) := by
  intro n
  induction n with
  | zero =>
    intro l k hn hl hk
    obtain ⟨k, rfl⟩ : ∃ j, k = j + 2 := ⟨k - 2, by omega⟩
    obtain rfl : l = [] := List.length_eq_zero_iff.mp hn
    unfold text_Trim.l0
    rw [S_toList, if_pos rfl]
    show text_Trim.l1 k (S []) = _
    exact trim_l1 0 [] k rfl (by omega) (by omega)
  | succ n ih =>
    intro l k hn hl hk
    obtain ⟨k, rfl⟩ : ∃ j, k = j + 2 := ⟨k - 2, by omega⟩
    cases l with
    | nil => simp at hn
    | cons c r =>
      have hr : r.length = n := by simpa using hn
      unfold text_Trim.l0
      have b0 : bt (S (c :: r)) 0 = iv c := bt_nat (c :: r) 0 (by simp)
      rw [S_toList, S_size, if_neg (by simp), if_pos (by omega), b0, blank_some]
      show (if bk c = true then (if 1 ≤ ((c :: r).length : Int) then text_Trim.l0 (k + 1) ((S (c :: r)).extract 1 ((c :: r).length)) else none) else text_Trim.j1 (k + 1) (S (c :: r))) = _
      unfold trimV ls
      rw [List.dropWhile_cons]
      by_cases h : bk c = true
      · rw [if_pos h, if_pos h, if_pos (by omega), S_extract]
        have e : List.take ((c :: r).length - 1) (List.drop 1 (c :: r)) = r := by simp
        rw [e]
        exact ih r (k + 1) hr (by omega) (by omega)
      · rw [if_neg h, if_neg h]
        show text_Trim.l1 k (S (c :: r)) = _
        exact trim_l1 (n + 1) (c :: r) k hn hl (by omega)
theorem trim_some (l : List UInt8) (hl : l.length < 9223372036854775807) (k : Nat) (hk : 2 * l.length + 3 < k) : text_Trim.f k (S l) = some (S (trimV l)) :=
  trim_l0 l.length l k rfl hl hk
theorem ls_split (l : List UInt8) : ∃ p, l = p ++ ls l ∧ p.all bk = true ∧ (∀ c r, ls l = c :: r → bk c = false) := by
  refine ⟨l.takeWhile bk, (List.takeWhile_append_dropWhile).symm, by simp [List.all_takeWhile], ?_⟩
  induction l with
  | nil => intro c r h; simp [ls] at h
  | cons x y ih =>
    intro c r h
    unfold ls at h
    rw [List.dropWhile_cons] at h
    by_cases hx : bk x = true
    · rw [if_pos hx] at h; exact ih c r h
    · rw [if_neg hx] at h
      obtain ⟨rfl, rfl⟩ := List.cons.inj h
      exact Bool.eq_false_iff.mpr hx
theorem rs_split (l : List UInt8) : ∃ q, l = rs l ++ q ∧ q.all bk = true ∧ (∀ m c, rs l = m ++ [c] → bk c = false) := by
  obtain ⟨p, h1, h2, h3⟩ := ls_split l.reverse
  refine ⟨p.reverse, ?_, by simpa using h2, ?_⟩
  · have := congrArg List.reverse h1
    rw [List.reverse_reverse, List.reverse_append] at this
    exact this
  · intro m c h
    refine h3 c m.reverse ?_
    have := congrArg List.reverse h
    unfold rs at this
    rw [List.reverse_reverse, List.reverse_append] at this
    exact this
theorem trim_split (l : List UInt8) : ∃ p q, l = p ++ trimV l ++ q ∧ p.all bk = true ∧ q.all bk = true ∧ (∀ c r, trimV l = c :: r → bk c = false) ∧ (∀ m c, trimV l = m ++ [c] → bk c = false) := by
  obtain ⟨p, h1, h2, h3⟩ := ls_split l
  obtain ⟨q, g1, g2, g3⟩ := rs_split (ls l)
  refine ⟨p, q, by rw [List.append_assoc]; unfold trimV; rw [← g1]; exact h1, h2, g2, ?_, g3⟩
  intro c r h
  refine h3 c (r ++ q) ?_
  rw [g1]; unfold trimV at h; rw [h]; rfl
theorem trim_nil (l : List UInt8) : trimV l = [] ↔ l.all bk = true := by
  obtain ⟨p, q, h1, h2, h3, h4, h5⟩ := trim_split l
  constructor
  · intro h
    rw [h1, h]; simp only [List.append_nil, List.all_append, h2, h3]; rfl
  · intro h
    cases e : trimV l with
    | nil => rfl
    | cons c r =>
      exfalso
      have := h4 c r e
      rw [h1, e] at h
      simp [List.all_append] at h
      rw [h.2.1] at this; exact absurd this (by decide)
theorem blankf_some (l : List UInt8) (hl : l.length < 9223372036854775807) (k : Nat) (hk : 2 * l.length + 3 < k) : text_Blank.f k (S l) = some (l.all bk) := by
  unfold text_Blank.f
  rw [trim_some l hl k hk]
  show some ((S (trimV l)).toList == []) = _
  rw [S_toList]; congr 1
  rw [Bool.eq_iff_iff, beq_iff_eq]; exact trim_nil l
theorem one_nums (x : Int) (h0 : 0 ≤ x) (h1 : x ≤ 255) : strOfNums [x] = S [UInt8.ofNat x.toNat] ∧ iv (UInt8.ofNat x.toNat) = x := by
  refine ⟨rfl, ?_⟩
  unfold iv
  have : (UInt8.ofNat x.toNat).toNat = x.toNat := by simp; omega
  rw [this]; omega
theorem iv_b (b : UInt8) : bk b = blkV (iv b) := rfl
theorem callXml (l : List UInt8) (hl : l.length ≤ 1000000000000000) (w : World) : Calls Try.prog 9 #[.string (S l)] w fun e w' => e = .returned (.bool (xmlV l)) ∧ Drawn0 w w' := text_XMLName.calls (l.length + 1) _ _ _ (xml_some l (by omega) _ (by omega))
theorem callSym (l : List UInt8) (hl : l.length ≤ 1000000000000000) (w : World) : Calls Try.prog 10 #[.string (S l)] w fun e w' => e = .returned (.bool (symV l)) ∧ Drawn0 w w' := text_Symbol.calls (l.length + 1) _ _ _ (sym_some l (by omega) _ (by omega))
theorem callTrim (l : List UInt8) (hl : l.length ≤ 1000000000000000) (w : World) : Calls Try.prog 12 #[.string (S l)] w fun e w' => e = .returned (.string (S (trimV l))) ∧ Drawn0 w w' := text_Trim.calls (2 * l.length + 4) _ _ _ (trim_some l (by omega) _ (by omega))
theorem callBlank (l : List UInt8) (hl : l.length ≤ 1000000000000000) (w : World) : Calls Try.prog 11 #[.string (S l)] w fun e w' => e = .returned (.bool (l.all bk)) ∧ Drawn0 w w' := text_Blank.calls (2 * l.length + 4) _ _ _ (blankf_some l (by omega) _ (by omega))

end Go.Proofs.Ythgodajjaddgbaa.Q
