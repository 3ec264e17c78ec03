/- The walk of TextNames (layer 2), by hand; written by gen_names.py. -/
import Derived.Test.YthgodajjaddgbaaQx0
import Derived.Test.YthgodajjaddgbaaQx1
import Derived.Test.YthgodajjaddgbaaQx2
import Derived.Test.YthgodajjaddgbaaHNames
import Derived.IntWalk
namespace Go.Proofs.Ythgodajjaddgbaa.Q
open Go.RowKit Go.Proofs.YthgodajjaddgbaaW.PrintWords Go.Proofs.YthgodajjaddgbaaW.PrintLast Go.Proofs.YthgodajjaddgbaaW.PrintMore
attribute [local go_sem] max2_int min2_int max_two min_two max_three min_three max_four min_four   -- for this text's walks alone
set_option linter.unusedVariables false
set_option linter.unusedSimpArgs false

def stencillaw02_TextNames.f (a0 : ByteArray) (a1 : Int) (a2 : ByteArray) : Option Bool := if a0.size ≤ 140737488351232 ∧ a2.size ≤ 140737488351232 ∧ 0 ≤ a1 ∧ a1 ≤ 255 then some true else none
theorem split3 (l p m q : List UInt8) (e : l = p ++ m ++ q) : List.drop (p.length + m.length) l = q ∧ List.take (p.length + m.length - p.length) (List.drop p.length l) = m := by
  subst e
  refine ⟨?_, ?_⟩
  · rw [← List.length_append, List.drop_left]
  · rw [List.append_assoc, List.drop_left, show p.length + m.length - p.length = m.length by omega, List.take_left]
theorem letV_t {a1 : Int} (h : 97 ≤ a1 ∧ a1 ≤ 122 ∨ 65 ≤ a1 ∧ a1 ≤ 90 ∨ a1 = 95) : letV a1 = true := decide_eq_true h
theorem letV_95 {a1 : Int} (h : ¬ (97 ≤ a1 ∧ a1 ≤ 122 ∨ 65 ≤ a1 ∧ a1 ≤ 90)) : letV a1 = (a1 == 95) := by unfold letV; rw [Bool.eq_iff_iff, beq_iff_eq, decide_eq_true_iff]; omega
theorem digV_f {a1 : Int} (h : ¬ 48 ≤ a1) : digV a1 = false := decide_eq_false (by omega)
theorem digV_t {a1 : Int} (h : 48 ≤ a1) : digV a1 = decide (a1 ≤ 57) := by unfold digV; rw [Bool.eq_iff_iff, decide_eq_true_iff, decide_eq_true_iff]; omega
/-- What the law's calls answer, by their arguments. -/
theorem names_facts (a0 : ByteArray) (a1 : Int) (a2 : ByteArray) (h0 : a0.size ≤ 140737488351232) (h2 : a2.size ≤ 140737488351232) (h1 : 0 ≤ a1 ∧ a1 ≤ 255) :
    ∃ (la lc : List UInt8) (b : UInt8), a0 = S la ∧ a2 = S lc ∧ strOfNums [a1] = S [b] ∧ iv b = a1 ∧ la.length ≤ 140737488351232 ∧ lc.length ≤ 140737488351232 := by
  obtain ⟨hx, hb⟩ := one_nums a1 h1.1 h1.2
  rw [S_of a0, S_size] at h0
  rw [S_of a2, S_size] at h2
  exact ⟨a0.toList, a2.toList, _, S_of a0, S_of a2, hx, hb, h0, h2⟩
theorem xml_one (b : UInt8) : xmlV [b] = (letV (iv b) || iv b == 58) := by simp [xmlV, xmlAll, xmlC]
theorem xml_two (b : UInt8) : xmlV ([97] ++ [b]) = ((letV (iv b) || iv b == 58) || (digV (iv b) || iv b == 45 || iv b == 46)) := by
  have l97 : letV (iv 97) = true := by decide
  simp [xmlV, xmlAll, xmlC, l97]
theorem sym_one (b : UInt8) : symV [b] = letV (iv b) := by simp [symV, symAll, symC]
theorem sym_two (b : UInt8) : symV ([97] ++ [b]) = (letV (iv b) || digV (iv b)) := by
  have l97 : letV (iv 97) = true := by decide
  simp [symV, symAll, symC, l97]
theorem wrap64_id_ {x : Int} (h0 : -9223372036854775808 ≤ x) (h1 : x < 9223372036854775808) : wrap64 x = x := w64_id h0 h1
set_option maxHeartbeats 8000000 in
set_option maxRecDepth 100000 in
theorem stencillaw02_TextNames.calls (a0 : ByteArray) (a1 : Int) (a2 : ByteArray) (r : Bool) (w : World) (h : stencillaw02_TextNames.f a0 a1 a2 = some r) :
    Calls Try.prog 3 #[.string a0, .int .u8 a1, .string a2] w fun e w' => e = .returned (.bool r) ∧ Below w.heap.size w w' := by
  unfold stencillaw02_TextNames.f at h
  split at h
  case isFalse => cases h
  rename_i hh
  obtain ⟨h0, h2, h1⟩ := hh
  obtain rfl := Option.some.inj h
  clear h
  obtain ⟨la, lc, b, ea, ec, hx, hb, hla, hlc⟩ := names_facts a0 a1 a2 h0 h2 h1
  obtain ⟨y, hy⟩ : ∃ y, y = ([a1] : List Int) := ⟨_, rfl⟩
  rw [← hy] at hx
  have HY := Aside0.mk hy
  clear hy
  have T14 : Aside0 (∀ W, Calls Try.prog 9 #[.string (⟨#[115, 98, 101, 58, 97, 45, 49, 46, 98]⟩ : ByteArray)] W fun e w' => e = .returned (.bool true) ∧ Drawn0 W w') := ⟨fun W => by have := callXml [115, 98, 101, 58, 97, 45, 49, 46, 98] (by simp) W; rwa [show xmlV [115, 98, 101, 58, 97, 45, 49, 46, 98] = true by decide] at this⟩
  have T17 : Aside0 (∀ W, Calls Try.prog 9 #[.string (⟨#[]⟩ : ByteArray)] W fun e w' => e = .returned (.bool false) ∧ Drawn0 W w') := ⟨fun W => by have := callXml [] (by simp) W; rwa [show xmlV [] = false by decide] at this⟩
  have T20 : Aside0 (∀ W, Calls Try.prog 9 #[.string (⟨#[49]⟩ : ByteArray)] W fun e w' => e = .returned (.bool false) ∧ Drawn0 W w') := ⟨fun W => by have := callXml [49] (by simp) W; rwa [show xmlV [49] = false by decide] at this⟩
  have T23 : Aside0 (∀ W, Calls Try.prog 10 #[.string (⟨#[95, 57]⟩ : ByteArray)] W fun e w' => e = .returned (.bool true) ∧ Drawn0 W w') := ⟨fun W => by have := callSym [95, 57] (by simp) W; rwa [show symV [95, 57] = true by decide] at this⟩
  have T27 : Aside0 (∀ W, Calls Try.prog 10 #[.string (⟨#[57]⟩ : ByteArray)] W fun e w' => e = .returned (.bool false) ∧ Drawn0 W w') := ⟨fun W => by have := callSym [57] (by simp) W; rwa [show symV [57] = false by decide] at this⟩
  have T30 : Aside0 (∀ W, Calls Try.prog 10 #[.string (⟨#[]⟩ : ByteArray)] W fun e w' => e = .returned (.bool false) ∧ Drawn0 W w') := ⟨fun W => by have := callSym [] (by simp) W; rwa [show symV [] = false by decide] at this⟩
  have e97 : (⟨#[97]⟩ : ByteArray) ++ strOfNums y = S ([97] ++ [b]) := by rw [hx, ← S_append]; rfl
  have T62 : Aside0 (∀ W, Calls Try.prog 10 #[.string (strOfNums y)] W fun e w' => e = .returned (.bool (letV a1)) ∧ Drawn0 W w') := ⟨fun W => by have := callSym [b] (by simp) W; rwa [sym_one, hb, ← hx] at this⟩
  have T70 : Aside0 (∀ W, Calls Try.prog 10 #[.string ((⟨#[97]⟩ : ByteArray) ++ strOfNums y)] W fun e w' => e = .returned (.bool (letV a1 || digV a1)) ∧ Drawn0 W w') := ⟨fun W => by have := callSym ([97] ++ [b]) (by simp) W; rwa [sym_two, hb, ← e97] at this⟩
  have T77 : Aside0 (∀ W, Calls Try.prog 9 #[.string (strOfNums y)] W fun e w' => e = .returned (.bool (letV a1 || a1 == 58)) ∧ Drawn0 W w') := ⟨fun W => by have := callXml [b] (by simp) W; rwa [xml_one, hb, ← hx] at this⟩
  have T89 : Aside0 (∀ W, Calls Try.prog 9 #[.string ((⟨#[97]⟩ : ByteArray) ++ strOfNums y)] W fun e w' => e = .returned (.bool ((letV a1 || a1 == 58) || (digV a1 || a1 == 45 || a1 == 46))) ∧ Drawn0 W w') := ⟨fun W => by have := callXml ([97] ++ [b]) (by simp) W; rwa [xml_two, hb, ← e97] at this⟩
  have z2n : 1 + (strOfNums y).size ≤ 9223372036854775807 := by rw [hx, S_size]; simp
  have z2_ := eq_true z2n
  have z2d := decide_eq_true z2n
  have z2f : (9223372036854775807 < 1 + (strOfNums y).size) = False := eq_false (Nat.not_lt.2 z2n)
  clear z2n
  obtain ⟨l, hl⟩ : ∃ l, l = la ++ [b] ++ lc := ⟨_, rfl⟩
  have hll : l.length = la.length + 1 + lc.length := by rw [hl]; simp; omega
  obtain ⟨s, hs⟩ : ∃ s, s = (a0 ++ strOfNums y) ++ a2 := ⟨_, rfl⟩
  have hsl : s = S l := by rw [hs, hx, ea, ec, S_append, S_append, hl]
  have z3n : a0.size + (strOfNums y).size ≤ 9223372036854775807 := by rw [hx, S_size]; simp; omega
  have z3_ := eq_true z3n
  have z3d := decide_eq_true z3n
  have z3f : (9223372036854775807 < a0.size + (strOfNums y).size) = False := eq_false (Nat.not_lt.2 z3n)
  have z4n : (a0 ++ strOfNums y).size + a2.size ≤ 9223372036854775807 := by rw [hx, ea, S_append, S_size]; simp; omega
  have z4_ := eq_true z4n
  have z4d := decide_eq_true z4n
  have z4f : (9223372036854775807 < (a0 ++ strOfNums y).size + a2.size) = False := eq_false (Nat.not_lt.2 z4n)
  have z5n : a0.size + (strOfNums y).size + a2.size ≤ 9223372036854775807 := by rw [hx, ea, ec, S_size, S_size, S_size]; simp; omega
  have z5_ := eq_true z5n
  have z5d := decide_eq_true z5n
  have z5f : (9223372036854775807 < a0.size + (strOfNums y).size + a2.size) = False := eq_false (Nat.not_lt.2 z5n)
  clear z3n z4n z5n
  obtain ⟨Y, hY⟩ : ∃ Y, Y = symV l := ⟨_, rfl⟩
  have T113 : Aside0 (∀ W, Calls Try.prog 10 #[.string s] W fun e w' => e = .returned (.bool Y) ∧ Drawn0 W w') := ⟨fun W => by rw [hsl, hY]; exact callSym l (by omega) W⟩
  have T117 : Aside0 (∀ W, Calls Try.prog 9 #[.string s] W fun e w' => e = .returned (.bool (xmlV l)) ∧ Drawn0 W w') := ⟨fun W => by rw [hsl]; exact callXml l (by omega) W⟩
  have HYY : Aside0 (Y = true → xmlV l = true ∧ decide ((64 : Int) < (s.size : Int)) = false) := ⟨fun e => by obtain ⟨q1, q2⟩ := sym_xml l (hY.symm.trans e); exact ⟨q1, decide_eq_false (by rw [hsl, S_size]; omega)⟩⟩
  obtain ⟨PA, hPA⟩ : ∃ P, P = la.all bk := ⟨_, rfl⟩
  obtain ⟨PC, hPC⟩ : ∃ P, P = lc.all bk := ⟨_, rfl⟩
  have T142 : Aside0 (∀ W, Calls Try.prog 11 #[.string (strOfNums y)] W fun e w' => e = .returned (.bool (blkV a1)) ∧ Drawn0 W w') := ⟨fun W => by have := callBlank [b] (by simp) W; rwa [show [b].all bk = blkV a1 by simp [iv_b, hb], ← hx] at this⟩
  have T146 : Aside0 (∀ W, Calls Try.prog 11 #[.string (⟨#[]⟩ : ByteArray)] W fun e w' => e = .returned (.bool true) ∧ Drawn0 W w') := ⟨fun W => callBlank [] (by simp) W⟩
  have T151 : Aside0 (∀ W, Calls Try.prog 11 #[.string s] W fun e w' => e = .returned (.bool (PA && blkV a1 && PC)) ∧ Drawn0 W w') := ⟨fun W => by have := callBlank l (by omega) W; rwa [show l.all bk = (PA && blkV a1 && PC) by rw [hl, List.all_append, List.all_append, hPA, hPC]; simp [iv_b, hb], ← hsl] at this⟩
  have T155 : Aside0 (∀ W, Calls Try.prog 11 #[.string a0] W fun e w' => e = .returned (.bool PA) ∧ Drawn0 W w') := ⟨fun W => by rw [ea, hPA]; exact callBlank la (by omega) W⟩
  have T159 : Aside0 (∀ W, Calls Try.prog 11 #[.string a2] W fun e w' => e = .returned (.bool PC) ∧ Drawn0 W w') := ⟨fun W => by rw [ec, hPC]; exact callBlank lc (by omega) W⟩
  obtain ⟨t, ht⟩ : ∃ t, t = S (trimV l) := ⟨_, rfl⟩
  have T164 : Aside0 (∀ W, Calls Try.prog 12 #[.string s] W fun e w' => e = .returned (.string t) ∧ Drawn0 W w') := ⟨fun W => by rw [hsl, ht]; exact callTrim l (by omega) W⟩
  obtain ⟨p, q, e1, e2, e3, e4, e5⟩ := trim_split l
  have hlen : l.length = p.length + (trimV l).length + q.length := by
    have := congrArg List.length e1; simp at this; omega
  have HZ : Aside0 (t.size ≤ s.size) := ⟨by rw [hsl, ht, S_size, S_size]; omega⟩
  have bl : Aside0 (∀ W, Calls Try.prog 11 #[.string s] W fun e w' => e = .returned (.bool (l.all bk)) ∧ Drawn0 W w') := ⟨fun W => by rw [hsl]; exact callBlank l (by omega) W⟩
  have HNIL : Aside0 (t.toList = ([] : List UInt8) → ∀ W, Calls Try.prog 11 #[.string s] W fun e w' => e = .returned (.bool true) ∧ Drawn0 W w') := ⟨fun h W => by
    have := bl.out W
    rw [ht, S_toList] at h
    rwa [(trim_nil l).mp h] at this⟩
  have HNE : Aside0 (¬ t.toList = ([] : List UInt8) → ((1 : Int) ≤ (t.size : Int)) = True ∧ ((0 : Int) ≤ wrap64 ((t.size : Int) - 1)) = True ∧ (wrap64 ((t.size : Int) - 1) ≤ (t.size : Int)) = True ∧ Aside0 (∀ W, Calls Try.prog 11 #[.string (t.extract 0 1)] W fun e w' => e = .returned (.bool false) ∧ Drawn0 W w') ∧ Aside0 (∀ W, Calls Try.prog 11 #[.string (t.extract (wrap64 ((t.size : Int) - 1)).toNat t.size)] W fun e w' => e = .returned (.bool false) ∧ Drawn0 W w') ∧ Aside0 (∀ W, Calls Try.prog 11 #[.string s] W fun e w' => e = .returned (.bool false) ∧ Drawn0 W w')) := ⟨fun h => by
    rw [ht, S_toList] at h
    have nl : l.all bk = false := by
      cases e : l.all bk
      · rfl
      · exact absurd ((trim_nil l).mpr e) h
    have ts : t.size = (trimV l).length := by rw [ht, S_size]
    obtain ⟨c, r, hcr⟩ : ∃ c r, trimV l = c :: r := by
      cases e : trimV l with
      | nil => exact absurd e h
      | cons c r => exact ⟨c, r, rfl⟩
    obtain ⟨m, d, hmd⟩ : ∃ m d, trimV l = m ++ [d] := by
      rcases List.eq_nil_or_concat (trimV l) with h' | ⟨m, d, h'⟩
      · exact absurd h' h
      · exact ⟨m, d, by rw [h', List.concat_eq_append]⟩
    have lm : m.length + 1 = (trimV l).length := by rw [hmd]; simp
    have wv : wrap64 ((t.size : Int) - 1) = (m.length : Int) := by rw [ts, w64_id (by omega) (by omega)]; omega
    have x1 : List.take (1 - 0) (List.drop 0 (trimV l)) = [c] := by rw [hcr]; simp
    have x2 : List.take ((trimV l).length - m.length) (List.drop m.length (trimV l)) = [d] := by
      rw [show (trimV l).length - m.length = 1 by omega, hmd]; simp
    refine ⟨eq_true (by omega), eq_true (by omega), eq_true (by omega), ⟨fun W => ?_⟩, ⟨fun W => ?_⟩, ⟨fun W => ?_⟩⟩
    · rw [ht, S_extract, x1]
      have := callBlank [c] (by simp) W
      rwa [show [c].all bk = false by simp [e4 c r hcr]] at this
    · rw [wv, ht, S_size, Int.toNat_natCast, S_extract, x2]
      have := callBlank [d] (by simp) W
      rwa [show [d].all bk = false by simp [e5 m d hmd]] at this
    · have := bl.out W
      rwa [nl] at this⟩
  obtain ⟨lp, hlp⟩ : ∃ n, n = p.length := ⟨_, rfl⟩
  have HL2 : Aside0 (lp ≤ 1000000000000000) := ⟨by omega⟩
  have HLOOP : Aside0 (∀ x : Int, 0 ≤ x ∧ x ≤ lp → ∃ j : Int, wrap64 (x + (t.size : Int)) = j ∧ 0 ≤ x ∧ j ≤ (s.size : Int) ∧ x ≤ j ∧ 0 ≤ j ∧ (∀ W, Calls Try.prog 11 #[.string (s.extract 0 x.toNat)] W fun e w' => e = .returned (.bool true) ∧ Drawn0 W w') ∧ (∃ Z, (x = lp → Z = true ∧ (s.extract x.toNat j.toNat).toList = t.toList) ∧ ∀ W, Calls Try.prog 11 #[.string (s.extract j.toNat s.size)] W fun e w' => e = .returned (.bool Z) ∧ Drawn0 W w')) := ⟨fun x hxx => by
    obtain ⟨i, rfl⟩ : ∃ i : Nat, x = i := ⟨x.toNat, by omega⟩
    have hi : i ≤ p.length := by omega
    rw [hlp]
    have ts : t.size = (trimV l).length := by rw [ht, S_size]
    have ss : s.size = l.length := by rw [hsl, S_size]
    refine ⟨((i + t.size : Nat) : Int), by rw [w64_id (by omega) (by omega)]; rfl, by omega, by omega, by omega, by omega, fun W => ?_, ?_⟩
    · rw [hsl, S_extract, Int.toNat_natCast]
      have := callBlank ((l.drop 0).take (i - 0)) (by simp; omega) W
      rwa [show ((l.drop 0).take (i - 0)).all bk = true by
        rw [List.drop_zero, Nat.sub_zero, e1, List.append_assoc, List.take_append_of_le_length hi]
        exact List.all_eq_true.mpr fun x hx => List.all_eq_true.mp e2 x (List.mem_of_mem_take hx)] at this
    · rw [Int.toNat_natCast, Int.toNat_natCast]
      refine ⟨((l.drop (i + t.size)).take (s.size - (i + t.size))).all bk, fun e => ?_, fun W => ?_⟩
      · have e : i = p.length := by omega
        subst e
        obtain ⟨x2, x1⟩ := split3 l p (trimV l) q e1
        rw [← ts] at x1 x2
        refine ⟨?_, ?_⟩
        · rw [x2, List.take_of_length_le (by omega)]; exact e3
        · rw [hsl, S_extract, x1, ht]
      · rw [ss, hsl, S_extract]
        exact callBlank _ (by simp; omega) W⟩
  clear ea ec hx hb hla hlc e97 hl hll hsl hY hPA hPC ht e1 e2 e3 e4 e5 hlen bl hlp h0 h2 h1
  have HB := Aside0.mk (Below.refl w.heap.size w)
  go_enter Try.func3, Try.ntmps3
  go_upto_region 1 with (fail)
  go_cut [31] (fun v wc => v = .bool false ∧ Aside0 (Below w.heap.size w wc))
  case first => as_aux_lemma =>
    have tk14 : Aside0 True := ⟨trivial⟩
    go_wp2_with (first | (go_at_call 9; clear tk14; have tk17 : Aside0 True := ⟨trivial⟩; (with_reducible refine (T14.out _).mono ?_); rintro e_ w_14 ⟨rfl, ⟨m14, rfl⟩⟩) | (go_at_call 9; clear tk17; have tk20 : Aside0 True := ⟨trivial⟩; (with_reducible refine (T17.out _).mono ?_); rintro e_ w_17 ⟨rfl, ⟨m17, rfl⟩⟩) | (go_at_call 9; clear tk20; have tk23 : Aside0 True := ⟨trivial⟩; (with_reducible refine (T20.out _).mono ?_); rintro e_ w_20 ⟨rfl, ⟨m20, rfl⟩⟩) | (go_at_call 10; clear tk23; have tk27 : Aside0 True := ⟨trivial⟩; (with_reducible refine (T23.out _).mono ?_); rintro e_ w_23 ⟨rfl, ⟨m23, rfl⟩⟩) | (go_at_call 10; clear tk27; have tk30 : Aside0 True := ⟨trivial⟩; (with_reducible refine (T27.out _).mono ?_); rintro e_ w_27 ⟨rfl, ⟨m27, rfl⟩⟩) | (go_at_call 10; clear tk30; (with_reducible refine (T30.out _).mono ?_); rintro e_ w_30 ⟨rfl, ⟨m30, rfl⟩⟩))
    go_meet
    case rel => exact ⟨rfl, ⟨(by repeat (first | (with_reducible first | exact HB.out | apply below_alloc | apply pw_below_drewN | apply below_drew1) | exact HB.out))⟩⟩
  obtain ⟨rfl, HB'⟩ := hcut
  clear HB
  have HB := HB'
  clear HB'
  go_upto_region 3 with (fail)
  go_cut [7] (fun v wc => v = .bool (letV a1) ∧ Aside0 (Below w.heap.size w wc))
  case first => as_aux_lemma =>
    clear T14 T17 T20 T23 T27 T30 T62 T70 T77 T89 HY
    by_cases c1 : 97 ≤ a1
    · by_cases c2 : a1 ≤ 122
      · have d0_ : decide (97 ≤ a1) = true := decide_eq_true (by omega)
        have d1_ : decide (a1 ≤ 122) = true := decide_eq_true (by omega)
        go_wp2
        go_meet
        case rel => exact ⟨by first | rfl | rw [letV_t (by omega)], ⟨(by repeat (first | (with_reducible first | exact HB.out | apply below_alloc | apply pw_below_drewN | apply below_drew1) | exact HB.out))⟩⟩
      · have E_ := letV_95 (a1 := a1) (by omega)
        have d0_ : decide (97 ≤ a1) = true := decide_eq_true (by omega)
        have d1_ : decide (a1 ≤ 122) = false := decide_eq_false (by omega)
        have d2_ : decide (65 ≤ a1) = true := decide_eq_true (by omega)
        have d3_ : decide (a1 ≤ 90) = false := decide_eq_false (by omega)
        go_wp2
        go_meet
        case rel => exact ⟨by first | rfl | rw [E_], ⟨(by repeat (first | (with_reducible first | exact HB.out | apply below_alloc | apply pw_below_drewN | apply below_drew1) | exact HB.out))⟩⟩
    · by_cases c3 : 65 ≤ a1
      · by_cases c4 : a1 ≤ 90
        · have d0_ : decide (97 ≤ a1) = false := decide_eq_false (by omega)
          have d1_ : decide (65 ≤ a1) = true := decide_eq_true (by omega)
          have d2_ : decide (a1 ≤ 90) = true := decide_eq_true (by omega)
          go_wp2
          go_meet
          case rel => exact ⟨by first | rfl | rw [letV_t (by omega)], ⟨(by repeat (first | (with_reducible first | exact HB.out | apply below_alloc | apply pw_below_drewN | apply below_drew1) | exact HB.out))⟩⟩
        · have E_ := letV_95 (a1 := a1) (by omega)
          have d0_ : decide (97 ≤ a1) = false := decide_eq_false (by omega)
          have d1_ : decide (65 ≤ a1) = true := decide_eq_true (by omega)
          have d2_ : decide (a1 ≤ 90) = false := decide_eq_false (by omega)
          go_wp2
          go_meet
          case rel => exact ⟨by first | rfl | rw [E_], ⟨(by repeat (first | (with_reducible first | exact HB.out | apply below_alloc | apply pw_below_drewN | apply below_drew1) | exact HB.out))⟩⟩
      · have E_ := letV_95 (a1 := a1) (by omega)
        have d0_ : decide (97 ≤ a1) = false := decide_eq_false (by omega)
        have d1_ : decide (65 ≤ a1) = false := decide_eq_false (by omega)
        go_wp2
        go_meet
        case rel => exact ⟨by first | rfl | rw [E_], ⟨(by repeat (first | (with_reducible first | exact HB.out | apply below_alloc | apply pw_below_drewN | apply below_drew1) | exact HB.out))⟩⟩
  obtain ⟨rfl, HB'⟩ := hcut
  clear HB
  have HB := HB'
  clear HB'
  obtain ⟨L, hL⟩ : ∃ L, L = letV a1 := ⟨_, rfl⟩
  obtain ⟨D, hD⟩ : ∃ D, D = (letV a1 || digV a1) := ⟨_, rfl⟩
  rw [← hD] at T70
  rw [← hL] at T62
  rw [← hL]
  go_upto_region 4 with (fail)
  go_cut [8] (fun v wc => v = .bool D ∧ Aside0 (Below w.heap.size w wc))
  case first => as_aux_lemma =>
    clear T14 T17 T20 T23 T27 T30 T62 T70 T77 T89 HY
    cases L
    · rw [← hL, Bool.false_or] at hD
      clear hL
      by_cases c1 : 48 ≤ a1
      · have E_ : decide (a1 ≤ 57) = D := hD.trans (digV_t c1) ▸ rfl
        clear hD
        have d0_ : decide (48 ≤ a1) = true := decide_eq_true (by omega)
        go_wp2
        go_meet
        case rel => exact ⟨by first | rfl | rw [E_], ⟨(by repeat (first | (with_reducible first | exact HB.out | apply below_alloc | apply pw_below_drewN | apply below_drew1) | exact HB.out))⟩⟩
      · rw [digV_f c1] at hD
        subst hD
        have d0_ : decide (48 ≤ a1) = false := decide_eq_false (by omega)
        go_wp2
        go_meet
        case rel => exact ⟨by first | rfl | rw [], ⟨(by repeat (first | (with_reducible first | exact HB.out | apply below_alloc | apply pw_below_drewN | apply below_drew1) | exact HB.out))⟩⟩
    · rw [← hL, Bool.true_or] at hD
      subst hD
      clear hL
      go_wp2
      go_meet
      case rel => exact ⟨rfl, ⟨(by repeat (first | (with_reducible first | exact HB.out | apply below_alloc | apply pw_below_drewN | apply below_drew1) | exact HB.out))⟩⟩
  obtain ⟨rfl, HB'⟩ := hcut
  clear HB
  have HB := HB'
  clear HB'
  go_upto_region 5 with (fail)
  go_cut [73] (fun v wc => v = .bool false ∧ Aside0 (Below w.heap.size w wc))
  case first => as_aux_lemma =>
    clear T14 T17 T20 T23 T27 T30 T77 T89
    have e1_ : (L != L) = false := bne_self_eq_false _
    have e2_ : (D != D) = false := bne_self_eq_false _
    clear hL hD
    have tk60 : Aside0 True := ⟨trivial⟩
    go_wp2_with (first | ((with_reducible refine gate_dst (N := 60) rfl ?_); (try (refine gate_guard (by rfl) ?_; dsimp only)); clear tk60; have tk62 : Aside0 True := ⟨trivial⟩; refine Kd.R_lit (Kd.int .u8) _ 5 ?hg (N := 60) ?hd (xs := ([a1] : List Int)) (inner := [.int .u8 a1]) (ok := fun _ => True) (okp := fun _ => True) ?hr ?hp (fun _ hk => hk) trivial (Below.refl _ _) (Nat.le_refl _) (by simp) ?_; (case hd => rfl); (case hg => rfl); (case hr => first | (go_simp; done) | (go_simp; rfl)); (case hp => exact (Reps.one (show Kd.M (Kd.int .u8) _ _ _ a1 [.int .u8 a1] from rfl) (Reps.none _ _))); intro v60 w_60 ho_ hb_ hg_ hnew_; clear hg_ hnew_; rw [← HY.out] at ho_; have n0_ := Aside0.mk (below_step (by repeat (first | (with_reducible first | exact HB.out | apply below_alloc | apply pw_below_drewN | apply below_drew1) | exact HB.out)) hb_); clear HB; have HB := n0_; clear n0_ hb_; have hcv60 := own_string (P := Try.prog) Try.underlying23 Try.underlying5 Try.underlying9 (Kd.own_of_R ho_); clear ho_) | (go_at_call 10; clear tk62; have tk67 : Aside0 True := ⟨trivial⟩; (with_reducible refine (T62.out _).mono ?_); rintro e_ w_62 ⟨rfl, ⟨m62, rfl⟩⟩) | ((with_reducible refine gate_dst (N := 67) rfl ?_); (try (refine gate_guard (by rfl) ?_; dsimp only)); clear tk67; have tk70 : Aside0 True := ⟨trivial⟩; refine Kd.R_lit (Kd.int .u8) _ 5 ?hg (N := 67) ?hd (xs := ([a1] : List Int)) (inner := [.int .u8 a1]) (ok := fun _ => True) (okp := fun _ => True) ?hr ?hp (fun _ hk => hk) trivial (Below.refl _ _) (Nat.le_refl _) (by simp) ?_; (case hd => rfl); (case hg => rfl); (case hr => first | (go_simp; done) | (go_simp; rfl)); (case hp => exact (Reps.one (show Kd.M (Kd.int .u8) _ _ _ a1 [.int .u8 a1] from rfl) (Reps.none _ _))); intro v67 w_67 ho_ hb_ hg_ hnew_; clear hg_ hnew_; rw [← HY.out] at ho_; have n0_ := Aside0.mk (below_step (by repeat (first | (with_reducible first | exact HB.out | apply below_alloc | apply pw_below_drewN | apply below_drew1) | exact HB.out)) hb_); clear HB; have HB := n0_; clear n0_ hb_; have hcv67 := own_string (P := Try.prog) Try.underlying23 Try.underlying5 Try.underlying9 (Kd.own_of_R ho_); clear ho_) | (go_at_call 10; clear tk70; (with_reducible refine (T70.out _).mono ?_); rintro e_ w_70 ⟨rfl, ⟨m70, rfl⟩⟩))
    go_meet
    case rel => exact ⟨by first | rfl | simp, ⟨(by repeat (first | (with_reducible first | exact HB.out | apply below_alloc | apply pw_below_drewN | apply below_drew1) | exact HB.out))⟩⟩
  obtain ⟨rfl, HB'⟩ := hcut
  clear HB
  have HB := HB'
  clear HB'
  go_upto_region 7 with (fail)
  go_cut [104] (fun v wc => v = .bool false ∧ Aside0 (Below w.heap.size w wc))
  case first => as_aux_lemma =>
    clear T14 T17 T20 T23 T27 T30 T62 T70
    rw [← hL] at T77 T89
    cases L
    · rw [← hL, Bool.false_or] at hD
      rw [← hD] at T89
      simp only [Bool.false_or] at T77 T89
      have e0_ : ((a1 == 58) != (a1 == 58)) = false := bne_self_eq_false _
      clear hL
      cases D
      · clear hD
        by_cases c1 : a1 = 58
        · have b1_ : (a1 == 58) = true := beq_iff_eq.mpr c1
          rw [b1_] at T77 T89 e0_
          simp only [Bool.true_or] at T77 T89
          clear c1
          have tk75 : Aside0 True := ⟨trivial⟩
          go_wp2_with (first | ((with_reducible refine gate_dst (N := 75) rfl ?_); (try (refine gate_guard (by rfl) ?_; dsimp only)); clear tk75; have tk77 : Aside0 True := ⟨trivial⟩; refine Kd.R_lit (Kd.int .u8) _ 5 ?hg (N := 75) ?hd (xs := ([a1] : List Int)) (inner := [.int .u8 a1]) (ok := fun _ => True) (okp := fun _ => True) ?hr ?hp (fun _ hk => hk) trivial (Below.refl _ _) (Nat.le_refl _) (by simp) ?_; (case hd => rfl); (case hg => rfl); (case hr => first | (go_simp; done) | (go_simp; rfl)); (case hp => exact (Reps.one (show Kd.M (Kd.int .u8) _ _ _ a1 [.int .u8 a1] from rfl) (Reps.none _ _))); intro v75 w_75 ho_ hb_ hg_ hnew_; clear hg_ hnew_; rw [← HY.out] at ho_; have n0_ := Aside0.mk (below_step (by repeat (first | (with_reducible first | exact HB.out | apply below_alloc | apply pw_below_drewN | apply below_drew1) | exact HB.out)) hb_); clear HB; have HB := n0_; clear n0_ hb_; have hcv75 := own_string (P := Try.prog) Try.underlying23 Try.underlying5 Try.underlying9 (Kd.own_of_R ho_); clear ho_) | (go_at_call 9; clear tk77; have tk86 : Aside0 True := ⟨trivial⟩; (with_reducible refine (T77.out _).mono ?_); rintro e_ w_77 ⟨rfl, ⟨m77, rfl⟩⟩) | ((with_reducible refine gate_dst (N := 86) rfl ?_); (try (refine gate_guard (by rfl) ?_; dsimp only)); clear tk86; have tk89 : Aside0 True := ⟨trivial⟩; refine Kd.R_lit (Kd.int .u8) _ 5 ?hg (N := 86) ?hd (xs := ([a1] : List Int)) (inner := [.int .u8 a1]) (ok := fun _ => True) (okp := fun _ => True) ?hr ?hp (fun _ hk => hk) trivial (Below.refl _ _) (Nat.le_refl _) (by simp) ?_; (case hd => rfl); (case hg => rfl); (case hr => first | (go_simp; done) | (go_simp; rfl)); (case hp => exact (Reps.one (show Kd.M (Kd.int .u8) _ _ _ a1 [.int .u8 a1] from rfl) (Reps.none _ _))); intro v86 w_86 ho_ hb_ hg_ hnew_; clear hg_ hnew_; rw [← HY.out] at ho_; have n0_ := Aside0.mk (below_step (by repeat (first | (with_reducible first | exact HB.out | apply below_alloc | apply pw_below_drewN | apply below_drew1) | exact HB.out)) hb_); clear HB; have HB := n0_; clear n0_ hb_; have hcv86 := own_string (P := Try.prog) Try.underlying23 Try.underlying5 Try.underlying9 (Kd.own_of_R ho_); clear ho_) | (go_at_call 9; clear tk89; (with_reducible refine (T89.out _).mono ?_); rintro e_ w_89 ⟨rfl, ⟨m89, rfl⟩⟩))
          go_meet
          case rel => exact ⟨by first | rfl | simp, ⟨(by repeat (first | (with_reducible first | exact HB.out | apply below_alloc | apply pw_below_drewN | apply below_drew1) | exact HB.out))⟩⟩
        · have b1_ : (a1 == 58) = false := beq_eq_false_iff_ne.mpr c1
          rw [b1_] at T77 T89 e0_
          by_cases c2 : a1 = 45
          · have b2_ : (a1 == 45) = true := beq_iff_eq.mpr c2
            rw [b2_] at T89
            simp only [Bool.false_or, Bool.true_or] at T89
            clear c1 c2
            have tk75 : Aside0 True := ⟨trivial⟩
            go_wp2_with (first | ((with_reducible refine gate_dst (N := 75) rfl ?_); (try (refine gate_guard (by rfl) ?_; dsimp only)); clear tk75; have tk77 : Aside0 True := ⟨trivial⟩; refine Kd.R_lit (Kd.int .u8) _ 5 ?hg (N := 75) ?hd (xs := ([a1] : List Int)) (inner := [.int .u8 a1]) (ok := fun _ => True) (okp := fun _ => True) ?hr ?hp (fun _ hk => hk) trivial (Below.refl _ _) (Nat.le_refl _) (by simp) ?_; (case hd => rfl); (case hg => rfl); (case hr => first | (go_simp; done) | (go_simp; rfl)); (case hp => exact (Reps.one (show Kd.M (Kd.int .u8) _ _ _ a1 [.int .u8 a1] from rfl) (Reps.none _ _))); intro v75 w_75 ho_ hb_ hg_ hnew_; clear hg_ hnew_; rw [← HY.out] at ho_; have n0_ := Aside0.mk (below_step (by repeat (first | (with_reducible first | exact HB.out | apply below_alloc | apply pw_below_drewN | apply below_drew1) | exact HB.out)) hb_); clear HB; have HB := n0_; clear n0_ hb_; have hcv75 := own_string (P := Try.prog) Try.underlying23 Try.underlying5 Try.underlying9 (Kd.own_of_R ho_); clear ho_) | (go_at_call 9; clear tk77; have tk86 : Aside0 True := ⟨trivial⟩; (with_reducible refine (T77.out _).mono ?_); rintro e_ w_77 ⟨rfl, ⟨m77, rfl⟩⟩) | ((with_reducible refine gate_dst (N := 86) rfl ?_); (try (refine gate_guard (by rfl) ?_; dsimp only)); clear tk86; have tk89 : Aside0 True := ⟨trivial⟩; refine Kd.R_lit (Kd.int .u8) _ 5 ?hg (N := 86) ?hd (xs := ([a1] : List Int)) (inner := [.int .u8 a1]) (ok := fun _ => True) (okp := fun _ => True) ?hr ?hp (fun _ hk => hk) trivial (Below.refl _ _) (Nat.le_refl _) (by simp) ?_; (case hd => rfl); (case hg => rfl); (case hr => first | (go_simp; done) | (go_simp; rfl)); (case hp => exact (Reps.one (show Kd.M (Kd.int .u8) _ _ _ a1 [.int .u8 a1] from rfl) (Reps.none _ _))); intro v86 w_86 ho_ hb_ hg_ hnew_; clear hg_ hnew_; rw [← HY.out] at ho_; have n0_ := Aside0.mk (below_step (by repeat (first | (with_reducible first | exact HB.out | apply below_alloc | apply pw_below_drewN | apply below_drew1) | exact HB.out)) hb_); clear HB; have HB := n0_; clear n0_ hb_; have hcv86 := own_string (P := Try.prog) Try.underlying23 Try.underlying5 Try.underlying9 (Kd.own_of_R ho_); clear ho_) | (go_at_call 9; clear tk89; (with_reducible refine (T89.out _).mono ?_); rintro e_ w_89 ⟨rfl, ⟨m89, rfl⟩⟩))
            go_meet
            case rel => exact ⟨by first | rfl | simp, ⟨(by repeat (first | (with_reducible first | exact HB.out | apply below_alloc | apply pw_below_drewN | apply below_drew1) | exact HB.out))⟩⟩
          · have b2_ : (a1 == 45) = false := beq_eq_false_iff_ne.mpr c2
            rw [b2_] at T89
            simp only [Bool.false_or] at T89
            have e1_ : ((a1 == 46) != (a1 == 46)) = false := bne_self_eq_false _
            clear c1 c2
            have tk75 : Aside0 True := ⟨trivial⟩
            go_wp2_with (first | ((with_reducible refine gate_dst (N := 75) rfl ?_); (try (refine gate_guard (by rfl) ?_; dsimp only)); clear tk75; have tk77 : Aside0 True := ⟨trivial⟩; refine Kd.R_lit (Kd.int .u8) _ 5 ?hg (N := 75) ?hd (xs := ([a1] : List Int)) (inner := [.int .u8 a1]) (ok := fun _ => True) (okp := fun _ => True) ?hr ?hp (fun _ hk => hk) trivial (Below.refl _ _) (Nat.le_refl _) (by simp) ?_; (case hd => rfl); (case hg => rfl); (case hr => first | (go_simp; done) | (go_simp; rfl)); (case hp => exact (Reps.one (show Kd.M (Kd.int .u8) _ _ _ a1 [.int .u8 a1] from rfl) (Reps.none _ _))); intro v75 w_75 ho_ hb_ hg_ hnew_; clear hg_ hnew_; rw [← HY.out] at ho_; have n0_ := Aside0.mk (below_step (by repeat (first | (with_reducible first | exact HB.out | apply below_alloc | apply pw_below_drewN | apply below_drew1) | exact HB.out)) hb_); clear HB; have HB := n0_; clear n0_ hb_; have hcv75 := own_string (P := Try.prog) Try.underlying23 Try.underlying5 Try.underlying9 (Kd.own_of_R ho_); clear ho_) | (go_at_call 9; clear tk77; have tk86 : Aside0 True := ⟨trivial⟩; (with_reducible refine (T77.out _).mono ?_); rintro e_ w_77 ⟨rfl, ⟨m77, rfl⟩⟩) | ((with_reducible refine gate_dst (N := 86) rfl ?_); (try (refine gate_guard (by rfl) ?_; dsimp only)); clear tk86; have tk89 : Aside0 True := ⟨trivial⟩; refine Kd.R_lit (Kd.int .u8) _ 5 ?hg (N := 86) ?hd (xs := ([a1] : List Int)) (inner := [.int .u8 a1]) (ok := fun _ => True) (okp := fun _ => True) ?hr ?hp (fun _ hk => hk) trivial (Below.refl _ _) (Nat.le_refl _) (by simp) ?_; (case hd => rfl); (case hg => rfl); (case hr => first | (go_simp; done) | (go_simp; rfl)); (case hp => exact (Reps.one (show Kd.M (Kd.int .u8) _ _ _ a1 [.int .u8 a1] from rfl) (Reps.none _ _))); intro v86 w_86 ho_ hb_ hg_ hnew_; clear hg_ hnew_; rw [← HY.out] at ho_; have n0_ := Aside0.mk (below_step (by repeat (first | (with_reducible first | exact HB.out | apply below_alloc | apply pw_below_drewN | apply below_drew1) | exact HB.out)) hb_); clear HB; have HB := n0_; clear n0_ hb_; have hcv86 := own_string (P := Try.prog) Try.underlying23 Try.underlying5 Try.underlying9 (Kd.own_of_R ho_); clear ho_) | (go_at_call 9; clear tk89; (with_reducible refine (T89.out _).mono ?_); rintro e_ w_89 ⟨rfl, ⟨m89, rfl⟩⟩))
            go_meet
            case rel => exact ⟨by first | rfl | simp, ⟨(by repeat (first | (with_reducible first | exact HB.out | apply below_alloc | apply pw_below_drewN | apply below_drew1) | exact HB.out))⟩⟩
      · clear hD
        simp only [Bool.true_or, Bool.or_true] at T89
        have tk75 : Aside0 True := ⟨trivial⟩
        go_wp2_with (first | ((with_reducible refine gate_dst (N := 75) rfl ?_); (try (refine gate_guard (by rfl) ?_; dsimp only)); clear tk75; have tk77 : Aside0 True := ⟨trivial⟩; refine Kd.R_lit (Kd.int .u8) _ 5 ?hg (N := 75) ?hd (xs := ([a1] : List Int)) (inner := [.int .u8 a1]) (ok := fun _ => True) (okp := fun _ => True) ?hr ?hp (fun _ hk => hk) trivial (Below.refl _ _) (Nat.le_refl _) (by simp) ?_; (case hd => rfl); (case hg => rfl); (case hr => first | (go_simp; done) | (go_simp; rfl)); (case hp => exact (Reps.one (show Kd.M (Kd.int .u8) _ _ _ a1 [.int .u8 a1] from rfl) (Reps.none _ _))); intro v75 w_75 ho_ hb_ hg_ hnew_; clear hg_ hnew_; rw [← HY.out] at ho_; have n0_ := Aside0.mk (below_step (by repeat (first | (with_reducible first | exact HB.out | apply below_alloc | apply pw_below_drewN | apply below_drew1) | exact HB.out)) hb_); clear HB; have HB := n0_; clear n0_ hb_; have hcv75 := own_string (P := Try.prog) Try.underlying23 Try.underlying5 Try.underlying9 (Kd.own_of_R ho_); clear ho_) | (go_at_call 9; clear tk77; have tk86 : Aside0 True := ⟨trivial⟩; (with_reducible refine (T77.out _).mono ?_); rintro e_ w_77 ⟨rfl, ⟨m77, rfl⟩⟩) | ((with_reducible refine gate_dst (N := 86) rfl ?_); (try (refine gate_guard (by rfl) ?_; dsimp only)); clear tk86; have tk89 : Aside0 True := ⟨trivial⟩; refine Kd.R_lit (Kd.int .u8) _ 5 ?hg (N := 86) ?hd (xs := ([a1] : List Int)) (inner := [.int .u8 a1]) (ok := fun _ => True) (okp := fun _ => True) ?hr ?hp (fun _ hk => hk) trivial (Below.refl _ _) (Nat.le_refl _) (by simp) ?_; (case hd => rfl); (case hg => rfl); (case hr => first | (go_simp; done) | (go_simp; rfl)); (case hp => exact (Reps.one (show Kd.M (Kd.int .u8) _ _ _ a1 [.int .u8 a1] from rfl) (Reps.none _ _))); intro v86 w_86 ho_ hb_ hg_ hnew_; clear hg_ hnew_; rw [← HY.out] at ho_; have n0_ := Aside0.mk (below_step (by repeat (first | (with_reducible first | exact HB.out | apply below_alloc | apply pw_below_drewN | apply below_drew1) | exact HB.out)) hb_); clear HB; have HB := n0_; clear n0_ hb_; have hcv86 := own_string (P := Try.prog) Try.underlying23 Try.underlying5 Try.underlying9 (Kd.own_of_R ho_); clear ho_) | (go_at_call 9; clear tk89; (with_reducible refine (T89.out _).mono ?_); rintro e_ w_89 ⟨rfl, ⟨m89, rfl⟩⟩))
        go_meet
        case rel => exact ⟨by first | rfl | simp, ⟨(by repeat (first | (with_reducible first | exact HB.out | apply below_alloc | apply pw_below_drewN | apply below_drew1) | exact HB.out))⟩⟩
    · rw [← hL, Bool.true_or] at hD
      subst hD
      simp only [Bool.true_or] at T77 T89
      clear hL
      have tk75 : Aside0 True := ⟨trivial⟩
      go_wp2_with (first | ((with_reducible refine gate_dst (N := 75) rfl ?_); (try (refine gate_guard (by rfl) ?_; dsimp only)); clear tk75; have tk77 : Aside0 True := ⟨trivial⟩; refine Kd.R_lit (Kd.int .u8) _ 5 ?hg (N := 75) ?hd (xs := ([a1] : List Int)) (inner := [.int .u8 a1]) (ok := fun _ => True) (okp := fun _ => True) ?hr ?hp (fun _ hk => hk) trivial (Below.refl _ _) (Nat.le_refl _) (by simp) ?_; (case hd => rfl); (case hg => rfl); (case hr => first | (go_simp; done) | (go_simp; rfl)); (case hp => exact (Reps.one (show Kd.M (Kd.int .u8) _ _ _ a1 [.int .u8 a1] from rfl) (Reps.none _ _))); intro v75 w_75 ho_ hb_ hg_ hnew_; clear hg_ hnew_; rw [← HY.out] at ho_; have n0_ := Aside0.mk (below_step (by repeat (first | (with_reducible first | exact HB.out | apply below_alloc | apply pw_below_drewN | apply below_drew1) | exact HB.out)) hb_); clear HB; have HB := n0_; clear n0_ hb_; have hcv75 := own_string (P := Try.prog) Try.underlying23 Try.underlying5 Try.underlying9 (Kd.own_of_R ho_); clear ho_) | (go_at_call 9; clear tk77; have tk86 : Aside0 True := ⟨trivial⟩; (with_reducible refine (T77.out _).mono ?_); rintro e_ w_77 ⟨rfl, ⟨m77, rfl⟩⟩) | ((with_reducible refine gate_dst (N := 86) rfl ?_); (try (refine gate_guard (by rfl) ?_; dsimp only)); clear tk86; have tk89 : Aside0 True := ⟨trivial⟩; refine Kd.R_lit (Kd.int .u8) _ 5 ?hg (N := 86) ?hd (xs := ([a1] : List Int)) (inner := [.int .u8 a1]) (ok := fun _ => True) (okp := fun _ => True) ?hr ?hp (fun _ hk => hk) trivial (Below.refl _ _) (Nat.le_refl _) (by simp) ?_; (case hd => rfl); (case hg => rfl); (case hr => first | (go_simp; done) | (go_simp; rfl)); (case hp => exact (Reps.one (show Kd.M (Kd.int .u8) _ _ _ a1 [.int .u8 a1] from rfl) (Reps.none _ _))); intro v86 w_86 ho_ hb_ hg_ hnew_; clear hg_ hnew_; rw [← HY.out] at ho_; have n0_ := Aside0.mk (below_step (by repeat (first | (with_reducible first | exact HB.out | apply below_alloc | apply pw_below_drewN | apply below_drew1) | exact HB.out)) hb_); clear HB; have HB := n0_; clear n0_ hb_; have hcv86 := own_string (P := Try.prog) Try.underlying23 Try.underlying5 Try.underlying9 (Kd.own_of_R ho_); clear ho_) | (go_at_call 9; clear tk89; (with_reducible refine (T89.out _).mono ?_); rintro e_ w_89 ⟨rfl, ⟨m89, rfl⟩⟩))
      go_meet
      case rel => exact ⟨by first | rfl | simp, ⟨(by repeat (first | (with_reducible first | exact HB.out | apply below_alloc | apply pw_below_drewN | apply below_drew1) | exact HB.out))⟩⟩
  obtain ⟨rfl, HB'⟩ := hcut
  clear HB
  have HB := HB'
  clear HB'
  clear T14 T17 T20 T23 T27 T30 T62 T70 T77 T89 hL hD
  go_upto_region 9 with (fail)
  go_cut [9] (fun v wc => v = .string s ∧ Aside0 (Below w.heap.size w wc))
  case first => as_aux_lemma =>
    have tk107 : Aside0 True := ⟨trivial⟩
    go_wp2_with (first | ((with_reducible refine gate_dst (N := 107) rfl ?_); (try (refine gate_guard (by rfl) ?_; dsimp only)); clear tk107; refine Kd.R_lit (Kd.int .u8) _ 5 ?hg (N := 107) ?hd (xs := ([a1] : List Int)) (inner := [.int .u8 a1]) (ok := fun _ => True) (okp := fun _ => True) ?hr ?hp (fun _ hk => hk) trivial (Below.refl _ _) (Nat.le_refl _) (by simp) ?_; (case hd => rfl); (case hg => rfl); (case hr => first | (go_simp; done) | (go_simp; rfl)); (case hp => exact (Reps.one (show Kd.M (Kd.int .u8) _ _ _ a1 [.int .u8 a1] from rfl) (Reps.none _ _))); intro v107 w_107 ho_ hb_ hg_ hnew_; clear hg_ hnew_; rw [← HY.out] at ho_; have n0_ := Aside0.mk (below_step (by repeat (first | (with_reducible first | exact HB.out | apply below_alloc | apply pw_below_drewN | apply below_drew1) | exact HB.out)) hb_); clear HB; have HB := n0_; clear n0_ hb_; have hcv107 := own_string (P := Try.prog) Try.underlying23 Try.underlying5 Try.underlying9 (Kd.own_of_R ho_); clear ho_))
    go_meet
    case rel => exact ⟨by rw [hs], ⟨(by repeat (first | (with_reducible first | exact HB.out | apply below_alloc | apply pw_below_drewN | apply below_drew1) | exact HB.out))⟩⟩
  obtain ⟨rfl, HB'⟩ := hcut
  clear HB
  have HB := HB'
  clear HB'
  clear z3_ z3d z3f z4_ z4d z4f z5_ z5d z5f z2_ z2d z2f hs
  go_upto_region 10 with (fail)
  go_cut [10] (fun v wc => v = .bool Y ∧ Aside0 (Below w.heap.size w wc))
  case first => as_aux_lemma =>
    have tk113 : Aside0 True := ⟨trivial⟩
    go_wp2_with (first | (go_at_call 10; clear tk113; (with_reducible refine (T113.out _).mono ?_); rintro e_ w_113 ⟨rfl, ⟨m113, rfl⟩⟩))
    go_meet
    case rel => exact ⟨rfl, ⟨(by repeat (first | (with_reducible first | exact HB.out | apply below_alloc | apply pw_below_drewN | apply below_drew1) | exact HB.out))⟩⟩
  obtain ⟨rfl, HB'⟩ := hcut
  clear HB
  have HB := HB'
  clear HB'
  go_upto_region 11 with (fail)
  go_cut [124] (fun v wc => v = .bool false ∧ Aside0 (Below w.heap.size w wc))
  case first => as_aux_lemma =>
    cases Y
    · clear HYY T117
      go_wp2
      go_meet
      case rel => exact ⟨rfl, ⟨(by repeat (first | (with_reducible first | exact HB.out | apply below_alloc | apply pw_below_drewN | apply below_drew1) | exact HB.out))⟩⟩
    · obtain ⟨q1_, q2_⟩ := HYY.out rfl
      rw [q1_] at T117
      clear HYY q1_
      have tk117 : Aside0 True := ⟨trivial⟩
      go_wp2_with (first | (go_at_call 9; clear tk117; (with_reducible refine (T117.out _).mono ?_); rintro e_ w_117 ⟨rfl, ⟨m117, rfl⟩⟩))
      go_meet
      case rel => exact ⟨by first | rfl | simp [*], ⟨(by repeat (first | (with_reducible first | exact HB.out | apply below_alloc | apply pw_below_drewN | apply below_drew1) | exact HB.out))⟩⟩
  obtain ⟨rfl, HB'⟩ := hcut
  clear HB
  have HB := HB'
  clear HB'
  clear T113 T117 HYY
  go_upto_region 13 with (fail)
  go_cut [11] (fun v wc => v = .bool (blkV a1) ∧ Aside0 (Below w.heap.size w wc))
  case first => as_aux_lemma =>
    clear T142 T146 T151 T155 T159 HY
    by_cases c1 : a1 = 9
    · subst c1
      go_wp2
      go_meet
      case rel => exact ⟨rfl, ⟨(by repeat (first | (with_reducible first | exact HB.out | apply below_alloc | apply pw_below_drewN | apply below_drew1) | exact HB.out))⟩⟩
    · have d1_ : (a1 == 9) = false := beq_eq_false_iff_ne.mpr c1
      by_cases c2 : a1 = 10
      · subst c2
        go_wp2
        go_meet
        case rel => exact ⟨rfl, ⟨(by repeat (first | (with_reducible first | exact HB.out | apply below_alloc | apply pw_below_drewN | apply below_drew1) | exact HB.out))⟩⟩
      · have d2_ : (a1 == 10) = false := beq_eq_false_iff_ne.mpr c2
        by_cases c3 : a1 = 13
        · subst c3
          go_wp2
          go_meet
          case rel => exact ⟨rfl, ⟨(by repeat (first | (with_reducible first | exact HB.out | apply below_alloc | apply pw_below_drewN | apply below_drew1) | exact HB.out))⟩⟩
        · have d3_ : (a1 == 13) = false := beq_eq_false_iff_ne.mpr c3
          have E_ : blkV a1 = (a1 == 32) := by unfold blkV; rw [Bool.eq_iff_iff, beq_iff_eq, decide_eq_true_iff]; omega
          go_wp2
          go_meet
          case rel => exact ⟨by rw [E_], ⟨(by repeat (first | (with_reducible first | exact HB.out | apply below_alloc | apply pw_below_drewN | apply below_drew1) | exact HB.out))⟩⟩
  obtain ⟨rfl, HB'⟩ := hcut
  clear HB
  have HB := HB'
  clear HB'
  obtain ⟨B, hB⟩ : ∃ B, B = blkV a1 := ⟨_, rfl⟩
  rw [← hB] at T142 T151
  rw [← hB]
  clear hB
  go_upto_region 14 with (fail)
  go_cut [162] (fun v wc => v = .bool false ∧ Aside0 (Below w.heap.size w wc))
  case first => as_aux_lemma =>
    cases B
    · simp only [Bool.and_false, Bool.false_and] at T151
      have tk140 : Aside0 True := ⟨trivial⟩
      go_wp2_with (first | ((with_reducible refine gate_dst (N := 140) rfl ?_); (try (refine gate_guard (by rfl) ?_; dsimp only)); clear tk140; have tk142 : Aside0 True := ⟨trivial⟩; refine Kd.R_lit (Kd.int .u8) _ 5 ?hg (N := 140) ?hd (xs := ([a1] : List Int)) (inner := [.int .u8 a1]) (ok := fun _ => True) (okp := fun _ => True) ?hr ?hp (fun _ hk => hk) trivial (Below.refl _ _) (Nat.le_refl _) (by simp) ?_; (case hd => rfl); (case hg => rfl); (case hr => first | (go_simp; done) | (go_simp; rfl)); (case hp => exact (Reps.one (show Kd.M (Kd.int .u8) _ _ _ a1 [.int .u8 a1] from rfl) (Reps.none _ _))); intro v140 w_140 ho_ hb_ hg_ hnew_; clear hg_ hnew_; rw [← HY.out] at ho_; have n0_ := Aside0.mk (below_step (by repeat (first | (with_reducible first | exact HB.out | apply below_alloc | apply pw_below_drewN | apply below_drew1) | exact HB.out)) hb_); clear HB; have HB := n0_; clear n0_ hb_; have hcv140 := own_string (P := Try.prog) Try.underlying23 Try.underlying5 Try.underlying9 (Kd.own_of_R ho_); clear ho_) | (go_at_call 11; clear tk142; have tk146 : Aside0 True := ⟨trivial⟩; (with_reducible refine (T142.out _).mono ?_); rintro e_ w_142 ⟨rfl, ⟨m142, rfl⟩⟩) | (go_at_call 11; clear tk146; have tk151 : Aside0 True := ⟨trivial⟩; (with_reducible refine (T146.out _).mono ?_); rintro e_ w_146 ⟨rfl, ⟨m146, rfl⟩⟩) | (go_at_call 11; clear tk151; (with_reducible refine (T151.out _).mono ?_); rintro e_ w_151 ⟨rfl, ⟨m151, rfl⟩⟩))
      go_meet
      case rel => exact ⟨by first | rfl | simp, ⟨(by repeat (first | (with_reducible first | exact HB.out | apply below_alloc | apply pw_below_drewN | apply below_drew1) | exact HB.out))⟩⟩
    · cases PA
      · simp only [Bool.and_false, Bool.false_and] at T151
        have tk140 : Aside0 True := ⟨trivial⟩
        go_wp2_with (first | ((with_reducible refine gate_dst (N := 140) rfl ?_); (try (refine gate_guard (by rfl) ?_; dsimp only)); clear tk140; have tk142 : Aside0 True := ⟨trivial⟩; refine Kd.R_lit (Kd.int .u8) _ 5 ?hg (N := 140) ?hd (xs := ([a1] : List Int)) (inner := [.int .u8 a1]) (ok := fun _ => True) (okp := fun _ => True) ?hr ?hp (fun _ hk => hk) trivial (Below.refl _ _) (Nat.le_refl _) (by simp) ?_; (case hd => rfl); (case hg => rfl); (case hr => first | (go_simp; done) | (go_simp; rfl)); (case hp => exact (Reps.one (show Kd.M (Kd.int .u8) _ _ _ a1 [.int .u8 a1] from rfl) (Reps.none _ _))); intro v140 w_140 ho_ hb_ hg_ hnew_; clear hg_ hnew_; rw [← HY.out] at ho_; have n0_ := Aside0.mk (below_step (by repeat (first | (with_reducible first | exact HB.out | apply below_alloc | apply pw_below_drewN | apply below_drew1) | exact HB.out)) hb_); clear HB; have HB := n0_; clear n0_ hb_; have hcv140 := own_string (P := Try.prog) Try.underlying23 Try.underlying5 Try.underlying9 (Kd.own_of_R ho_); clear ho_) | (go_at_call 11; clear tk142; have tk146 : Aside0 True := ⟨trivial⟩; (with_reducible refine (T142.out _).mono ?_); rintro e_ w_142 ⟨rfl, ⟨m142, rfl⟩⟩) | (go_at_call 11; clear tk146; have tk151 : Aside0 True := ⟨trivial⟩; (with_reducible refine (T146.out _).mono ?_); rintro e_ w_146 ⟨rfl, ⟨m146, rfl⟩⟩) | (go_at_call 11; clear tk151; have tk155 : Aside0 True := ⟨trivial⟩; (with_reducible refine (T151.out _).mono ?_); rintro e_ w_151 ⟨rfl, ⟨m151, rfl⟩⟩) | (go_at_call 11; clear tk155; (with_reducible refine (T155.out _).mono ?_); rintro e_ w_155 ⟨rfl, ⟨m155, rfl⟩⟩))
        go_meet
        case rel => exact ⟨by first | rfl | simp, ⟨(by repeat (first | (with_reducible first | exact HB.out | apply below_alloc | apply pw_below_drewN | apply below_drew1) | exact HB.out))⟩⟩
      · simp only [Bool.true_and] at T151
        have e_ : (PC != PC) = false := bne_self_eq_false _
        have tk140 : Aside0 True := ⟨trivial⟩
        go_wp2_with (first | ((with_reducible refine gate_dst (N := 140) rfl ?_); (try (refine gate_guard (by rfl) ?_; dsimp only)); clear tk140; have tk142 : Aside0 True := ⟨trivial⟩; refine Kd.R_lit (Kd.int .u8) _ 5 ?hg (N := 140) ?hd (xs := ([a1] : List Int)) (inner := [.int .u8 a1]) (ok := fun _ => True) (okp := fun _ => True) ?hr ?hp (fun _ hk => hk) trivial (Below.refl _ _) (Nat.le_refl _) (by simp) ?_; (case hd => rfl); (case hg => rfl); (case hr => first | (go_simp; done) | (go_simp; rfl)); (case hp => exact (Reps.one (show Kd.M (Kd.int .u8) _ _ _ a1 [.int .u8 a1] from rfl) (Reps.none _ _))); intro v140 w_140 ho_ hb_ hg_ hnew_; clear hg_ hnew_; rw [← HY.out] at ho_; have n0_ := Aside0.mk (below_step (by repeat (first | (with_reducible first | exact HB.out | apply below_alloc | apply pw_below_drewN | apply below_drew1) | exact HB.out)) hb_); clear HB; have HB := n0_; clear n0_ hb_; have hcv140 := own_string (P := Try.prog) Try.underlying23 Try.underlying5 Try.underlying9 (Kd.own_of_R ho_); clear ho_) | (go_at_call 11; clear tk142; have tk146 : Aside0 True := ⟨trivial⟩; (with_reducible refine (T142.out _).mono ?_); rintro e_ w_142 ⟨rfl, ⟨m142, rfl⟩⟩) | (go_at_call 11; clear tk146; have tk151 : Aside0 True := ⟨trivial⟩; (with_reducible refine (T146.out _).mono ?_); rintro e_ w_146 ⟨rfl, ⟨m146, rfl⟩⟩) | (go_at_call 11; clear tk151; have tk155 : Aside0 True := ⟨trivial⟩; (with_reducible refine (T151.out _).mono ?_); rintro e_ w_151 ⟨rfl, ⟨m151, rfl⟩⟩) | (go_at_call 11; clear tk155; have tk159 : Aside0 True := ⟨trivial⟩; (with_reducible refine (T155.out _).mono ?_); rintro e_ w_155 ⟨rfl, ⟨m155, rfl⟩⟩) | (go_at_call 11; clear tk159; (with_reducible refine (T159.out _).mono ?_); rintro e_ w_159 ⟨rfl, ⟨m159, rfl⟩⟩))
        go_meet
        case rel => exact ⟨by first | rfl | simp, ⟨(by repeat (first | (with_reducible first | exact HB.out | apply below_alloc | apply pw_below_drewN | apply below_drew1) | exact HB.out))⟩⟩
  obtain ⟨rfl, HB'⟩ := hcut
  clear HB
  have HB := HB'
  clear HB'
  clear T142 T146 T151 T155 T159 HY
  go_upto_region 16 with (fail)
  go_cut [12] (fun v wc => v = .string t ∧ Aside0 (Below w.heap.size w wc))
  case first => as_aux_lemma =>
    have tk164 : Aside0 True := ⟨trivial⟩
    go_wp2_with (first | (go_at_call 12; clear tk164; (with_reducible refine (T164.out _).mono ?_); rintro e_ w_164 ⟨rfl, ⟨m164, rfl⟩⟩))
    go_meet
    case rel => exact ⟨rfl, ⟨(by repeat (first | (with_reducible first | exact HB.out | apply below_alloc | apply pw_below_drewN | apply below_drew1) | exact HB.out))⟩⟩
  obtain ⟨rfl, HB'⟩ := hcut
  clear HB
  have HB := HB'
  clear HB'
  go_upto_region 17 with (fail)
  go_cut [193] (fun v wc => v = .bool false ∧ Aside0 (Below w.heap.size w wc))
  case first => as_aux_lemma =>
    have z1_ := HZ.out
    have d1_ : decide ((s.size : Int) < (t.size : Int)) = false := decide_eq_false (by omega)
    have d2_ : decide (s.size < t.size) = false := decide_eq_false (by omega)
    by_cases c1 : t.toList = ([] : List UInt8)
    · have b1_ : (t.toList == ([] : List UInt8)) = true := beq_iff_eq.mpr c1
      have b2_ : (t.toList != ([] : List UInt8)) = false := bne_eq_false_iff_eq.mpr c1
      have T191 := Aside0.mk (fun W => HNIL.out c1 W)
      clear HNIL HNE c1
      have tk191 : Aside0 True := ⟨trivial⟩
      go_wp2_with (first | (go_at_call 11; clear tk191; (with_reducible refine (T191.out _).mono ?_); rintro e_ w_191 ⟨rfl, ⟨m191, rfl⟩⟩))
      go_meet
      case rel => exact ⟨by first | rfl | simp [*], ⟨(by repeat (first | (with_reducible first | exact HB.out | apply below_alloc | apply pw_below_drewN | apply below_drew1) | exact HB.out))⟩⟩
    · have b1_ : (t.toList == ([] : List UInt8)) = false := beq_eq_false_iff_ne.mpr c1
      have b2_ : (t.toList != ([] : List UInt8)) = true := bne_iff_ne.mpr c1
      obtain ⟨q1_, q2_, q3_, T176, T183, T191⟩ := HNE.out c1
      clear HNIL HNE c1
      have tk176 : Aside0 True := ⟨trivial⟩
      go_wp2_with (first | (go_at_call 11; clear tk176; have tk183 : Aside0 True := ⟨trivial⟩; (with_reducible refine (T176.out _).mono ?_); rintro e_ w_176 ⟨rfl, ⟨m176, rfl⟩⟩) | (go_at_call 11; clear tk183; have tk191 : Aside0 True := ⟨trivial⟩; (with_reducible refine (T183.out _).mono ?_); rintro e_ w_183 ⟨rfl, ⟨m183, rfl⟩⟩) | (go_at_call 11; clear tk191; (with_reducible refine (T191.out _).mono ?_); rintro e_ w_191 ⟨rfl, ⟨m191, rfl⟩⟩))
      go_meet
      case rel => exact ⟨by first | rfl | simp [*], ⟨(by repeat (first | (with_reducible first | exact HB.out | apply below_alloc | apply pw_below_drewN | apply below_drew1) | exact HB.out))⟩⟩
  obtain ⟨rfl, HB'⟩ := hcut
  clear HB
  have HB := HB'
  clear HB'
  clear T164 HNIL HNE
  go_wp2
  go_loopw [13] (fun v wr => ∃ x : Int, v = .int .i64 x ∧ Aside0 (0 ≤ x ∧ x ≤ lp) ∧ Aside0 (Below w.heap.size w wr)) (fun v _ => lp - (intOf v).toNat)
  case atStart => exact ⟨0, rfl, ⟨by omega⟩, ⟨(by repeat (first | (with_reducible first | exact HB.out | apply below_alloc | apply pw_below_drewN | apply below_drew1) | exact HB.out))⟩⟩
  case round =>
  obtain ⟨x, rfl, HX, HB'⟩ := hrel
  clear HB
  have HB := HB'
  clear HB'
  obtain ⟨j, hj, x0_, x1_, x2_, x3_, T216, Z, hz, T225⟩ := HLOOP.out x HX.out
  have x0b := eq_true x0_
  have x1b := eq_true x1_
  have x2b := eq_true x2_
  have x3b := eq_true x3_
  have x0d := decide_eq_true x0_
  have x1d := decide_eq_true x1_
  have x2d := decide_eq_true x2_
  have HX3 := Aside0.mk x3_
  have hjw : (IntKind.i64.wrap (x + (t.size : Int))) = j := (i64_w _).trans hj
  have T225 := Aside0.mk T225
  have T216 := Aside0.mk T216
  have HZ2 := Aside0.mk hz
  clear hz
  by_cases c1 : (s.extract x.toNat j.toNat).toList = t.toList
  · have b1_ : ((s.extract x.toNat j.toNat).toList == t.toList) = true := beq_iff_eq.mpr c1
    have b2_ : ((s.extract x.toNat j.toNat).toList != t.toList) = false := bne_eq_false_iff_eq.mpr c1
    clear c1
    cases Z
    · have hne : ¬ x = lp := fun e => by have := (HZ2.out e).1; cases this
      have HNE := Aside0.mk hne
      clear hne HZ2
      have tk216 : Aside0 True := ⟨trivial⟩
      go_wp2_with (first | (go_at_call 11; clear tk216; have tk225 : Aside0 True := ⟨trivial⟩; (with_reducible refine (T216.out _).mono ?_); rintro e_ w_216 ⟨rfl, ⟨m216, rfl⟩⟩) | (go_at_call 11; clear tk225; (with_reducible refine (T225.out _).mono ?_); rintro e_ w_225 ⟨rfl, ⟨m225, rfl⟩⟩))
      go_roundw
      case rel => exact ⟨x + 1, by (try rw [i64_w]); rw [wrap64_id_ (by have := HX.out; omega) (by have := HX.out; have := HL2.out; omega)], ⟨by have := HX.out; have := HNE.out; omega⟩, ⟨(by repeat (first | (with_reducible first | exact HB.out | apply below_alloc | apply pw_below_drewN | apply below_drew1) | exact HB.out))⟩⟩
      case measure => have w_ : wrap64 (x + 1) = x + 1 := wrap64_id_ (by have := HX.out; omega) (by have := HX.out; have := HL2.out; omega); have := HX.out; have := HNE.out; simp [intOf, w_]; omega
    · clear HZ2
      have tk216 : Aside0 True := ⟨trivial⟩
      go_wp2_with (first | (go_at_call 11; clear tk216; have tk225 : Aside0 True := ⟨trivial⟩; (with_reducible refine (T216.out _).mono ?_); rintro e_ w_216 ⟨rfl, ⟨m216, rfl⟩⟩) | (go_at_call 11; clear tk225; (with_reducible refine (T225.out _).mono ?_); rintro e_ w_225 ⟨rfl, ⟨m225, rfl⟩⟩))
      go_ret
      exact ⟨rfl, (by repeat (first | (with_reducible first | exact HB.out | apply below_alloc | apply pw_below_drewN | apply below_drew1) | exact HB.out))⟩
  · have b1_ : ((s.extract x.toNat j.toNat).toList == t.toList) = false := beq_eq_false_iff_ne.mpr c1
    have b2_ : ((s.extract x.toNat j.toNat).toList != t.toList) = true := bne_iff_ne.mpr c1
    have hne : ¬ x = lp := fun e => c1 (HZ2.out e).2
    have HNE := Aside0.mk hne
    clear hne HZ2 c1
    go_wp2
    go_roundw
    case rel => exact ⟨x + 1, by (try rw [i64_w]); rw [wrap64_id_ (by have := HX.out; omega) (by have := HX.out; have := HL2.out; omega)], ⟨by have := HX.out; have := HNE.out; omega⟩, ⟨(by repeat (first | (with_reducible first | exact HB.out | apply below_alloc | apply pw_below_drewN | apply below_drew1) | exact HB.out))⟩⟩
    case measure => have w_ : wrap64 (x + 1) = x + 1 := wrap64_id_ (by have := HX.out; omega) (by have := HX.out; have := HL2.out; omega); have := HX.out; have := HNE.out; simp [intOf, w_]; omega
theorem TextNames_pure (a0 : ByteArray) (a1 : Int) (a2 : ByteArray) (h0 : a0.size ≤ 140737488351232) (h1 : (Lit.int .u8 a1).wf = true) (h2 : a2.size ≤ 140737488351232) : stencillaw02_TextNames.f a0 a1 a2 = some true := by
  have z : IntKind.u8.min ≤ a1 ∧ a1 ≤ IntKind.u8.max := by simpa [Lit.wf] using h1
  have e1 : IntKind.u8.min = 0 := by decide
  have e2 : IntKind.u8.max = 255 := by decide
  rw [e1, e2] at z
  unfold stencillaw02_TextNames.f
  rw [if_pos ⟨h0, h2, z⟩]

end Go.Proofs.Ythgodajjaddgbaa.Q
