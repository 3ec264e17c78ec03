/- text.Unescape (layer 2), by hand: of what Escape writes. Written by gen_unescape.py. -/
import Derived.Test.YthgodajjaddgbaaVx0
import Derived.Test.YthgodajjaddgbaaHEntity
import Derived.Test.YthgodajjaddgbaaHEscape
import Derived.Test.YthgodajjaddgbaaHShelf
import Derived.IntWalk
namespace Go.Proofs.Ythgodajjaddgbaa.V
open Go.RowKit Go.Proofs.YthgodajjaddgbaaW.PrintWords Go.Proofs.YthgodajjaddgbaaW.PrintLast Go.Proofs.YthgodajjaddgbaaW.PrintMore
attribute [local go_sem] max2_int min2_int max_two min_two max_three min_three max_four min_four   -- for this text's walks alone
set_option linter.unusedVariables false
set_option linter.unusedSimpArgs false

theorem bytes_strOfT (l : List Int) (h : ∀ x ∈ l, 0 ≤ x ∧ x ≤ 255) : bytesT (strOfNums l) = l := by
  unfold bytesT strOfNums
  simp only [List.map_map]
  conv => rhs; rw [← List.map_id l]
  refine List.map_congr_left fun x hx => ?_
  have := h x hx
  simp
  omega
theorem indexByte_mid : ∀ (m : List Int) (r : List Int), (∀ x ∈ m, 0 ≤ x ∧ x ≤ 255 ∧ x ≠ 59) → Lib.indexByte ((m ++ 59 :: r).map fun n => UInt8.ofNat n.toNat) 59 = (m.length : Int)
  | [], r, _ => by simp [Lib.indexByte]
  | x :: m, r, h => by
    have ih := indexByte_mid m r (fun y hy => h y (List.mem_cons_of_mem _ hy))
    have hx := h x (by simp)
    have hne : (UInt8.ofNat x.toNat == 59) = false := by
      rw [beq_eq_false_iff_ne]
      intro e
      have := congrArg UInt8.toNat e
      simp at this
      omega
    rw [List.cons_append, List.map_cons, Lib.indexByte, hne, ih]
    first | (simp; done) | (simp; omega)
/-- What Escape writes for a byte: itself, or an entity that is read back. -/
theorem esc_kind (a : Bool) (c : Int) : (escI a c = [c] ∧ c ≠ 38) ∨ ∃ mid, escI a c = 38 :: (mid ++ [59]) ∧ (∀ x ∈ mid, 0 ≤ x ∧ x ≤ 255 ∧ x ≠ 59) ∧ mid.length ≤ 4 ∧ ∀ W : World, Calls Try.prog 32 #[.string (strOfNums mid)] W fun e w' => e = .returned (.tuple #[.string (strOfNums [c]), .bool true]) ∧ Below W.heap.size W w' := by
  unfold escI
  by_cases c1 : c = 38
  · rw [if_pos c1]; subst c1; exact .inr ⟨[97, 109, 112], rfl, by decide, by decide, ent_amp⟩
  rw [if_neg c1]
  by_cases c2 : c = 60
  · rw [if_pos c2]; subst c2; exact .inr ⟨[108, 116], rfl, by decide, by decide, ent_lt⟩
  rw [if_neg c2]
  by_cases c3 : c = 62
  · rw [if_pos c3]; subst c3; exact .inr ⟨[103, 116], rfl, by decide, by decide, ent_gt⟩
  rw [if_neg c3]
  by_cases c4 : c = 13
  · rw [if_pos c4]; subst c4; exact .inr ⟨[35, 49, 51], rfl, by decide, by decide, ent_13⟩
  rw [if_neg c4]
  by_cases c5 : a = true ∧ c = 34
  · rw [if_pos c5]; obtain ⟨_, rfl⟩ := c5; exact .inr ⟨[113, 117, 111, 116], rfl, by decide, by decide, ent_quot⟩
  rw [if_neg c5]
  by_cases c6 : a = true ∧ c = 9
  · rw [if_pos c6]; obtain ⟨_, rfl⟩ := c6; exact .inr ⟨[35, 57], rfl, by decide, by decide, ent_9⟩
  rw [if_neg c6]
  by_cases c7 : a = true ∧ c = 10
  · rw [if_pos c7]; obtain ⟨_, rfl⟩ := c7; exact .inr ⟨[35, 49, 48], rfl, by decide, by decide, ent_10⟩
  rw [if_neg c7]
  exact .inl ⟨rfl, c1⟩
theorem bt_dropE (L : List Int) (hr : ∀ x ∈ L, 0 ≤ x ∧ x ≤ 255) (o : Nat) (A B : List Int) (h : L.drop o = A ++ B) (i : Nat) (x : Int) (hi : A[i]? = some x) : bt (strOfNums L) ((o + i : Nat) : Int) = x := by
  refine bt_of L hr _ x ?_
  rw [← List.getElem?_drop, h, List.getElem?_append_left (List.getElem?_eq_some_iff.1 hi).1]
  exact hi
theorem esc_at (a : Bool) (l : List Int) (k : Nat) (hk : k < l.length) : (escL a l).drop (escL a (l.take k)).length = escI a l[k] ++ escL a (l.drop (k + 1)) ∧ (escL a (l.take (k + 1))).length = (escL a (l.take k)).length + (escI a l[k]).length := by
  have h1 : escL a l = escL a (l.take k) ++ (escI a l[k] ++ escL a (l.drop (k + 1))) := by
    have : ∀ (c : Int) (r : List Int), escI a c ++ escL a r = escL a (c :: r) := fun c r => by simp [escL]
    rw [this, ← List.drop_eq_getElem_cons hk, ← escL_app, List.take_append_drop]
  refine ⟨?_, ?_⟩
  · conv => lhs; rw [h1]
    rw [List.drop_append, List.drop_of_length_le (Nat.le_refl _), Nat.sub_self, List.drop_zero, List.nil_append]
  · rw [List.take_succ_eq_append_getElem hk, escL_app, List.length_append]
    simp [escL]
/-- All that a round at an entity needs. -/
theorem ent_round (L mid r : List Int) (S : ByteArray) (o : Nat) (x : Int) (hS : S = strOfNums L) (hL : L.length ≤ 1000000000) (hx : x = (o : Int)) (ho : o ≤ L.length) (hd : L.drop o = 38 :: (mid ++ 59 :: r)) (hm : ∀ x ∈ mid, 0 ≤ x ∧ x ≤ 255 ∧ x ≠ 59) :
    ∃ (X1 X2 : ByteArray) (e1 x1 x2 x3 : Int), S.extract x.toNat S.size = X1 ∧ (∀ W : World, Calls Try.prog 31 #[.string X1, .int .u8 59] W fun e w' => e = .returned (.int .i64 e1) ∧ w' = W) ∧ wrap64 (x + 1) = x1 ∧ wrap64 (x + e1) = x2 ∧ wrap64 (x2 + 1) = x3 ∧ S.extract x1.toNat x2.toNat = X2 ∧ X2 = strOfNums mid ∧ 0 ≤ e1 ∧ 0 ≤ x ∧ x ≤ (S.size : Int) ∧ 0 ≤ x1 ∧ x1 ≤ x2 ∧ x2 ≤ (S.size : Int) ∧ x3 = ((o + (mid.length + 2) : Nat) : Int) ∧ x < (S.size : Int) := by
  have hsz : S.size = L.length := by rw [hS, strOfNums_size]
  have hlen := congrArg List.length hd
  rw [List.length_drop] at hlen
  simp only [List.length_cons, List.length_append] at hlen
  subst hx
  have hi := indexByte_mid (38 :: mid) r (fun y hy => by
    rcases List.mem_cons.1 hy with rfl | hy
    · decide
    · exact hm y hy)
  refine ⟨strOfNums (L.drop o), strOfNums mid, ((mid.length + 1 : Nat) : Int), ((o + 1 : Nat) : Int), ((o + (mid.length + 1) : Nat) : Int), ((o + (mid.length + 2) : Nat) : Int), ?_, fun W => ?_, by rw [w64q (by omega) (by omega)]; rfl, by rw [w64q (by omega) (by omega)]; omega, by rw [w64q (by omega) (by omega)]; omega, ?_, rfl, by omega, by omega, by omega, by omega, by omega, by omega, rfl, by omega⟩
  · rw [hS, Int.toNat_natCast, strOf_cutT, List.take_of_length_le (by rw [List.length_drop, strOfNums_size]; exact Nat.le_refl _)]
  · refine (strings_IndexByte (strOfNums (L.drop o)) 59 W).mono ?_
    rintro e w' ⟨he, hw⟩
    refine ⟨?_, hw⟩
    rw [he]
    have e2 : (strOfNums (L.drop o)).data.toList = ((38 :: mid) ++ 59 :: r).map fun n => UInt8.ofNat n.toNat := by rw [hd]; simp [strOfNums]
    rw [e2]
    congr 2
  · rw [hS, Int.toNat_natCast, Int.toNat_natCast, strOf_cutT]
    congr 1
    have : L.drop (o + 1) = mid ++ 59 :: r := by rw [← List.drop_drop, hd, List.drop_succ_cons, List.drop_zero]
    rw [this, List.take_append_of_le_length (by omega), List.take_of_length_le (by omega)]
theorem owns_below {w w1 : World} {base n : Nat} {v : Value} {xs : List Value} (h : w.ownsRow base 5 1 v n xs) (hb : Below w.heap.size w w1) : w1.ownsRow base 5 1 v n xs := by
  refine ⟨h.1, ?_⟩
  rcases h.2 with h2 | ⟨g, cap, cur, he, hbg, hh, hr⟩
  · exact .inl h2
  · exact .inr ⟨g, cap, cur, he, hbg, (hb.block g (blk_lt hh)).trans hh, hr⟩
theorem BlF.below {w w1 : World} {base g : Nat} {out : List Int} (h : BlF w base g out) (hb : Below w.heap.size w w1) : BlF w1 base g out := by
  rcases h with ⟨h1, v, h2, h3, h4⟩ | ⟨h1, v, h2, h3, h4⟩
  · exact .inl ⟨h1, v, (hb.block g (blk_lt h2)).trans h2, owns_below h3 hb, h4⟩
  · exact .inr ⟨h1, v, (hb.block g (blk_lt h2)).trans h2, owns_below h3 hb, h4⟩
theorem measU (a : Nat) (x x3 y : Int) (h0 : 0 ≤ x) (h1 : x < x3) (h2 : x3 ≤ (a : Int)) (hy : y = x3) : a + 1 - (intOf (.int .i64 y)).toNat < a + 1 - (intOf (.int .i64 x)).toNat := by
  subst hy
  show a + 1 - y.toNat < a + 1 - x.toNat
  omega
set_option maxHeartbeats 8000000 in
set_option maxRecDepth 100000 in
theorem text_Unescape.calls (w : World) (l : List Int) (S : ByteArray) (a : Bool) (hS : S = strOfNums (escL a l)) (hr : ∀ x ∈ l, 0 ≤ x ∧ x ≤ 255) (hl : l.length ≤ 10000000) :
    Calls Try.prog 16 #[.string S] w fun e w' => e = .returned (.tuple #[.string (strOfNums l), .int .i64 0, .int .i64 0]) ∧ Below w.heap.size w w' := by
  have HS := Aside0.mk hS
  have HR := Aside0.mk hr
  have HL := Aside0.mk hl
  have HRE := Aside0.mk (escL_range a l hr)
  have HLE := Aside0.mk (show (escL a l).length ≤ 60000000 by have := (escL_len a l).2; omega)
  have HZ := Aside0.mk (show S.size = (escL a l).length by rw [hS, strOfNums_size])
  have HB := Aside0.mk (Below.refl w.heap.size w)
  clear hS hr hl
  go_enter Try.func16, Try.ntmps16
  go_wp2_with (first | ((with_reducible refine gate_dst (N := 5) rfl ?_); refine box_event ?hg (N := 5) ?hd (cs := #[.pointer none, .slice none 0 0]) (t := 48) ?hr ?_; (case hd => rfl); (case hg => rfl); (case hr => first | (go_simp; done) | (go_simp; rfl)); intro g hgx w5 hbox hbw; have GE := Aside0.mk (show w.heap.size ≤ g from hgx ▸ (below_size (by repeat (first | (with_reducible first | exact HB.out | apply below_alloc | apply pw_below_drewN | apply below_drew1) | exact HB.out)))); have n0_ := Aside0.mk (below_step (by repeat (first | (with_reducible first | exact HB.out | apply below_alloc | apply pw_below_drewN | apply below_drew1) | exact HB.out)) hbw); clear HB; have HB := n0_; clear n0_; have HU := Aside0.mk (show BlF w5 w.heap.size g [] from .inl ⟨GE.out, _, hbox, World.ownsRow_nil _ _ _ _, by simp [Value.ownBlock]⟩); clear hgx hbox hbw))
  go_loopw [6] (fun v wr => ∃ (k : Nat) (x : Int), v = .int .i64 x ∧ Aside0 (x = ((escL a (l.take k)).length : Int) ∧ k ≤ l.length) ∧ Aside0 (BlF wr w.heap.size g (l.take k)) ∧ Aside0 (Below w.heap.size w wr)) (fun v _ => S.size + 1 - (intOf v).toNat)
  case atStart => exact ⟨0, 0, rfl, ⟨by simp [escL], Nat.zero_le _⟩, HU, HB⟩
  case round =>
  clear HU HB
  obtain ⟨k, x, rfl, HX, HU, HB⟩ := hrel
  by_cases hlt : k < l.length
  case pos => as_aux_lemma =>
    obtain ⟨hat, hnx⟩ := esc_at a l k hlt
    have htk : l.take (k + 1) = l.take k ++ [l[k]] := List.take_succ_eq_append_getElem hlt
    have hc := HR.out _ (List.getElem_mem hlt)
    have HK := Aside0.mk (show k + 1 ≤ l.length from hlt)
    generalize l[k] = c at *
    have HTK := Aside0.mk htk
    have HLN := Aside0.mk (show (l.take k).length ≤ 10000000 by rw [List.length_take]; have := HL.out; omega)
    obtain ⟨o, ho⟩ : ∃ o, o = (escL a (l.take k)).length := ⟨_, rfl⟩
    have hx0 : x = (o : Int) := by rw [HX.out.1, ho]
    rw [← ho] at hat hnx
    have hlen := congrArg List.length hat
    rw [List.length_drop, List.length_append] at hlen
    have hil := escI_len a c
    have hol : o ≤ (escL a l).length := by omega
    rcases esc_kind a c with ⟨hi, h38⟩ | ⟨mid, hi, hm, hm4, T39⟩
    · have hbt : bt S x = c := by rw [HS.out, hx0]; exact bt_dropE _ HRE.out o [c] _ (by rw [hat, hi]) 0 c rfl
      have hx := bt_at S x
      rw [hbt] at hx
      have i0 := eq_true (show 0 ≤ x by omega)
      have i1' : x < (S.size : Int) := by have := HZ.out; omega
      have i1 := eq_true i1'
      have i2 := decide_eq_true i1'
      have b38 : (c != 38) = true := bne_iff_ne.mpr h38
      have HW := Aside0.mk (show wrap64 (x + 1) = x + 1 from w64q (by omega) (by have := HLE.out; omega))
      have HX2 := Aside0.mk (show x + 1 = ((escL a (l.take (k + 1))).length : Int) ∧ 0 ≤ x ∧ x < (S.size : Int) by rw [hnx, hi]; exact ⟨by rw [hx0]; simp, by omega, i1'⟩)
      clear hat hnx htk hc hlen hil hol hi h38 hbt i1' hx0 ho hlt
      go_wp2_with (first | (go_at_call 30; (with_reducible refine (bl_byte w _ g _ c HU.out HB.out (by have := HLN.out; omega)).mono ?_); rintro e_ w_ ⟨rfl, hu_, hb_⟩; clear HU HB; rw [← HTK.out] at hu_; have HU := Aside0.mk hu_; have HB := Aside0.mk hb_; clear hu_ hb_))
      go_roundw
      case rel => exact ⟨k + 1, x + 1, by first | with_reducible rfl | rw [HW.out], ⟨HX2.out.1, HK.out⟩, HU, HB⟩
      case measure => exact measE _ x _ HX2.out.2.1 HX2.out.2.2 (by first | exact HW.out | rfl)
    · have hd : (escL a l).drop o = 38 :: (mid ++ 59 :: escL a (l.drop (k + 1))) := by rw [hat, hi]; simp
      obtain ⟨X1, X2, e1, x1, x2, x3, f1, T27, f2, f3, f4, f5, f6, g0, g1, g2, g3, g4, g5, g6, g7⟩ := ent_round (escL a l) mid _ S o x HS.out (by have := HLE.out; omega) hx0 hol hd hm
      have T27 := Aside0.mk T27
      rw [← f6] at T39
      have T39 := Aside0.mk T39
      have hbt : bt S x = 38 := by rw [HS.out, hx0]; exact bt_dropE _ HRE.out o [38] _ (by rw [hd]; rfl) 0 38 rfl
      have hx := bt_at S x
      rw [hbt] at hx
      have dn : decide (e1 < 0) = false := decide_eq_false (by omega)
      have HX2 := Aside0.mk (show x3 = ((escL a (l.take (k + 1))).length : Int) ∧ 0 ≤ x ∧ x < x3 ∧ x3 ≤ (S.size : Int) by
        have := HZ.out
        refine ⟨by rw [hnx, hi, g6]; simp only [List.length_cons, List.length_append, List.length_nil]; (try omega), g1, by omega, ?_⟩
        rw [g6, this]
        rw [hi] at hlen
        simp at hlen
        omega)
      have HC1 := Aside0.mk (show (strOfNums [c]).size ≤ 10000000000 by rw [strOfNums_size]; simp)
      have HC2 := Aside0.mk (show bytesT (strOfNums [c]) = [c] from bytes_strOfT _ (fun y hy => by rw [List.mem_singleton.1 hy]; exact hc))
      have i0 := eq_true g1
      have i1 := eq_true g7
      have i2 := decide_eq_true g7
      have j0 := eq_true g2
      have j1 := eq_true g3
      have j2 := eq_true g4
      have j3 := eq_true g5
      clear hat hnx htk hc hlen hil hol hi hm hm4 hd hbt hx0 ho f6 g0 g1 g2 g3 g4 g5 g6 g7 hlt
      go_wp2_with (first | (go_at_call 31; (with_reducible refine (T27.out _).mono ?_); rintro e_ w_ ⟨rfl, rfl⟩) | (go_at_call 32; (with_reducible refine (T39.out _).mono ?_); rintro e_ w39 ⟨rfl, hb_⟩; have n0_ := Aside0.mk (below_step HB.out hb_); have n1_ := Aside0.mk (BlF.below HU.out hb_); clear HB HU; have HB := n0_; have HU := n1_; clear n0_ n1_ hb_) | (go_at_call 33; (with_reducible refine (bl_str w _ g _ _ HU.out HB.out (by have := HLN.out; omega) HC1.out).mono ?_); rintro e_ w46 ⟨rfl, hu_, hb_⟩; clear HU HB; rw [HC2.out, ← HTK.out] at hu_; have HU := Aside0.mk hu_; have HB := Aside0.mk hb_; clear hu_ hb_))
      go_roundw
      case rel => exact ⟨k + 1, x3, by first | with_reducible rfl | rw [f3, f4] | rw [f4], ⟨HX2.out.1, HK.out⟩, HU, HB⟩
      case measure => exact measU _ x x3 _ HX2.out.2.1 HX2.out.2.2.1 HX2.out.2.2.2 (by first | rfl | exact f4 | rw [f3, f4])
  case neg =>
  obtain rfl : k = l.length := by have := HX.out; omega
  rw [List.take_length] at HU HX
  have i2 : decide (x < (S.size : Int)) = false := decide_eq_false (by have h1 := HX.out; have h2 := HZ.out; omega)
  clear hlt
  go_wp2_with (first | (go_at_call 34; (with_reducible refine (bl_string w _ g _ HR.out HU.out HB.out).mono ?_); rintro e_ w_ ⟨rfl, hb_⟩; clear HB; have HB := Aside0.mk hb_; clear hb_))
  go_ret3
  exact ⟨rfl, HB.out⟩

end Go.Proofs.Ythgodajjaddgbaa.V
