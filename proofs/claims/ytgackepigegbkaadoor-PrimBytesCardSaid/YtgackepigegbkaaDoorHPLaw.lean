/- What PrimBytes asks of both sides, call by call (layer 1). -/
import Derived.Test.YtgackepigegbkaaDoorBx0
import Derived.Test.YtgackepigegbkaaDoorHBytes2
import Derived.Test.YtgackepigegbkaaDoorHChars
import Derived.Test.YtgackepigegbkaaDoorHPRef
import Derived.IntWalk
namespace Go.Proofs.YtgackepigegbkaaDoor.B
open Go.RowKit Go.Proofs.YtgackepigegbkaaDoorW.PrintWords Go.Proofs.YtgackepigegbkaaDoorW.PrintLast Go.Proofs.YtgackepigegbkaaDoorW.PrintMore
attribute [local go_sem] max2_int min2_int max_two min_two max_three min_three max_four min_four   -- for this text's walks alone
set_option linter.unusedVariables false
set_option linter.unusedSimpArgs false

theorem setL_snoc (xs : List Int) (o : Nat) (ys : List Int) (z : Int) : setL xs o (ys ++ [z]) = (setL xs o ys).set (o + ys.length) z := by rw [setL_app]; rfl
theorem chars_loop (xs : List Int) (at_ n : Int) (s : ByteArray) (B : List Int) (hB : B = bytesB s ++ List.replicate (n.toNat - s.size) 0) (h0 : 0 ≤ at_) (hs : (s.size : Int) ≤ n) (hl : at_ + n ≤ xs.length) (hL : (xs.length : Int) < 4611686018427387904) (K : Nat) :
    ∀ (j k : Nat), (k : Int) + j = n → stencilref01_PutChars.l0 (K + j + 1) (setL xs at_.toNat (B.take k)) at_ n s (k : Int) = some (0, setL xs at_.toNat B)
  | 0, k, hk => by
    have hBl : B.length = n.toNat := by rw [hB, List.length_append, bytesB_len, List.length_replicate]; omega
    rw [stencilref01_PutChars.l0, if_neg (by omega), List.take_of_length_le (by omega)]
  | j + 1, k, hk => by
    have hBl : B.length = n.toNat := by rw [hB, List.length_append, bytesB_len, List.length_replicate]; omega
    have hkl : k < B.length := by omega
    have hw : wrap64 (at_ + (k : Int)) = at_ + k := by unfold wrap64; omega
    have ih := chars_loop xs at_ n s B hB h0 hs hl hL K j (k + 1) (by omega)
    rw [List.take_succ_eq_append_getElem hkl, setL_snoc, List.length_take, show min k B.length = k by omega] at ih
    rw [show K + (j + 1) + 1 = (K + j + 1) + 1 by omega, stencilref01_PutChars.l0, if_pos (by omega), hw, if_pos (by omega), if_pos (by rw [setL_len]; omega), Option.bind_some, show wrap64 ((k : Int) + 1) = ((k + 1 : Nat) : Int) by unfold wrap64; omega, show (at_ + (k : Int)).toNat = at_.toNat + k by omega]
    by_cases c : (k : Int) < (s.size : Int)
    · rw [if_pos c, if_pos (by omega), List.set_set]
      have e : bt s (k : Int) = B[k] := by
        have hk2 : k < s.size := by omega
        have hk3 : ((k : Int)).toNat < s.size := by rw [Int.toNat_natCast]; exact hk2
        unfold bt
        rw [dif_pos hk3]
        have e2 : B[k]'hkl = (bytesB s)[k]'(by rw [bytesB_len]; exact hk2) := by simp only [hB]; exact List.getElem_append_left (by rw [bytesB_len]; exact hk2)
        rw [e2]
        simp [bytesB, ByteArray.getElem_eq_getElem_data]
      rw [e]
      exact ih
    · rw [if_neg c]
      have e : B[k] = 0 := by
        have e2 : B[k]'hkl = (List.replicate (n.toNat - s.size) (0 : Int))[k - (bytesB s).length]'(by rw [List.length_replicate, bytesB_len]; omega) := by simp only [hB]; exact List.getElem_append_right (by rw [bytesB_len]; omega)
        rw [e2, List.getElem_replicate]
      rw [e] at ih
      exact ih
theorem setL_tail : ∀ (ys xs t : List Int) (o : Nat), o + ys.length ≤ xs.length → setL (xs ++ t) o ys = setL xs o ys ++ t
  | [], _, _, _, _ => rfl
  | y :: ys, xs, t, o, h => by
    rw [List.length_cons] at h
    show setL ((xs ++ t).set o y) (o + 1) ys = setL (xs.set o y) (o + 1) ys ++ t
    rw [List.set_append_left _ _ (by omega), setL_tail ys (xs.set o y) t (o + 1) (by rw [List.length_set]; omega)]
theorem putL_tail (xs t : List Int) (at_ z o w : Int) (h0 : 0 ≤ at_) (hl : at_ + z ≤ xs.length) : ∀ k : Nat, (k : Int) ≤ z → putL (xs ++ t) at_ z o w k = putL xs at_ z o w k ++ t
  | 0, _ => rfl
  | k + 1, h => by
    have hb := plc_bd z o k (by omega) (by omega)
    show (putL (xs ++ t) at_ z o w k).set _ _ = (putL xs at_ z o w k).set _ _ ++ t
    rw [putL_tail xs t at_ z o w h0 hl k (by omega), List.set_append_left _ _ (by rw [putL_len]; omega)]
theorem gAcc_congr (F G : Nat → Int) : ∀ k, (∀ j, j < k → F j = G j) → gAcc F k = gAcc G k
  | 0, _ => rfl
  | k + 1, h => by show bits .or .u64 (gAcc F k) _ = bits .or .u64 (gAcc G k) _; rw [gAcc_congr F G k (fun j hj => h j (by omega)), h k (by omega)]
theorem getC_tail (xs t : List Int) (at_ m : Int) (h0 : 0 ≤ at_) (hm : 0 ≤ m) (hl : at_ + m ≤ xs.length) : getC (xs ++ t) at_ m = getC xs at_ m := by
  unfold getC
  rw [List.take_append_of_le_length (by omega)]
/-- The row of mine: full, and the slice that is handed in. -/
def Mine (W : World) (base g cap : Nat) (l : List Int) : Prop := Kd.R (Kd.int .u8) 5 W base (fun _ => True) (.slice (some ⟨g, 0, none⟩) (l.length + 3) cap) (l ++ [77, 78, 79])
theorem Mine.cap {W : World} {base g cap : Nat} {l : List Int} (h : Mine W base g cap l) : l.length + 3 ≤ cap ∧ base ≤ g ∧ g < W.heap.size := by
  have h1 := (Kd.R_reads' h).2.1
  obtain ⟨_, h2, h3, _⟩ := byte_at h 0 (by decide) (by omega)
  exact ⟨h1, h2, h3⟩
theorem Mine.below {W W2 : World} {base g cap : Nat} {l : List Int} (h : Mine W base g cap l) (hb : Below W.heap.size W W2) : Mine W2 base g cap l := Kd.R_below h hb
theorem Mine.rd {W : World} {base g cap : Nat} {l : List Int} (h : Mine W base g cap l) : Rd8 W (.slice (some ⟨g, 0, none⟩) l.length cap) l.length l := by
  refine .inr ⟨g, cap, rfl, by have := h.cap; omega, rfl, fun i hi => ?_⟩
  obtain ⟨_, _, _, hc, _⟩ := byte_at h (i : Int) (by omega) (by omega)
  rw [Int.toNat_natCast] at hc
  rw [hc, List.getD_eq_getElem?_getD, List.getD_eq_getElem?_getD, List.getElem?_append_left hi]
/-- Get on both sides. -/
theorem get_both (l : List Int) (at_ p o : Int) (hx : ∀ x ∈ l, 0 ≤ x ∧ x ≤ 255) (hL : (l.length : Int) < 4000000000000000000) (ha : -9223372036854775808 ≤ at_ ∧ at_ ≤ 9223372036854775807) :
    ∃ r1 r2 : Int, (∀ (W : World) (base g cap : Nat), Tab W → Mine W base g cap l → Calls Tryd.prog 21 #[.slice (some ⟨g, 0, none⟩) l.length cap, .int .i64 at_, .int .i64 p, .int .i64 o] W fun e w' => e = .returned (.tuple #[.int .u64 r1, .int .i64 r2]) ∧ Below W.heap.size W w') ∧ ∃ k, stencilref01_Get.f k l at_ p o = some (r1, r2) := by
  by_cases hin : p < 0 ∨ 10 < p
  · have hrow : primRow p = (0, false, false, 0, 0, 0) := by
      rcases row_cases p with ⟨_, h⟩ | h
      · exact h
      · omega
    refine ⟨0, 10, fun W base g cap hT hm => prim_Get.zero W hT _ at_ p o 0 false false 0 0 0 hrow rfl, 81, ?_⟩
    unfold stencilref01_Get.f
    rw [rsize p 0 false false 0 0 0 hrow, Option.bind_some, if_pos rfl]
    show stencilref01_Get.j0 (80 + 1) l at_ p o 0 true = _
    rw [stencilref01_Get.j0, if_pos rfl]
  obtain ⟨z, sg, fl, nu, mi, ma, hp, hz, _, _⟩ := word_all p hin
  by_cases ho : o = 0 ∨ o = 1
  case neg =>
    have ho0 : ¬ o = 0 := fun h => ho (.inl h)
    have ho1 : ¬ o = 1 := fun h => ho (.inr h)
    refine ⟨0, 10, fun W base g cap hT hm => prim_Get.order W hT _ _ _ at_ p o z sg fl nu mi ma hp (by omega) ho0 ho1, 81, ?_⟩
    unfold stencilref01_Get.f
    rw [rsize p z sg fl nu mi ma hp, Option.bind_some, if_neg (by omega), show stencilref01_order.f o = some false by unfold stencilref01_order.f; rw [if_neg ho0]; exact congrArg some (beq_eq_false_iff_ne.mpr ho1), Option.bind_some]
    show stencilref01_Get.j0 (80 + 1) l at_ p o z true = _
    rw [stencilref01_Get.j0, if_pos rfl]
  case pos =>
  have hord : stencilref01_order.f o = some true := by unfold stencilref01_order.f; rcases ho with rfl | rfl <;> rfl
  by_cases hw : 0 ≤ at_ ∧ 0 ≤ z ∧ at_ + z ≤ l.length
  case neg =>
    refine ⟨0, 11, fun W base g cap hT hm => prim_Get.short W hT _ _ _ at_ p o z sg fl nu mi ma hp (by omega) ho ha hw (by omega), 81, ?_⟩
    unfold stencilref01_Get.f
    rw [rsize p z sg fl nu mi ma hp, Option.bind_some, if_neg (by omega), hord, Option.bind_some]
    show stencilref01_Get.j0 (80 + 1) l at_ p o z false = _
    rw [stencilref01_Get.j0, if_neg (by decide), lies_no _ at_ z (by omega) ha hw (by omega), Option.bind_some, if_neg (by decide)]
  case pos =>
  obtain ⟨r, h1, h2⟩ := ref_get p hin z sg fl nu mi ma hp l at_ o ho hw.1 hw.2.2 (by omega) hx
  refine ⟨r, 0, fun W base g cap hT hm => ?_, 81, h2⟩
  have hfx : ∀ x ∈ l ++ [77, 78, 79], 0 ≤ x ∧ x ≤ 255 := fun x h => by
    rcases List.mem_append.1 h with h | h
    · exact hx x h
    · simp only [List.mem_cons, List.not_mem_nil, or_false] at h; omega
  refine prim_Get.okO W hT base g (l.length + 3) cap l.length cap (l ++ [77, 78, 79]) hm (by omega) hfx at_ p o z sg fl nu mi ma hp (by omega) ho ⟨hw.1, hw.2.2⟩ (by omega) _ r rfl ?_
  rw [gAcc_congr _ (fun k : Nat => l.getD (at_ + plc z o (k : Int)).toNat 0) z.toNat (fun j hj => ?_)]
  · exact h1
  · have hb := plc_bd z o j (by omega) (by omega)
    rw [List.getD_eq_getElem?_getD, List.getD_eq_getElem?_getD, List.getElem?_append_left (by omega)]
/-- Put on both sides. -/
theorem put_both (l : List Int) (at_ p o v : Int) (hL : (l.length : Int) < 4000000000000000000) (ha : -9223372036854775808 ≤ at_ ∧ at_ ≤ 9223372036854775807) (hv : 0 ≤ v ∧ v < 18446744073709551616) :
    ∃ (r : Int) (l2 : List Int), l2.length = l.length ∧ (∀ (w0 W : World) (g cap : Nat), Tab w0 → Below w0.heap.size w0 W → Mine W w0.heap.size g cap l → Calls Tryd.prog 25 #[.slice (some ⟨g, 0, none⟩) l.length cap, .int .i64 at_, .int .i64 p, .int .i64 o, .int .u64 v] W fun e w' => e = .returned (.int .i64 r) ∧ Mine w' w0.heap.size g cap l2 ∧ Below w0.heap.size w0 w' ∧ Oth W w' g) ∧ ∃ k, stencilref01_Put.f k l at_ p o v = some (r, l2) := by
  have up : ∀ {w0 W w' : World} {g cap : Nat} {P : Prop}, Below w0.heap.size w0 W → Mine W w0.heap.size g cap l → P ∧ Below W.heap.size W w' → P ∧ Mine w' w0.heap.size g cap l ∧ Below w0.heap.size w0 w' ∧ Oth W w' g := fun hb hm h => ⟨h.1, hm.below h.2, below_step hb h.2, Oth.of_below h.2⟩
  by_cases hin : p < 0 ∨ 10 < p
  · have hrow : primRow p = (0, false, false, 0, 0, 0) := by
      rcases row_cases p with ⟨_, h⟩ | h
      · exact h
      · omega
    refine ⟨10, l, rfl, fun w0 W g cap hT hb hm => (prim_Put.zero W (tab_below hT hb) _ at_ p o v 0 false false 0 0 0 hrow rfl).mono fun e w' h => up hb hm h, 81, ?_⟩
    unfold stencilref01_Put.f
    rw [rsize p 0 false false 0 0 0 hrow, Option.bind_some, if_pos rfl]
    show stencilref01_Put.j0 (80 + 1) l at_ p o v 0 true = _
    rw [stencilref01_Put.j0, if_pos rfl]
  obtain ⟨z, sg, fl, nu, mi, ma, hp, hz, _, _⟩ := word_all p hin
  by_cases ho : o = 0 ∨ o = 1
  case neg =>
    have ho0 : ¬ o = 0 := fun h => ho (.inl h)
    have ho1 : ¬ o = 1 := fun h => ho (.inr h)
    refine ⟨10, l, rfl, fun w0 W g cap hT hb hm => (prim_Put.order W (tab_below hT hb) _ _ _ at_ p o v z sg fl nu mi ma hp (by omega) ho0 ho1).mono fun e w' h => up hb hm h, 81, ?_⟩
    unfold stencilref01_Put.f
    rw [rsize p z sg fl nu mi ma hp, Option.bind_some, if_neg (by omega), show stencilref01_order.f o = some false by unfold stencilref01_order.f; rw [if_neg ho0]; exact congrArg some (beq_eq_false_iff_ne.mpr ho1), Option.bind_some]
    show stencilref01_Put.j0 (80 + 1) l at_ p o v z true = _
    rw [stencilref01_Put.j0, if_pos rfl]
  case pos =>
  have hord : stencilref01_order.f o = some true := by unfold stencilref01_order.f; rcases ho with rfl | rfl <;> rfl
  cases hf : fitsV p v with
  | false =>
    refine ⟨12, l, rfl, fun w0 W g cap hT hb hm => (prim_Put.range W (tab_below hT hb) _ at_ p o v z sg fl nu mi ma hp (by omega) ho (by rw [fits_some, hf])).mono fun e w' h => up hb hm h, 81, ?_⟩
    unfold stencilref01_Put.f
    rw [rsize p z sg fl nu mi ma hp, Option.bind_some, if_neg (by omega), hord, Option.bind_some]
    show stencilref01_Put.j0 (80 + 1) l at_ p o v z false = _
    rw [stencilref01_Put.j0, if_neg (by decide), rfits p v hv.1 hv.2, Option.bind_some, hf, if_neg (by decide)]
  | true =>
  by_cases hw : 0 ≤ at_ ∧ 0 ≤ z ∧ at_ + z ≤ l.length
  case neg =>
    refine ⟨11, l, rfl, fun w0 W g cap hT hb hm => (prim_Put.short W (tab_below hT hb) _ _ _ at_ p o v z sg fl nu mi ma hp (by omega) ho ha hw (by omega) (by rw [fits_some, hf])).mono fun e w' h => up hb hm h, 81, ?_⟩
    unfold stencilref01_Put.f
    rw [rsize p z sg fl nu mi ma hp, Option.bind_some, if_neg (by omega), hord, Option.bind_some]
    show stencilref01_Put.j0 (80 + 1) l at_ p o v z false = _
    rw [stencilref01_Put.j0, if_neg (by decide), rfits p v hv.1 hv.2, Option.bind_some, hf, if_pos rfl, lies_no _ at_ z (by omega) ha hw (by omega), Option.bind_some, if_neg (by decide)]
  case pos =>
  refine ⟨0, putL l at_ z o v z.toNat, putL_len _ _ _ _ _ _, fun w0 W g cap hT hb hm => ?_, 81, ref_put p hin z sg fl nu mi ma hp l at_ o v ho hw.1 hw.2.2 (by omega) hv hf⟩
  refine (prim_Put.okO w0 W hT hb g (l.length + 3) cap l.length cap (l ++ [77, 78, 79]) hm (by omega) at_ p o z v sg fl nu mi ma hp (by omega) ho ⟨hw.1, hw.2.2⟩ (by omega) (by rw [fits_some, hf])).mono ?_
  rintro e w' ⟨h1, h2, h3, h4⟩
  refine ⟨h1, ?_, h3, h4⟩
  unfold Mine
  rw [putL_len, ← putL_tail l [77, 78, 79] at_ z o v hw.1 hw.2.2 z.toNat (by omega)]
  exact h2
/-- GetChars on both sides. -/
theorem chars_both (l : List Int) (at_ m : Int) (hL : (l.length : Int) < 4000000000000000000) (ha : -9223372036854775808 ≤ at_ ∧ at_ ≤ 9223372036854775807) :
    ∃ (S : ByteArray) (r : Int), (∀ (W : World) (base g cap : Nat), Mine W base g cap l → Calls Tryd.prog 23 #[.slice (some ⟨g, 0, none⟩) l.length cap, .int .i64 at_, .int .i64 m] W fun e w' => e = .returned (.tuple #[.string S, .int .i64 r]) ∧ Drawn0 W w') ∧
      ∀ (W : World) (A : Option Addr) (c : Nat), Rd8 W (.slice A l.length c) l.length l → Calls Tryd.prog 24 #[.slice A l.length c, .int .i64 at_, .int .i64 m] W fun e w' => e = .returned (.tuple #[.string S, .int .i64 r]) ∧ Drawn0 W w' := by
  by_cases hw : 0 ≤ at_ ∧ 0 ≤ m ∧ at_ + m ≤ l.length
  · exact ⟨getC l at_ m, 0, fun W base g cap hm => prim_GetCharsH.yes W _ l.length l hm.rd at_ m hw (by omega), fun W A c hr => ref_GetCharsH.yes W _ l.length l hr at_ m hw (by omega)⟩
  · exact ⟨ByteArray.empty, 11, fun W base g cap hm => prim_GetCharsH.no W _ l.length _ at_ m ha hw (by omega), fun W A c hr => ref_GetCharsH.no W A l.length c at_ m ha hw (by omega)⟩
/-- PutChars on both sides. -/
theorem putc_both (l : List Int) (at_ m : Int) (s : ByteArray) (hL : (l.length : Int) < 4000000000000000000) (ha : -9223372036854775808 ≤ at_ ∧ at_ ≤ 9223372036854775807) :
    ∃ (r : Int) (l2 : List Int), l2.length = l.length ∧ (∀ (w0 W : World) (g cap : Nat), Below w0.heap.size w0 W → Mine W w0.heap.size g cap l → Calls Tryd.prog 27 #[.slice (some ⟨g, 0, none⟩) l.length cap, .int .i64 at_, .int .i64 m, .string s] W fun e w' => e = .returned (.int .i64 r) ∧ Mine w' w0.heap.size g cap l2 ∧ Below w0.heap.size w0 w' ∧ Oth W w' g) ∧ ∃ k, stencilref01_PutChars.f k l at_ m s = some (r, l2) := by
  by_cases hw : 0 ≤ at_ ∧ 0 ≤ m ∧ at_ + m ≤ l.length
  case neg =>
    refine ⟨11, l, rfl, fun w0 W g cap hb hm => (prim_PutChars.no W _ l.length _ at_ m s ha hw (by omega)).mono fun e w' h => ⟨h.1, hm.below h.2.below, below_step hb h.2.below, Oth.of_below h.2.below⟩, 0, ?_⟩
    unfold stencilref01_PutChars.f
    rw [lies_no _ at_ m (by omega) ha hw (by omega), Option.bind_some, if_neg (by decide)]
  case pos =>
  by_cases hs : m < (s.size : Int)
  case pos =>
    refine ⟨13, l, rfl, fun w0 W g cap hb hm => (prim_PutChars.long W _ l.length _ at_ m s hw (by omega) hs).mono fun e w' h => ⟨h.1, hm.below h.2.below, below_step hb h.2.below, Oth.of_below h.2.below⟩, 0, ?_⟩
    unfold stencilref01_PutChars.f
    rw [lies_yes _ at_ m hw.1 hw.2.1 hw.2.2 (by omega), Option.bind_some, if_pos rfl, if_pos hs]
  case neg =>
  have hlen : (bytesB s ++ List.replicate (m.toNat - s.size) (0 : Int)).length = m.toNat := by rw [List.length_append, bytesB_len, List.length_replicate]; omega
  refine ⟨0, setL l at_.toNat (bytesB s ++ List.replicate (m.toNat - s.size) 0), setL_len _ _ _, fun w0 W g cap hb hm => ?_, 0 + m.toNat + 1, ?_⟩
  · refine (prim_PutChars.ok w0 W hb g (l.length + 3) cap l.length cap (l ++ [77, 78, 79]) hm hm.cap.2.1 (by omega) (by have := hm.cap; omega) at_ m s hw (by omega) (by omega)).mono ?_
    rintro e w' ⟨h1, h2, h3, h4⟩
    refine ⟨h1, ?_, h3, h4⟩
    unfold Mine
    rw [setL_len, ← setL_tail _ l [77, 78, 79] at_.toNat (by rw [hlen]; omega)]
    exact h2
  · unfold stencilref01_PutChars.f
    rw [lies_yes _ at_ m hw.1 hw.2.1 hw.2.2 (by omega), Option.bind_some, if_pos rfl, if_neg (by omega)]
    have := chars_loop l at_ m s _ rfl hw.1 (by omega) hw.2.2 (by omega) 0 m.toNat 0 (by omega)
    exact this

end Go.Proofs.YtgackepigegbkaaDoor.B
