/- text.Unquote (layer 2), by hand: of what is quoted, and of that cut short. Written by gen_unquote.py. -/
import Derived.Test.YthgodajjaddgbaaTx0
import Derived.Test.YthgodajjaddgbaaHItems
import Derived.IntWalk
import Derived.StillTailTactics
import Derived.Deep.RegionLaw
import Derived.Deep.AppendLies
import Derived.BigQuiet
namespace Go.Proofs.Ythgodajjaddgbaa.T
open Go.RowKit Go.Proofs.YthgodajjaddgbaaW.PrintWords Go.Proofs.YthgodajjaddgbaaW.PrintLast Go.Proofs.YthgodajjaddgbaaW.PrintMore
attribute [local go_sem] max2_int min2_int max_two min_two max_three min_three max_four min_four   -- for this text's walks alone
set_option linter.unusedVariables false
set_option linter.unusedSimpArgs false

theorem bt_of (l : List Int) (hr : ∀ x ∈ l, 0 ≤ x ∧ x ≤ 255) (i : Nat) (x : Int) (h : l[i]? = some x) : bt (strOfNums l) (i : Int) = x := by
  have hr2 := hr x (List.mem_of_getElem? h)
  unfold bt
  have hi : i < l.length := (List.getElem?_eq_some_iff.1 h).1
  have hx : l[i] = x := (List.getElem?_eq_some_iff.1 h).2
  have hs : (i : Int).toNat < (strOfNums l).size := by rw [strOfNums_size]; simpa using hi
  rw [dif_pos hs]
  have : ((strOfNums l)[(i : Int).toNat]'hs) = UInt8.ofNat x.toNat := by
    simp [strOfNums, ByteArray.getElem_eq_getElem_data, hx]
  rw [this]; simp; omega
theorem bt_drop (L : List Int) (hr : ∀ x ∈ L, 0 ≤ x ∧ x ≤ 255) (o : Nat) (A B : List Int) (h : L.drop o = A ++ B) (i : Nat) (x : Int) (hi : A[i]? = some x) : bt (strOfNums L) ((o + i : Nat) : Int) = x := by
  refine bt_of L hr _ x ?_
  rw [← List.getElem?_drop, h, List.getElem?_append_left (List.getElem?_eq_some_iff.1 hi).1]
  exact hi
/-- At a place of a quoted text. -/
theorem quote_at (l tl : List Int) (k : Nat) (hk : k < l.length) : (34 :: (bodyQ l ++ tl)).drop (1 + (bodyQ (l.take k)).length) = itemQ l[k] ++ (bodyQ (l.drop (k + 1)) ++ tl) ∧ (bodyQ (l.take (k + 1))).length = (bodyQ (l.take k)).length + (itemQ l[k]).length := by
  have h1 : bodyQ l = bodyQ (l.take k) ++ (itemQ l[k] ++ bodyQ (l.drop (k + 1))) := by
    rw [← bodyQ_cons, ← List.drop_eq_getElem_cons hk, ← bodyQ_app, List.take_append_drop]
  refine ⟨?_, ?_⟩
  · rw [Nat.add_comm, List.drop_succ_cons, h1, List.append_assoc, List.drop_append, List.drop_of_length_le (Nat.le_refl _), Nat.sub_self, List.drop_zero, List.nil_append, List.append_assoc]
  · rw [List.take_succ_eq_append_getElem hk, bodyQ_app, List.length_append]
    simp [bodyQ]
theorem quote_end (l tl : List Int) : (34 :: (bodyQ l ++ tl)).drop (1 + (bodyQ l).length) = tl := by
  rw [Nat.add_comm, List.drop_succ_cons, List.drop_append, List.drop_of_length_le (Nat.le_refl _), Nat.sub_self, List.drop_zero, List.nil_append]
theorem item_head (c : Int) (hc : 0 ≤ c ∧ c ≤ 255) : ((itemQ c).head? = some 92 ∧ 2 ≤ (itemQ c).length ∧ (itemQ c)[0]? = some 92) ∨ (itemQ c = [c] ∧ c ≠ 92 ∧ c ≠ 34 ∧ 32 ≤ c) := by
  rcases itemQ_kind c hc with h | ⟨_, h⟩ | ⟨_, h⟩ | ⟨_, h⟩ | ⟨_, h⟩ | ⟨_, h⟩ | h
  · exact .inr h
  all_goals exact .inl ⟨by rw [h]; rfl, by rw [h]; simp, by rw [h]; rfl⟩
theorem toList_ne (S : ByteArray) (h : 0 < S.size) : S.toList ≠ ([] : List UInt8) := by
  intro e
  rw [ByteArray.toList_eq] at e
  have : S.data.toList.length = S.size := by simp
  rw [e] at this
  simp at this
  omega
set_option maxHeartbeats 8000000 in
set_option maxRecDepth 100000 in
theorem text_Unquote.whole (w : World) (S : ByteArray) (l tl : List Int) (hS : S = strOfNums (34 :: (bodyQ l ++ tl))) (hlr : ∀ x ∈ l, 0 ≤ x ∧ x ≤ 255) (hsr : ∀ x ∈ 34 :: (bodyQ l ++ tl), 0 ≤ x ∧ x ≤ 255) (hsz : S.size < 1000000000000000) (hll : l.length < 100000000000000) (b : List Int) (hb : tl = 34 :: b) :
    Calls Try.prog 18 #[.string S] w fun e w' => e = .returned (.tuple #[.string (strOfNums l), .int .i64 ((bodyQ l).length + 2 : Nat), .int .i64 0]) ∧ Below w.heap.size w w' := by
  have HLR := Aside0.mk hlr
  have HSV := Aside0.mk hS
  have HSZ := Aside0.mk hsz
  have HLL := Aside0.mk hll
  have HSR := Aside0.mk hsr
  have HB := Aside0.mk (Below.refl w.heap.size w)
  have hmf : ∀ (fn : Fn) (first cap : Array Value) (w : World), (Instr.makeFunc fn first cap).run Try.prog w = .ok (.func fn first cap) w := fun _ _ _ _ => rfl
  have hne : 0 < S.size := by rw [hS, strOfNums_size]; simp
  have b1_ : (S.toList == ([] : List UInt8)) = false := beq_eq_false_iff_ne.mpr (toList_ne S hne)
  have hy0 : bt S 0 = 34 := by rw [hS]; exact bt_of _ hsr 0 34 rfl
  have hx0 := bt_at S 0
  rw [hy0] at hx0
  have hx00 : ∀ h : 0 < S.size, ((S[0]'h).toNat : Int) = 34 := hx0
  have i10 := eq_true (show (0 : Int) < (S.size : Int) by omega)
  have i11 := eq_true hne
  clear hlr hS hsz hll hsr hy0 hne
  go_enter Try.func18, Try.ntmps18
  go_wp2_with (first | ((with_reducible refine gate_dst (N := 16) rfl ?_); refine box_event ?hg (N := 16) ?hd (cs := #[.string S, .int .i64 1, .slice none 0 0]) (t := 61) ?hr ?_; (case hd => rfl); (case hg => rfl); (case hr => first | (go_simp; done) | (go_simp; rfl)); intro g hgx w16 hbox hbw; have GE := Aside0.mk (show w.heap.size ≤ g from hgx ▸ (below_size (by repeat (first | (with_reducible first | exact HB.out | apply below_alloc | apply pw_below_drewN | apply below_drew1) | exact HB.out)))); have n0_ := Aside0.mk (below_step (by repeat (first | (with_reducible first | exact HB.out | apply below_alloc | apply pw_below_drewN | apply below_drew1) | exact HB.out)) hbw); clear HB; have HB := n0_; clear n0_; have HU := Aside0.mk (show UqO w16 w.heap.size g S 1 [] from ⟨_, hbox, Kd.R_nil _ _ _ _ _⟩); clear hgx hbox hbw))
  go_loopg [6] (l.length + 1) (fun kq v6 wr => ∃ (k : Nat) (q : Int), Aside0 (k + kq = l.length + 1 ∧ k ≤ l.length ∧ q = ((1 + (bodyQ (l.take k)).length : Nat) : Int)) ∧ Aside0 (UqO wr w.heap.size g S q (l.take k)) ∧ Aside0 (Below w.heap.size w wr))
  case atStart => exact ⟨0, 1, ⟨by omega, by omega, by simp [bodyQ]⟩, ⟨by rw [List.take_zero]; exact (by (with_reducible repeat (first | exact HU.out | apply UqO.drewN | apply UqO.drew)))⟩, ⟨(by repeat (first | (with_reducible first | exact HB.out | apply below_alloc | apply pw_below_drewN | apply below_drew1 | apply below_drew) | exact HB.out))⟩⟩
  case round =>
  clear HU HB
  obtain ⟨k, q, HQ, HU, HB⟩ := hrel
  by_cases hlt : k < l.length
  case pos => as_aux_lemma =>
    obtain ⟨k1, rfl⟩ : ∃ j, gk = j + 1 := ⟨gk - 1, by have := HQ.out; omega⟩
    have HK := Aside0.mk (show k + 1 + k1 = l.length + 1 ∧ k < l.length by have := HQ.out; omega)
    obtain ⟨hat, hnx⟩ := quote_at l tl k hlt
    have hc := HLR.out l[k] (List.getElem_mem hlt)
    have htk : l.take (k + 1) = l.take k ++ [l[k]] := List.take_succ_eq_append_getElem hlt
    have hbk : ∀ i x, (itemQ l[k])[i]? = some x → bt S ((1 + (bodyQ (l.take k)).length + i : Nat) : Int) = x := fun i x hi => by rw [HSV.out]; exact bt_drop _ HSR.out _ _ _ hat i x hi
    have hln := congrArg List.length hat
    rw [List.length_drop, List.length_append] at hln
    have hpos := itemQ_len l[k]
    have hsz := HSZ.out
    rw [HSV.out, strOfNums_size] at hsz
    have hfit : 1 + (bodyQ (l.take k)).length + (itemQ l[k]).length ≤ S.size := by rw [HSV.out, strOfNums_size]; omega
    have hfin : q + ((itemQ l[k]).length : Int) = ((1 + (bodyQ (l.take (k + 1))).length : Nat) : Int) := by rw [HQ.out.2.2, hnx]; omega
    generalize l[k] = c at *
    obtain ⟨p, hp⟩ : ∃ p, p = 1 + (bodyQ (l.take k)).length := ⟨_, rfl⟩
    rw [← hp] at hbk hfit
    have hq : q = (p : Int) := by rw [HQ.out.2.2, hp]
    have hlt2 : (l.take k).length < 100000000000000 := by rw [List.length_take]; have := HLL.out; omega
    have i0q := eq_true (show 0 ≤ q by omega)
    have i1q' : q < (S.size : Int) := by omega
    have i1q := eq_true i1q'
    have d1q := decide_eq_true i1q'
    have hxq := bt_at S q
    have HFIN := Aside0.mk hfin
    have HTK := Aside0.mk htk
    rcases item_head c hc with ⟨h92, h2, h0⟩ | ⟨hi, c92, c34, c32⟩
    · have hy := hbk 0 92 h0
      rw [Nat.add_zero, ← hq] at hy
      rw [hy] at hxq
      have HM := Aside0.mk (fun W h1 h2' => uq_item36 w W g S (l.take k) p (hq ▸ h1) h2' GE.out hlt2 c hc HSZ.out hfit hbk ⟨h92, h2⟩)
      rw [show ((p + (itemQ c).length : Nat) : Int) = q + ((itemQ c).length : Int) by omega, HFIN.out, ← HTK.out] at HM
      clear hat hnx hc htk hbk hln hpos hsz hfit hfin hp hq hlt2 h92 h2 h0 hy i1q' hlt
      obtain ⟨v, c0_, c1_, c2_, f1_, f2_, hR_, hb_⟩ := HU.out.cells
      have HR := Aside0.mk hR_
      have HBK := Aside0.mk hb_
      clear hR_ hb_
      go_wp2_with (first | (go_at_call 36; (with_reducible refine (HM.out _ (by (with_reducible repeat (first | exact HU.out | apply UqO.drewN | apply UqO.drew))) (by repeat (first | (with_reducible first | exact HB.out | apply below_alloc | apply pw_below_drewN | apply below_drew1 | apply below_drew) | exact HB.out))).mono ?_); rintro e_ w_ ⟨rfl, hu_, hb_⟩; clear HU HB; have HU := Aside0.mk hu_; have HB := Aside0.mk hb_; clear hu_ hb_))
      go_roundg k1
      case measure => omega
      case rel => exact ⟨k + 1, _, ⟨HK.out.1, HK.out.2, rfl⟩, ⟨(by (with_reducible repeat (first | exact HU.out | apply UqO.drewN | apply UqO.drew)))⟩, ⟨(by repeat (first | (with_reducible first | exact HB.out | apply below_alloc | apply pw_below_drewN | apply below_drew1 | apply below_drew) | exact HB.out))⟩⟩
    · have hy := hbk 0 c (by rw [hi]; rfl)
      rw [Nat.add_zero, ← hq] at hy
      have hy2 := hy
      rw [hy] at hxq
      have b92 : (c == 92) = false := beq_eq_false_iff_ne.mpr c92
      have b34 : (c == 34) = false := beq_eq_false_iff_ne.mpr c34
      have w1 : wrap64 (q + 1) = ((1 + (bodyQ (l.take (k + 1))).length : Nat) : Int) := by rw [← hfin, hi]; have := HSZ.out; exact w64q (by omega) (by omega)
      have HM := Aside0.mk (fun W h1 h2' => uq_plain w W g S (l.take k) q h1 h2' GE.out hlt2 _ c w1 (by omega) i1q' hy2 c32)
      rw [← HTK.out] at HM
      clear hat hnx hc htk hbk hln hpos hsz hfit hfin hp hq hlt2 hi c92 c34 c32 hy hy2 w1 i1q' hlt
      obtain ⟨v, c0_, c1_, c2_, f1_, f2_, hR_, hb_⟩ := HU.out.cells
      have HR := Aside0.mk hR_
      have HBK := Aside0.mk hb_
      clear hR_ hb_
      go_wp2_with (first | (go_at_call 35; (with_reducible refine (HM.out _ (by (with_reducible repeat (first | exact HU.out | apply UqO.drewN | apply UqO.drew))) (by repeat (first | (with_reducible first | exact HB.out | apply below_alloc | apply pw_below_drewN | apply below_drew1 | apply below_drew) | exact HB.out))).mono ?_); rintro e_ w_ ⟨rfl, hu_, hb_⟩; clear HU HB; have HU := Aside0.mk hu_; have HB := Aside0.mk hb_; clear hu_ hb_))
      go_roundg k1
      case measure => omega
      case rel => exact ⟨k + 1, _, ⟨HK.out.1, HK.out.2, rfl⟩, ⟨(by (with_reducible repeat (first | exact HU.out | apply UqO.drewN | apply UqO.drew)))⟩, ⟨(by repeat (first | (with_reducible first | exact HB.out | apply below_alloc | apply pw_below_drewN | apply below_drew1 | apply below_drew) | exact HB.out))⟩⟩
  case neg =>
  obtain rfl : k = l.length := by have := HQ.out; omega
  rw [List.take_length] at HU HQ
  clear hlt
  have hln := congrArg List.length (quote_end l tl)
  have hsz2 := HSZ.out
  rw [HSV.out, strOfNums_size] at hsz2
  rw [List.length_drop, hb] at hln
  have hq := HQ.out.2.2
  have hbt : bt S q = 34 := by
    rw [hq, HSV.out]
    exact bt_drop _ HSR.out (1 + (bodyQ l).length) [34] b (by rw [quote_end, hb]; rfl) 0 34 rfl
  have i1q' : q < (S.size : Int) := by rw [HSV.out, strOfNums_size, hb, hq]; simp at hln ⊢; omega
  have i0q := eq_true (show 0 ≤ q by omega)
  have i1q := eq_true i1q'
  have d1q := decide_eq_true i1q'
  have hxq := bt_at S q
  rw [hbt] at hxq
  have w1 : wrap64 (q + 1) = (((bodyQ l).length + 2 : Nat) : Int) := by rw [w64q (by omega) (by have := HSZ.out; omega), hq]; omega
  clear hln hsz2 hq hbt i1q'
  obtain ⟨v, c0_, c1_, c2_, f1_, f2_, hR_, hb_⟩ := HU.out.cells
  have HR := Aside0.mk hR_
  have HBK := Aside0.mk hb_
  clear hR_ hb_
  have hcv := fun n => own_string (P := Try.prog) Try.underlying23 Try.underlying5 Try.underlying9 (Kd.own_of_R (Kd.R_drewN HR.out n))
  have hcv1 := own_string (P := Try.prog) Try.underlying23 Try.underlying5 Try.underlying9 (Kd.own_of_R (Kd.R_drew HR.out))
  go_wp2
  first | go_quiet (fail) | go_region
  all_goals
    go_wp2
    go_ret3
    exact ⟨by (try rw [w1]); rfl, (by repeat (first | (with_reducible first | exact HB.out | apply below_alloc | apply pw_below_drewN | apply below_drew1 | apply below_drew) | exact HB.out))⟩
set_option maxHeartbeats 8000000 in
set_option maxRecDepth 100000 in
theorem text_Unquote.cut (w : World) (S : ByteArray) (l tl : List Int) (hS : S = strOfNums (34 :: (bodyQ l ++ tl))) (hlr : ∀ x ∈ l, 0 ≤ x ∧ x ≤ 255) (hsr : ∀ x ∈ 34 :: (bodyQ l ++ tl), 0 ≤ x ∧ x ≤ 255) (hsz : S.size < 1000000000000000) (hll : l.length < 100000000000000) (hb : tl = [] ∨ ∃ c d, (0 ≤ c ∧ c ≤ 255) ∧ 0 < d ∧ d < (itemQ c).length ∧ tl = (itemQ c).take d) :
    Calls Try.prog 18 #[.string S] w fun e w' => e = .returned (.tuple #[.string ByteArray.empty, .int .i64 S.size, .int .i64 23]) ∧ Below w.heap.size w w' := by
  have HLR := Aside0.mk hlr
  have HSV := Aside0.mk hS
  have HSZ := Aside0.mk hsz
  have HLL := Aside0.mk hll
  have HSR := Aside0.mk hsr
  have HB := Aside0.mk (Below.refl w.heap.size w)
  have hmf : ∀ (fn : Fn) (first cap : Array Value) (w : World), (Instr.makeFunc fn first cap).run Try.prog w = .ok (.func fn first cap) w := fun _ _ _ _ => rfl
  have hne : 0 < S.size := by rw [hS, strOfNums_size]; simp
  have b1_ : (S.toList == ([] : List UInt8)) = false := beq_eq_false_iff_ne.mpr (toList_ne S hne)
  have hy0 : bt S 0 = 34 := by rw [hS]; exact bt_of _ hsr 0 34 rfl
  have hx0 := bt_at S 0
  rw [hy0] at hx0
  have hx00 : ∀ h : 0 < S.size, ((S[0]'h).toNat : Int) = 34 := hx0
  have i10 := eq_true (show (0 : Int) < (S.size : Int) by omega)
  have i11 := eq_true hne
  clear hlr hS hsz hll hsr hy0 hne
  go_enter Try.func18, Try.ntmps18
  go_wp2_with (first | ((with_reducible refine gate_dst (N := 16) rfl ?_); refine box_event ?hg (N := 16) ?hd (cs := #[.string S, .int .i64 1, .slice none 0 0]) (t := 61) ?hr ?_; (case hd => rfl); (case hg => rfl); (case hr => first | (go_simp; done) | (go_simp; rfl)); intro g hgx w16 hbox hbw; have GE := Aside0.mk (show w.heap.size ≤ g from hgx ▸ (below_size (by repeat (first | (with_reducible first | exact HB.out | apply below_alloc | apply pw_below_drewN | apply below_drew1) | exact HB.out)))); have n0_ := Aside0.mk (below_step (by repeat (first | (with_reducible first | exact HB.out | apply below_alloc | apply pw_below_drewN | apply below_drew1) | exact HB.out)) hbw); clear HB; have HB := n0_; clear n0_; have HU := Aside0.mk (show UqO w16 w.heap.size g S 1 [] from ⟨_, hbox, Kd.R_nil _ _ _ _ _⟩); clear hgx hbox hbw))
  go_loopg [6] (l.length + 1) (fun kq v6 wr => ∃ (k : Nat) (q : Int), Aside0 (k + kq = l.length + 1 ∧ k ≤ l.length ∧ q = ((1 + (bodyQ (l.take k)).length : Nat) : Int)) ∧ Aside0 (UqO wr w.heap.size g S q (l.take k)) ∧ Aside0 (Below w.heap.size w wr))
  case atStart => exact ⟨0, 1, ⟨by omega, by omega, by simp [bodyQ]⟩, ⟨by rw [List.take_zero]; exact (by (with_reducible repeat (first | exact HU.out | apply UqO.drewN | apply UqO.drew)))⟩, ⟨(by repeat (first | (with_reducible first | exact HB.out | apply below_alloc | apply pw_below_drewN | apply below_drew1 | apply below_drew) | exact HB.out))⟩⟩
  case round =>
  clear HU HB
  obtain ⟨k, q, HQ, HU, HB⟩ := hrel
  by_cases hlt : k < l.length
  case pos => as_aux_lemma =>
    obtain ⟨k1, rfl⟩ : ∃ j, gk = j + 1 := ⟨gk - 1, by have := HQ.out; omega⟩
    have HK := Aside0.mk (show k + 1 + k1 = l.length + 1 ∧ k < l.length by have := HQ.out; omega)
    obtain ⟨hat, hnx⟩ := quote_at l tl k hlt
    have hc := HLR.out l[k] (List.getElem_mem hlt)
    have htk : l.take (k + 1) = l.take k ++ [l[k]] := List.take_succ_eq_append_getElem hlt
    have hbk : ∀ i x, (itemQ l[k])[i]? = some x → bt S ((1 + (bodyQ (l.take k)).length + i : Nat) : Int) = x := fun i x hi => by rw [HSV.out]; exact bt_drop _ HSR.out _ _ _ hat i x hi
    have hln := congrArg List.length hat
    rw [List.length_drop, List.length_append] at hln
    have hpos := itemQ_len l[k]
    have hsz := HSZ.out
    rw [HSV.out, strOfNums_size] at hsz
    have hfit : 1 + (bodyQ (l.take k)).length + (itemQ l[k]).length ≤ S.size := by rw [HSV.out, strOfNums_size]; omega
    have hfin : q + ((itemQ l[k]).length : Int) = ((1 + (bodyQ (l.take (k + 1))).length : Nat) : Int) := by rw [HQ.out.2.2, hnx]; omega
    generalize l[k] = c at *
    obtain ⟨p, hp⟩ : ∃ p, p = 1 + (bodyQ (l.take k)).length := ⟨_, rfl⟩
    rw [← hp] at hbk hfit
    have hq : q = (p : Int) := by rw [HQ.out.2.2, hp]
    have hlt2 : (l.take k).length < 100000000000000 := by rw [List.length_take]; have := HLL.out; omega
    have i0q := eq_true (show 0 ≤ q by omega)
    have i1q' : q < (S.size : Int) := by omega
    have i1q := eq_true i1q'
    have d1q := decide_eq_true i1q'
    have hxq := bt_at S q
    have HFIN := Aside0.mk hfin
    have HTK := Aside0.mk htk
    rcases item_head c hc with ⟨h92, h2, h0⟩ | ⟨hi, c92, c34, c32⟩
    · have hy := hbk 0 92 h0
      rw [Nat.add_zero, ← hq] at hy
      rw [hy] at hxq
      have HM := Aside0.mk (fun W h1 h2' => uq_item36 w W g S (l.take k) p (hq ▸ h1) h2' GE.out hlt2 c hc HSZ.out hfit hbk ⟨h92, h2⟩)
      rw [show ((p + (itemQ c).length : Nat) : Int) = q + ((itemQ c).length : Int) by omega, HFIN.out, ← HTK.out] at HM
      clear hat hnx hc htk hbk hln hpos hsz hfit hfin hp hq hlt2 h92 h2 h0 hy i1q' hlt
      obtain ⟨v, c0_, c1_, c2_, f1_, f2_, hR_, hb_⟩ := HU.out.cells
      have HR := Aside0.mk hR_
      have HBK := Aside0.mk hb_
      clear hR_ hb_
      go_wp2_with (first | (go_at_call 36; (with_reducible refine (HM.out _ (by (with_reducible repeat (first | exact HU.out | apply UqO.drewN | apply UqO.drew))) (by repeat (first | (with_reducible first | exact HB.out | apply below_alloc | apply pw_below_drewN | apply below_drew1 | apply below_drew) | exact HB.out))).mono ?_); rintro e_ w_ ⟨rfl, hu_, hb_⟩; clear HU HB; have HU := Aside0.mk hu_; have HB := Aside0.mk hb_; clear hu_ hb_))
      go_roundg k1
      case measure => omega
      case rel => exact ⟨k + 1, _, ⟨HK.out.1, HK.out.2, rfl⟩, ⟨(by (with_reducible repeat (first | exact HU.out | apply UqO.drewN | apply UqO.drew)))⟩, ⟨(by repeat (first | (with_reducible first | exact HB.out | apply below_alloc | apply pw_below_drewN | apply below_drew1 | apply below_drew) | exact HB.out))⟩⟩
    · have hy := hbk 0 c (by rw [hi]; rfl)
      rw [Nat.add_zero, ← hq] at hy
      have hy2 := hy
      rw [hy] at hxq
      have b92 : (c == 92) = false := beq_eq_false_iff_ne.mpr c92
      have b34 : (c == 34) = false := beq_eq_false_iff_ne.mpr c34
      have w1 : wrap64 (q + 1) = ((1 + (bodyQ (l.take (k + 1))).length : Nat) : Int) := by rw [← hfin, hi]; have := HSZ.out; exact w64q (by omega) (by omega)
      have HM := Aside0.mk (fun W h1 h2' => uq_plain w W g S (l.take k) q h1 h2' GE.out hlt2 _ c w1 (by omega) i1q' hy2 c32)
      rw [← HTK.out] at HM
      clear hat hnx hc htk hbk hln hpos hsz hfit hfin hp hq hlt2 hi c92 c34 c32 hy hy2 w1 i1q' hlt
      obtain ⟨v, c0_, c1_, c2_, f1_, f2_, hR_, hb_⟩ := HU.out.cells
      have HR := Aside0.mk hR_
      have HBK := Aside0.mk hb_
      clear hR_ hb_
      go_wp2_with (first | (go_at_call 35; (with_reducible refine (HM.out _ (by (with_reducible repeat (first | exact HU.out | apply UqO.drewN | apply UqO.drew))) (by repeat (first | (with_reducible first | exact HB.out | apply below_alloc | apply pw_below_drewN | apply below_drew1 | apply below_drew) | exact HB.out))).mono ?_); rintro e_ w_ ⟨rfl, hu_, hb_⟩; clear HU HB; have HU := Aside0.mk hu_; have HB := Aside0.mk hb_; clear hu_ hb_))
      go_roundg k1
      case measure => omega
      case rel => exact ⟨k + 1, _, ⟨HK.out.1, HK.out.2, rfl⟩, ⟨(by (with_reducible repeat (first | exact HU.out | apply UqO.drewN | apply UqO.drew)))⟩, ⟨(by repeat (first | (with_reducible first | exact HB.out | apply below_alloc | apply pw_below_drewN | apply below_drew1 | apply below_drew) | exact HB.out))⟩⟩
  case neg =>
  obtain rfl : k = l.length := by have := HQ.out; omega
  rw [List.take_length] at HU HQ
  clear hlt
  have hln := congrArg List.length (quote_end l tl)
  have hsz2 := HSZ.out
  rw [List.length_drop] at hln
  have hszl : S.size = (34 :: (bodyQ l ++ tl)).length := by rw [HSV.out, strOfNums_size]
  rcases hb with hb | ⟨c, d, hc, hd0, hd1, hb⟩
  · have hqe : q = (S.size : Int) := by rw [HQ.out.2.2, hszl, hb]; simp; omega
    have d1q : decide (q < (S.size : Int)) = false := decide_eq_false (by omega)
    clear hln hsz2 hszl hqe
    obtain ⟨v, c0_, c1_, c2_, f1_, f2_, hR_, hb_⟩ := HU.out.cells
    have HR := Aside0.mk hR_
    have HBK := Aside0.mk hb_
    clear hR_ hb_
    go_wp2
    go_ret3
    exact ⟨rfl, (by repeat (first | (with_reducible first | exact HB.out | apply below_alloc | apply pw_below_drewN | apply below_drew1 | apply below_drew) | exact HB.out))⟩
  · have hdl : tl.length = d := by rw [hb, List.length_take]; omega
    obtain ⟨p, hp⟩ : ∃ p, p = 1 + (bodyQ l).length := ⟨_, rfl⟩
    have hq : q = (p : Int) := by rw [HQ.out.2.2, hp]
    have hfit : p + d = S.size := by rw [hszl]; simp; omega
    have hbk : ∀ i x, i < d → (itemQ c)[i]? = some x → bt S ((p + i : Nat) : Int) = x := fun i x hi hx => by
      rw [HSV.out, hp]
      exact bt_drop _ HSR.out (1 + (bodyQ l).length) tl [] (by rw [quote_end, List.append_nil]) i x (by rw [hb, List.getElem?_take_of_lt hi]; exact hx)
    have h92 : (itemQ c)[0]? = some 92 := by
      rcases item_head c hc with h | h
      · exact h.2.2
      · rw [h.1] at hd1; simp at hd1; omega
    have hy := hbk 0 92 hd0 h92
    rw [Nat.add_zero, ← hq] at hy
    have hxq := bt_at S q
    rw [hy] at hxq
    have i1q' : q < (S.size : Int) := by omega
    have i0q := eq_true (show 0 ≤ q by omega)
    have i1q := eq_true i1q'
    have d1q := decide_eq_true i1q'
    have HM := Aside0.mk (fun W h1 h2' => uq_cut36 w W g S l p (hq ▸ h1) h2' GE.out HLL.out c hc HSZ.out d hd0 hd1 hfit hbk)
    clear hln hsz2 hszl hdl hp hq hfit hbk h92 hy i1q' hc hd0 hd1 hb
    obtain ⟨v, c0_, c1_, c2_, f1_, f2_, hR_, hb_⟩ := HU.out.cells
    have HR := Aside0.mk hR_
    have HBK := Aside0.mk hb_
    clear hR_ hb_
    go_wp2_with (first | (go_at_call 36; (with_reducible refine (HM.out _ (by (with_reducible repeat (first | exact HU.out | apply UqO.drewN | apply UqO.drew))) (by repeat (first | (with_reducible first | exact HB.out | apply below_alloc | apply pw_below_drewN | apply below_drew1 | apply below_drew) | exact HB.out))).mono ?_); rintro e_ w_ ⟨rfl, hu_, hb_⟩; clear HU HB c0_ c1_ c2_ f1_ f2_ HR HBK; have HU := Aside0.mk hu_; have HB := Aside0.mk hb_; clear hu_ hb_; obtain ⟨v, c0_, c1_, c2_, f1_, f2_, hR_, hb_⟩ := HU.out.cells; clear hR_ hb_))
    repeat (go_quiet (fail); try go_wp2)
    go_ret3
    exact ⟨rfl, (by repeat (first | (with_reducible first | exact HB.out | apply below_alloc | apply pw_below_drewN | apply below_drew1 | apply below_drew) | exact HB.out))⟩

end Go.Proofs.Ythgodajjaddgbaa.T
