/- text.Unescape (layer 2) over bytes and entities one behind the other, by hand. Began as a turning of gen_unescape.py. -/
import Derived.Test.YthgodajjaddgbaaVx0
import Derived.Test.YthgodajjaddgbaaHUnescape
import Derived.IntWalk
namespace Go.Proofs.Ythgodajjaddgbaa.V
open Go.RowKit Go.Proofs.YthgodajjaddgbaaW.PrintWords Go.Proofs.YthgodajjaddgbaaW.PrintLast Go.Proofs.YthgodajjaddgbaaW.PrintMore
attribute [local go_sem] max2_int min2_int max_two min_two max_three min_three max_four min_four   -- for this text's walks alone
set_option linter.unusedVariables false
set_option linter.unusedSimpArgs false

/-- What stands in a text, and what it is read as: a byte, or an entity. -/
def ItemOk (p : List Int × List Int) : Prop := (∃ c, p.1 = [c] ∧ p.2 = [c] ∧ c ≠ 38) ∨ ∃ (mid : List Int) (v : ByteArray), p.1 = 38 :: (mid ++ [59]) ∧ p.2 = bytesT v ∧ (∀ x ∈ mid, 0 ≤ x ∧ x ≤ 255 ∧ x ≠ 59) ∧ v.size ≤ 1000 ∧ ∀ W : World, Calls Try.prog 32 #[.string (strOfNums mid)] W fun e w' => e = .returned (.tuple #[.string v, .bool true]) ∧ Below W.heap.size W w'
theorem ItemOk.len {p : List Int × List Int} (h : ItemOk p) : 1 ≤ p.1.length := by
  rcases h with ⟨c, h, _⟩ | ⟨mid, v, h, _⟩ <;> rw [h] <;> simp
def inpL (its : List (List Int × List Int)) : List Int := its.flatMap (·.1)
def outL (its : List (List Int × List Int)) : List Int := its.flatMap (·.2)
theorem inpL_app (x y : List (List Int × List Int)) : inpL (x ++ y) = inpL x ++ inpL y := by simp [inpL]
theorem outL_app (x y : List (List Int × List Int)) : outL (x ++ y) = outL x ++ outL y := by simp [outL]
theorem outL_take (its : List (List Int × List Int)) (k : Nat) : (outL (its.take k)).length ≤ (outL its).length := by
  have : outL its = outL (its.take k) ++ outL (its.drop k) := by rw [← outL_app, List.take_append_drop]
  rw [this, List.length_append]; omega
theorem inp_at (its : List (List Int × List Int)) (tl : List Int) (k : Nat) (hk : k < its.length) : (inpL its ++ tl).drop (inpL (its.take k)).length = its[k].1 ++ (inpL (its.drop (k + 1)) ++ tl) ∧ (inpL (its.take (k + 1))).length = (inpL (its.take k)).length + its[k].1.length ∧ outL (its.take (k + 1)) = outL (its.take k) ++ its[k].2 := by
  have h1 : inpL its = inpL (its.take k) ++ (its[k].1 ++ inpL (its.drop (k + 1))) := by
    have : ∀ (p : List Int × List Int) (r : List (List Int × List Int)), p.1 ++ inpL r = inpL (p :: r) := fun p r => by simp [inpL]
    rw [this, ← List.drop_eq_getElem_cons hk, ← inpL_app, List.take_append_drop]
  refine ⟨?_, ?_, ?_⟩
  · conv => lhs; rw [h1]
    rw [List.append_assoc, List.append_assoc, List.drop_append, List.drop_of_length_le (Nat.le_refl _), Nat.sub_self, List.drop_zero, List.nil_append]
  · rw [List.take_succ_eq_append_getElem hk, inpL_app, List.length_append]
    simp [inpL]
  · rw [List.take_succ_eq_append_getElem hk, outL_app]
    simp [outL]
set_option maxHeartbeats 8000000 in
set_option maxRecDepth 100000 in
theorem text_Unescape.good (w : World) (its : List (List Int × List Int)) (tl : List Int) (S : ByteArray) (hS : S = strOfNums (inpL its ++ tl)) (hg : ∀ p ∈ its, ItemOk p) (hre : ∀ x ∈ inpL its ++ tl, 0 ≤ x ∧ x ≤ 255) (hro : ∀ x ∈ outL its, 0 ≤ x ∧ x ≤ 255) (hle : (inpL its ++ tl).length ≤ 1000000) (hlo : (outL its).length ≤ 1000000) (htl : tl = []) :
    Calls Try.prog 16 #[.string S] w fun e w' => e = .returned (.tuple #[.string (strOfNums (outL its)), .int .i64 0, .int .i64 0]) ∧ Below w.heap.size w w' := by
  have HS := Aside0.mk hS
  have HTL := Aside0.mk htl
  clear htl
  have HG := Aside0.mk hg
  have HRO := Aside0.mk hro
  have HLO := Aside0.mk hlo
  have HRE := Aside0.mk hre
  have HLE := Aside0.mk hle
  have HZ := Aside0.mk (show S.size = (inpL its ++ tl).length by rw [hS, strOfNums_size])
  have HB := Aside0.mk (Below.refl w.heap.size w)
  clear hS hg hro hlo hre hle
  go_enter Try.func16, Try.ntmps16
  go_wp2_with (first | ((with_reducible refine gate_dst (N := 5) rfl ?_); refine box_event ?hg (N := 5) ?hd (cs := #[.pointer none, .slice none 0 0]) (t := 48) ?hr ?_; (case hd => rfl); (case hg => rfl); (case hr => first | (go_simp; done) | (go_simp; rfl)); intro g hgx w5 hbox hbw; have GE := Aside0.mk (show w.heap.size ≤ g from hgx ▸ (below_size (by repeat (first | (with_reducible first | exact HB.out | apply below_alloc | apply pw_below_drewN | apply below_drew1) | exact HB.out)))); have n0_ := Aside0.mk (below_step (by repeat (first | (with_reducible first | exact HB.out | apply below_alloc | apply pw_below_drewN | apply below_drew1) | exact HB.out)) hbw); clear HB; have HB := n0_; clear n0_; have HU := Aside0.mk (show BlF w5 w.heap.size g [] from .inl ⟨GE.out, _, hbox, World.ownsRow_nil _ _ _ _, by simp [Value.ownBlock]⟩); clear hgx hbox hbw))
  go_loopw [6] (fun v wr => ∃ (k : Nat) (x : Int), v = .int .i64 x ∧ Aside0 (x = ((inpL (its.take k)).length : Int) ∧ k ≤ its.length) ∧ Aside0 (BlF wr w.heap.size g (outL (its.take k))) ∧ Aside0 (Below w.heap.size w wr)) (fun v _ => S.size + 1 - (intOf v).toNat)
  case atStart => exact ⟨0, 0, rfl, ⟨by simp [inpL], Nat.zero_le _⟩, (by simpa [outL] using HU), HB⟩
  case round =>
  clear HU HB
  obtain ⟨k, x, rfl, HX, HU, HB⟩ := hrel
  by_cases hlt : k < its.length
  case pos => as_aux_lemma =>
    obtain ⟨hat, hnx, hno⟩ := inp_at its tl k hlt
    have hok := HG.out _ (List.getElem_mem hlt)
    have HK := Aside0.mk (show k + 1 ≤ its.length from hlt)
    have HLN := Aside0.mk (show (outL (its.take k)).length ≤ 1000000 by have := outL_take its k; have := HLO.out; omega)
    generalize its[k] = p at *
    obtain ⟨inp, out⟩ := p
    dsimp only at hat hnx hno hok
    have HTK := Aside0.mk hno
    obtain ⟨o, ho⟩ : ∃ o, o = (inpL (its.take k)).length := ⟨_, rfl⟩
    have hx0 : x = (o : Int) := by rw [HX.out.1, ho]
    rw [← ho] at hat hnx
    have hlen : (inpL its ++ tl).length - o = inp.length + (inpL (its.drop (k + 1)) ++ tl).length := by
      have h9 := congrArg List.length hat
      rw [List.length_drop] at h9
      exact h9.trans List.length_append
    have hil : 1 ≤ inp.length := hok.len
    have hol : o ≤ (inpL its ++ tl).length := by omega
    rcases hok with ⟨c, hi, hou, h38⟩ | ⟨mid, v, hi, hou, hm, hm4, T39⟩
    · have hbt : bt S x = c := by rw [HS.out, hx0]; exact bt_dropE _ HRE.out o [c] _ (by rw [hat]; exact congrArg (· ++ _) hi) 0 c rfl
      have hx := bt_at S x
      rw [hbt] at hx
      have i0 := eq_true (show 0 ≤ x by omega)
      have i1' : x < (S.size : Int) := by have := HZ.out; omega
      have i1 := eq_true i1'
      have i2 := decide_eq_true i1'
      have b38 : (c != 38) = true := bne_iff_ne.mpr h38
      have HW := Aside0.mk (show wrap64 (x + 1) = x + 1 from w64q (by omega) (by have := HLE.out; omega))
      have HX2 := Aside0.mk (show x + 1 = ((inpL (its.take (k + 1))).length : Int) ∧ 0 ≤ x ∧ x < (S.size : Int) by rw [hnx, show inp = [c] from hi]; exact ⟨by rw [hx0]; simp, by omega, i1'⟩)
      rw [show out = [c] from hou] at HTK
      clear hat hnx hno hlen hil hol hi hou h38 hbt i1' hx0 ho hlt
      go_wp2_with (first | (go_at_call 30; (with_reducible refine (bl_byte w _ g _ c HU.out HB.out (by have := HLN.out; omega)).mono ?_); rintro e_ w_ ⟨rfl, hu_, hb_⟩; clear HU HB; rw [← HTK.out] at hu_; have HU := Aside0.mk hu_; have HB := Aside0.mk hb_; clear hu_ hb_))
      go_roundw
      case rel => exact ⟨k + 1, x + 1, by first | with_reducible rfl | rw [HW.out], ⟨HX2.out.1, HK.out⟩, HU, HB⟩
      case measure => exact measE _ x _ HX2.out.2.1 HX2.out.2.2 (by first | exact HW.out | rfl)
    · have hd : (inpL its ++ tl).drop o = 38 :: (mid ++ 59 :: (inpL (its.drop (k + 1)) ++ tl)) := by rw [hat, show inp = 38 :: (mid ++ [59]) from hi]; simp
      obtain ⟨X1, X2, e1, x1, x2, x3, f1, T27, f2, f3, f4, f5, f6, g0, g1, g2, g3, g4, g5, g6, g7⟩ := ent_round (inpL its ++ tl) mid _ S o x HS.out (by have := HLE.out; omega) hx0 hol hd hm
      have T27 := Aside0.mk T27
      rw [← f6] at T39
      have T39 := Aside0.mk T39
      have hbt : bt S x = 38 := by rw [HS.out, hx0]; exact bt_dropE _ HRE.out o [38] _ (by rw [hd]; rfl) 0 38 rfl
      have hx := bt_at S x
      rw [hbt] at hx
      have dn : decide (e1 < 0) = false := decide_eq_false (by omega)
      have HX2 := Aside0.mk (show x3 = ((inpL (its.take (k + 1))).length : Int) ∧ 0 ≤ x ∧ x < x3 ∧ x3 ≤ (S.size : Int) by
        have := HZ.out
        refine ⟨by rw [hnx, show inp = 38 :: (mid ++ [59]) from hi, g6]; simp only [List.length_cons, List.length_append, List.length_nil]; (try omega), g1, by omega, ?_⟩
        rw [g6, this]
        have hinp : inp.length = mid.length + 2 := by rw [show inp = 38 :: (mid ++ [59]) from hi]; simp
        omega)
      have HC1 := Aside0.mk (show v.size ≤ 10000000000 by omega)
      rw [show out = bytesT v from hou] at HTK
      have i0 := eq_true g1
      have i1 := eq_true g7
      have i2 := decide_eq_true g7
      have j0 := eq_true g2
      have j1 := eq_true g3
      have j2 := eq_true g4
      have j3 := eq_true g5
      clear hat hnx hno hlen hil hol hi hou hm hm4 hd hbt hx0 ho f6 g0 g1 g2 g3 g4 g5 g6 g7 hlt
      go_wp2_with (first | (go_at_call 31; (with_reducible refine (T27.out _).mono ?_); rintro e_ w_ ⟨rfl, rfl⟩) | (go_at_call 32; (with_reducible refine (T39.out _).mono ?_); rintro e_ w39 ⟨rfl, hb_⟩; have n0_ := Aside0.mk (below_step HB.out hb_); have n1_ := Aside0.mk (BlF.below HU.out hb_); clear HB HU; have HB := n0_; have HU := n1_; clear n0_ n1_ hb_) | (go_at_call 33; (with_reducible refine (bl_str w _ g _ _ HU.out HB.out (by have := HLN.out; omega) HC1.out).mono ?_); rintro e_ w46 ⟨rfl, hu_, hb_⟩; clear HU HB; rw [← HTK.out] at hu_; have HU := Aside0.mk hu_; have HB := Aside0.mk hb_; clear hu_ hb_))
      go_roundw
      case rel => exact ⟨k + 1, x3, by first | with_reducible rfl | rw [f3, f4] | rw [f4], ⟨HX2.out.1, HK.out⟩, HU, HB⟩
      case measure => exact measU _ x x3 _ HX2.out.2.1 HX2.out.2.2.1 HX2.out.2.2.2 (by first | rfl | exact f4 | rw [f3, f4])
  case neg =>
  obtain rfl : k = its.length := by have := HX.out; omega
  rw [List.take_length] at HU HX
  have i2 : decide (x < (S.size : Int)) = false := decide_eq_false (by have h1 := HX.out; have h2 := HZ.out; rw [HTL.out, List.append_nil] at h2; omega)
  clear hlt
  go_wp2_with (first | (go_at_call 34; (with_reducible refine (bl_string w _ g _ HRO.out HU.out HB.out).mono ?_); rintro e_ w_ ⟨rfl, hb_⟩; clear HB; have HB := Aside0.mk hb_; clear hb_))
  go_ret3
  exact ⟨rfl, HB.out⟩
set_option maxHeartbeats 8000000 in
set_option maxRecDepth 100000 in
theorem text_Unescape.bad (w : World) (its : List (List Int × List Int)) (tl : List Int) (S : ByteArray) (hS : S = strOfNums (inpL its ++ tl)) (hg : ∀ p ∈ its, ItemOk p) (hre : ∀ x ∈ inpL its ++ tl, 0 ≤ x ∧ x ≤ 255) (hro : ∀ x ∈ outL its, 0 ≤ x ∧ x ≤ 255) (hle : (inpL its ++ tl).length ≤ 1000000) (hlo : (outL its).length ≤ 1000000) (mid r : List Int) (v : ByteArray) (htl : tl = 38 :: (mid ++ 59 :: r) ∧ (∀ x ∈ mid, 0 ≤ x ∧ x ≤ 255 ∧ x ≠ 59) ∧ ∀ W : World, Calls Try.prog 32 #[.string (strOfNums mid)] W fun e w' => e = .returned (.tuple #[.string v, .bool false]) ∧ Below W.heap.size W w') :
    Calls Try.prog 16 #[.string S] w fun e w' => e = .returned (.tuple #[.string ByteArray.empty, .int .i64 22, .int .i64 ((inpL its).length : Int)]) ∧ Below w.heap.size w w' := by
  have HS := Aside0.mk hS
  have HTL := Aside0.mk htl
  clear htl
  have HG := Aside0.mk hg
  have HRO := Aside0.mk hro
  have HLO := Aside0.mk hlo
  have HRE := Aside0.mk hre
  have HLE := Aside0.mk hle
  have HZ := Aside0.mk (show S.size = (inpL its ++ tl).length by rw [hS, strOfNums_size])
  have HB := Aside0.mk (Below.refl w.heap.size w)
  clear hS hg hro hlo hre hle
  go_enter Try.func16, Try.ntmps16
  go_wp2_with (first | ((with_reducible refine gate_dst (N := 5) rfl ?_); refine box_event ?hg (N := 5) ?hd (cs := #[.pointer none, .slice none 0 0]) (t := 48) ?hr ?_; (case hd => rfl); (case hg => rfl); (case hr => first | (go_simp; done) | (go_simp; rfl)); intro g hgx w5 hbox hbw; have GE := Aside0.mk (show w.heap.size ≤ g from hgx ▸ (below_size (by repeat (first | (with_reducible first | exact HB.out | apply below_alloc | apply pw_below_drewN | apply below_drew1) | exact HB.out)))); have n0_ := Aside0.mk (below_step (by repeat (first | (with_reducible first | exact HB.out | apply below_alloc | apply pw_below_drewN | apply below_drew1) | exact HB.out)) hbw); clear HB; have HB := n0_; clear n0_; have HU := Aside0.mk (show BlF w5 w.heap.size g [] from .inl ⟨GE.out, _, hbox, World.ownsRow_nil _ _ _ _, by simp [Value.ownBlock]⟩); clear hgx hbox hbw))
  go_loopw [6] (fun v wr => ∃ (k : Nat) (x : Int), v = .int .i64 x ∧ Aside0 (x = ((inpL (its.take k)).length : Int) ∧ k ≤ its.length) ∧ Aside0 (BlF wr w.heap.size g (outL (its.take k))) ∧ Aside0 (Below w.heap.size w wr)) (fun v _ => S.size + 1 - (intOf v).toNat)
  case atStart => exact ⟨0, 0, rfl, ⟨by simp [inpL], Nat.zero_le _⟩, (by simpa [outL] using HU), HB⟩
  case round =>
  clear HU HB
  obtain ⟨k, x, rfl, HX, HU, HB⟩ := hrel
  by_cases hlt : k < its.length
  case pos => as_aux_lemma =>
    obtain ⟨hat, hnx, hno⟩ := inp_at its tl k hlt
    have hok := HG.out _ (List.getElem_mem hlt)
    have HK := Aside0.mk (show k + 1 ≤ its.length from hlt)
    have HLN := Aside0.mk (show (outL (its.take k)).length ≤ 1000000 by have := outL_take its k; have := HLO.out; omega)
    generalize its[k] = p at *
    obtain ⟨inp, out⟩ := p
    dsimp only at hat hnx hno hok
    have HTK := Aside0.mk hno
    obtain ⟨o, ho⟩ : ∃ o, o = (inpL (its.take k)).length := ⟨_, rfl⟩
    have hx0 : x = (o : Int) := by rw [HX.out.1, ho]
    rw [← ho] at hat hnx
    have hlen : (inpL its ++ tl).length - o = inp.length + (inpL (its.drop (k + 1)) ++ tl).length := by
      have h9 := congrArg List.length hat
      rw [List.length_drop] at h9
      exact h9.trans List.length_append
    have hil : 1 ≤ inp.length := hok.len
    have hol : o ≤ (inpL its ++ tl).length := by omega
    rcases hok with ⟨c, hi, hou, h38⟩ | ⟨mid, v, hi, hou, hm, hm4, T39⟩
    · have hbt : bt S x = c := by rw [HS.out, hx0]; exact bt_dropE _ HRE.out o [c] _ (by rw [hat]; exact congrArg (· ++ _) hi) 0 c rfl
      have hx := bt_at S x
      rw [hbt] at hx
      have i0 := eq_true (show 0 ≤ x by omega)
      have i1' : x < (S.size : Int) := by have := HZ.out; omega
      have i1 := eq_true i1'
      have i2 := decide_eq_true i1'
      have b38 : (c != 38) = true := bne_iff_ne.mpr h38
      have HW := Aside0.mk (show wrap64 (x + 1) = x + 1 from w64q (by omega) (by have := HLE.out; omega))
      have HX2 := Aside0.mk (show x + 1 = ((inpL (its.take (k + 1))).length : Int) ∧ 0 ≤ x ∧ x < (S.size : Int) by rw [hnx, show inp = [c] from hi]; exact ⟨by rw [hx0]; simp, by omega, i1'⟩)
      rw [show out = [c] from hou] at HTK
      clear hat hnx hno hlen hil hol hi hou h38 hbt i1' hx0 ho hlt
      go_wp2_with (first | (go_at_call 30; (with_reducible refine (bl_byte w _ g _ c HU.out HB.out (by have := HLN.out; omega)).mono ?_); rintro e_ w_ ⟨rfl, hu_, hb_⟩; clear HU HB; rw [← HTK.out] at hu_; have HU := Aside0.mk hu_; have HB := Aside0.mk hb_; clear hu_ hb_))
      go_roundw
      case rel => exact ⟨k + 1, x + 1, by first | with_reducible rfl | rw [HW.out], ⟨HX2.out.1, HK.out⟩, HU, HB⟩
      case measure => exact measE _ x _ HX2.out.2.1 HX2.out.2.2 (by first | exact HW.out | rfl)
    · have hd : (inpL its ++ tl).drop o = 38 :: (mid ++ 59 :: (inpL (its.drop (k + 1)) ++ tl)) := by rw [hat, show inp = 38 :: (mid ++ [59]) from hi]; simp
      obtain ⟨X1, X2, e1, x1, x2, x3, f1, T27, f2, f3, f4, f5, f6, g0, g1, g2, g3, g4, g5, g6, g7⟩ := ent_round (inpL its ++ tl) mid _ S o x HS.out (by have := HLE.out; omega) hx0 hol hd hm
      have T27 := Aside0.mk T27
      rw [← f6] at T39
      have T39 := Aside0.mk T39
      have hbt : bt S x = 38 := by rw [HS.out, hx0]; exact bt_dropE _ HRE.out o [38] _ (by rw [hd]; rfl) 0 38 rfl
      have hx := bt_at S x
      rw [hbt] at hx
      have dn : decide (e1 < 0) = false := decide_eq_false (by omega)
      have HX2 := Aside0.mk (show x3 = ((inpL (its.take (k + 1))).length : Int) ∧ 0 ≤ x ∧ x < x3 ∧ x3 ≤ (S.size : Int) by
        have := HZ.out
        refine ⟨by rw [hnx, show inp = 38 :: (mid ++ [59]) from hi, g6]; simp only [List.length_cons, List.length_append, List.length_nil]; (try omega), g1, by omega, ?_⟩
        rw [g6, this]
        have hinp : inp.length = mid.length + 2 := by rw [show inp = 38 :: (mid ++ [59]) from hi]; simp
        omega)
      have HC1 := Aside0.mk (show v.size ≤ 10000000000 by omega)
      rw [show out = bytesT v from hou] at HTK
      have i0 := eq_true g1
      have i1 := eq_true g7
      have i2 := decide_eq_true g7
      have j0 := eq_true g2
      have j1 := eq_true g3
      have j2 := eq_true g4
      have j3 := eq_true g5
      clear hat hnx hno hlen hil hol hi hou hm hm4 hd hbt hx0 ho f6 g0 g1 g2 g3 g4 g5 g6 g7 hlt
      go_wp2_with (first | (go_at_call 31; (with_reducible refine (T27.out _).mono ?_); rintro e_ w_ ⟨rfl, rfl⟩) | (go_at_call 32; (with_reducible refine (T39.out _).mono ?_); rintro e_ w39 ⟨rfl, hb_⟩; have n0_ := Aside0.mk (below_step HB.out hb_); have n1_ := Aside0.mk (BlF.below HU.out hb_); clear HB HU; have HB := n0_; have HU := n1_; clear n0_ n1_ hb_) | (go_at_call 33; (with_reducible refine (bl_str w _ g _ _ HU.out HB.out (by have := HLN.out; omega) HC1.out).mono ?_); rintro e_ w46 ⟨rfl, hu_, hb_⟩; clear HU HB; rw [← HTK.out] at hu_; have HU := Aside0.mk hu_; have HB := Aside0.mk hb_; clear hu_ hb_))
      go_roundw
      case rel => exact ⟨k + 1, x3, by first | with_reducible rfl | rw [f3, f4] | rw [f4], ⟨HX2.out.1, HK.out⟩, HU, HB⟩
      case measure => exact measU _ x x3 _ HX2.out.2.1 HX2.out.2.2.1 HX2.out.2.2.2 (by first | rfl | exact f4 | rw [f3, f4])
  case neg =>
  obtain rfl : k = its.length := by have := HX.out; omega
  rw [List.take_length] at HU HX
  have hd : (inpL its ++ tl).drop (inpL its).length = 38 :: (mid ++ 59 :: r) := by rw [List.drop_append, List.drop_of_length_le (Nat.le_refl _), Nat.sub_self, List.drop_zero, List.nil_append]; exact HTL.out.1
  obtain ⟨X1, X2, e1, x1, x2, x3, f1, T27, f2, f3, f4, f5, f6, g0, g1, g2, g3, g4, g5, g6, g7⟩ := ent_round (inpL its ++ tl) mid _ S _ x HS.out (by have := HLE.out; omega) HX.out.1 (by rw [List.length_append]; omega) hd HTL.out.2.1
  have T27 := Aside0.mk T27
  have T39 := HTL.out.2.2
  rw [← f6] at T39
  have T39 := Aside0.mk T39
  have hbt : bt S x = 38 := by rw [HS.out, HX.out.1]; exact bt_dropE _ HRE.out (inpL its).length [38] _ (by rw [hd]; rfl) 0 38 rfl
  have hx := bt_at S x
  rw [hbt] at hx
  have dn : decide (e1 < 0) = false := decide_eq_false (by omega)
  have i0 := eq_true g1
  have i1 := eq_true g7
  have i2 := decide_eq_true g7
  have j0 := eq_true g2
  have j1 := eq_true g3
  have j2 := eq_true g4
  have j3 := eq_true g5
  clear hd hbt f6 g0 g1 g2 g3 g4 g5 g6 g7 hlt
  go_wp2_with (first | (go_at_call 31; (with_reducible refine (T27.out _).mono ?_); rintro e_ w_ ⟨rfl, rfl⟩) | (go_at_call 32; (with_reducible refine (T39.out _).mono ?_); rintro e_ w39 ⟨rfl, hb_⟩; have n0_ := Aside0.mk (below_step HB.out hb_); clear HB; have HB := n0_; clear n0_ hb_))
  go_ret3
  exact ⟨by rw [HX.out.1]; rfl, HB.out⟩

end Go.Proofs.Ythgodajjaddgbaa.V
