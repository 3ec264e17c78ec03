/- text.Escape (layer 2), by hand; written by gen_escape.py. -/
import Derived.Test.YthgodajjaddgbaaVx0
import Derived.Test.YthgodajjaddgbaaHBase
import Derived.Test.YthgodajjaddgbaaHBld
import Derived.Test.YthgodajjaddgbaaHShelf
import Derived.IntWalk
namespace Go.Proofs.Ythgodajjaddgbaa.V
open Go.RowKit Go.Proofs.YthgodajjaddgbaaW.PrintWords Go.Proofs.YthgodajjaddgbaaW.PrintLast Go.Proofs.YthgodajjaddgbaaW.PrintMore
attribute [local go_sem] max2_int min2_int max_two min_two max_three min_three max_four min_four   -- for this text's walks alone
set_option linter.unusedVariables false
set_option linter.unusedSimpArgs false

/-- A builder of the call's own that holds these bytes. -/
def BlF (w : World) (base g : Nat) (out : List Int) : Prop := Lib.IsBuilder 48 5 base g (out.map (Value.int .u8)) w
theorem BlF.drew {w : World} {base g : Nat} {out : List Int} (h : BlF w base g out) : BlF w.drew base g out := h
theorem below_chain {B : Nat} {w0 w w1 : World} (h : Below B w0 w) (k : Below B w w1) : Below B w0 w1 := h.trans k
theorem bl_byte (w0 w : World) (g : Nat) (out : List Int) (c : Int) (h : BlF w w0.heap.size g out) (hB : Below w0.heap.size w0 w) (hl : out.length ≤ 100000000000000) :
    Calls Try.prog 30 #[.pointer (some ⟨g, 0, none⟩), .int .u8 c] w fun e w' => e = .returned .nilIface ∧ BlF w' w0.heap.size g (out ++ [c]) ∧ Below w0.heap.size w0 w' := by
  refine (bld_byte w0.heap.size g _ c w h (by rw [List.length_map]; omega) hB.size).mono ?_
  rintro e w' ⟨he, h1, h2⟩
  refine ⟨he, .inr ?_, below_chain hB h2⟩
  rw [List.map_append]; exact h1
theorem bl_str (w0 w : World) (g : Nat) (out : List Int) (s : ByteArray) (h : BlF w w0.heap.size g out) (hB : Below w0.heap.size w0 w) (hl : out.length ≤ 100000000000000) (hs : s.size ≤ 10000000000) :
    Calls Try.prog 33 #[.pointer (some ⟨g, 0, none⟩), .string s] w fun e w' => e = .returned (.tuple #[.int .i64 s.size, .nilIface]) ∧ BlF w' w0.heap.size g (out ++ bytesT s) ∧ Below w0.heap.size w0 w' := by
  refine (bld_str w0.heap.size g _ s w h (by rw [List.length_map]; omega) hB.size).mono ?_
  rintro e w' ⟨he, h1, h2⟩
  refine ⟨he, .inr ?_, below_chain hB h2⟩
  rw [List.map_append, show (bytesT s).map (Value.int .u8) = Lib.strCells s by unfold bytesT Lib.strCells; rw [List.map_map]; rfl]; exact h1
theorem bl_string (w0 w : World) (g : Nat) (out : List Int) (hr : ∀ x ∈ out, 0 ≤ x ∧ x ≤ 255) (h : BlF w w0.heap.size g out) (hB : Below w0.heap.size w0 w) :
    Calls Try.prog 34 #[.pointer (some ⟨g, 0, none⟩)] w fun e w' => e = .returned (.string (strOfNums out)) ∧ Below w0.heap.size w0 w' := by
  have hc : out.map (Value.int .u8) = Lib.byteCells (out.map fun n => UInt8.ofNat n.toNat) := by
    unfold Lib.byteCells
    rw [List.map_map]
    refine List.map_congr_left fun x hx => ?_
    have := hr x hx
    simp
    omega
  unfold BlF at h
  rw [hc] at h
  refine (Builder_String_any w0.heap.size g _ w h hB.size).mono ?_
  rintro e w' ⟨he, h2⟩
  exact ⟨he, below_chain hB h2⟩
def escI (a : Bool) (c : Int) : List Int := if c = 38 then [38, 97, 109, 112, 59] else if c = 60 then [38, 108, 116, 59] else if c = 62 then [38, 103, 116, 59] else if c = 13 then [38, 35, 49, 51, 59] else if a = true ∧ c = 34 then [38, 113, 117, 111, 116, 59] else if a = true ∧ c = 9 then [38, 35, 57, 59] else if a = true ∧ c = 10 then [38, 35, 49, 48, 59] else [c]
def escL (a : Bool) (l : List Int) : List Int := l.flatMap (escI a)
theorem escI_len (a : Bool) (c : Int) : 1 ≤ (escI a c).length ∧ (escI a c).length ≤ 6 := by
  unfold escI
  repeat' split
  all_goals simp
theorem escL_app (a : Bool) (x y : List Int) : escL a (x ++ y) = escL a x ++ escL a y := by simp [escL]
theorem escL_len (a : Bool) : ∀ l : List Int, l.length ≤ (escL a l).length ∧ (escL a l).length ≤ 6 * l.length
  | [] => by simp [escL]
  | c :: l => by
    have h1 := escL_len a l
    have h2 := escI_len a c
    have e : escL a (c :: l) = escI a c ++ escL a l := by simp [escL]
    rw [e, List.length_append, List.length_cons]
    omega
theorem escI_range (a : Bool) (c : Int) (h : 0 ≤ c ∧ c ≤ 255) : ∀ x ∈ escI a c, 0 ≤ x ∧ x ≤ 255 := by
  intro x hx
  unfold escI at hx
  repeat' (split at hx)
  all_goals
    simp only [List.mem_cons, List.not_mem_nil, or_false] at hx
    omega
theorem escL_range (a : Bool) (l : List Int) (h : ∀ x ∈ l, 0 ≤ x ∧ x ≤ 255) : ∀ x ∈ escL a l, 0 ≤ x ∧ x ≤ 255 := by
  intro x hx
  unfold escL at hx
  obtain ⟨c, hc, hx⟩ := List.mem_flatMap.1 hx
  exact escI_range a c (h c hc) x hx
theorem measE (a : Nat) (x y : Int) (h0 : 0 ≤ x) (h1 : x < (a : Int)) (hy : y = x + 1) : a + 1 - (intOf (.int .i64 y)).toNat < a + 1 - (intOf (.int .i64 x)).toNat := by
  subst hy
  show a + 1 - (x + 1).toNat < a + 1 - x.toNat
  omega
set_option maxHeartbeats 8000000 in
set_option maxRecDepth 100000 in
theorem text_Escape.calls_false (w : World) (l : List Int) (S : ByteArray) (hS : S = strOfNums l) (hr : ∀ x ∈ l, 0 ≤ x ∧ x ≤ 255) (hl : l.length ≤ 10000000) :
    Calls Try.prog 21 #[.string S, .bool false] w fun e w' => e = .returned (.string (strOfNums (escL false l))) ∧ Below w.heap.size w w' := by
  have HS := Aside0.mk hS
  have HR := Aside0.mk hr
  have HL := Aside0.mk hl
  have HZ := Aside0.mk (show S.size = l.length by rw [hS, strOfNums_size])
  have HB := Aside0.mk (Below.refl w.heap.size w)
  clear hS hr hl
  go_enter Try.func21, Try.ntmps21
  go_wp2_with (first | ((with_reducible refine gate_dst (N := 5) rfl ?_); refine box_event ?hg (N := 5) ?hd (cs := #[.pointer none, .slice none 0 0]) (t := 48) ?hr ?_; (case hd => rfl); (case hg => rfl); (case hr => first | (go_simp; done) | (go_simp; rfl)); intro g hgx w5 hbox hbw; have GE := Aside0.mk (show w.heap.size ≤ g from hgx ▸ (below_size (by repeat (first | (with_reducible first | exact HB.out | apply below_alloc | apply pw_below_drewN | apply below_drew1) | exact HB.out)))); have n0_ := Aside0.mk (below_step (by repeat (first | (with_reducible first | exact HB.out | apply below_alloc | apply pw_below_drewN | apply below_drew1) | exact HB.out)) hbw); clear HB; have HB := n0_; clear n0_; have HU := Aside0.mk (show BlF w5 w.heap.size g [] from .inl ⟨GE.out, _, hbox, World.ownsRow_nil _ _ _ _, by simp [Value.ownBlock]⟩); clear hgx hbox hbw))
  go_loopw [10] (fun v wr => ∃ (k : Nat) (x : Int), v = .int .i64 x ∧ Aside0 (x = (k : Int) ∧ k ≤ l.length) ∧ Aside0 (BlF wr w.heap.size g (escL false (l.take k))) ∧ Aside0 (Below w.heap.size w wr)) (fun v _ => l.length + 1 - (intOf v).toNat)
  case atStart => exact ⟨0, 0, rfl, ⟨rfl, Nat.zero_le _⟩, HU, HB⟩
  case round =>
  clear HU HB
  obtain ⟨k, x, rfl, HX, HU, HB⟩ := hrel
  by_cases hlt : k < l.length
  case pos => as_aux_lemma =>
    have hbt : bt S x = l[k] := by rw [HS.out, HX.out.1]; exact bt_of l HR.out k _ (List.getElem?_eq_getElem hlt)
    have htk : l.take (k + 1) = l.take k ++ [l[k]] := List.take_succ_eq_append_getElem hlt
    generalize l[k] = c at *
    have hx := bt_at S x
    rw [hbt] at hx
    have i0 := eq_true (show 0 ≤ x by have := HX.out; omega)
    have i1' : x < (S.size : Int) := by have h1 := HX.out; have h2 := HZ.out; omega
    have i1 := eq_true i1'
    have i2 := decide_eq_true i1'
    have HW := Aside0.mk (show wrap64 (x + 1) = x + 1 from w64q (by have := HX.out; omega) (by have := HX.out; have := HL.out; omega))
    have HX2 := Aside0.mk (show x + 1 = ((k + 1 : Nat) : Int) ∧ k + 1 ≤ l.length ∧ 0 ≤ x ∧ x < (l.length : Int) by have := HX.out; omega)
    have hes : escL false (l.take (k + 1)) = escL false (l.take k) ++ escI false c := by rw [htk, escL_app]; simp [escL]
    have HLN := Aside0.mk (show (escL false (l.take k)).length ≤ 100000000 by have := (escL_len false (l.take k)).2; rw [List.length_take] at this; have := HL.out; omega)
    obtain ⟨out, ho⟩ : ∃ y, y = escL false (l.take k) := ⟨_, rfl⟩
    rw [← ho] at HU HLN hes
    clear hbt htk i1' hlt ho
    by_cases c38 : c = 38
    · have b38 : (c == 38) = true := beq_iff_eq.mpr c38
      have HES := Aside0.mk (show escL false (l.take (k + 1)) = out ++ bytesT (⟨#[38, 97, 109, 112, 59]⟩ : ByteArray) by rw [hes]; congr 1; unfold escI; simp_all; rfl)
      clear hes
      go_wp2_with (first | (go_at_call 33; (with_reducible refine (bl_str w _ g out (⟨#[38, 97, 109, 112, 59]⟩ : ByteArray) HU.out HB.out (by have := HLN.out; omega) (by decide)).mono ?_); rintro e_ w_ ⟨rfl, hu_, hb_⟩; clear HU HB; have HU := Aside0.mk hu_; have HB := Aside0.mk hb_; clear hu_ hb_))
      go_roundw
      case rel => exact ⟨k + 1, x + 1, by first | with_reducible rfl | rw [HW.out], ⟨HX2.out.1, HX2.out.2.1⟩, by rw [HES.out]; exact HU, HB⟩
      case measure => exact measE _ x _ HX2.out.2.2.1 HX2.out.2.2.2 (by first | exact HW.out | rfl)
    · have b38 : (c == 38) = false := beq_eq_false_iff_ne.mpr c38
      by_cases c60 : c = 60
      · have b60 : (c == 60) = true := beq_iff_eq.mpr c60
        have HES := Aside0.mk (show escL false (l.take (k + 1)) = out ++ bytesT (⟨#[38, 108, 116, 59]⟩ : ByteArray) by rw [hes]; congr 1; unfold escI; simp_all; rfl)
        clear hes
        go_wp2_with (first | (go_at_call 33; (with_reducible refine (bl_str w _ g out (⟨#[38, 108, 116, 59]⟩ : ByteArray) HU.out HB.out (by have := HLN.out; omega) (by decide)).mono ?_); rintro e_ w_ ⟨rfl, hu_, hb_⟩; clear HU HB; have HU := Aside0.mk hu_; have HB := Aside0.mk hb_; clear hu_ hb_))
        go_roundw
        case rel => exact ⟨k + 1, x + 1, by first | with_reducible rfl | rw [HW.out], ⟨HX2.out.1, HX2.out.2.1⟩, by rw [HES.out]; exact HU, HB⟩
        case measure => exact measE _ x _ HX2.out.2.2.1 HX2.out.2.2.2 (by first | exact HW.out | rfl)
      · have b60 : (c == 60) = false := beq_eq_false_iff_ne.mpr c60
        by_cases c62 : c = 62
        · have b62 : (c == 62) = true := beq_iff_eq.mpr c62
          have HES := Aside0.mk (show escL false (l.take (k + 1)) = out ++ bytesT (⟨#[38, 103, 116, 59]⟩ : ByteArray) by rw [hes]; congr 1; unfold escI; simp_all; rfl)
          clear hes
          go_wp2_with (first | (go_at_call 33; (with_reducible refine (bl_str w _ g out (⟨#[38, 103, 116, 59]⟩ : ByteArray) HU.out HB.out (by have := HLN.out; omega) (by decide)).mono ?_); rintro e_ w_ ⟨rfl, hu_, hb_⟩; clear HU HB; have HU := Aside0.mk hu_; have HB := Aside0.mk hb_; clear hu_ hb_))
          go_roundw
          case rel => exact ⟨k + 1, x + 1, by first | with_reducible rfl | rw [HW.out], ⟨HX2.out.1, HX2.out.2.1⟩, by rw [HES.out]; exact HU, HB⟩
          case measure => exact measE _ x _ HX2.out.2.2.1 HX2.out.2.2.2 (by first | exact HW.out | rfl)
        · have b62 : (c == 62) = false := beq_eq_false_iff_ne.mpr c62
          by_cases c13 : c = 13
          · have b13 : (c == 13) = true := beq_iff_eq.mpr c13
            have HES := Aside0.mk (show escL false (l.take (k + 1)) = out ++ bytesT (⟨#[38, 35, 49, 51, 59]⟩ : ByteArray) by rw [hes]; congr 1; unfold escI; simp_all; rfl)
            clear hes
            go_wp2_with (first | (go_at_call 33; (with_reducible refine (bl_str w _ g out (⟨#[38, 35, 49, 51, 59]⟩ : ByteArray) HU.out HB.out (by have := HLN.out; omega) (by decide)).mono ?_); rintro e_ w_ ⟨rfl, hu_, hb_⟩; clear HU HB; have HU := Aside0.mk hu_; have HB := Aside0.mk hb_; clear hu_ hb_))
            go_roundw
            case rel => exact ⟨k + 1, x + 1, by first | with_reducible rfl | rw [HW.out], ⟨HX2.out.1, HX2.out.2.1⟩, by rw [HES.out]; exact HU, HB⟩
            case measure => exact measE _ x _ HX2.out.2.2.1 HX2.out.2.2.2 (by first | exact HW.out | rfl)
          · have b13 : (c == 13) = false := beq_eq_false_iff_ne.mpr c13
            have HES := Aside0.mk (show escL false (l.take (k + 1)) = out ++ [c] by rw [hes]; congr 1; unfold escI; repeat' (first | rw [if_neg (by first | assumption | (intro h; simp_all; done))] | rfl))
            clear hes
            go_wp2_with (first | (go_at_call 30; (with_reducible refine (bl_byte w _ g out c HU.out HB.out (by have := HLN.out; omega)).mono ?_); rintro e_ w_ ⟨rfl, hu_, hb_⟩; clear HU HB; have HU := Aside0.mk hu_; have HB := Aside0.mk hb_; clear hu_ hb_))
            go_roundw
            case rel => exact ⟨k + 1, x + 1, by first | with_reducible rfl | rw [HW.out], ⟨HX2.out.1, HX2.out.2.1⟩, by rw [HES.out]; exact HU, HB⟩
            case measure => exact measE _ x _ HX2.out.2.2.1 HX2.out.2.2.2 (by first | exact HW.out | rfl)
  case neg =>
  obtain rfl : k = l.length := by have := HX.out; omega
  rw [List.take_length] at HU
  have i2 : decide (x < (S.size : Int)) = false := decide_eq_false (by have h1 := HX.out; have h2 := HZ.out; omega)
  clear hlt
  go_wp2_with (first | (go_at_call 34; (with_reducible refine (bl_string w _ g _ (escL_range false l HR.out) HU.out HB.out).mono ?_); rintro e_ w_ ⟨rfl, hb_⟩; clear HB; have HB := Aside0.mk hb_; clear hb_))
  go_ret
  exact ⟨rfl, HB.out⟩
set_option maxHeartbeats 8000000 in
set_option maxRecDepth 100000 in
theorem text_Escape.calls_true (w : World) (l : List Int) (S : ByteArray) (hS : S = strOfNums l) (hr : ∀ x ∈ l, 0 ≤ x ∧ x ≤ 255) (hl : l.length ≤ 10000000) :
    Calls Try.prog 21 #[.string S, .bool true] w fun e w' => e = .returned (.string (strOfNums (escL true l))) ∧ Below w.heap.size w w' := by
  have HS := Aside0.mk hS
  have HR := Aside0.mk hr
  have HL := Aside0.mk hl
  have HZ := Aside0.mk (show S.size = l.length by rw [hS, strOfNums_size])
  have HB := Aside0.mk (Below.refl w.heap.size w)
  clear hS hr hl
  go_enter Try.func21, Try.ntmps21
  go_wp2_with (first | ((with_reducible refine gate_dst (N := 5) rfl ?_); refine box_event ?hg (N := 5) ?hd (cs := #[.pointer none, .slice none 0 0]) (t := 48) ?hr ?_; (case hd => rfl); (case hg => rfl); (case hr => first | (go_simp; done) | (go_simp; rfl)); intro g hgx w5 hbox hbw; have GE := Aside0.mk (show w.heap.size ≤ g from hgx ▸ (below_size (by repeat (first | (with_reducible first | exact HB.out | apply below_alloc | apply pw_below_drewN | apply below_drew1) | exact HB.out)))); have n0_ := Aside0.mk (below_step (by repeat (first | (with_reducible first | exact HB.out | apply below_alloc | apply pw_below_drewN | apply below_drew1) | exact HB.out)) hbw); clear HB; have HB := n0_; clear n0_; have HU := Aside0.mk (show BlF w5 w.heap.size g [] from .inl ⟨GE.out, _, hbox, World.ownsRow_nil _ _ _ _, by simp [Value.ownBlock]⟩); clear hgx hbox hbw))
  go_loopw [10] (fun v wr => ∃ (k : Nat) (x : Int), v = .int .i64 x ∧ Aside0 (x = (k : Int) ∧ k ≤ l.length) ∧ Aside0 (BlF wr w.heap.size g (escL true (l.take k))) ∧ Aside0 (Below w.heap.size w wr)) (fun v _ => l.length + 1 - (intOf v).toNat)
  case atStart => exact ⟨0, 0, rfl, ⟨rfl, Nat.zero_le _⟩, HU, HB⟩
  case round =>
  clear HU HB
  obtain ⟨k, x, rfl, HX, HU, HB⟩ := hrel
  by_cases hlt : k < l.length
  case pos => as_aux_lemma =>
    have hbt : bt S x = l[k] := by rw [HS.out, HX.out.1]; exact bt_of l HR.out k _ (List.getElem?_eq_getElem hlt)
    have htk : l.take (k + 1) = l.take k ++ [l[k]] := List.take_succ_eq_append_getElem hlt
    generalize l[k] = c at *
    have hx := bt_at S x
    rw [hbt] at hx
    have i0 := eq_true (show 0 ≤ x by have := HX.out; omega)
    have i1' : x < (S.size : Int) := by have h1 := HX.out; have h2 := HZ.out; omega
    have i1 := eq_true i1'
    have i2 := decide_eq_true i1'
    have HW := Aside0.mk (show wrap64 (x + 1) = x + 1 from w64q (by have := HX.out; omega) (by have := HX.out; have := HL.out; omega))
    have HX2 := Aside0.mk (show x + 1 = ((k + 1 : Nat) : Int) ∧ k + 1 ≤ l.length ∧ 0 ≤ x ∧ x < (l.length : Int) by have := HX.out; omega)
    have hes : escL true (l.take (k + 1)) = escL true (l.take k) ++ escI true c := by rw [htk, escL_app]; simp [escL]
    have HLN := Aside0.mk (show (escL true (l.take k)).length ≤ 100000000 by have := (escL_len true (l.take k)).2; rw [List.length_take] at this; have := HL.out; omega)
    obtain ⟨out, ho⟩ : ∃ y, y = escL true (l.take k) := ⟨_, rfl⟩
    rw [← ho] at HU HLN hes
    clear hbt htk i1' hlt ho
    by_cases c38 : c = 38
    · have b38 : (c == 38) = true := beq_iff_eq.mpr c38
      have HES := Aside0.mk (show escL true (l.take (k + 1)) = out ++ bytesT (⟨#[38, 97, 109, 112, 59]⟩ : ByteArray) by rw [hes]; congr 1; unfold escI; simp_all; rfl)
      clear hes
      go_wp2_with (first | (go_at_call 33; (with_reducible refine (bl_str w _ g out (⟨#[38, 97, 109, 112, 59]⟩ : ByteArray) HU.out HB.out (by have := HLN.out; omega) (by decide)).mono ?_); rintro e_ w_ ⟨rfl, hu_, hb_⟩; clear HU HB; have HU := Aside0.mk hu_; have HB := Aside0.mk hb_; clear hu_ hb_))
      go_roundw
      case rel => exact ⟨k + 1, x + 1, by first | with_reducible rfl | rw [HW.out], ⟨HX2.out.1, HX2.out.2.1⟩, by rw [HES.out]; exact HU, HB⟩
      case measure => exact measE _ x _ HX2.out.2.2.1 HX2.out.2.2.2 (by first | exact HW.out | rfl)
    · have b38 : (c == 38) = false := beq_eq_false_iff_ne.mpr c38
      by_cases c60 : c = 60
      · have b60 : (c == 60) = true := beq_iff_eq.mpr c60
        have HES := Aside0.mk (show escL true (l.take (k + 1)) = out ++ bytesT (⟨#[38, 108, 116, 59]⟩ : ByteArray) by rw [hes]; congr 1; unfold escI; simp_all; rfl)
        clear hes
        go_wp2_with (first | (go_at_call 33; (with_reducible refine (bl_str w _ g out (⟨#[38, 108, 116, 59]⟩ : ByteArray) HU.out HB.out (by have := HLN.out; omega) (by decide)).mono ?_); rintro e_ w_ ⟨rfl, hu_, hb_⟩; clear HU HB; have HU := Aside0.mk hu_; have HB := Aside0.mk hb_; clear hu_ hb_))
        go_roundw
        case rel => exact ⟨k + 1, x + 1, by first | with_reducible rfl | rw [HW.out], ⟨HX2.out.1, HX2.out.2.1⟩, by rw [HES.out]; exact HU, HB⟩
        case measure => exact measE _ x _ HX2.out.2.2.1 HX2.out.2.2.2 (by first | exact HW.out | rfl)
      · have b60 : (c == 60) = false := beq_eq_false_iff_ne.mpr c60
        by_cases c62 : c = 62
        · have b62 : (c == 62) = true := beq_iff_eq.mpr c62
          have HES := Aside0.mk (show escL true (l.take (k + 1)) = out ++ bytesT (⟨#[38, 103, 116, 59]⟩ : ByteArray) by rw [hes]; congr 1; unfold escI; simp_all; rfl)
          clear hes
          go_wp2_with (first | (go_at_call 33; (with_reducible refine (bl_str w _ g out (⟨#[38, 103, 116, 59]⟩ : ByteArray) HU.out HB.out (by have := HLN.out; omega) (by decide)).mono ?_); rintro e_ w_ ⟨rfl, hu_, hb_⟩; clear HU HB; have HU := Aside0.mk hu_; have HB := Aside0.mk hb_; clear hu_ hb_))
          go_roundw
          case rel => exact ⟨k + 1, x + 1, by first | with_reducible rfl | rw [HW.out], ⟨HX2.out.1, HX2.out.2.1⟩, by rw [HES.out]; exact HU, HB⟩
          case measure => exact measE _ x _ HX2.out.2.2.1 HX2.out.2.2.2 (by first | exact HW.out | rfl)
        · have b62 : (c == 62) = false := beq_eq_false_iff_ne.mpr c62
          by_cases c13 : c = 13
          · have b13 : (c == 13) = true := beq_iff_eq.mpr c13
            have HES := Aside0.mk (show escL true (l.take (k + 1)) = out ++ bytesT (⟨#[38, 35, 49, 51, 59]⟩ : ByteArray) by rw [hes]; congr 1; unfold escI; simp_all; rfl)
            clear hes
            go_wp2_with (first | (go_at_call 33; (with_reducible refine (bl_str w _ g out (⟨#[38, 35, 49, 51, 59]⟩ : ByteArray) HU.out HB.out (by have := HLN.out; omega) (by decide)).mono ?_); rintro e_ w_ ⟨rfl, hu_, hb_⟩; clear HU HB; have HU := Aside0.mk hu_; have HB := Aside0.mk hb_; clear hu_ hb_))
            go_roundw
            case rel => exact ⟨k + 1, x + 1, by first | with_reducible rfl | rw [HW.out], ⟨HX2.out.1, HX2.out.2.1⟩, by rw [HES.out]; exact HU, HB⟩
            case measure => exact measE _ x _ HX2.out.2.2.1 HX2.out.2.2.2 (by first | exact HW.out | rfl)
          · have b13 : (c == 13) = false := beq_eq_false_iff_ne.mpr c13
            by_cases c34 : c = 34
            · have b34 : (c == 34) = true := beq_iff_eq.mpr c34
              have HES := Aside0.mk (show escL true (l.take (k + 1)) = out ++ bytesT (⟨#[38, 113, 117, 111, 116, 59]⟩ : ByteArray) by rw [hes]; congr 1; unfold escI; simp_all; rfl)
              clear hes
              go_wp2_with (first | (go_at_call 33; (with_reducible refine (bl_str w _ g out (⟨#[38, 113, 117, 111, 116, 59]⟩ : ByteArray) HU.out HB.out (by have := HLN.out; omega) (by decide)).mono ?_); rintro e_ w_ ⟨rfl, hu_, hb_⟩; clear HU HB; have HU := Aside0.mk hu_; have HB := Aside0.mk hb_; clear hu_ hb_))
              go_roundw
              case rel => exact ⟨k + 1, x + 1, by first | with_reducible rfl | rw [HW.out], ⟨HX2.out.1, HX2.out.2.1⟩, by rw [HES.out]; exact HU, HB⟩
              case measure => exact measE _ x _ HX2.out.2.2.1 HX2.out.2.2.2 (by first | exact HW.out | rfl)
            · have b34 : (c == 34) = false := beq_eq_false_iff_ne.mpr c34
              by_cases c9 : c = 9
              · have b9 : (c == 9) = true := beq_iff_eq.mpr c9
                have HES := Aside0.mk (show escL true (l.take (k + 1)) = out ++ bytesT (⟨#[38, 35, 57, 59]⟩ : ByteArray) by rw [hes]; congr 1; unfold escI; simp_all; rfl)
                clear hes
                go_wp2_with (first | (go_at_call 33; (with_reducible refine (bl_str w _ g out (⟨#[38, 35, 57, 59]⟩ : ByteArray) HU.out HB.out (by have := HLN.out; omega) (by decide)).mono ?_); rintro e_ w_ ⟨rfl, hu_, hb_⟩; clear HU HB; have HU := Aside0.mk hu_; have HB := Aside0.mk hb_; clear hu_ hb_))
                go_roundw
                case rel => exact ⟨k + 1, x + 1, by first | with_reducible rfl | rw [HW.out], ⟨HX2.out.1, HX2.out.2.1⟩, by rw [HES.out]; exact HU, HB⟩
                case measure => exact measE _ x _ HX2.out.2.2.1 HX2.out.2.2.2 (by first | exact HW.out | rfl)
              · have b9 : (c == 9) = false := beq_eq_false_iff_ne.mpr c9
                by_cases c10 : c = 10
                · have b10 : (c == 10) = true := beq_iff_eq.mpr c10
                  have HES := Aside0.mk (show escL true (l.take (k + 1)) = out ++ bytesT (⟨#[38, 35, 49, 48, 59]⟩ : ByteArray) by rw [hes]; congr 1; unfold escI; simp_all; rfl)
                  clear hes
                  go_wp2_with (first | (go_at_call 33; (with_reducible refine (bl_str w _ g out (⟨#[38, 35, 49, 48, 59]⟩ : ByteArray) HU.out HB.out (by have := HLN.out; omega) (by decide)).mono ?_); rintro e_ w_ ⟨rfl, hu_, hb_⟩; clear HU HB; have HU := Aside0.mk hu_; have HB := Aside0.mk hb_; clear hu_ hb_))
                  go_roundw
                  case rel => exact ⟨k + 1, x + 1, by first | with_reducible rfl | rw [HW.out], ⟨HX2.out.1, HX2.out.2.1⟩, by rw [HES.out]; exact HU, HB⟩
                  case measure => exact measE _ x _ HX2.out.2.2.1 HX2.out.2.2.2 (by first | exact HW.out | rfl)
                · have b10 : (c == 10) = false := beq_eq_false_iff_ne.mpr c10
                  have HES := Aside0.mk (show escL true (l.take (k + 1)) = out ++ [c] by rw [hes]; congr 1; unfold escI; repeat' (first | rw [if_neg (by first | assumption | (intro h; simp_all; done))] | rfl))
                  clear hes
                  go_wp2_with (first | (go_at_call 30; (with_reducible refine (bl_byte w _ g out c HU.out HB.out (by have := HLN.out; omega)).mono ?_); rintro e_ w_ ⟨rfl, hu_, hb_⟩; clear HU HB; have HU := Aside0.mk hu_; have HB := Aside0.mk hb_; clear hu_ hb_))
                  go_roundw
                  case rel => exact ⟨k + 1, x + 1, by first | with_reducible rfl | rw [HW.out], ⟨HX2.out.1, HX2.out.2.1⟩, by rw [HES.out]; exact HU, HB⟩
                  case measure => exact measE _ x _ HX2.out.2.2.1 HX2.out.2.2.2 (by first | exact HW.out | rfl)
  case neg =>
  obtain rfl : k = l.length := by have := HX.out; omega
  rw [List.take_length] at HU
  have i2 : decide (x < (S.size : Int)) = false := decide_eq_false (by have h1 := HX.out; have h2 := HZ.out; omega)
  clear hlt
  go_wp2_with (first | (go_at_call 34; (with_reducible refine (bl_string w _ g _ (escL_range true l HR.out) HU.out HB.out).mono ?_); rintro e_ w_ ⟨rfl, hb_⟩; clear HB; have HB := Aside0.mk hb_; clear hb_))
  go_ret
  exact ⟨rfl, HB.out⟩
theorem text_Escape.calls (w : World) (l : List Int) (S : ByteArray) (a : Bool) (hS : S = strOfNums l) (hr : ∀ x ∈ l, 0 ≤ x ∧ x ≤ 255) (hl : l.length ≤ 10000000) :
    Calls Try.prog 21 #[.string S, .bool a] w fun e w' => e = .returned (.string (strOfNums (escL a l))) ∧ Below w.heap.size w w' := by
  cases a
  · exact text_Escape.calls_false w l S hS hr hl
  · exact text_Escape.calls_true w l S hS hr hl

end Go.Proofs.Ythgodajjaddgbaa.V
