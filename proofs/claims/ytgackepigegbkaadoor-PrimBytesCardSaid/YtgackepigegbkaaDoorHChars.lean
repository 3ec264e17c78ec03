/- PutChars (layer 1), by hand. -/
import Derived.Test.YtgackepigegbkaaDoorBx0
import Derived.Test.YtgackepigegbkaaDoorBx3
import Derived.Test.YtgackepigegbkaaDoorHBytes2
import Derived.IntWalk
import Derived.Lib.LazyBuf
import Derived.Lib.SliceRun
namespace Go.Proofs.YtgackepigegbkaaDoor.B
open Go.RowKit Go.Proofs.YtgackepigegbkaaDoorW.PrintWords Go.Proofs.YtgackepigegbkaaDoorW.PrintLast Go.Proofs.YtgackepigegbkaaDoorW.PrintMore
attribute [local go_sem] max2_int min2_int max_two min_two max_three min_three max_four min_four   -- for this text's walks alone
set_option linter.unusedVariables false
set_option linter.unusedSimpArgs false

def setL : List Int → Nat → List Int → List Int
  | xs, _, [] => xs
  | xs, o, y :: ys => setL (xs.set o y) (o + 1) ys
def bytesB (s : ByteArray) : List Int := s.data.toList.map fun b => (b.toNat : Int)
theorem bytesB_len (s : ByteArray) : (bytesB s).length = s.size := by simp [bytesB]
theorem setL_len : ∀ (ys xs : List Int) (o : Nat), (setL xs o ys).length = xs.length
  | [], _, _ => rfl
  | y :: ys, xs, o => by show (setL (xs.set o y) (o + 1) ys).length = _; rw [setL_len ys, List.length_set]
theorem setL_app : ∀ (ys zs xs : List Int) (o : Nat), setL xs o (ys ++ zs) = setL (setL xs o ys) (o + ys.length) zs
  | [], zs, xs, o => rfl
  | y :: ys, zs, xs, o => by
    show setL (xs.set o y) (o + 1) (ys ++ zs) = setL (setL (xs.set o y) (o + 1) ys) _ zs
    rw [setL_app ys zs (xs.set o y) (o + 1), List.length_cons, show o + 1 + ys.length = o + (ys.length + 1) by omega]
theorem row_cells {base g N cap : Nat} : ∀ (ys xs : List Int) (o : Nat) (W : World), Kd.R (Kd.int .u8) 5 W base (fun _ => True) (.slice (some ⟨g, 0, none⟩) N cap) xs → Kd.R (Kd.int .u8) 5 (W.setCells g o (ys.map (Value.int .u8))) base (fun _ => True) (.slice (some ⟨g, 0, none⟩) N cap) (setL xs o ys)
  | [], _, _, _, h => h
  | y :: ys, xs, o, W, h => by
    have h1 := Kd.R_putn h (o : Int) y
    rw [Int.toNat_natCast] at h1
    exact row_cells ys (xs.set o y) (o + 1) _ h1
theorem below_cells {w0 : World} {g : Nat} (hg : w0.heap.size ≤ g) : ∀ (vs : List Value) (o : Nat) (W : World), Below w0.heap.size w0 W → Below w0.heap.size w0 (W.setCells g o vs)
  | [], _, _, h => h
  | v :: vs, o, W, h => below_cells hg vs (o + 1) _ (below_set h hg)
theorem oth_cells {w : World} {g : Nat} : ∀ (vs : List Value) (o : Nat) (W : World), Oth w W g → Oth w (W.setCells g o vs) g
  | [], _, _, h => h
  | v :: vs, o, W, h => oth_cells vs (o + 1) _ (h.set o v)
/-- What a world that was written keeps. -/
def Wrt (w0 w : World) (g N cap : Nat) (W2 : World) (ys : List Int) : Prop := Kd.R (Kd.int .u8) 5 W2 w0.heap.size (fun _ => True) (.slice (some ⟨g, 0, none⟩) N cap) ys ∧ Below w0.heap.size w0 W2 ∧ Oth w W2 g
theorem Wrt.set {w0 w : World} {g N cap : Nat} {W : World} {xs : List Int} (h : Wrt w0 w g N cap W xs) (hg : w0.heap.size ≤ g) (o : Nat) (ys : List Int) : Wrt w0 w g N cap (W.setCells g o (ys.map (Value.int .u8))) (setL xs o ys) :=
  ⟨row_cells ys xs o W h.1, below_cells hg _ o W h.2.1, oth_cells _ o W h.2.2⟩
theorem size5 (w : World) : (Go.sizeOf 5).run Tryd.prog w = .ok 1 w := by kernel_rfl
theorem copy_row {w0 w : World} {g N cap : Nat} {W : World} {xs : List Int} (h : Wrt w0 w g N cap W xs) (hg : w0.heap.size ≤ g) (o L C : Nat) (s : ByteArray) (hs : s.size ≤ L) (hl : o + L ≤ N) :
    ∃ W2, (Builtin.copy_ #[31, 9] 3 #[.slice (some ⟨g, o, none⟩) L C, .string s]).run Tryd.prog W = .ok (.int .i64 (s.size : Int)) W2 ∧ Wrt w0 w g N cap W2 (setL xs o (bytesB s)) := by
  refine ⟨_, run_copy_string (P := Tryd.prog) W 31 9 3 5 g o L C s Tryd.underlying31 size5 hs (fun j hj => ?_) (fun j hj => ?_), ?_⟩
  · obtain ⟨_, _, _, hc, _⟩ := byte_at h.1 ((o + j : Nat) : Int) (by omega) (by omega)
    rw [Int.toNat_natCast] at hc
    rw [hc]; rfl
  · obtain ⟨_, _, _, _, hf, _⟩ := byte_at h.1 ((o + j : Nat) : Int) (by omega) (by omega)
    rw [Int.toNat_natCast] at hf
    exact hf
  · have := h.set hg o (bytesB s)
    rw [bytesB, List.map_map] at this
    exact this
theorem clear_row {w0 w : World} {g N cap : Nat} {W : World} {xs : List Int} (h : Wrt w0 w g N cap W xs) (hg : w0.heap.size ≤ g) (o L C : Nat) (hl : o + L ≤ N) :
    ∃ W2, (∀ ty, (Builtin.clear_ #[31] ty #[.slice (some ⟨g, o, none⟩) L C]).run Tryd.prog W = .ok (.tuple #[]) W2) ∧ Wrt w0 w g N cap W2 (setL xs o (List.replicate L 0)) := by
  cases L with
  | zero =>
    refine ⟨W, fun ty => ?_, h⟩
    simp [Builtin.clear_, run_underlying Tryd.underlying31]
  | succ L =>
    refine ⟨_, fun ty => Lib.run_clear_slice (P := Tryd.prog) W 31 5 ty (.int .u8 0) Tryd.underlying31 (fun w => by kernel_rfl) rfl rfl g o (L + 1) C (by omega) (fun j hj => ?_) (fun j hj => ?_), ?_⟩
    · obtain ⟨_, _, _, hc, _⟩ := byte_at h.1 ((o + j : Nat) : Int) (by omega) (by omega)
      rw [Int.toNat_natCast] at hc
      rw [hc]; rfl
    · obtain ⟨_, _, _, _, hf, _⟩ := byte_at h.1 ((o + j : Nat) : Int) (by omega) (by omega)
      rw [Int.toNat_natCast] at hf
      exact hf
    · have := h.set hg o (List.replicate (L + 1) 0)
      rw [List.map_replicate] at this
      exact this
set_option maxHeartbeats 8000000 in
set_option maxRecDepth 100000 in
theorem prim_PutChars.ok (w0 w : World) (hb0 : Below w0.heap.size w0 w) (g N cap n c : Nat) (xs : List Int) (hr : Kd.R (Kd.int .u8) 5 w w0.heap.size (fun _ => True) (.slice (some ⟨g, 0, none⟩) N cap) xs) (hg : w0.heap.size ≤ g) (hn : n ≤ N) (hcn : n < c) (at_ m : Int) (s : ByteArray) (hat : 0 ≤ at_ ∧ 0 ≤ m ∧ at_ + m ≤ n) (hn2 : (n : Int) < 4611686018427387904) (hs : (s.size : Int) ≤ m) :
    Calls Tryd.prog 27 #[.slice (some ⟨g, 0, none⟩) n c, .int .i64 at_, .int .i64 m, .string s] w fun e w' => e = .returned (.int .i64 0) ∧ Wrt w0 w g N cap w' (setL xs at_.toNat (bytesB s ++ List.replicate (m.toNat - s.size) 0)) := by
  have HW := Aside0.mk (show Wrt w0 w g N cap w xs from ⟨hr, hb0, Oth.of_below (Below.refl _ _)⟩)
  have HG := Aside0.mk hg
  have HN := Aside0.mk (show n ≤ N ∧ n < c ∧ (0 ≤ at_ ∧ 0 ≤ m ∧ at_ + m ≤ n) ∧ (n : Int) < 4611686018427387904 ∧ (s.size : Int) ≤ m from ⟨hn, hcn, hat, hn2, hs⟩)
  have T37 := Aside0.mk (fun W : World => within_yesO (some ⟨g, 0, none⟩) n c at_ m W hat.1 hat.2.1 hat.2.2 hn2)
  have dS : decide (m < (s.size : Int)) = false := decide_eq_false (by omega)
  obtain ⟨e, he⟩ : ∃ e, wrap64 (at_ + m) = e := ⟨_, rfl⟩
  have he2 : e = at_ + m := by rw [← he]; unfold wrap64; omega
  obtain ⟨f, hf⟩ : ∃ f, wrap64 (at_ + (s.size : Int)) = f := ⟨_, rfl⟩
  have hf2 : f = at_ + s.size := by rw [← hf]; unfold wrap64; omega
  have HE := Aside0.mk (show e = at_ + m ∧ f = at_ + s.size from ⟨he2, hf2⟩)
  have j0 := eq_true (show 0 ≤ at_ from hat.1)
  have j1 := eq_true (show at_ ≤ e by omega)
  have j2 := eq_true (show e ≤ (c : Int) by omega)
  have j3 := eq_true (show 0 ≤ f by omega)
  have j4 := eq_true (show f ≤ e by omega)
  have g1_ : ¬ c = at_.toNat := by omega
  have g2_ : ¬ at_.toNat = c := by omega
  have g3_ : ¬ c = f.toNat := by omega
  have g4_ : ¬ f.toNat = c := by omega
  have g5_ : ¬ c ≤ at_.toNat := by omega
  have g6_ : ¬ c ≤ f.toNat := by omega
  clear hb0 hr hg hn hcn hat hn2 hs he2 hf2
  go_enter Tryd.func27, Tryd.ntmps27
  go_wp2_with (first | (go_at_call 37; (with_reducible refine (T37.out _).mono ?_); rintro e_ w_ ⟨rfl, ⟨m37, rfl⟩⟩; obtain ⟨W2, hcp, hw2⟩ := copy_row (w0 := w0) (w := w) (W := w.drewN m37) (N := N) (cap := cap) (xs := xs) ⟨Kd.R_drewN HW.out.1 m37, pw_below_drewN HW.out.2.1 m37, HW.out.2.2.step (pw_below_drewN (Below.refl _ _) m37)⟩ HG.out at_.toNat (e.toNat - at_.toNat) (c - at_.toNat) s (by have h1 := HN.out; have h2 := HE.out; omega) (by have h1 := HN.out; have h2 := HE.out; omega); obtain ⟨W3, hcl, hw3⟩ := clear_row hw2 HG.out f.toNat (e.toNat - f.toNat) (c - f.toNat) (by have h1 := HN.out; have h2 := HE.out; omega); have HW3 := Aside0.mk hw3; clear hw2 hw3))
  go_ret
  have h1 := HN.out
  have h2 := HE.out
  refine ⟨rfl, ?_⟩
  rw [setL_app, bytesB_len, show at_.toNat + s.size = f.toNat by omega, show m.toNat - s.size = e.toNat - f.toNat by omega]
  exact HW3.out
/-- What a row of bytes tells from a place on. -/
def getC (xs : List Int) (at_ m : Int) : ByteArray := strOfNums ((xs.take (at_ + m).toNat).drop at_.toNat)
/-- A slice that reads xs: of no block, or of one. -/
def Rd8 (W : World) (v : Value) (n : Nat) (xs : List Int) : Prop := (v = .slice none 0 0 ∧ n = 0 ∧ xs = []) ∨ ∃ g c, v = .slice (some ⟨g, 0, none⟩) n c ∧ n ≤ c ∧ xs.length = n ∧ ∀ i, i < n → W.cell? ⟨g, i, none⟩ = some (.int .u8 (xs.getD i 0))
theorem rd8_conv {W : World} {g n : Nat} {xs : List Int} (hl : xs.length = n) (hc : ∀ i, i < n → W.cell? ⟨g, i, none⟩ = some (.int .u8 (xs.getD i 0))) (o L C : Nat) (h : o + L ≤ n) : (convert 31 9 (.slice (some ⟨g, o, none⟩) L C)).run Tryd.prog W = .ok (.string (strOfNums ((xs.take (o + L)).drop o))) W := by
  refine run_convert_bytes_arg (w := W) 31 5 Tryd.underlying31 Tryd.underlying5 g o L C _ (by rw [List.length_drop, List.length_take]; omega) (fun i hi => ?_) 9 Tryd.underlying9
  rw [hc (o + i) (by omega)]
  congr 2
  rw [List.getD_eq_getElem?_getD, List.getD_eq_getElem?_getD, List.getElem?_drop, List.getElem?_take_of_lt (by omega)]
theorem lies_yes (n a z : Int) (h0 : 0 ≤ a) (h1 : 0 ≤ z) (h2 : a + z ≤ n) (h3 : n < 4611686018427387904) : stencilref01_lies.f n a z = some true := by
  unfold stencilref01_lies.f
  rw [if_pos h0, if_pos h1, if_pos (by omega), decide_eq_true (by unfold wrap64; omega)]
theorem lies_no (n a z : Int) (hn : 0 ≤ n) (ha : -9223372036854775808 ≤ a ∧ a ≤ 9223372036854775807) (h : ¬ (0 ≤ a ∧ 0 ≤ z ∧ a + z ≤ n)) (h3 : n < 4611686018427387904) : stencilref01_lies.f n a z = some false := by
  unfold stencilref01_lies.f
  by_cases c0 : 0 ≤ a
  · rw [if_pos c0]
    by_cases c1 : 0 ≤ z
    · rw [if_pos c1]
      by_cases c2 : a ≤ n
      · rw [if_pos c2, decide_eq_false (by unfold wrap64; omega)]
      · rw [if_neg c2]
    · rw [if_neg c1]
  · rw [if_neg c0]
set_option maxHeartbeats 8000000 in
set_option maxRecDepth 100000 in
theorem prim_GetCharsH.no (w : World) (A : Option Addr) (n c : Nat) (at_ m : Int) (ha : -9223372036854775808 ≤ at_ ∧ at_ ≤ 9223372036854775807) (hat : ¬ (0 ≤ at_ ∧ 0 ≤ m ∧ at_ + m ≤ n)) (hn2 : (n : Int) < 4611686018427387904) :
    Calls Tryd.prog 23 #[.slice A n c, .int .i64 at_, .int .i64 m] w fun e w' => e = .returned (.tuple #[.string ByteArray.empty, .int .i64 11]) ∧ Drawn0 w w' := by
  have T37 := Aside0.mk (fun W : World => within_no A n c at_ m W ha hat hn2)
  clear ha hat hn2
  go_enter Tryd.func23, Tryd.ntmps23
  go_wp2_with (first | (go_at_call 37; (with_reducible refine (T37.out _).mono ?_); rintro e_ w_ ⟨rfl, ⟨m37, rfl⟩⟩))
  go_ret2
  exact ⟨rfl, by repeat (first | exact Drawn0.refl _ | apply Drawn0.step)⟩
set_option maxHeartbeats 8000000 in
set_option maxRecDepth 100000 in
theorem prim_GetCharsH.yes (w : World) (v : Value) (n : Nat) (xs : List Int) (hv : Rd8 w v n xs) (at_ m : Int) (hat : 0 ≤ at_ ∧ 0 ≤ m ∧ at_ + m ≤ n) (hn2 : (n : Int) < 4611686018427387904) :
    Calls Tryd.prog 23 #[v, .int .i64 at_, .int .i64 m] w fun e w' => e = .returned (.tuple #[.string (getC xs at_ m), .int .i64 0]) ∧ Drawn0 w w' := by
  obtain ⟨e, he⟩ : ∃ e, wrap64 (at_ + m) = e := ⟨_, rfl⟩
  have he2 : e = at_ + m := by rw [← he]; unfold wrap64; omega
  have j0 := eq_true (show 0 ≤ at_ from hat.1)
  have j1 := eq_true (show at_ ≤ e by omega)
  rcases hv with ⟨rfl, rfl, rfl⟩ | ⟨g, c, rfl, hc, hl, hcl⟩
  · obtain rfl : at_ = 0 := by omega
    obtain rfl : m = 0 := by omega
    have he3 : wrap64 (0 + 0) = 0 := by unfold wrap64; omega
    have hcv : ∀ (W : World) c, (convert 31 9 (.slice none 0 c)).run Tryd.prog W = .ok (.string ByteArray.empty) W := fun W c => run_convert_bytes_nil W 31 5 Tryd.underlying31 Tryd.underlying5 0 c 9 Tryd.underlying9
    have hG : getC [] 0 0 = ByteArray.empty := rfl
    have T37 := Aside0.mk (fun W : World => within_yesO none 0 0 0 0 W (by decide) (by decide) (by decide) (by decide))
    clear hat hn2 he he2 j0 j1
    go_enter Tryd.func23, Tryd.ntmps23
    go_wp2_with (first | (go_at_call 37; (with_reducible refine (T37.out _).mono ?_); rintro e_ w_ ⟨rfl, ⟨m37, rfl⟩⟩))
    go_ret2
    exact ⟨by rw [hG]; rfl, by repeat (first | exact Drawn0.refl _ | apply Drawn0.step)⟩
  · have j2 := eq_true (show e ≤ (c : Int) by omega)
    have T37 := Aside0.mk (fun W : World => within_yesO (some ⟨g, 0, none⟩) n c at_ m W hat.1 hat.2.1 hat.2.2 hn2)
    by_cases cc : c = at_.toNat
    · have cc2 : at_.toNat = c := cc.symm
      clear cc
      have hcv := fun (k : Nat) (C : Nat) => rd8_conv (W := w.drewN k) (g := g) hl hcl 0 0 C (by omega)
      have hcv0 := fun (C : Nat) => rd8_conv (W := w) (g := g) hl hcl 0 0 C (by omega)
      have HG := Aside0.mk (show getC xs at_ m = strOfNums ((xs.take (0 + 0)).drop 0) by unfold getC; rw [List.drop_of_length_le (by rw [List.length_take]; omega)]; rfl)
      obtain ⟨S, hS⟩ : ∃ S, S = strOfNums ((xs.take (0 + 0)).drop 0) := ⟨_, rfl⟩
      rw [← hS] at HG hcv0
      simp only [← hS] at hcv
      have hm0 : e.toNat - at_.toNat = 0 := by omega
      clear hat hn2 he2 hS hc hl hcl
      go_enter Tryd.func23, Tryd.ntmps23
      go_wp2_with (first | (go_at_call 37; (with_reducible refine (T37.out _).mono ?_); rintro e_ w_ ⟨rfl, ⟨m37, rfl⟩⟩))
      go_ret2
      exact ⟨by rw [HG.out]; rfl, by repeat (first | exact Drawn0.refl _ | apply Drawn0.step)⟩
    · have hcv := fun (k : Nat) (C : Nat) => rd8_conv (W := w.drewN k) (g := g) hl hcl at_.toNat (e.toNat - at_.toNat) C (by omega)
      have hcv0 := fun (C : Nat) => rd8_conv (W := w) (g := g) hl hcl at_.toNat (e.toNat - at_.toNat) C (by omega)
      have HG := Aside0.mk (show getC xs at_ m = strOfNums ((xs.take (at_.toNat + (e.toNat - at_.toNat))).drop at_.toNat) by unfold getC; rw [show at_.toNat + (e.toNat - at_.toNat) = (at_ + m).toNat by omega])
      obtain ⟨S, hS⟩ : ∃ S, S = strOfNums ((xs.take (at_.toNat + (e.toNat - at_.toNat))).drop at_.toNat) := ⟨_, rfl⟩
      rw [← hS] at HG hcv0
      simp only [← hS] at hcv
      have g2_ : ¬ at_.toNat = c := fun h => cc h.symm
      have g3_ : ¬ c ≤ at_.toNat := by omega
      clear hat hn2 he2 hS hc hl hcl
      go_enter Tryd.func23, Tryd.ntmps23
      go_wp2_with (first | (go_at_call 37; (with_reducible refine (T37.out _).mono ?_); rintro e_ w_ ⟨rfl, ⟨m37, rfl⟩⟩))
      go_ret2
      exact ⟨by rw [HG.out]; rfl, by repeat (first | exact Drawn0.refl _ | apply Drawn0.step)⟩
set_option maxHeartbeats 8000000 in
set_option maxRecDepth 100000 in
theorem ref_GetCharsH.no (w : World) (A : Option Addr) (n c : Nat) (at_ m : Int) (ha : -9223372036854775808 ≤ at_ ∧ at_ ≤ 9223372036854775807) (hat : ¬ (0 ≤ at_ ∧ 0 ≤ m ∧ at_ + m ≤ n)) (hn2 : (n : Int) < 4611686018427387904) :
    Calls Tryd.prog 24 #[.slice A n c, .int .i64 at_, .int .i64 m] w fun e w' => e = .returned (.tuple #[.string ByteArray.empty, .int .i64 11]) ∧ Drawn0 w w' := by
  have T37 := Aside0.mk (fun W : World => stencilref01_lies.calls (n : Int) at_ m false W (lies_no n at_ m (by omega) ha hat hn2))
  clear ha hat hn2
  go_enter Tryd.func24, Tryd.ntmps24
  go_wp2_with (first | (go_at_call 40; (with_reducible refine (T37.out _).mono ?_); rintro e_ w_ ⟨rfl, ⟨m37, rfl⟩⟩))
  go_ret2
  exact ⟨rfl, by repeat (first | exact Drawn0.refl _ | apply Drawn0.step)⟩
set_option maxHeartbeats 8000000 in
set_option maxRecDepth 100000 in
theorem ref_GetCharsH.yes (w : World) (v : Value) (n : Nat) (xs : List Int) (hv : Rd8 w v n xs) (at_ m : Int) (hat : 0 ≤ at_ ∧ 0 ≤ m ∧ at_ + m ≤ n) (hn2 : (n : Int) < 4611686018427387904) :
    Calls Tryd.prog 24 #[v, .int .i64 at_, .int .i64 m] w fun e w' => e = .returned (.tuple #[.string (getC xs at_ m), .int .i64 0]) ∧ Drawn0 w w' := by
  obtain ⟨e, he⟩ : ∃ e, wrap64 (at_ + m) = e := ⟨_, rfl⟩
  have he2 : e = at_ + m := by rw [← he]; unfold wrap64; omega
  have j0 := eq_true (show 0 ≤ at_ from hat.1)
  have j1 := eq_true (show at_ ≤ e by omega)
  rcases hv with ⟨rfl, rfl, rfl⟩ | ⟨g, c, rfl, hc, hl, hcl⟩
  · obtain rfl : at_ = 0 := by omega
    obtain rfl : m = 0 := by omega
    have he3 : wrap64 (0 + 0) = 0 := by unfold wrap64; omega
    have hcv : ∀ (W : World) c, (convert 31 9 (.slice none 0 c)).run Tryd.prog W = .ok (.string ByteArray.empty) W := fun W c => run_convert_bytes_nil W 31 5 Tryd.underlying31 Tryd.underlying5 0 c 9 Tryd.underlying9
    have hG : getC [] 0 0 = ByteArray.empty := rfl
    have T37 := Aside0.mk (fun W : World => stencilref01_lies.calls 0 0 0 true W (lies_yes 0 0 0 (by decide) (by decide) (by decide) (by decide)))
    clear hat hn2 he he2 j0 j1
    go_enter Tryd.func24, Tryd.ntmps24
    go_wp2_with (first | (go_at_call 40; (with_reducible refine (T37.out _).mono ?_); rintro e_ w_ ⟨rfl, ⟨m37, rfl⟩⟩))
    go_ret2
    exact ⟨by rw [hG]; rfl, by repeat (first | exact Drawn0.refl _ | apply Drawn0.step)⟩
  · have j2 := eq_true (show e ≤ (c : Int) by omega)
    have T37 := Aside0.mk (fun W : World => stencilref01_lies.calls (n : Int) at_ m true W (lies_yes n at_ m hat.1 hat.2.1 hat.2.2 hn2))
    by_cases cc : c = at_.toNat
    · have cc2 : at_.toNat = c := cc.symm
      clear cc
      have hcv := fun (k : Nat) (C : Nat) => rd8_conv (W := w.drewN k) (g := g) hl hcl 0 0 C (by omega)
      have hcv0 := fun (C : Nat) => rd8_conv (W := w) (g := g) hl hcl 0 0 C (by omega)
      have HG := Aside0.mk (show getC xs at_ m = strOfNums ((xs.take (0 + 0)).drop 0) by unfold getC; rw [List.drop_of_length_le (by rw [List.length_take]; omega)]; rfl)
      obtain ⟨S, hS⟩ : ∃ S, S = strOfNums ((xs.take (0 + 0)).drop 0) := ⟨_, rfl⟩
      rw [← hS] at HG hcv0
      simp only [← hS] at hcv
      have hm0 : e.toNat - at_.toNat = 0 := by omega
      clear hat hn2 he2 hS hc hl hcl
      go_enter Tryd.func24, Tryd.ntmps24
      go_wp2_with (first | (go_at_call 40; (with_reducible refine (T37.out _).mono ?_); rintro e_ w_ ⟨rfl, ⟨m37, rfl⟩⟩))
      go_ret2
      exact ⟨by rw [HG.out]; rfl, by repeat (first | exact Drawn0.refl _ | apply Drawn0.step)⟩
    · have hcv := fun (k : Nat) (C : Nat) => rd8_conv (W := w.drewN k) (g := g) hl hcl at_.toNat (e.toNat - at_.toNat) C (by omega)
      have hcv0 := fun (C : Nat) => rd8_conv (W := w) (g := g) hl hcl at_.toNat (e.toNat - at_.toNat) C (by omega)
      have HG := Aside0.mk (show getC xs at_ m = strOfNums ((xs.take (at_.toNat + (e.toNat - at_.toNat))).drop at_.toNat) by unfold getC; rw [show at_.toNat + (e.toNat - at_.toNat) = (at_ + m).toNat by omega])
      obtain ⟨S, hS⟩ : ∃ S, S = strOfNums ((xs.take (at_.toNat + (e.toNat - at_.toNat))).drop at_.toNat) := ⟨_, rfl⟩
      rw [← hS] at HG hcv0
      simp only [← hS] at hcv
      have g2_ : ¬ at_.toNat = c := fun h => cc h.symm
      have g3_ : ¬ c ≤ at_.toNat := by omega
      clear hat hn2 he2 hS hc hl hcl
      go_enter Tryd.func24, Tryd.ntmps24
      go_wp2_with (first | (go_at_call 40; (with_reducible refine (T37.out _).mono ?_); rintro e_ w_ ⟨rfl, ⟨m37, rfl⟩⟩))
      go_ret2
      exact ⟨by rw [HG.out]; rfl, by repeat (first | exact Drawn0.refl _ | apply Drawn0.step)⟩
set_option maxHeartbeats 8000000 in
set_option maxRecDepth 100000 in
theorem prim_PutChars.no (w : World) (A : Option Addr) (n c : Nat) (at_ m : Int) (s : ByteArray) (ha : -9223372036854775808 ≤ at_ ∧ at_ ≤ 9223372036854775807) (hat : ¬ (0 ≤ at_ ∧ 0 ≤ m ∧ at_ + m ≤ n)) (hn2 : (n : Int) < 4611686018427387904) :
    Calls Tryd.prog 27 #[.slice A n c, .int .i64 at_, .int .i64 m, .string s] w fun e w' => e = .returned (.int .i64 11) ∧ Drawn0 w w' := by
  have T37 := Aside0.mk (fun W : World => within_no A n c at_ m W ha hat hn2)
  clear ha hat hn2
  go_enter Tryd.func27, Tryd.ntmps27
  go_wp2_with (first | (go_at_call 37; (with_reducible refine (T37.out _).mono ?_); rintro e_ w_ ⟨rfl, ⟨m37, rfl⟩⟩))
  go_ret
  exact ⟨rfl, by repeat (first | exact Drawn0.refl _ | apply Drawn0.step)⟩
set_option maxHeartbeats 8000000 in
set_option maxRecDepth 100000 in
theorem prim_PutChars.long (w : World) (A : Option Addr) (n c : Nat) (at_ m : Int) (s : ByteArray) (hat : 0 ≤ at_ ∧ 0 ≤ m ∧ at_ + m ≤ n) (hn2 : (n : Int) < 4611686018427387904) (hs : m < (s.size : Int)) :
    Calls Tryd.prog 27 #[.slice A n c, .int .i64 at_, .int .i64 m, .string s] w fun e w' => e = .returned (.int .i64 13) ∧ Drawn0 w w' := by
  have T37 := Aside0.mk (fun W : World => within_yesO A n c at_ m W hat.1 hat.2.1 hat.2.2 hn2)
  have dS : decide (m < (s.size : Int)) = true := decide_eq_true hs
  clear hat hn2 hs
  go_enter Tryd.func27, Tryd.ntmps27
  go_wp2_with (first | (go_at_call 37; (with_reducible refine (T37.out _).mono ?_); rintro e_ w_ ⟨rfl, ⟨m37, rfl⟩⟩))
  go_ret
  exact ⟨rfl, by repeat (first | exact Drawn0.refl _ | apply Drawn0.step)⟩

end Go.Proofs.YtgackepigegbkaaDoor.B
