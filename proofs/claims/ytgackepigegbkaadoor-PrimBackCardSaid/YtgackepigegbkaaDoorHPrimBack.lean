/- The walk of PrimBack (layer 1), by hand; written by gen_back.py. -/
import Derived.Test.YtgackepigegbkaaDoorBx0
import Derived.Test.YtgackepigegbkaaDoorBx2
import Derived.Test.YtgackepigegbkaaDoorHPBytes
import Derived.IntWalk
import Derived.Lib.OthersKept
import Derived.StillTailTactics
namespace Go.Proofs.YtgackepigegbkaaDoor.B
open Go.RowKit Go.Proofs.YtgackepigegbkaaDoorW.PrintWords Go.Proofs.YtgackepigegbkaaDoorW.PrintLast Go.Proofs.YtgackepigegbkaaDoorW.PrintMore
attribute [local go_sem] max2_int min2_int max_two min_two max_three min_three max_four min_four   -- for this text's walks alone
set_option linter.unusedVariables false
set_option linter.unusedSimpArgs false

def stencillaw01_PrimBack.f (a0 a1 a2 a3 : Int) : Option Bool := if (0 ≤ a1 ∧ a1 < 18446744073709551616) ∧ (-9223372036854775808 ≤ a2 ∧ a2 ≤ 9223372036854775807) ∧ (0 ≤ a3 ∧ a3 ≤ 255) then some true else none
theorem size_eq (p z : Int) (sg fl : Bool) (nu mi ma : Int) (h : primRow p = (z, sg, fl, nu, mi, ma)) : prim_Size.f p = some z := by unfold prim_Size.f prim_of.f; rw [h]; rfl
theorem row_form {W : World} {base : Nat} {v : Value} {xs : List Int} (h : Kd.R (Kd.int .u8) 5 W base (fun _ => True) v xs) (m : Nat) (hm : xs.length = m) (hl : 0 < m) : ∃ g cap, v = .slice (some ⟨g, 0, none⟩) m cap ∧ base ≤ g := by
  subst hm
  obtain ⟨g, cap, hv, hb, _⟩ := Kd.R_form h hl
  exact ⟨g, cap, hv, hb⟩
theorem reps_set8 {α : Type} (l : List α) (x : α) (k : Nat) (hk : k < l.length) : (List.replicate k x ++ l.drop k).set k x = List.replicate (k + 1) x ++ l.drop (k + 1) := by
  rw [List.set_append]
  simp only [List.length_replicate, Nat.lt_irrefl, if_false, Nat.sub_self]
  rw [List.drop_eq_getElem_cons hk, List.set_cons_zero, List.replicate_succ', List.append_assoc]
  rfl
theorem sumB_congr (f g : Nat → Int) : ∀ k, (∀ j, j < k → f j = g j) → sumB f k = sumB g k
  | 0, _ => rfl
  | k + 1, h => by show sumB f k + f k * _ = sumB g k + g k * _; rw [sumB_congr f g k (fun j hj => h j (by omega)), h k (by omega)]
theorem back_word (p a1 n : Int) (sg fl : Bool) (nu mi ma : Int) (hp : primRow p = (n, sg, fl, nu, mi, ma)) (hin : ¬ (p < 0 ∨ 10 < p)) (h1 : 0 ≤ a1 ∧ a1 < 18446744073709551616) (hf : fitsV p a1 = true) (xs : List Int) (A o : Int) (hA : 0 ≤ A) (hl : A + n ≤ xs.length) :
    prim_row_word.f n sg fl nu mi ma (gAcc (fun k : Nat => (putL xs A n o a1 n.toNat).getD (A + plc n o (k : Int)).toNat 0) n.toNat) = some a1 := by
  obtain ⟨z', sg', fl', nu', mi', ma', hrow, hz, hword, hfit⟩ := word_all p hin
  rw [hp] at hrow
  simp only [Prod.mk.injEq] at hrow
  obtain ⟨rfl, rfl, rfl, rfl, rfl, rfl⟩ := hrow
  have hF : ∀ j : Nat, j < n.toNat → (putL xs A n o a1 n.toNat).getD (A + plc n o (j : Int)).toNat 0 = pB a1 j := fun j hj => putL_at xs A n o a1 hA hl j n.toNat hj (by omega)
  rw [gAcc_eq _ n.toNat (by omega) (fun j hj => by rw [hF j hj]; exact pB_rng a1 j), sumB_congr _ (pB a1) n.toNat hF, sumB_pB a1 h1.1, hword, (wdS_fact sg n a1 hz h1.1 h1.2).2.2.2]
  rw [hfit, beq_iff_eq] at hf
  rw [hf]
theorem any_word (p n : Int) (sg fl : Bool) (nu mi ma : Int) (hp : primRow p = (n, sg, fl, nu, mi, ma)) (hin : ¬ (p < 0 ∨ 10 < p)) (acc : Int) (F : Nat → Int) (hF : ∀ j, 0 ≤ F j ∧ F j ≤ 255) (ha : acc = gAcc F n.toNat) :
    ∃ r, prim_row_word.f n sg fl nu mi ma acc = some r ∧ prim_Fits.f p r = some true ∧ prim_Compare.f 2 p r r = some 0 := by
  obtain ⟨z', sg', fl', nu', mi', ma', hrow, hz, hword, hfit⟩ := word_all p hin
  rw [hp] at hrow
  simp only [Prod.mk.injEq] at hrow
  obtain ⟨rfl, rfl, rfl, rfl, rfl, rfl⟩ := hrow
  have hb := sumB_rng F n.toNat (fun j _ => hF j)
  rw [← gAcc_eq F n.toNat (by omega) (fun j _ => hF j), ← ha] at hb
  have h2 : acc < 18446744073709551616 := by
    rcases hz with rfl | rfl | rfl | rfl
    · have : (2 : Int) ^ (8 * (1 : Int).toNat) = 256 := by decide
      omega
    · have : (2 : Int) ^ (8 * (2 : Int).toNat) = 65536 := by decide
      omega
    · have : (2 : Int) ^ (8 * (4 : Int).toNat) = 4294967296 := by decide
      omega
    · have : (2 : Int) ^ (8 * (8 : Int).toNat) = 18446744073709551616 := by decide
      omega
  obtain ⟨w0, w1, w2, _⟩ := wdS_fact sg n acc hz hb.1 h2
  have hfv : fitsV p (wdS sg (64 - 8 * n) acc) = true := by rw [hfit, w2, beq_self_eq_true]
  refine ⟨_, hword acc, by rw [fits_some, hfv], ?_⟩
  rw [comp_some 0 p _ _ w0 w1 w0 w1]
  unfold compV cmpV
  rw [hfv]
  simp
/-- The bytes that were put, as a text. -/
def byL (m : Nat) (A n o a1 a3 : Int) : List Int := ((putL (List.replicate m a3) A n o a1 n.toNat).drop A.toNat).take n.toNat
theorem byL_at (m : Nat) (A n o a1 a3 : Int) (hA : 0 ≤ A) (h0 : 0 ≤ n) (hm : A + n ≤ m) (i : Nat) (hi : (i : Int) < n) : (byL m A n o a1 a3)[i]? = some (pB a1 (if o = 1 then n - 1 - i else i).toNat) := by
  unfold byL
  rw [List.getElem?_take_of_lt (by omega), List.getElem?_drop]
  have hl : (putL (List.replicate m a3) A n o a1 n.toNat).length = m := by rw [putL_len, List.length_replicate]
  have hat := putL_at (List.replicate m a3) A n o a1 hA (by rw [List.length_replicate]; omega) (if o = 1 then n - 1 - i else i).toNat n.toNat (by split <;> omega) (by omega)
  have e : (A + plc n o ((if o = 1 then n - 1 - (i : Int) else i).toNat : Int)).toNat = A.toNat + i := by unfold plc; by_cases c : o = 1 <;> simp only [c, if_true, if_false] <;> omega
  rw [e, List.getD_eq_getElem?_getD, List.getElem?_eq_getElem (by rw [hl]; omega), Option.getD_some] at hat
  rw [List.getElem?_eq_getElem (by rw [hl]; omega), hat]
theorem byL_len (m : Nat) (A n o a1 a3 : Int) (hA : 0 ≤ A) (h0 : 0 ≤ n) (hm : A + n ≤ m) : (byL m A n o a1 a3).length = n.toNat := by
  unfold byL
  rw [List.length_take, List.length_drop, putL_len, List.length_replicate]; omega
theorem byL_cell (m : Nat) (A n o a1 a3 : Int) (hA : 0 ≤ A) (h0 : 0 ≤ n) (hm : A + n ≤ m) (i : Nat) (hi : i < n.toNat) : (putL (List.replicate m a3) A n o a1 n.toNat).getD (A.toNat + i) 0 = (byL m A n o a1 a3).getD i 0 := by
  unfold byL
  rw [List.getD_eq_getElem?_getD, List.getD_eq_getElem?_getD, List.getElem?_take_of_lt hi, List.getElem?_drop]
theorem byL_out (m : Nat) (A n o a1 a3 : Int) (hA : 0 ≤ A) (h0 : 0 ≤ n) (k : Nat) (hk : k < m) (ho : (k : Int) < A ∨ A + n ≤ k) : (putL (List.replicate m a3) A n o a1 n.toNat).getD k 0 = a3 := by
  rw [putL_out _ _ _ _ _ k n.toNat (fun j hj => by unfold plc; split <;> omega), List.getD_eq_getElem?_getD, List.getElem?_replicate, if_pos hk]; rfl
theorem bt_ofB (l : List Int) (hr : ∀ x ∈ l, 0 ≤ x ∧ x ≤ 255) (i : Nat) (x : Int) (h : l[i]? = some x) : bt (strOfNums l) (i : Int) = x := by
  have hr2 := hr x (List.mem_of_getElem? h)
  unfold bt
  have hi : i < l.length := (List.getElem?_eq_some_iff.1 h).1
  have hx : l[i] = x := (List.getElem?_eq_some_iff.1 h).2
  have hs : (i : Int).toNat < (strOfNums l).size := by rw [strOfNums_size]; simpa using hi
  rw [dif_pos hs]
  have : ((strOfNums l)[(i : Int).toNat]'hs) = UInt8.ofNat x.toNat := by
    simp [strOfNums, ByteArray.getElem_eq_getElem_data, hx]
  rw [this]; simp; omega
theorem byL_rng (m : Nat) (A n o a1 a3 : Int) (h3 : 0 ≤ a3 ∧ a3 ≤ 255) : ∀ x ∈ byL m A n o a1 a3, 0 ≤ x ∧ x ≤ 255 := fun x hx =>
  putL_rng _ A n o a1 (fun y hy => by rw [List.eq_of_mem_replicate hy]; exact h3) n.toNat x (List.mem_of_mem_drop (List.mem_of_mem_take hx))
/-- One order's bytes are the other's turned about. -/
theorem byL_turn (m : Nat) (A n a1 a3 : Int) (hA : 0 ≤ A) (h0 : 0 ≤ n) (hm : A + n ≤ m) (h3 : 0 ≤ a3 ∧ a3 ≤ 255) : ∀ i : Nat, i < (strOfNums (byL m A n 0 a1 a3)).size → (i : Int) < n ∧ (strOfNums (byL m A n 1 a1 a3)).size = n.toNat ∧ bt (strOfNums (byL m A n 0 a1 a3)) (i : Int) = bt (strOfNums (byL m A n 1 a1 a3)) (n - 1 - i) := by
  intro i hi
  rw [strOfNums_size, byL_len m A n 0 a1 a3 hA h0 hm] at hi
  refine ⟨by omega, by rw [strOfNums_size, byL_len m A n 1 a1 a3 hA h0 hm], ?_⟩
  rw [bt_ofB _ (byL_rng m A n 0 a1 a3 h3) i _ (byL_at m A n 0 a1 a3 hA h0 hm i (by omega))]
  have e : n - 1 - (i : Int) = ((n - 1 - (i : Int)).toNat : Int) := by omega
  rw [e, bt_ofB _ (byL_rng m A n 1 a1 a3 h3) (n - 1 - (i : Int)).toNat _ (byL_at m A n 1 a1 a3 hA h0 hm (n - 1 - (i : Int)).toNat (by omega))]
  rw [if_neg (by decide), if_pos rfl]
  congr 2; omega
theorem dec_wid (s : ByteArray) (pos : Nat) : 1 ≤ (Utf8.decode s pos).2 := by
  unfold Utf8.decode
  dsimp only
  repeat' split
  all_goals simp
theorem iterPos_ofB {w : World} {k : Nat} {s : ByteArray} {p : Nat} (h : w.heap[k]? = some (.stringIter s p)) : w.iterPos k = p := by simp [World.iterPos, h]
theorem iter_far {w : World} {s : ByteArray} {p g : Nat} {o : Obj} (h : w.heap[g]? = some o) : (w.iter s p).heap[g]? = some o := by
  show (w.alloc (.stringIter s p)).heap[g]? = _
  exact blk_below h ((Below.refl w.heap.size w).alloc (Nat.le_refl _) _)
theorem iter_below {w0 w : World} {s : ByteArray} {p : Nat} (h : Below w0.heap.size w0 w) : Below w0.heap.size w0 (w.iter s p) := h.alloc h.size _
theorem measN (a : Nat) (x y : Int) (h0 : 0 ≤ x) (h1 : x < (a : Int)) (hy : y = x + 1) : a + 1 - (intOf (.int .i64 y)).toNat < a + 1 - (intOf (.int .i64 x)).toNat := by
  subst hy
  show a + 1 - (x + 1).toNat < a + 1 - x.toNat
  omega
set_option maxHeartbeats 8000000 in
set_option maxRecDepth 100000 in
theorem PrimBack.ok (a0 a1 a2 a3 : Int) (w : World) (hT0 : Tab w) (h1 : 0 ≤ a1 ∧ a1 < 18446744073709551616) (h2 : -9223372036854775808 ≤ a2 ∧ a2 ≤ 9223372036854775807) (h3 : 0 ≤ a3 ∧ a3 ≤ 255) (n : Int) (sg fl : Bool) (nu mi ma : Int) (hp : primRow a0 = (n, sg, fl, nu, mi, ma)) (hin : ¬ (a0 < 0 ∨ 10 < a0)) (hf : fitsV a0 a1 = true) :
    Calls Tryd.prog 6 #[.int .i64 a0, .int .u64 a1, .int .i64 a2, .int .u8 a3] w fun e w' => e = .returned (.bool true) ∧ Below w.heap.size w w' := by
  have HT := Aside0.mk hT0
  have HP := Aside0.mk hp
  have H1 := Aside0.mk h1
  have H3 := Aside0.mk h3
  have T9 := Aside0.mk (fun (W : World) (hW : Tab W) => prim_Size.calls a0 n W (size_eq a0 n sg fl nu mi ma hp) hW)
  have T96 := Aside0.mk (fun (W : World) (hW : Tab W) => prim_Size.calls 6 2 W (by decide +kernel) hW)
  have T86 := Aside0.mk (fun (W : World) (hW : Tab W) => prim_Fits.calls 6 513 true W (by decide +kernel) hW)
  obtain ⟨r, hr⟩ : ∃ r : Int, a2.tmod 9 = r := ⟨_, rfl⟩
  have HRR := Aside0.mk (show -9 < r ∧ r < 9 by rw [← hr]; have e1 := Int.tmod_lt_of_pos a2 (show (0 : Int) < 9 by decide); have e2 := Int.lt_tmod_of_pos a2 (show (0 : Int) < 9 by decide); omega)
  have hz : n = 1 ∨ n = 2 ∨ n = 4 ∨ n = 8 := by
    obtain ⟨z', sg', fl', nu', mi', ma', hrow, hz, _, _⟩ := word_all a0 hin
    rw [hp] at hrow
    simp only [Prod.mk.injEq] at hrow
    rw [hrow.1]; exact hz
  have HN := Aside0.mk (show 0 ≤ n ∧ n ≤ 8 by omega)
  have HZ := Aside0.mk (show 1 ≤ n ∧ n ≤ 8 by omega)
  have bn0 : (n == 0) = false := beq_eq_false_iff_ne.mpr (by omega)
  have dn0 : decide (0 < n) = true := decide_eq_true (by omega)
  have hff : prim_Fits.f a0 a1 = some true := by rw [fits_some, hf]
  have HFF := Aside0.mk hff
  have T8 := Aside0.mk (fun (W : World) (hW : Tab W) => prim_Fits.calls a0 a1 true W hff hW)
  have TW := Aside0.mk (fun (xs : List Int) (A o : Int) (hA : 0 ≤ A) (hl : A + n ≤ xs.length) => back_word a0 a1 n sg fl nu mi ma hp hin h1 hf xs A o hA hl)
  have TA := Aside0.mk (fun (acc : Int) (F : Nat → Int) (hF : ∀ j, 0 ≤ F j ∧ F j ≤ 255) (ha : acc = gAcc F n.toNat) => any_word a0 n sg fl nu mi ma hp hin acc F hF ha)
  have HB := Aside0.mk (Below.refl w.heap.size w)
  clear hT0 h1 h2 h3 hp hz hin hf hff
  have tk1 : Aside0 True := ⟨trivial⟩
  go_enter Tryd.func6, Tryd.ntmps6
  go_upto_if 34 with (first | (go_at_call 9; clear tk1; have tk2 : Aside0 True := ⟨trivial⟩; (with_reducible refine (T9.out _ (tab_below HT.out (by repeat (first | (with_reducible first | exact HB.out | apply below_alloc | apply pw_below_drewN | apply below_drew1 | refine below_set ?_ HGB.out) | exact HB.out)))).mono ?_); rintro e_ w_ ⟨rfl, hb_⟩; have n0_ := Aside0.mk (below_step (by repeat (first | (with_reducible first | exact HB.out | apply below_alloc | apply pw_below_drewN | apply below_drew1 | refine below_set ?_ HGB.out) | exact HB.out)) hb_); clear HB hb_; have HB := n0_; clear n0_) | (go_at_call 9; clear tk2; (with_reducible refine (T96.out _ (tab_below HT.out (by repeat (first | (with_reducible first | exact HB.out | apply below_alloc | apply pw_below_drewN | apply below_drew1 | refine below_set ?_ HGB.out) | exact HB.out)))).mono ?_); rintro e_ w_ ⟨rfl, hb_⟩; have n0_ := Aside0.mk (below_step (by repeat (first | (with_reducible first | exact HB.out | apply below_alloc | apply pw_below_drewN | apply below_drew1 | refine below_set ?_ HGB.out) | exact HB.out)) hb_); clear HB hb_; have HB := n0_; clear n0_) | (go_at_call 8; (with_reducible refine (T86.out _ (tab_below HT.out (by repeat (first | (with_reducible first | exact HB.out | apply below_alloc | apply pw_below_drewN | apply below_drew1 | refine below_set ?_ HGB.out) | exact HB.out)))).mono ?_); rintro e_ w_ ⟨rfl, hb_⟩; have n0_ := Aside0.mk (below_step (by repeat (first | (with_reducible first | exact HB.out | apply below_alloc | apply pw_below_drewN | apply below_drew1 | refine below_set ?_ HGB.out) | exact HB.out)) hb_); clear HB hb_; have HB := n0_; clear n0_))
  clear hr
  go_cut [2] (fun v wc => ∃ A : Int, v = .int .i64 A ∧ Aside0 (0 ≤ A ∧ A ≤ 8) ∧ Aside0 (Below w.heap.size w wc))
  case first => as_aux_lemma =>
    by_cases c : r < 0
    · have d_ : decide (r < 0) = true := decide_eq_true c
      rw [d_]
      have hw_ : wrap64 (-r) = -r := by have := HRR.out; unfold wrap64; omega
      have HAA := Aside0.mk (show 0 ≤ -r ∧ -r ≤ 8 by have := HRR.out; omega)
      clear c
      go_wp2
      go_meet
      case rel => exact ⟨-r, by first | with_reducible rfl | rw [hw_], HAA, ⟨(by repeat (first | (with_reducible first | exact HB.out | apply below_alloc | apply pw_below_drewN | apply below_drew1 | refine below_set ?_ HGB.out) | exact HB.out))⟩⟩
    · have d_ : decide (r < 0) = false := decide_eq_false c
      rw [d_]
      have HAA := Aside0.mk (show 0 ≤ r ∧ r ≤ 8 by have := HRR.out; omega)
      clear c
      go_wp2
      go_meet
      case rel => exact ⟨r, rfl, HAA, ⟨(by repeat (first | (with_reducible first | exact HB.out | apply below_alloc | apply pw_below_drewN | apply below_drew1 | refine below_set ?_ HGB.out) | exact HB.out))⟩⟩
  obtain ⟨A, rfl, HAA, HB'⟩ := hcut
  clear HB
  have HB := HB'
  clear HB'
  obtain ⟨wd, hw_⟩ : ∃ x, x = wc := ⟨_, rfl⟩
  subst hw_
  obtain ⟨mN, hmN⟩ : ∃ mN : Nat, mN = (A + n + 3).toNat := ⟨_, rfl⟩
  obtain ⟨m1, hm1⟩ : ∃ m1 : Int, wrap64 (A + n) = m1 := ⟨_, rfl⟩
  have HM1 := Aside0.mk (show m1 = A + n by rw [← hm1]; have h4 := HAA.out; have h5 := HN.out; unfold wrap64; omega)
  have hm2 : wrap64 (m1 + 3) = (mN : Int) := by rw [HM1.out, hmN]; have h4 := HAA.out; have h5 := HN.out; unfold wrap64; omega
  have HM2 := Aside0.mk hm2
  have HMN := Aside0.mk (show (mN : Int) = A + n + 3 by rw [hmN]; have h4 := HAA.out; have h5 := HN.out; omega)
  clear hmN
  go_wp2_with (first | ((with_reducible refine gate_dst (N := 10) rfl ?_); refine box_event ?hg (N := 10) ?hd (cs := #[.string ByteArray.empty, .string ByteArray.empty]) (t := 43) ?hr ?_; (case hd => rfl); (case hg => rfl); (case hr => first | (go_simp; done) | (go_simp; rfl)); intro gB hgx wb hbox hbw; have HGB := Aside0.mk (show w.heap.size ≤ gB from hgx ▸ below_size HB.out); have n0_ := Aside0.mk (below_step HB.out hbw); clear HB; have HB := n0_; clear n0_; have HK := Aside0.mk hbox; clear hgx hbox hbw))
  go_loopw [11] (fun v wr => ∃ (x : Int) (S0 S1 : ByteArray), v = .int .i64 x ∧ Aside0 (x = 0 ∨ (x = 1 ∧ S0 = strOfNums (byL mN A n 0 a1 a3)) ∨ (x = 2 ∧ S0 = strOfNums (byL mN A n 0 a1 a3) ∧ S1 = strOfNums (byL mN A n 1 a1 a3))) ∧ Aside0 (wr.heap[gB]? = some (.cells #[.string S0, .string S1] 43 (0, 0))) ∧ Aside0 (Below w.heap.size w wr)) (fun v _ => 3 - (intOf v).toNat)
  case atStart => exact ⟨0, _, _, rfl, ⟨.inl rfl⟩, HK, HB⟩
  case round =>
  clear HK HB
  obtain ⟨x, S0, S1, rfl, HX, HK, HB⟩ := hrel
  obtain ⟨wo, hw_⟩ : ∃ y, y = wr := ⟨_, rfl⟩
  subst hw_
  rcases HX.out with rfl | ⟨rfl, hs0⟩ | ⟨rfl, hs0, hs1⟩
  case inl => as_aux_lemma =>
    have HMP := Aside0.mk (show 0 < mN by have h4 := HAA.out; have h5 := HN.out; have h6 := HMN.out; omega)
    have HTO := Aside0.mk (tab_below HT.out HB.out)
    have HBX := Aside0.mk (Below.refl wo.heap.size wo)
    have HML := Aside0.mk (show ((mN : Int)).toNat * 1 ≤ 281474976710656 by have h4 := HAA.out; have h5 := HN.out; have h6 := HMN.out; omega)
    go_wp2_with (first | ((with_reducible refine gate_dst (N := 45) rfl ?_); refine Kd.R_make (Kd.int .u8) (w0 := wo) (ok := fun _ => True) (okp := fun _ => False) wo.heap.size 5 rfl (N := 45) rfl 31 _ _ rfl (mN : Int) (congrArg (Value.int .i64) HM2.out) (congrArg (Value.int .i64) HM2.out) Tryd.underlying31 (.int .u8 0) 1 info5 rfl (by decide) (by decide) 0 (show Kd.M (Kd.int .u8) _ _ _ 0 [.int .u8 0] from rfl) (fun _ h => h.elim) trivial (by omega) HML.out (by repeat (first | (with_reducible first | exact HBX.out | apply below_alloc | apply pw_below_drewN | apply below_drew1) | exact HBX.out)) (below_size (by repeat (first | (with_reducible first | exact HBX.out | apply below_alloc | apply pw_below_drewN | apply below_drew1) | exact HBX.out))) ?_; intro vb wb2 ho_ hb_ hg_ hnew_; clear hg_ hnew_; have HRX := Aside0.mk ho_; have n0_ := Aside0.mk hb_; clear HBX ho_ hb_; have HBX := n0_; clear n0_; rw [Int.toNat_natCast] at HRX; obtain ⟨g, cp, rfl, hgw⟩ := row_form HRX.out mN List.length_replicate HMP.out; have HGW := Aside0.mk hgw; clear hgw))
    go_loopw [48] (fun v wr => ∃ (k : Nat) (y : Int), v = .int .i64 y ∧ Aside0 (y = (k : Int) ∧ k ≤ mN) ∧ Aside0 (Kd.R (Kd.int .u8) 5 wr wo.heap.size (fun _ => True) (.slice (some ⟨g, 0, none⟩) mN cp) (List.replicate k a3 ++ (List.replicate mN 0).drop k)) ∧ Aside0 (Below wo.heap.size wo wr)) (fun v _ => mN + 1 - (intOf v).toNat)
    case atStart => exact ⟨0, 0, rfl, ⟨rfl, Nat.zero_le _⟩, ⟨by rw [List.drop_zero, List.replicate_zero, List.nil_append]; exact HRX.out⟩, HBX⟩
    case round =>
    clear HRX HBX
    obtain ⟨k, y, rfl, HKM, HRX, HBX⟩ := hrel
    by_cases hlt : k < mN
    case pos => as_aux_lemma =>
      have hyk := HKM.out.1
      have i1' : y < (mN : Int) := by omega
      have d0 : decide (y < (mN : Int)) = true := decide_eq_true i1'
      have i0 := eq_true (show 0 ≤ y by omega)
      have i1 := eq_true i1'
      obtain ⟨hn_, hb_, hl_, hc, hfz, hput⟩ := byte_at HRX.out y (by omega) i1'
      clear hn_ hb_ hl_
      generalize (List.replicate k a3 ++ (List.replicate mN 0).drop k).getD y.toNat 0 = old at hc
      have HPUT := Aside0.mk (hput a3)
      have hset : (List.replicate k a3 ++ (List.replicate mN (0 : Int)).drop k).set y.toNat a3 = List.replicate (k + 1) a3 ++ (List.replicate mN (0 : Int)).drop (k + 1) := by
        rw [show y.toNat = k by omega]
        exact reps_set8 _ a3 k (by rw [List.length_replicate]; exact hlt)
      rw [hset] at HPUT
      clear hset
      have HWK := Aside0.mk (show wrap64 (y + 1) = y + 1 by have h4 := HAA.out; have h5 := HN.out; have h6 := HMN.out; unfold wrap64; omega)
      have HK1 := Aside0.mk (show y + 1 = ((k + 1 : Nat) : Int) ∧ k + 1 ≤ mN ∧ 0 ≤ y ∧ y < (mN : Int) by omega)
      have HGW2 := Aside0.mk (show wo.heap.size ≤ g from HGW.out)
      clear hput hlt hyk i1'
      go_wp2
      go_roundw
      case rel => exact ⟨k + 1, y + 1, by first | with_reducible rfl | rw [HWK.out], ⟨HK1.out.1, HK1.out.2.1⟩, HPUT, ⟨HBX.out.setCell HGW2.out _⟩⟩
      case measure => exact measN _ y _ HK1.out.2.2.1 HK1.out.2.2.2 (by first | exact HWK.out | rfl)
    case neg =>
    have d0 : decide (y < (mN : Int)) = false := decide_eq_false (by have := HKM.out; omega)
    have hk_ : mN = k := by have := HKM.out; omega
    subst hk_
    have hrow : List.replicate mN a3 ++ (List.replicate mN (0 : Int)).drop mN = List.replicate mN a3 := by rw [List.drop_of_length_le (by rw [List.length_replicate]; exact Nat.le_refl _), List.append_nil]
    rw [hrow] at HRX
    clear hlt hrow HKM HML
    have HO := Aside0.mk (show (0 : Int) = 0 ∨ (0 : Int) = 1 by decide)
    have HAT := Aside0.mk (show 0 ≤ A ∧ A + n ≤ (mN : Int) by have h4 := HAA.out; have h6 := HMN.out; omega)
    have HN2 := Aside0.mk (show (mN : Int) < 1000000000000 by have h4 := HAA.out; have h5 := HN.out; have h6 := HMN.out; omega)
    obtain ⟨L, hL⟩ : ∃ L, putL (List.replicate mN a3) A n 0 a1 n.toNat = L := ⟨_, rfl⟩
    have HLE := Aside0.mk hL
    have HLR := Aside0.mk (show ∀ x ∈ L, 0 ≤ x ∧ x ≤ 255 by rw [← hL]; exact putL_rng _ A n 0 a1 (fun y hy => by rw [List.eq_of_mem_replicate hy]; exact H3.out) n.toNat)
    have TWL := Aside0.mk (TW.out (List.replicate mN a3) A 0 HAT.out.1 (by rw [List.length_replicate]; exact HAT.out.2))
    rw [hL] at TWL
    clear hL
    have T21 := Aside0.mk (fun (W : World) (hW : Tab W) (hr : Kd.R (Kd.int .u8) 5 W wo.heap.size (fun _ => True) (.slice (some ⟨g, 0, none⟩) mN cp) (L)) => prim_Get.ok W hW wo.heap.size g mN cp mN cp L hr (Nat.le_refl _) HLR.out A a0 0 n sg fl nu mi ma HP.out HZ.out HO.out HAT.out HN2.out _ a1 rfl TWL.out)
    go_wp2_with (first | (go_at_call 25; (with_reducible refine (prim_Put.ok wo _ HTO.out HBX.out g mN cp mN cp (List.replicate mN a3) HRX.out (Nat.le_refl _) A a0 0 n a1 sg fl nu mi ma HP.out HZ.out HO.out HAT.out HN2.out HFF.out).mono ?_); rintro e_ w25 ⟨rfl, hr_, hb_⟩; clear HRX HBX; rw [HLE.out] at hr_; have HRX := Aside0.mk hr_; have HBX := Aside0.mk hb_; clear hr_ hb_) | (go_at_call 8; (with_reducible refine (T8.out _ (tab_below HTO.out (by repeat (first | (with_reducible first | exact HBX.out | apply below_alloc | apply pw_below_drewN | apply below_drew1) | exact HBX.out)))).mono ?_); rintro e_ w8 ⟨rfl, hb_⟩; have n0_ := Aside0.mk (below_step (by repeat (first | (with_reducible first | exact HBX.out | apply below_alloc | apply pw_below_drewN | apply below_drew1) | exact HBX.out)) hb_); have n1_ := Aside0.mk (Kd.R_below (by first | exact HRX.out | exact Kd.R_drewN HRX.out _) hb_); clear HBX HRX hb_; have HBX := n0_; have HRX := n1_; clear n0_ n1_) | (go_at_call 21; (with_reducible refine (T21.out _ (tab_below HTO.out (by repeat (first | (with_reducible first | exact HBX.out | apply below_alloc | apply pw_below_drewN | apply below_drew1) | exact HBX.out))) HRX.out).mono ?_); rintro e_ w21 ⟨rfl, hb_⟩; have n0_ := Aside0.mk (below_step (by repeat (first | (with_reducible first | exact HBX.out | apply below_alloc | apply pw_below_drewN | apply below_drew1) | exact HBX.out)) hb_); have n1_ := Aside0.mk (Kd.R_below (by first | exact HRX.out | exact Kd.R_drewN HRX.out _) hb_); clear HBX HRX hb_; have HBX := n0_; have HRX := n1_; clear n0_ n1_))
    go_loopw [95] (fun v wr => ∃ (k : Nat) (y : Int), v = .int .i64 y ∧ Aside0 (y = (k : Int) ∧ k ≤ mN) ∧ Aside0 (Kd.R (Kd.int .u8) 5 wr wo.heap.size (fun _ => True) (.slice (some ⟨g, 0, none⟩) mN cp) (L)) ∧ Aside0 (Below wo.heap.size wo wr)) (fun v _ => mN + 1 - (intOf v).toNat)
    case atStart => exact ⟨0, 0, rfl, ⟨rfl, Nat.zero_le _⟩, ⟨by first | exact HRX.out | exact Kd.R_drewN HRX.out _⟩, ⟨(by repeat (first | (with_reducible first | exact HBX.out | apply below_alloc | apply pw_below_drewN | apply below_drew1) | exact HBX.out))⟩⟩
    case round =>
    clear HRX HBX
    obtain ⟨k, y, rfl, HKM, HRX, HBX⟩ := hrel
    by_cases hlt : k < mN
    case pos => as_aux_lemma =>
      have hyk := HKM.out.1
      have i1' : y < (mN : Int) := by omega
      have d0 : decide (y < (mN : Int)) = true := decide_eq_true i1'
      have i0 := eq_true (show 0 ≤ y by omega)
      have i1 := eq_true i1'
      obtain ⟨hn_, hb_, hl_, hc, hfz, hput⟩ := byte_at HRX.out y (by omega) i1'
      clear hn_ hb_ hl_ hfz hput
      have HWK := Aside0.mk (show wrap64 (y + 1) = y + 1 by have h4 := HN2.out; unfold wrap64; omega)
      have HK1 := Aside0.mk (show y + 1 = ((k + 1 : Nat) : Int) ∧ k + 1 ≤ mN ∧ 0 ≤ y ∧ y < (mN : Int) by omega)
      have HV := fun (h : y < A ∨ A + n ≤ y) => show L.getD y.toNat 0 = a3 by
        rw [← HLE.out, show y.toNat = k by omega]
        exact byL_out mN A n 0 a1 a3 HAT.out.1 HN.out.1 k hlt (by omega)
      by_cases c1 : y < A
      · have dA : decide (y < A) = true := decide_eq_true c1
        rw [HV (.inl c1)] at hc
        clear HV c1 hlt hyk i1'
        go_wp2
        go_roundw
        case rel => exact ⟨k + 1, y + 1, by first | with_reducible rfl | rw [HWK.out], ⟨HK1.out.1, HK1.out.2.1⟩, HRX, HBX⟩
        case measure => exact measN _ y _ HK1.out.2.2.1 HK1.out.2.2.2 (by first | exact HWK.out | rfl)
      · have dA : decide (y < A) = false := decide_eq_false c1
        by_cases c2 : m1 ≤ y
        · have dB : decide (m1 ≤ y) = true := decide_eq_true c2
          rw [HV (.inr (by have := HM1.out; omega))] at hc
          clear HV c1 c2 hlt hyk i1'
          go_wp2
          go_roundw
          case rel => exact ⟨k + 1, y + 1, by first | with_reducible rfl | rw [HWK.out], ⟨HK1.out.1, HK1.out.2.1⟩, HRX, HBX⟩
          case measure => exact measN _ y _ HK1.out.2.2.1 HK1.out.2.2.2 (by first | exact HWK.out | rfl)
        · have dB : decide (m1 ≤ y) = false := decide_eq_false c2
          clear HV c1 c2 hlt hyk i1'
          go_wp2
          go_roundw
          case rel => exact ⟨k + 1, y + 1, by first | with_reducible rfl | rw [HWK.out], ⟨HK1.out.1, HK1.out.2.1⟩, HRX, HBX⟩
          case measure => exact measN _ y _ HK1.out.2.2.1 HK1.out.2.2.2 (by first | exact HWK.out | rfl)
    case neg =>
    have d0 : decide (y < (mN : Int)) = false := decide_eq_false (by have := HKM.out; omega)
    clear hlt HKM
    obtain ⟨SO, hSO⟩ : ∃ SO, SO = strOfNums (byL mN A n 0 a1 a3) := ⟨_, rfl⟩
    have HSO := Aside0.mk hSO
    have hcv : ∀ cap, (convert 31 9 (.slice (some ⟨g, A.toNat, none⟩) (m1.toNat - A.toNat) cap)).run Tryd.prog wr = .ok (.string SO) wr := fun cap => by
      rw [hSO, show m1.toNat - A.toNat = n.toNat by have h4 := HM1.out; have h5 := HN.out; have h6 := HAT.out; omega]
      refine run_convert_bytes_arg (w := wr) 31 5 Tryd.underlying31 Tryd.underlying5 g A.toNat n.toNat cap _ (byL_len mN A n 0 a1 a3 HAT.out.1 HN.out.1 HAT.out.2) (fun i hi => ?_) 9 Tryd.underlying9
      obtain ⟨_, _, _, hc, _, _⟩ := byte_at HRX.out ((A.toNat + i : Nat) : Int) (by omega) (by have h8 := HAT.out; omega)
      rw [Int.toNat_natCast, ← HLE.out, byL_cell mN A n 0 a1 a3 HAT.out.1 HN.out.1 HAT.out.2 i hi] at hc
      exact hc
    clear hSO
    have hBK := blk_below HK.out HBX.out
    have kB0 : wr.cell? ⟨gB, 0, none⟩ = some (.string S0) := blk_cell hBK 0
    have kB1 : wr.cell? ⟨gB, 1, none⟩ = some (.string S1) := blk_cell hBK 1
    have fB0 := blk_frozen hBK 0
    have fB1 := blk_frozen hBK 1
    have HBK := Aside0.mk hBK
    have HCP := Aside0.mk (Kd.R_reads' HRX.out).2.1
    have j0 := eq_true (show 0 ≤ A from HAT.out.1)
    have j1 := eq_true (show A ≤ m1 by have h4 := HM1.out; have h5 := HN.out; omega)
    have j2 := eq_true (show m1 ≤ (cp : Int) by have h4 := HM1.out; have h5 := HAT.out; have h6 := HCP.out; omega)
    have HBW := Aside0.mk (below_step HB.out HBX.out)
    have g0_ : ¬ cp ≤ A.toNat := by have h4 := HCP.out; have h5 := HMN.out; have h6 := HAT.out; have h7 := HN.out; omega
    have g1_ : ¬ cp = A.toNat := by omega
    have g2_ : ¬ A.toNat = cp := by omega
    have g3_ : ¬ cp - A.toNat = 0 := by omega
    clear hBK
    go_wp2
    go_roundw
    case rel => exact ⟨1, SO, S1, by first | with_reducible rfl | (simp; done) | decide, ⟨.inr (.inl ⟨rfl, HSO.out⟩)⟩, ⟨by have z_ := blk_set HBK.out 0 (.string SO); simpa using z_⟩, ⟨HBW.out.setCell HGB.out _⟩⟩
    case measure => first | decide | (simp [intOf]; done) | (simp [intOf, wrap64]; done)
  case inr.inl => as_aux_lemma =>
    have HS0 := Aside0.mk hs0
    clear hs0
    have HMP := Aside0.mk (show 0 < mN by have h4 := HAA.out; have h5 := HN.out; have h6 := HMN.out; omega)
    have HTO := Aside0.mk (tab_below HT.out HB.out)
    have HBX := Aside0.mk (Below.refl wo.heap.size wo)
    have HML := Aside0.mk (show ((mN : Int)).toNat * 1 ≤ 281474976710656 by have h4 := HAA.out; have h5 := HN.out; have h6 := HMN.out; omega)
    go_wp2_with (first | ((with_reducible refine gate_dst (N := 45) rfl ?_); refine Kd.R_make (Kd.int .u8) (w0 := wo) (ok := fun _ => True) (okp := fun _ => False) wo.heap.size 5 rfl (N := 45) rfl 31 _ _ rfl (mN : Int) (congrArg (Value.int .i64) HM2.out) (congrArg (Value.int .i64) HM2.out) Tryd.underlying31 (.int .u8 0) 1 info5 rfl (by decide) (by decide) 0 (show Kd.M (Kd.int .u8) _ _ _ 0 [.int .u8 0] from rfl) (fun _ h => h.elim) trivial (by omega) HML.out (by repeat (first | (with_reducible first | exact HBX.out | apply below_alloc | apply pw_below_drewN | apply below_drew1) | exact HBX.out)) (below_size (by repeat (first | (with_reducible first | exact HBX.out | apply below_alloc | apply pw_below_drewN | apply below_drew1) | exact HBX.out))) ?_; intro vb wb2 ho_ hb_ hg_ hnew_; clear hg_ hnew_; have HRX := Aside0.mk ho_; have n0_ := Aside0.mk hb_; clear HBX ho_ hb_; have HBX := n0_; clear n0_; rw [Int.toNat_natCast] at HRX; obtain ⟨g, cp, rfl, hgw⟩ := row_form HRX.out mN List.length_replicate HMP.out; have HGW := Aside0.mk hgw; clear hgw))
    go_loopw [48] (fun v wr => ∃ (k : Nat) (y : Int), v = .int .i64 y ∧ Aside0 (y = (k : Int) ∧ k ≤ mN) ∧ Aside0 (Kd.R (Kd.int .u8) 5 wr wo.heap.size (fun _ => True) (.slice (some ⟨g, 0, none⟩) mN cp) (List.replicate k a3 ++ (List.replicate mN 0).drop k)) ∧ Aside0 (Below wo.heap.size wo wr)) (fun v _ => mN + 1 - (intOf v).toNat)
    case atStart => exact ⟨0, 0, rfl, ⟨rfl, Nat.zero_le _⟩, ⟨by rw [List.drop_zero, List.replicate_zero, List.nil_append]; exact HRX.out⟩, HBX⟩
    case round =>
    clear HRX HBX
    obtain ⟨k, y, rfl, HKM, HRX, HBX⟩ := hrel
    by_cases hlt : k < mN
    case pos => as_aux_lemma =>
      have hyk := HKM.out.1
      have i1' : y < (mN : Int) := by omega
      have d0 : decide (y < (mN : Int)) = true := decide_eq_true i1'
      have i0 := eq_true (show 0 ≤ y by omega)
      have i1 := eq_true i1'
      obtain ⟨hn_, hb_, hl_, hc, hfz, hput⟩ := byte_at HRX.out y (by omega) i1'
      clear hn_ hb_ hl_
      generalize (List.replicate k a3 ++ (List.replicate mN 0).drop k).getD y.toNat 0 = old at hc
      have HPUT := Aside0.mk (hput a3)
      have hset : (List.replicate k a3 ++ (List.replicate mN (0 : Int)).drop k).set y.toNat a3 = List.replicate (k + 1) a3 ++ (List.replicate mN (0 : Int)).drop (k + 1) := by
        rw [show y.toNat = k by omega]
        exact reps_set8 _ a3 k (by rw [List.length_replicate]; exact hlt)
      rw [hset] at HPUT
      clear hset
      have HWK := Aside0.mk (show wrap64 (y + 1) = y + 1 by have h4 := HAA.out; have h5 := HN.out; have h6 := HMN.out; unfold wrap64; omega)
      have HK1 := Aside0.mk (show y + 1 = ((k + 1 : Nat) : Int) ∧ k + 1 ≤ mN ∧ 0 ≤ y ∧ y < (mN : Int) by omega)
      have HGW2 := Aside0.mk (show wo.heap.size ≤ g from HGW.out)
      clear hput hlt hyk i1'
      go_wp2
      go_roundw
      case rel => exact ⟨k + 1, y + 1, by first | with_reducible rfl | rw [HWK.out], ⟨HK1.out.1, HK1.out.2.1⟩, HPUT, ⟨HBX.out.setCell HGW2.out _⟩⟩
      case measure => exact measN _ y _ HK1.out.2.2.1 HK1.out.2.2.2 (by first | exact HWK.out | rfl)
    case neg =>
    have d0 : decide (y < (mN : Int)) = false := decide_eq_false (by have := HKM.out; omega)
    have hk_ : mN = k := by have := HKM.out; omega
    subst hk_
    have hrow : List.replicate mN a3 ++ (List.replicate mN (0 : Int)).drop mN = List.replicate mN a3 := by rw [List.drop_of_length_le (by rw [List.length_replicate]; exact Nat.le_refl _), List.append_nil]
    rw [hrow] at HRX
    clear hlt hrow HKM HML
    have HO := Aside0.mk (show (1 : Int) = 0 ∨ (1 : Int) = 1 by decide)
    have HAT := Aside0.mk (show 0 ≤ A ∧ A + n ≤ (mN : Int) by have h4 := HAA.out; have h6 := HMN.out; omega)
    have HN2 := Aside0.mk (show (mN : Int) < 1000000000000 by have h4 := HAA.out; have h5 := HN.out; have h6 := HMN.out; omega)
    obtain ⟨L, hL⟩ : ∃ L, putL (List.replicate mN a3) A n 1 a1 n.toNat = L := ⟨_, rfl⟩
    have HLE := Aside0.mk hL
    have HLR := Aside0.mk (show ∀ x ∈ L, 0 ≤ x ∧ x ≤ 255 by rw [← hL]; exact putL_rng _ A n 1 a1 (fun y hy => by rw [List.eq_of_mem_replicate hy]; exact H3.out) n.toNat)
    have TWL := Aside0.mk (TW.out (List.replicate mN a3) A 1 HAT.out.1 (by rw [List.length_replicate]; exact HAT.out.2))
    rw [hL] at TWL
    clear hL
    have T21 := Aside0.mk (fun (W : World) (hW : Tab W) (hr : Kd.R (Kd.int .u8) 5 W wo.heap.size (fun _ => True) (.slice (some ⟨g, 0, none⟩) mN cp) (L)) => prim_Get.ok W hW wo.heap.size g mN cp mN cp L hr (Nat.le_refl _) HLR.out A a0 1 n sg fl nu mi ma HP.out HZ.out HO.out HAT.out HN2.out _ a1 rfl TWL.out)
    go_wp2_with (first | (go_at_call 25; (with_reducible refine (prim_Put.ok wo _ HTO.out HBX.out g mN cp mN cp (List.replicate mN a3) HRX.out (Nat.le_refl _) A a0 1 n a1 sg fl nu mi ma HP.out HZ.out HO.out HAT.out HN2.out HFF.out).mono ?_); rintro e_ w25 ⟨rfl, hr_, hb_⟩; clear HRX HBX; rw [HLE.out] at hr_; have HRX := Aside0.mk hr_; have HBX := Aside0.mk hb_; clear hr_ hb_) | (go_at_call 8; (with_reducible refine (T8.out _ (tab_below HTO.out (by repeat (first | (with_reducible first | exact HBX.out | apply below_alloc | apply pw_below_drewN | apply below_drew1) | exact HBX.out)))).mono ?_); rintro e_ w8 ⟨rfl, hb_⟩; have n0_ := Aside0.mk (below_step (by repeat (first | (with_reducible first | exact HBX.out | apply below_alloc | apply pw_below_drewN | apply below_drew1) | exact HBX.out)) hb_); have n1_ := Aside0.mk (Kd.R_below (by first | exact HRX.out | exact Kd.R_drewN HRX.out _) hb_); clear HBX HRX hb_; have HBX := n0_; have HRX := n1_; clear n0_ n1_) | (go_at_call 21; (with_reducible refine (T21.out _ (tab_below HTO.out (by repeat (first | (with_reducible first | exact HBX.out | apply below_alloc | apply pw_below_drewN | apply below_drew1) | exact HBX.out))) HRX.out).mono ?_); rintro e_ w21 ⟨rfl, hb_⟩; have n0_ := Aside0.mk (below_step (by repeat (first | (with_reducible first | exact HBX.out | apply below_alloc | apply pw_below_drewN | apply below_drew1) | exact HBX.out)) hb_); have n1_ := Aside0.mk (Kd.R_below (by first | exact HRX.out | exact Kd.R_drewN HRX.out _) hb_); clear HBX HRX hb_; have HBX := n0_; have HRX := n1_; clear n0_ n1_))
    go_loopw [95] (fun v wr => ∃ (k : Nat) (y : Int), v = .int .i64 y ∧ Aside0 (y = (k : Int) ∧ k ≤ mN) ∧ Aside0 (Kd.R (Kd.int .u8) 5 wr wo.heap.size (fun _ => True) (.slice (some ⟨g, 0, none⟩) mN cp) (L)) ∧ Aside0 (Below wo.heap.size wo wr)) (fun v _ => mN + 1 - (intOf v).toNat)
    case atStart => exact ⟨0, 0, rfl, ⟨rfl, Nat.zero_le _⟩, ⟨by first | exact HRX.out | exact Kd.R_drewN HRX.out _⟩, ⟨(by repeat (first | (with_reducible first | exact HBX.out | apply below_alloc | apply pw_below_drewN | apply below_drew1) | exact HBX.out))⟩⟩
    case round =>
    clear HRX HBX
    obtain ⟨k, y, rfl, HKM, HRX, HBX⟩ := hrel
    by_cases hlt : k < mN
    case pos => as_aux_lemma =>
      have hyk := HKM.out.1
      have i1' : y < (mN : Int) := by omega
      have d0 : decide (y < (mN : Int)) = true := decide_eq_true i1'
      have i0 := eq_true (show 0 ≤ y by omega)
      have i1 := eq_true i1'
      obtain ⟨hn_, hb_, hl_, hc, hfz, hput⟩ := byte_at HRX.out y (by omega) i1'
      clear hn_ hb_ hl_ hfz hput
      have HWK := Aside0.mk (show wrap64 (y + 1) = y + 1 by have h4 := HN2.out; unfold wrap64; omega)
      have HK1 := Aside0.mk (show y + 1 = ((k + 1 : Nat) : Int) ∧ k + 1 ≤ mN ∧ 0 ≤ y ∧ y < (mN : Int) by omega)
      have HV := fun (h : y < A ∨ A + n ≤ y) => show L.getD y.toNat 0 = a3 by
        rw [← HLE.out, show y.toNat = k by omega]
        exact byL_out mN A n 1 a1 a3 HAT.out.1 HN.out.1 k hlt (by omega)
      by_cases c1 : y < A
      · have dA : decide (y < A) = true := decide_eq_true c1
        rw [HV (.inl c1)] at hc
        clear HV c1 hlt hyk i1'
        go_wp2
        go_roundw
        case rel => exact ⟨k + 1, y + 1, by first | with_reducible rfl | rw [HWK.out], ⟨HK1.out.1, HK1.out.2.1⟩, HRX, HBX⟩
        case measure => exact measN _ y _ HK1.out.2.2.1 HK1.out.2.2.2 (by first | exact HWK.out | rfl)
      · have dA : decide (y < A) = false := decide_eq_false c1
        by_cases c2 : m1 ≤ y
        · have dB : decide (m1 ≤ y) = true := decide_eq_true c2
          rw [HV (.inr (by have := HM1.out; omega))] at hc
          clear HV c1 c2 hlt hyk i1'
          go_wp2
          go_roundw
          case rel => exact ⟨k + 1, y + 1, by first | with_reducible rfl | rw [HWK.out], ⟨HK1.out.1, HK1.out.2.1⟩, HRX, HBX⟩
          case measure => exact measN _ y _ HK1.out.2.2.1 HK1.out.2.2.2 (by first | exact HWK.out | rfl)
        · have dB : decide (m1 ≤ y) = false := decide_eq_false c2
          clear HV c1 c2 hlt hyk i1'
          go_wp2
          go_roundw
          case rel => exact ⟨k + 1, y + 1, by first | with_reducible rfl | rw [HWK.out], ⟨HK1.out.1, HK1.out.2.1⟩, HRX, HBX⟩
          case measure => exact measN _ y _ HK1.out.2.2.1 HK1.out.2.2.2 (by first | exact HWK.out | rfl)
    case neg =>
    have d0 : decide (y < (mN : Int)) = false := decide_eq_false (by have := HKM.out; omega)
    clear hlt HKM
    obtain ⟨SO, hSO⟩ : ∃ SO, SO = strOfNums (byL mN A n 1 a1 a3) := ⟨_, rfl⟩
    have HSO := Aside0.mk hSO
    have hcv : ∀ cap, (convert 31 9 (.slice (some ⟨g, A.toNat, none⟩) (m1.toNat - A.toNat) cap)).run Tryd.prog wr = .ok (.string SO) wr := fun cap => by
      rw [hSO, show m1.toNat - A.toNat = n.toNat by have h4 := HM1.out; have h5 := HN.out; have h6 := HAT.out; omega]
      refine run_convert_bytes_arg (w := wr) 31 5 Tryd.underlying31 Tryd.underlying5 g A.toNat n.toNat cap _ (byL_len mN A n 1 a1 a3 HAT.out.1 HN.out.1 HAT.out.2) (fun i hi => ?_) 9 Tryd.underlying9
      obtain ⟨_, _, _, hc, _, _⟩ := byte_at HRX.out ((A.toNat + i : Nat) : Int) (by omega) (by have h8 := HAT.out; omega)
      rw [Int.toNat_natCast, ← HLE.out, byL_cell mN A n 1 a1 a3 HAT.out.1 HN.out.1 HAT.out.2 i hi] at hc
      exact hc
    clear hSO
    have hBK := blk_below HK.out HBX.out
    have kB0 : wr.cell? ⟨gB, 0, none⟩ = some (.string S0) := blk_cell hBK 0
    have kB1 : wr.cell? ⟨gB, 1, none⟩ = some (.string S1) := blk_cell hBK 1
    have fB0 := blk_frozen hBK 0
    have fB1 := blk_frozen hBK 1
    have HBK := Aside0.mk hBK
    have HCP := Aside0.mk (Kd.R_reads' HRX.out).2.1
    have j0 := eq_true (show 0 ≤ A from HAT.out.1)
    have j1 := eq_true (show A ≤ m1 by have h4 := HM1.out; have h5 := HN.out; omega)
    have j2 := eq_true (show m1 ≤ (cp : Int) by have h4 := HM1.out; have h5 := HAT.out; have h6 := HCP.out; omega)
    have HBW := Aside0.mk (below_step HB.out HBX.out)
    have g0_ : ¬ cp ≤ A.toNat := by have h4 := HCP.out; have h5 := HMN.out; have h6 := HAT.out; have h7 := HN.out; omega
    have g1_ : ¬ cp = A.toNat := by omega
    have g2_ : ¬ A.toNat = cp := by omega
    have g3_ : ¬ cp - A.toNat = 0 := by omega
    clear hBK
    go_wp2
    go_roundw
    case rel => exact ⟨2, S0, SO, by first | with_reducible rfl | (simp; done) | decide, ⟨.inr (.inr ⟨rfl, HS0.out, HSO.out⟩)⟩, ⟨by have z_ := blk_set HBK.out 1 (.string SO); simpa using z_⟩, ⟨HBW.out.setCell HGB.out _⟩⟩
    case measure => first | decide | (simp [intOf]; done) | (simp [intOf, wrap64]; done)
  case inr.inr =>
    have HTURN := Aside0.mk (show ∀ i : Nat, i < S0.size → (i : Int) < n ∧ S1.size = n.toNat ∧ bt S0 (i : Int) = bt S1 (n - 1 - i) by rw [hs0, hs1]; exact byL_turn mN A n a1 a3 HAA.out.1 HN.out.1 (by have := HMN.out; omega) H3.out)
    have kB0 : wo.cell? ⟨gB, 0, none⟩ = some (.string S0) := blk_cell HK.out 0
    have HGK := Aside0.mk (show gB < wo.heap.size from blk_lt HK.out)
    have HS1 := Aside0.mk (show (S0.size : Int) < 9223372036854775807 from (by rw [hs0, strOfNums_size, byL_len mN A n 0 a1 a3 HAA.out.1 HN.out.1 (by have := HMN.out; omega)]; have := HN.out; omega))
    clear hs0 hs1
    go_wp2
    clear kB0
    go_loopw [18] (fun _ wr => ∃ pos : Nat, Aside0 (wr.heap[wo.heap.size]? = some (.stringIter S0 pos)) ∧ Aside0 (wr.heap[gB]? = some (.cells #[.string S0, .string S1] 43 (0, 0))) ∧ Aside0 (Below w.heap.size w wr)) (fun _ wr => S0.size + 1 - wr.iterPos wo.heap.size)
    case atStart => exact ⟨0, ⟨by have z_ := World.iter_heap wo S0 0; simpa using z_⟩, ⟨iter_far HK.out⟩, ⟨iter_below HB.out⟩⟩
    case round =>
    clear HK HB
    obtain ⟨pos, HIT, HK, HB⟩ := hrel
    by_cases hp : pos < S0.size
    case pos => as_aux_lemma =>
      have hnx := fun ty => Lib.run_next_any_at (P := Tryd.prog) wr wo.heap.size S0 pos ty HIT.out hp
      obtain ⟨t1, t2, t3⟩ := HTURN.out pos hp
      obtain ⟨ru, hru⟩ : ∃ ru, ru = (Utf8.decode S0 pos).1 := ⟨_, rfl⟩
      obtain ⟨wi, hwi⟩ : ∃ wi, wi = (Utf8.decode S0 pos).2 := ⟨_, rfl⟩
      rw [← hru, ← hwi] at hnx
      have HWI := Aside0.mk (show 1 ≤ wi from hwi ▸ dec_wid S0 pos)
      obtain ⟨w2, hw2⟩ : ∃ w2, w2 = wr.iterAt wo.heap.size S0 (pos + wi) := ⟨_, rfl⟩
      rw [← hw2] at hnx
      have HIT2 := Aside0.mk (show w2.heap[wo.heap.size]? = some (.stringIter S0 (pos + wi)) by rw [hw2]; exact Lib.iterAt_heap wr wo.heap.size S0 pos (pos + wi) HIT.out)
      have hk2 : w2.heap[gB]? = some (.cells #[.string S0, .string S1] 43 (0, 0)) := by rw [hw2, Lib.iterAt_other wr wo.heap.size gB S0 (pos + wi) (by have := HGK.out; omega)]; exact HK.out
      have HK2 := Aside0.mk hk2
      have HB2 := Aside0.mk (show Below w.heap.size w w2 by rw [hw2]; exact Lib.below_iterAt HB.out (by have h1 := HGB.out; have h2 := HGK.out; omega) S0 (pos + wi))
      have kB0 : w2.cell? ⟨gB, 0, none⟩ = some (.string S0) := blk_cell hk2 0
      have kB1 : w2.cell? ⟨gB, 1, none⟩ = some (.string S1) := blk_cell hk2 1
      have kD0 : w2.drew.cell? ⟨gB, 0, none⟩ = some (.string S0) := kB0
      have kD1 : w2.drew.cell? ⟨gB, 1, none⟩ = some (.string S1) := kB1
      obtain ⟨y, hy⟩ : ∃ y : Int, y = (pos : Int) := ⟨_, rfl⟩
      rw [← hy] at hnx t1 t3
      have i0 := eq_true (show 0 ≤ y by omega)
      have i1 := eq_true (show y < (S0.size : Int) by omega)
      obtain ⟨q1, hq1⟩ : ∃ q1, wrap64 (n - 1) = q1 := ⟨_, rfl⟩
      have hq1b : q1 = n - 1 := by rw [← hq1]; have := HN.out; unfold wrap64; omega
      obtain ⟨q2, hq2⟩ : ∃ q2, wrap64 (q1 - y) = q2 := ⟨_, rfl⟩
      have hq2b : q2 = n - 1 - y := by rw [← hq2, hq1b]; have := HN.out; unfold wrap64; omega
      have hq1c : IntKind.i64.wrap (n - 1) = q1 := by rw [IntKind.wrap_i64, hq1b]; have := HN.out; omega
      have hq2c : IntKind.i64.wrap (q1 - y) = q2 := by rw [IntKind.wrap_i64, hq2b, hq1b]; have := HN.out; omega
      rw [← hq2b] at t3
      have i2 := eq_true (show 0 ≤ q2 by omega)
      have i3 := eq_true (show q2 < (S1.size : Int) by rw [t2]; omega)
      have hx0 := bt_at S0 y
      have hx1 := bt_at S1 q2
      rw [← t3] at hx1
      generalize bt S0 y = b at hx0 hx1
      have HPS := Aside0.mk hp
      clear t1 t2 t3 hru hwi hw2 hk2 hy hq1b hq2b hp
      go_upto_region 37 with (fail)
      go_still (by kernel_rfl)
      go_wp2
      go_roundw
      case rel => exact ⟨pos + wi, ⟨by first | exact HIT2.out | exact blk_drN HIT2.out _⟩, ⟨by first | exact HK2.out | exact blk_drN HK2.out _⟩, ⟨by first | exact HB2.out | exact below_drew HB2.out | exact pw_below_drewN HB2.out _⟩⟩
      case measure =>
        first | rw [iterPos_ofB HIT2.out, iterPos_ofB HIT.out] | (show _ - World.iterPos w2 _ < _; rw [iterPos_ofB HIT2.out, iterPos_ofB HIT.out])
        have h1 := HWI.out
        have h2 := HPS.out
        omega
    case neg =>
    have hnx := fun ty => Lib.run_next_end_at (P := Tryd.prog) wr wo.heap.size S0 pos ty HIT.out hp
    clear hp HIT HK HTURN
    obtain ⟨wp, hw_⟩ : ∃ y, y = wr := ⟨_, rfl⟩
    subst hw_
    have HTO := Aside0.mk (tab_below HT.out HB.out)
    have HBX := Aside0.mk (Below.refl wp.heap.size wp)
    go_wp2_with (first | ((with_reducible refine gate_dst (N := 144) rfl ?_); refine Kd.R_make (Kd.int .u8) (w0 := wp) (ok := fun _ => True) (okp := fun _ => False) wp.heap.size 5 rfl (N := 144) rfl 31 _ _ rfl 8 rfl rfl Tryd.underlying31 (.int .u8 0) 1 info5 rfl (by decide) (by decide) 0 (show Kd.M (Kd.int .u8) _ _ _ 0 [.int .u8 0] from rfl) (fun _ h => h.elim) trivial (by omega) (by decide) (by repeat (first | (with_reducible first | exact HBX.out | apply below_alloc | apply pw_below_drewN | apply below_drew1) | exact HBX.out)) (below_size (by repeat (first | (with_reducible first | exact HBX.out | apply below_alloc | apply pw_below_drewN | apply below_drew1) | exact HBX.out))) ?_; intro vb wb2 ho_ hb_ hg_ hnew_; clear hg_ hnew_; have HRX := Aside0.mk ho_; have n0_ := Aside0.mk hb_; clear HBX ho_ hb_; have HBX := n0_; clear n0_; have HRX := Aside0.mk (show Kd.R (Kd.int .u8) 5 wb2 wp.heap.size (fun _ => True) vb (List.replicate 8 0) from HRX.out); obtain ⟨g, cp, rfl, hgw⟩ := row_form HRX.out 8 List.length_replicate (by decide); have HGW := Aside0.mk hgw; clear hgw))
    go_loopw [147] (fun v wr => ∃ (k : Nat) (y : Int) (ys : List Int), v = .int .i64 y ∧ Aside0 (y = (k : Int) ∧ k ≤ 8) ∧ Aside0 (ys.length = 8 ∧ ∀ z ∈ ys, 0 ≤ z ∧ z ≤ 255) ∧ Aside0 (Kd.R (Kd.int .u8) 5 wr wp.heap.size (fun _ => True) (.slice (some ⟨g, 0, none⟩) 8 cp) (ys)) ∧ Aside0 (Below wp.heap.size wp wr)) (fun v _ => 8 + 1 - (intOf v).toNat)
    case atStart => exact ⟨0, 0, _, rfl, ⟨rfl, Nat.zero_le _⟩, ⟨List.length_replicate, fun z hz => by rw [List.eq_of_mem_replicate hz]; decide⟩, HRX, HBX⟩
    case round =>
    clear HRX HBX
    obtain ⟨k, y, ys, rfl, HKM, HYS, HRX, HBX⟩ := hrel
    by_cases hlt : k < 8
    case pos => as_aux_lemma =>
      have hyk := HKM.out.1
      have i1' : y < 8 := by omega
      have d0 : decide (y < 8) = true := decide_eq_true i1'
      have i0 := eq_true (show 0 ≤ y by omega)
      have i1 := eq_true i1'
      obtain ⟨hn_, hb_, hl_, hc, hfz, hput⟩ := byte_at HRX.out y (by omega) (by omega)
      clear hn_ hb_ hl_
      generalize ys.getD y.toNat 0 = old at hc
      obtain ⟨v0, hv0⟩ : ∃ v0, IntKind.u8.wrap y = v0 := ⟨_, rfl⟩
      obtain ⟨v1, hv1⟩ : ∃ v1, IntKind.u8.wrap (v0 * 37) = v1 := ⟨_, rfl⟩
      obtain ⟨v2, hv2⟩ : ∃ v2, IntKind.u8.wrap (a3 + v1) = v2 := ⟨_, rfl⟩
      have hr2 : 0 ≤ v2 ∧ v2 ≤ 255 := by rw [← hv2, IntKind.wrap_u8]; omega
      have hv0' := hv0
      have hv1' := hv1
      have hv2' := hv2
      rw [IntKind.wrap_u8] at hv0' hv1' hv2'
      have HPUT := Aside0.mk (hput v2)
      have HYS2 := Aside0.mk (show (ys.set y.toNat v2).length = 8 ∧ ∀ z ∈ ys.set y.toNat v2, 0 ≤ z ∧ z ≤ 255 from ⟨by rw [List.length_set]; exact HYS.out.1, fun z hz => (List.mem_or_eq_of_mem_set hz).elim (HYS.out.2 z) (fun e => e ▸ hr2)⟩)
      have HWK := Aside0.mk (show wrap64 (y + 1) = y + 1 by unfold wrap64; omega)
      have HK1 := Aside0.mk (show y + 1 = ((k + 1 : Nat) : Int) ∧ k + 1 ≤ 8 ∧ 0 ≤ y ∧ y < ((8 : Nat) : Int) by omega)
      have HGW2 := Aside0.mk (show wp.heap.size ≤ g from HGW.out)
      clear hput hlt hyk i1' hr2
      go_wp2
      go_roundw
      case rel => exact ⟨k + 1, y + 1, _, by first | with_reducible rfl | rw [HWK.out], ⟨HK1.out.1, HK1.out.2.1⟩, HYS2, HPUT, ⟨HBX.out.setCell HGW2.out _⟩⟩
      case measure => exact measN _ y _ HK1.out.2.2.1 HK1.out.2.2.2 (by first | exact HWK.out | rfl)
    case neg =>
    have d0 : decide (y < 8) = false := decide_eq_false (by have := HKM.out; omega)
    clear hlt HKM
    obtain ⟨acc, hacc⟩ : ∃ acc, acc = gAcc (fun k : Nat => ys.getD (0 + plc n 0 (k : Int)).toNat 0) n.toNat := ⟨_, rfl⟩
    obtain ⟨rr, hr1, hr2, hr3⟩ := TA.out acc _ (fun j => by
      rw [List.getD_eq_getElem?_getD]
      cases h : ys[(0 + plc n 0 (j : Int)).toNat]? with
      | none => exact ⟨by decide, by decide⟩
      | some z => exact HYS.out.2 z (List.mem_of_getElem? h)) hacc
    have T21 := Aside0.mk (prim_Get.ok wr (tab_below HTO.out HBX.out) wp.heap.size g 8 cp 8 cp ys HRX.out (Nat.le_refl _) HYS.out.2 0 a0 0 n sg fl nu mi ma HP.out HZ.out (.inl rfl) ⟨by decide, by have := HZ.out; omega⟩ (by decide) acc rr hacc hr1)
    have T8 := Aside0.mk (fun (W : World) (hW : Tab W) => prim_Fits.calls a0 rr true W hr2 hW)
    have T7 := Aside0.mk (fun (W : World) (hW : Tab W) => prim_Compare.calls 2 a0 rr rr 0 W hr3 hW)
    clear hacc hr1 hr2 hr3
    go_wp2_with (first | (go_at_call 21; (with_reducible refine T21.out.mono ?_); rintro e_ w21 ⟨rfl, hb_⟩; have n0_ := Aside0.mk (below_step HBX.out hb_); clear HBX hb_; have HBX := n0_; clear n0_) | (go_at_call 8; (with_reducible refine (T8.out _ (tab_below HTO.out (by repeat (first | (with_reducible first | exact HBX.out | apply below_alloc | apply pw_below_drewN | apply below_drew1) | exact HBX.out)))).mono ?_); rintro e_ w8 ⟨rfl, hb_⟩; have n0_ := Aside0.mk (below_step (by repeat (first | (with_reducible first | exact HBX.out | apply below_alloc | apply pw_below_drewN | apply below_drew1) | exact HBX.out)) hb_); clear HBX hb_; have HBX := n0_; clear n0_) | (go_at_call 7; (with_reducible refine (T7.out _ (tab_below HTO.out (by repeat (first | (with_reducible first | exact HBX.out | apply below_alloc | apply pw_below_drewN | apply below_drew1) | exact HBX.out)))).mono ?_); rintro e_ w7 ⟨rfl, hb_⟩; have n0_ := Aside0.mk (below_step (by repeat (first | (with_reducible first | exact HBX.out | apply below_alloc | apply pw_below_drewN | apply below_drew1) | exact HBX.out)) hb_); clear HBX hb_; have HBX := n0_; clear n0_))
    go_ret
    exact ⟨rfl, below_step HB.out (by repeat (first | (with_reducible first | exact HBX.out | apply below_alloc | apply pw_below_drewN | apply below_drew1) | exact HBX.out))⟩
set_option maxHeartbeats 8000000 in
set_option maxRecDepth 100000 in
theorem PrimBack.zero (a0 a1 a2 a3 : Int) (w : World) (hT0 : Tab w) (h1 : 0 ≤ a1 ∧ a1 < 18446744073709551616) (h2 : -9223372036854775808 ≤ a2 ∧ a2 ≤ 9223372036854775807) (h3 : 0 ≤ a3 ∧ a3 ≤ 255) (n : Int) (sg fl : Bool) (nu mi ma : Int) (hp : primRow a0 = (n, sg, fl, nu, mi, ma)) (hz0 : n = 0) :
    Calls Tryd.prog 6 #[.int .i64 a0, .int .u64 a1, .int .i64 a2, .int .u8 a3] w fun e w' => e = .returned (.bool true) ∧ Below w.heap.size w w' := by
  have HT := Aside0.mk hT0
  have HP := Aside0.mk hp
  have H1 := Aside0.mk h1
  have H3 := Aside0.mk h3
  have T9 := Aside0.mk (fun (W : World) (hW : Tab W) => prim_Size.calls a0 n W (size_eq a0 n sg fl nu mi ma hp) hW)
  have T96 := Aside0.mk (fun (W : World) (hW : Tab W) => prim_Size.calls 6 2 W (by decide +kernel) hW)
  have T86 := Aside0.mk (fun (W : World) (hW : Tab W) => prim_Fits.calls 6 513 true W (by decide +kernel) hW)
  obtain ⟨r, hr⟩ : ∃ r : Int, a2.tmod 9 = r := ⟨_, rfl⟩
  have HRR := Aside0.mk (show -9 < r ∧ r < 9 by rw [← hr]; have e1 := Int.tmod_lt_of_pos a2 (show (0 : Int) < 9 by decide); have e2 := Int.lt_tmod_of_pos a2 (show (0 : Int) < 9 by decide); omega)
  have HZ0 := Aside0.mk hz0
  have HN := Aside0.mk (show 0 ≤ n ∧ n ≤ 8 by omega)
  have bn0 : (n == 0) = true := beq_iff_eq.mpr hz0
  have dn0 : decide (0 < n) = false := decide_eq_false (by omega)
  have T8 := Aside0.mk (fun (W : World) (hW : Tab W) => prim_Fits.calls 6 513 true W (by decide +kernel) hW)
  have HB := Aside0.mk (Below.refl w.heap.size w)
  clear hT0 h1 h2 h3 hp hz0
  have tk1 : Aside0 True := ⟨trivial⟩
  go_enter Tryd.func6, Tryd.ntmps6
  go_upto_if 34 with (first | (go_at_call 9; clear tk1; have tk2 : Aside0 True := ⟨trivial⟩; (with_reducible refine (T9.out _ (tab_below HT.out (by repeat (first | (with_reducible first | exact HB.out | apply below_alloc | apply pw_below_drewN | apply below_drew1 | refine below_set ?_ HGB.out) | exact HB.out)))).mono ?_); rintro e_ w_ ⟨rfl, hb_⟩; have n0_ := Aside0.mk (below_step (by repeat (first | (with_reducible first | exact HB.out | apply below_alloc | apply pw_below_drewN | apply below_drew1 | refine below_set ?_ HGB.out) | exact HB.out)) hb_); clear HB hb_; have HB := n0_; clear n0_) | (go_at_call 9; clear tk2; (with_reducible refine (T96.out _ (tab_below HT.out (by repeat (first | (with_reducible first | exact HB.out | apply below_alloc | apply pw_below_drewN | apply below_drew1 | refine below_set ?_ HGB.out) | exact HB.out)))).mono ?_); rintro e_ w_ ⟨rfl, hb_⟩; have n0_ := Aside0.mk (below_step (by repeat (first | (with_reducible first | exact HB.out | apply below_alloc | apply pw_below_drewN | apply below_drew1 | refine below_set ?_ HGB.out) | exact HB.out)) hb_); clear HB hb_; have HB := n0_; clear n0_) | (go_at_call 8; (with_reducible refine (T86.out _ (tab_below HT.out (by repeat (first | (with_reducible first | exact HB.out | apply below_alloc | apply pw_below_drewN | apply below_drew1 | refine below_set ?_ HGB.out) | exact HB.out)))).mono ?_); rintro e_ w_ ⟨rfl, hb_⟩; have n0_ := Aside0.mk (below_step (by repeat (first | (with_reducible first | exact HB.out | apply below_alloc | apply pw_below_drewN | apply below_drew1 | refine below_set ?_ HGB.out) | exact HB.out)) hb_); clear HB hb_; have HB := n0_; clear n0_))
  clear hr
  go_cut [2] (fun v wc => ∃ A : Int, v = .int .i64 A ∧ Aside0 (0 ≤ A ∧ A ≤ 8) ∧ Aside0 (Below w.heap.size w wc))
  case first => as_aux_lemma =>
    by_cases c : r < 0
    · have d_ : decide (r < 0) = true := decide_eq_true c
      rw [d_]
      have hw_ : wrap64 (-r) = -r := by have := HRR.out; unfold wrap64; omega
      have HAA := Aside0.mk (show 0 ≤ -r ∧ -r ≤ 8 by have := HRR.out; omega)
      clear c
      go_wp2
      go_meet
      case rel => exact ⟨-r, by first | with_reducible rfl | rw [hw_], HAA, ⟨(by repeat (first | (with_reducible first | exact HB.out | apply below_alloc | apply pw_below_drewN | apply below_drew1 | refine below_set ?_ HGB.out) | exact HB.out))⟩⟩
    · have d_ : decide (r < 0) = false := decide_eq_false c
      rw [d_]
      have HAA := Aside0.mk (show 0 ≤ r ∧ r ≤ 8 by have := HRR.out; omega)
      clear c
      go_wp2
      go_meet
      case rel => exact ⟨r, rfl, HAA, ⟨(by repeat (first | (with_reducible first | exact HB.out | apply below_alloc | apply pw_below_drewN | apply below_drew1 | refine below_set ?_ HGB.out) | exact HB.out))⟩⟩
  obtain ⟨A, rfl, HAA, HB'⟩ := hcut
  clear HB
  have HB := HB'
  clear HB'
  obtain ⟨wd, hw_⟩ : ∃ x, x = wc := ⟨_, rfl⟩
  subst hw_
  obtain ⟨mN, hmN⟩ : ∃ mN : Nat, mN = (A + n + 3).toNat := ⟨_, rfl⟩
  obtain ⟨m1, hm1⟩ : ∃ m1 : Int, wrap64 (A + n) = m1 := ⟨_, rfl⟩
  have HM1 := Aside0.mk (show m1 = A + n by rw [← hm1]; have h4 := HAA.out; have h5 := HN.out; unfold wrap64; omega)
  have hm2 : wrap64 (m1 + 3) = (mN : Int) := by rw [HM1.out, hmN]; have h4 := HAA.out; have h5 := HN.out; unfold wrap64; omega
  have HM2 := Aside0.mk hm2
  have HMN := Aside0.mk (show (mN : Int) = A + n + 3 by rw [hmN]; have h4 := HAA.out; have h5 := HN.out; omega)
  clear hmN
  go_wp2_with (first | ((with_reducible refine gate_dst (N := 10) rfl ?_); refine box_event ?hg (N := 10) ?hd (cs := #[.string ByteArray.empty, .string ByteArray.empty]) (t := 43) ?hr ?_; (case hd => rfl); (case hg => rfl); (case hr => first | (go_simp; done) | (go_simp; rfl)); intro gB hgx wb hbox hbw; have HGB := Aside0.mk (show w.heap.size ≤ gB from hgx ▸ below_size HB.out); have n0_ := Aside0.mk (below_step HB.out hbw); clear HB; have HB := n0_; clear n0_; have HK := Aside0.mk hbox; clear hgx hbox hbw))
  go_loopw [11] (fun v wr => ∃ (x : Int) (S0 S1 : ByteArray), v = .int .i64 x ∧ Aside0 ((x = 0 ∨ x = 1 ∨ x = 2) ∧ S0 = ByteArray.empty ∧ S1 = ByteArray.empty) ∧ Aside0 (wr.heap[gB]? = some (.cells #[.string S0, .string S1] 43 (0, 0))) ∧ Aside0 (Below w.heap.size w wr)) (fun v _ => 3 - (intOf v).toNat)
  case atStart => exact ⟨0, _, _, rfl, ⟨⟨.inl rfl, rfl, rfl⟩⟩, HK, HB⟩
  case round =>
  clear HK HB
  obtain ⟨x, S0, S1, rfl, HX, HK, HB⟩ := hrel
  obtain ⟨wo, hw_⟩ : ∃ y, y = wr := ⟨_, rfl⟩
  subst hw_
  rcases HX.out with ⟨rfl | rfl | rfl, hs0, hs1⟩
  case inl => as_aux_lemma =>
    have hs_ := Aside0.mk (And.intro hs0 hs1)
    clear hs0 hs1
    have HMP := Aside0.mk (show 0 < mN by have h4 := HAA.out; have h5 := HN.out; have h6 := HMN.out; omega)
    have HTO := Aside0.mk (tab_below HT.out HB.out)
    have HBX := Aside0.mk (Below.refl wo.heap.size wo)
    have HML := Aside0.mk (show ((mN : Int)).toNat * 1 ≤ 281474976710656 by have h4 := HAA.out; have h5 := HN.out; have h6 := HMN.out; omega)
    go_wp2_with (first | ((with_reducible refine gate_dst (N := 45) rfl ?_); refine Kd.R_make (Kd.int .u8) (w0 := wo) (ok := fun _ => True) (okp := fun _ => False) wo.heap.size 5 rfl (N := 45) rfl 31 _ _ rfl (mN : Int) (congrArg (Value.int .i64) HM2.out) (congrArg (Value.int .i64) HM2.out) Tryd.underlying31 (.int .u8 0) 1 info5 rfl (by decide) (by decide) 0 (show Kd.M (Kd.int .u8) _ _ _ 0 [.int .u8 0] from rfl) (fun _ h => h.elim) trivial (by omega) HML.out (by repeat (first | (with_reducible first | exact HBX.out | apply below_alloc | apply pw_below_drewN | apply below_drew1) | exact HBX.out)) (below_size (by repeat (first | (with_reducible first | exact HBX.out | apply below_alloc | apply pw_below_drewN | apply below_drew1) | exact HBX.out))) ?_; intro vb wb2 ho_ hb_ hg_ hnew_; clear hg_ hnew_; have HRX := Aside0.mk ho_; have n0_ := Aside0.mk hb_; clear HBX ho_ hb_; have HBX := n0_; clear n0_; rw [Int.toNat_natCast] at HRX; obtain ⟨g, cp, rfl, hgw⟩ := row_form HRX.out mN List.length_replicate HMP.out; have HGW := Aside0.mk hgw; clear hgw))
    go_loopw [48] (fun v wr => ∃ (k : Nat) (y : Int), v = .int .i64 y ∧ Aside0 (y = (k : Int) ∧ k ≤ mN) ∧ Aside0 (Kd.R (Kd.int .u8) 5 wr wo.heap.size (fun _ => True) (.slice (some ⟨g, 0, none⟩) mN cp) (List.replicate k a3 ++ (List.replicate mN 0).drop k)) ∧ Aside0 (Below wo.heap.size wo wr)) (fun v _ => mN + 1 - (intOf v).toNat)
    case atStart => exact ⟨0, 0, rfl, ⟨rfl, Nat.zero_le _⟩, ⟨by rw [List.drop_zero, List.replicate_zero, List.nil_append]; exact HRX.out⟩, HBX⟩
    case round =>
    clear HRX HBX
    obtain ⟨k, y, rfl, HKM, HRX, HBX⟩ := hrel
    by_cases hlt : k < mN
    case pos => as_aux_lemma =>
      have hyk := HKM.out.1
      have i1' : y < (mN : Int) := by omega
      have d0 : decide (y < (mN : Int)) = true := decide_eq_true i1'
      have i0 := eq_true (show 0 ≤ y by omega)
      have i1 := eq_true i1'
      obtain ⟨hn_, hb_, hl_, hc, hfz, hput⟩ := byte_at HRX.out y (by omega) i1'
      clear hn_ hb_ hl_
      generalize (List.replicate k a3 ++ (List.replicate mN 0).drop k).getD y.toNat 0 = old at hc
      have HPUT := Aside0.mk (hput a3)
      have hset : (List.replicate k a3 ++ (List.replicate mN (0 : Int)).drop k).set y.toNat a3 = List.replicate (k + 1) a3 ++ (List.replicate mN (0 : Int)).drop (k + 1) := by
        rw [show y.toNat = k by omega]
        exact reps_set8 _ a3 k (by rw [List.length_replicate]; exact hlt)
      rw [hset] at HPUT
      clear hset
      have HWK := Aside0.mk (show wrap64 (y + 1) = y + 1 by have h4 := HAA.out; have h5 := HN.out; have h6 := HMN.out; unfold wrap64; omega)
      have HK1 := Aside0.mk (show y + 1 = ((k + 1 : Nat) : Int) ∧ k + 1 ≤ mN ∧ 0 ≤ y ∧ y < (mN : Int) by omega)
      have HGW2 := Aside0.mk (show wo.heap.size ≤ g from HGW.out)
      clear hput hlt hyk i1'
      go_wp2
      go_roundw
      case rel => exact ⟨k + 1, y + 1, by first | with_reducible rfl | rw [HWK.out], ⟨HK1.out.1, HK1.out.2.1⟩, HPUT, ⟨HBX.out.setCell HGW2.out _⟩⟩
      case measure => exact measN _ y _ HK1.out.2.2.1 HK1.out.2.2.2 (by first | exact HWK.out | rfl)
    case neg =>
    have d0 : decide (y < (mN : Int)) = false := decide_eq_false (by have := HKM.out; omega)
    have hk_ : mN = k := by have := HKM.out; omega
    subst hk_
    have hrow : List.replicate mN a3 ++ (List.replicate mN (0 : Int)).drop mN = List.replicate mN a3 := by rw [List.drop_of_length_le (by rw [List.length_replicate]; exact Nat.le_refl _), List.append_nil]
    rw [hrow] at HRX
    clear hlt hrow HKM HML
    have T25 := Aside0.mk (fun (W : World) (hW : Tab W) => prim_Put.zero W hW (.slice (some ⟨g, 0, none⟩) mN cp) A a0 0 a1 n sg fl nu mi ma HP.out HZ0.out)
    go_wp2_with (first | (go_at_call 25; (with_reducible refine (T25.out _ (tab_below HTO.out (by repeat (first | (with_reducible first | exact HBX.out | apply below_alloc | apply pw_below_drewN | apply below_drew1) | exact HBX.out)))).mono ?_); rintro e_ w25 ⟨rfl, hb_⟩; have n0_ := Aside0.mk (below_step (by repeat (first | (with_reducible first | exact HBX.out | apply below_alloc | apply pw_below_drewN | apply below_drew1) | exact HBX.out)) hb_); clear HBX hb_; have HBX := n0_; clear n0_) | (go_at_call 8; (with_reducible refine (T8.out _ (tab_below HTO.out (by repeat (first | (with_reducible first | exact HBX.out | apply below_alloc | apply pw_below_drewN | apply below_drew1) | exact HBX.out)))).mono ?_); rintro e_ w8 ⟨rfl, hb_⟩; have n0_ := Aside0.mk (below_step (by repeat (first | (with_reducible first | exact HBX.out | apply below_alloc | apply pw_below_drewN | apply below_drew1) | exact HBX.out)) hb_); clear HBX hb_; have HBX := n0_; clear n0_))
    go_roundw
    case rel => exact ⟨1, S0, S1, by first | with_reducible rfl | (simp; done) | decide, ⟨.inr (.inl rfl), hs_.out.1, hs_.out.2⟩, ⟨blk_below HK.out (by repeat (first | (with_reducible first | exact HBX.out | apply below_alloc | apply pw_below_drewN | apply below_drew1) | exact HBX.out))⟩, ⟨below_step HB.out (by repeat (first | (with_reducible first | exact HBX.out | apply below_alloc | apply pw_below_drewN | apply below_drew1) | exact HBX.out))⟩⟩
    case measure => first | decide | (simp [intOf]; done) | (simp [intOf, wrap64]; done)
  case inr.inl => as_aux_lemma =>
    have hs_ := Aside0.mk (And.intro hs0 hs1)
    clear hs0 hs1
    have HMP := Aside0.mk (show 0 < mN by have h4 := HAA.out; have h5 := HN.out; have h6 := HMN.out; omega)
    have HTO := Aside0.mk (tab_below HT.out HB.out)
    have HBX := Aside0.mk (Below.refl wo.heap.size wo)
    have HML := Aside0.mk (show ((mN : Int)).toNat * 1 ≤ 281474976710656 by have h4 := HAA.out; have h5 := HN.out; have h6 := HMN.out; omega)
    go_wp2_with (first | ((with_reducible refine gate_dst (N := 45) rfl ?_); refine Kd.R_make (Kd.int .u8) (w0 := wo) (ok := fun _ => True) (okp := fun _ => False) wo.heap.size 5 rfl (N := 45) rfl 31 _ _ rfl (mN : Int) (congrArg (Value.int .i64) HM2.out) (congrArg (Value.int .i64) HM2.out) Tryd.underlying31 (.int .u8 0) 1 info5 rfl (by decide) (by decide) 0 (show Kd.M (Kd.int .u8) _ _ _ 0 [.int .u8 0] from rfl) (fun _ h => h.elim) trivial (by omega) HML.out (by repeat (first | (with_reducible first | exact HBX.out | apply below_alloc | apply pw_below_drewN | apply below_drew1) | exact HBX.out)) (below_size (by repeat (first | (with_reducible first | exact HBX.out | apply below_alloc | apply pw_below_drewN | apply below_drew1) | exact HBX.out))) ?_; intro vb wb2 ho_ hb_ hg_ hnew_; clear hg_ hnew_; have HRX := Aside0.mk ho_; have n0_ := Aside0.mk hb_; clear HBX ho_ hb_; have HBX := n0_; clear n0_; rw [Int.toNat_natCast] at HRX; obtain ⟨g, cp, rfl, hgw⟩ := row_form HRX.out mN List.length_replicate HMP.out; have HGW := Aside0.mk hgw; clear hgw))
    go_loopw [48] (fun v wr => ∃ (k : Nat) (y : Int), v = .int .i64 y ∧ Aside0 (y = (k : Int) ∧ k ≤ mN) ∧ Aside0 (Kd.R (Kd.int .u8) 5 wr wo.heap.size (fun _ => True) (.slice (some ⟨g, 0, none⟩) mN cp) (List.replicate k a3 ++ (List.replicate mN 0).drop k)) ∧ Aside0 (Below wo.heap.size wo wr)) (fun v _ => mN + 1 - (intOf v).toNat)
    case atStart => exact ⟨0, 0, rfl, ⟨rfl, Nat.zero_le _⟩, ⟨by rw [List.drop_zero, List.replicate_zero, List.nil_append]; exact HRX.out⟩, HBX⟩
    case round =>
    clear HRX HBX
    obtain ⟨k, y, rfl, HKM, HRX, HBX⟩ := hrel
    by_cases hlt : k < mN
    case pos => as_aux_lemma =>
      have hyk := HKM.out.1
      have i1' : y < (mN : Int) := by omega
      have d0 : decide (y < (mN : Int)) = true := decide_eq_true i1'
      have i0 := eq_true (show 0 ≤ y by omega)
      have i1 := eq_true i1'
      obtain ⟨hn_, hb_, hl_, hc, hfz, hput⟩ := byte_at HRX.out y (by omega) i1'
      clear hn_ hb_ hl_
      generalize (List.replicate k a3 ++ (List.replicate mN 0).drop k).getD y.toNat 0 = old at hc
      have HPUT := Aside0.mk (hput a3)
      have hset : (List.replicate k a3 ++ (List.replicate mN (0 : Int)).drop k).set y.toNat a3 = List.replicate (k + 1) a3 ++ (List.replicate mN (0 : Int)).drop (k + 1) := by
        rw [show y.toNat = k by omega]
        exact reps_set8 _ a3 k (by rw [List.length_replicate]; exact hlt)
      rw [hset] at HPUT
      clear hset
      have HWK := Aside0.mk (show wrap64 (y + 1) = y + 1 by have h4 := HAA.out; have h5 := HN.out; have h6 := HMN.out; unfold wrap64; omega)
      have HK1 := Aside0.mk (show y + 1 = ((k + 1 : Nat) : Int) ∧ k + 1 ≤ mN ∧ 0 ≤ y ∧ y < (mN : Int) by omega)
      have HGW2 := Aside0.mk (show wo.heap.size ≤ g from HGW.out)
      clear hput hlt hyk i1'
      go_wp2
      go_roundw
      case rel => exact ⟨k + 1, y + 1, by first | with_reducible rfl | rw [HWK.out], ⟨HK1.out.1, HK1.out.2.1⟩, HPUT, ⟨HBX.out.setCell HGW2.out _⟩⟩
      case measure => exact measN _ y _ HK1.out.2.2.1 HK1.out.2.2.2 (by first | exact HWK.out | rfl)
    case neg =>
    have d0 : decide (y < (mN : Int)) = false := decide_eq_false (by have := HKM.out; omega)
    have hk_ : mN = k := by have := HKM.out; omega
    subst hk_
    have hrow : List.replicate mN a3 ++ (List.replicate mN (0 : Int)).drop mN = List.replicate mN a3 := by rw [List.drop_of_length_le (by rw [List.length_replicate]; exact Nat.le_refl _), List.append_nil]
    rw [hrow] at HRX
    clear hlt hrow HKM HML
    have T25 := Aside0.mk (fun (W : World) (hW : Tab W) => prim_Put.zero W hW (.slice (some ⟨g, 0, none⟩) mN cp) A a0 1 a1 n sg fl nu mi ma HP.out HZ0.out)
    go_wp2_with (first | (go_at_call 25; (with_reducible refine (T25.out _ (tab_below HTO.out (by repeat (first | (with_reducible first | exact HBX.out | apply below_alloc | apply pw_below_drewN | apply below_drew1) | exact HBX.out)))).mono ?_); rintro e_ w25 ⟨rfl, hb_⟩; have n0_ := Aside0.mk (below_step (by repeat (first | (with_reducible first | exact HBX.out | apply below_alloc | apply pw_below_drewN | apply below_drew1) | exact HBX.out)) hb_); clear HBX hb_; have HBX := n0_; clear n0_) | (go_at_call 8; (with_reducible refine (T8.out _ (tab_below HTO.out (by repeat (first | (with_reducible first | exact HBX.out | apply below_alloc | apply pw_below_drewN | apply below_drew1) | exact HBX.out)))).mono ?_); rintro e_ w8 ⟨rfl, hb_⟩; have n0_ := Aside0.mk (below_step (by repeat (first | (with_reducible first | exact HBX.out | apply below_alloc | apply pw_below_drewN | apply below_drew1) | exact HBX.out)) hb_); clear HBX hb_; have HBX := n0_; clear n0_))
    go_roundw
    case rel => exact ⟨2, S0, S1, by first | with_reducible rfl | (simp; done) | decide, ⟨.inr (.inr rfl), hs_.out.1, hs_.out.2⟩, ⟨blk_below HK.out (by repeat (first | (with_reducible first | exact HBX.out | apply below_alloc | apply pw_below_drewN | apply below_drew1) | exact HBX.out))⟩, ⟨below_step HB.out (by repeat (first | (with_reducible first | exact HBX.out | apply below_alloc | apply pw_below_drewN | apply below_drew1) | exact HBX.out))⟩⟩
    case measure => first | decide | (simp [intOf]; done) | (simp [intOf, wrap64]; done)
  case inr.inr =>
    have HTURN := Aside0.mk (show ∀ i : Nat, i < S0.size → (i : Int) < n ∧ S1.size = n.toNat ∧ bt S0 (i : Int) = bt S1 (n - 1 - i) by rw [hs0]; intro i hi; exact absurd hi (by simp))
    have kB0 : wo.cell? ⟨gB, 0, none⟩ = some (.string S0) := blk_cell HK.out 0
    have HGK := Aside0.mk (show gB < wo.heap.size from blk_lt HK.out)
    have HS1 := Aside0.mk (show (S0.size : Int) < 9223372036854775807 from (by rw [hs0]; decide))
    clear hs0 hs1
    go_wp2
    clear kB0
    go_loopw [18] (fun _ wr => ∃ pos : Nat, Aside0 (wr.heap[wo.heap.size]? = some (.stringIter S0 pos)) ∧ Aside0 (wr.heap[gB]? = some (.cells #[.string S0, .string S1] 43 (0, 0))) ∧ Aside0 (Below w.heap.size w wr)) (fun _ wr => S0.size + 1 - wr.iterPos wo.heap.size)
    case atStart => exact ⟨0, ⟨by have z_ := World.iter_heap wo S0 0; simpa using z_⟩, ⟨iter_far HK.out⟩, ⟨iter_below HB.out⟩⟩
    case round =>
    clear HK HB
    obtain ⟨pos, HIT, HK, HB⟩ := hrel
    by_cases hp : pos < S0.size
    case pos => as_aux_lemma =>
      have hnx := fun ty => Lib.run_next_any_at (P := Tryd.prog) wr wo.heap.size S0 pos ty HIT.out hp
      obtain ⟨t1, t2, t3⟩ := HTURN.out pos hp
      obtain ⟨ru, hru⟩ : ∃ ru, ru = (Utf8.decode S0 pos).1 := ⟨_, rfl⟩
      obtain ⟨wi, hwi⟩ : ∃ wi, wi = (Utf8.decode S0 pos).2 := ⟨_, rfl⟩
      rw [← hru, ← hwi] at hnx
      have HWI := Aside0.mk (show 1 ≤ wi from hwi ▸ dec_wid S0 pos)
      obtain ⟨w2, hw2⟩ : ∃ w2, w2 = wr.iterAt wo.heap.size S0 (pos + wi) := ⟨_, rfl⟩
      rw [← hw2] at hnx
      have HIT2 := Aside0.mk (show w2.heap[wo.heap.size]? = some (.stringIter S0 (pos + wi)) by rw [hw2]; exact Lib.iterAt_heap wr wo.heap.size S0 pos (pos + wi) HIT.out)
      have hk2 : w2.heap[gB]? = some (.cells #[.string S0, .string S1] 43 (0, 0)) := by rw [hw2, Lib.iterAt_other wr wo.heap.size gB S0 (pos + wi) (by have := HGK.out; omega)]; exact HK.out
      have HK2 := Aside0.mk hk2
      have HB2 := Aside0.mk (show Below w.heap.size w w2 by rw [hw2]; exact Lib.below_iterAt HB.out (by have h1 := HGB.out; have h2 := HGK.out; omega) S0 (pos + wi))
      have kB0 : w2.cell? ⟨gB, 0, none⟩ = some (.string S0) := blk_cell hk2 0
      have kB1 : w2.cell? ⟨gB, 1, none⟩ = some (.string S1) := blk_cell hk2 1
      have kD0 : w2.drew.cell? ⟨gB, 0, none⟩ = some (.string S0) := kB0
      have kD1 : w2.drew.cell? ⟨gB, 1, none⟩ = some (.string S1) := kB1
      obtain ⟨y, hy⟩ : ∃ y : Int, y = (pos : Int) := ⟨_, rfl⟩
      rw [← hy] at hnx t1 t3
      have i0 := eq_true (show 0 ≤ y by omega)
      have i1 := eq_true (show y < (S0.size : Int) by omega)
      obtain ⟨q1, hq1⟩ : ∃ q1, wrap64 (n - 1) = q1 := ⟨_, rfl⟩
      have hq1b : q1 = n - 1 := by rw [← hq1]; have := HN.out; unfold wrap64; omega
      obtain ⟨q2, hq2⟩ : ∃ q2, wrap64 (q1 - y) = q2 := ⟨_, rfl⟩
      have hq2b : q2 = n - 1 - y := by rw [← hq2, hq1b]; have := HN.out; unfold wrap64; omega
      have hq1c : IntKind.i64.wrap (n - 1) = q1 := by rw [IntKind.wrap_i64, hq1b]; have := HN.out; omega
      have hq2c : IntKind.i64.wrap (q1 - y) = q2 := by rw [IntKind.wrap_i64, hq2b, hq1b]; have := HN.out; omega
      rw [← hq2b] at t3
      have i2 := eq_true (show 0 ≤ q2 by omega)
      have i3 := eq_true (show q2 < (S1.size : Int) by rw [t2]; omega)
      have hx0 := bt_at S0 y
      have hx1 := bt_at S1 q2
      rw [← t3] at hx1
      generalize bt S0 y = b at hx0 hx1
      have HPS := Aside0.mk hp
      clear t1 t2 t3 hru hwi hw2 hk2 hy hq1b hq2b hp
      go_upto_region 37 with (fail)
      go_still (by kernel_rfl)
      go_wp2
      go_roundw
      case rel => exact ⟨pos + wi, ⟨by first | exact HIT2.out | exact blk_drN HIT2.out _⟩, ⟨by first | exact HK2.out | exact blk_drN HK2.out _⟩, ⟨by first | exact HB2.out | exact below_drew HB2.out | exact pw_below_drewN HB2.out _⟩⟩
      case measure =>
        first | rw [iterPos_ofB HIT2.out, iterPos_ofB HIT.out] | (show _ - World.iterPos w2 _ < _; rw [iterPos_ofB HIT2.out, iterPos_ofB HIT.out])
        have h1 := HWI.out
        have h2 := HPS.out
        omega
    case neg =>
    have hnx := fun ty => Lib.run_next_end_at (P := Tryd.prog) wr wo.heap.size S0 pos ty HIT.out hp
    clear hp HIT HK HTURN
    obtain ⟨wp, hw_⟩ : ∃ y, y = wr := ⟨_, rfl⟩
    subst hw_
    have HTO := Aside0.mk (tab_below HT.out HB.out)
    have HBX := Aside0.mk (Below.refl wp.heap.size wp)
    go_wp2_with (first | ((with_reducible refine gate_dst (N := 144) rfl ?_); refine Kd.R_make (Kd.int .u8) (w0 := wp) (ok := fun _ => True) (okp := fun _ => False) wp.heap.size 5 rfl (N := 144) rfl 31 _ _ rfl 8 rfl rfl Tryd.underlying31 (.int .u8 0) 1 info5 rfl (by decide) (by decide) 0 (show Kd.M (Kd.int .u8) _ _ _ 0 [.int .u8 0] from rfl) (fun _ h => h.elim) trivial (by omega) (by decide) (by repeat (first | (with_reducible first | exact HBX.out | apply below_alloc | apply pw_below_drewN | apply below_drew1) | exact HBX.out)) (below_size (by repeat (first | (with_reducible first | exact HBX.out | apply below_alloc | apply pw_below_drewN | apply below_drew1) | exact HBX.out))) ?_; intro vb wb2 ho_ hb_ hg_ hnew_; clear hg_ hnew_; have HRX := Aside0.mk ho_; have n0_ := Aside0.mk hb_; clear HBX ho_ hb_; have HBX := n0_; clear n0_; have HRX := Aside0.mk (show Kd.R (Kd.int .u8) 5 wb2 wp.heap.size (fun _ => True) vb (List.replicate 8 0) from HRX.out); obtain ⟨g, cp, rfl, hgw⟩ := row_form HRX.out 8 List.length_replicate (by decide); have HGW := Aside0.mk hgw; clear hgw))
    go_loopw [147] (fun v wr => ∃ (k : Nat) (y : Int) (ys : List Int), v = .int .i64 y ∧ Aside0 (y = (k : Int) ∧ k ≤ 8) ∧ Aside0 (ys.length = 8 ∧ ∀ z ∈ ys, 0 ≤ z ∧ z ≤ 255) ∧ Aside0 (Kd.R (Kd.int .u8) 5 wr wp.heap.size (fun _ => True) (.slice (some ⟨g, 0, none⟩) 8 cp) (ys)) ∧ Aside0 (Below wp.heap.size wp wr)) (fun v _ => 8 + 1 - (intOf v).toNat)
    case atStart => exact ⟨0, 0, _, rfl, ⟨rfl, Nat.zero_le _⟩, ⟨List.length_replicate, fun z hz => by rw [List.eq_of_mem_replicate hz]; decide⟩, HRX, HBX⟩
    case round =>
    clear HRX HBX
    obtain ⟨k, y, ys, rfl, HKM, HYS, HRX, HBX⟩ := hrel
    by_cases hlt : k < 8
    case pos => as_aux_lemma =>
      have hyk := HKM.out.1
      have i1' : y < 8 := by omega
      have d0 : decide (y < 8) = true := decide_eq_true i1'
      have i0 := eq_true (show 0 ≤ y by omega)
      have i1 := eq_true i1'
      obtain ⟨hn_, hb_, hl_, hc, hfz, hput⟩ := byte_at HRX.out y (by omega) (by omega)
      clear hn_ hb_ hl_
      generalize ys.getD y.toNat 0 = old at hc
      obtain ⟨v0, hv0⟩ : ∃ v0, IntKind.u8.wrap y = v0 := ⟨_, rfl⟩
      obtain ⟨v1, hv1⟩ : ∃ v1, IntKind.u8.wrap (v0 * 37) = v1 := ⟨_, rfl⟩
      obtain ⟨v2, hv2⟩ : ∃ v2, IntKind.u8.wrap (a3 + v1) = v2 := ⟨_, rfl⟩
      have hr2 : 0 ≤ v2 ∧ v2 ≤ 255 := by rw [← hv2, IntKind.wrap_u8]; omega
      have hv0' := hv0
      have hv1' := hv1
      have hv2' := hv2
      rw [IntKind.wrap_u8] at hv0' hv1' hv2'
      have HPUT := Aside0.mk (hput v2)
      have HYS2 := Aside0.mk (show (ys.set y.toNat v2).length = 8 ∧ ∀ z ∈ ys.set y.toNat v2, 0 ≤ z ∧ z ≤ 255 from ⟨by rw [List.length_set]; exact HYS.out.1, fun z hz => (List.mem_or_eq_of_mem_set hz).elim (HYS.out.2 z) (fun e => e ▸ hr2)⟩)
      have HWK := Aside0.mk (show wrap64 (y + 1) = y + 1 by unfold wrap64; omega)
      have HK1 := Aside0.mk (show y + 1 = ((k + 1 : Nat) : Int) ∧ k + 1 ≤ 8 ∧ 0 ≤ y ∧ y < ((8 : Nat) : Int) by omega)
      have HGW2 := Aside0.mk (show wp.heap.size ≤ g from HGW.out)
      clear hput hlt hyk i1' hr2
      go_wp2
      go_roundw
      case rel => exact ⟨k + 1, y + 1, _, by first | with_reducible rfl | rw [HWK.out], ⟨HK1.out.1, HK1.out.2.1⟩, HYS2, HPUT, ⟨HBX.out.setCell HGW2.out _⟩⟩
      case measure => exact measN _ y _ HK1.out.2.2.1 HK1.out.2.2.2 (by first | exact HWK.out | rfl)
    case neg =>
    have d0 : decide (y < 8) = false := decide_eq_false (by have := HKM.out; omega)
    clear hlt HKM
    have T21 := Aside0.mk (prim_Get.zero wr (tab_below HTO.out HBX.out) (.slice (some ⟨g, 0, none⟩) 8 cp) 0 a0 0 n sg fl nu mi ma HP.out HZ0.out)
    go_wp2_with (first | (go_at_call 21; (with_reducible refine T21.out.mono ?_); rintro e_ w21 ⟨rfl, hb_⟩; have n0_ := Aside0.mk (below_step HBX.out hb_); clear HBX hb_; have HBX := n0_; clear n0_))
    go_ret
    exact ⟨rfl, below_step HB.out (by repeat (first | (with_reducible first | exact HBX.out | apply below_alloc | apply pw_below_drewN | apply below_drew1) | exact HBX.out))⟩
set_option maxHeartbeats 8000000 in
set_option maxRecDepth 100000 in
theorem PrimBack.range (a0 a1 a2 a3 : Int) (w : World) (hT0 : Tab w) (h1 : 0 ≤ a1 ∧ a1 < 18446744073709551616) (h2 : -9223372036854775808 ≤ a2 ∧ a2 ≤ 9223372036854775807) (h3 : 0 ≤ a3 ∧ a3 ≤ 255) (n : Int) (sg fl : Bool) (nu mi ma : Int) (hp : primRow a0 = (n, sg, fl, nu, mi, ma)) (hin : ¬ (a0 < 0 ∨ 10 < a0)) (hf : fitsV a0 a1 = false) :
    Calls Tryd.prog 6 #[.int .i64 a0, .int .u64 a1, .int .i64 a2, .int .u8 a3] w fun e w' => e = .returned (.bool true) ∧ Below w.heap.size w w' := by
  have HT := Aside0.mk hT0
  have HP := Aside0.mk hp
  have H1 := Aside0.mk h1
  have H3 := Aside0.mk h3
  have T9 := Aside0.mk (fun (W : World) (hW : Tab W) => prim_Size.calls a0 n W (size_eq a0 n sg fl nu mi ma hp) hW)
  have T96 := Aside0.mk (fun (W : World) (hW : Tab W) => prim_Size.calls 6 2 W (by decide +kernel) hW)
  have T86 := Aside0.mk (fun (W : World) (hW : Tab W) => prim_Fits.calls 6 513 true W (by decide +kernel) hW)
  obtain ⟨r, hr⟩ : ∃ r : Int, a2.tmod 9 = r := ⟨_, rfl⟩
  have HRR := Aside0.mk (show -9 < r ∧ r < 9 by rw [← hr]; have e1 := Int.tmod_lt_of_pos a2 (show (0 : Int) < 9 by decide); have e2 := Int.lt_tmod_of_pos a2 (show (0 : Int) < 9 by decide); omega)
  have hz : n = 1 ∨ n = 2 ∨ n = 4 ∨ n = 8 := by
    obtain ⟨z', sg', fl', nu', mi', ma', hrow, hz, _, _⟩ := word_all a0 hin
    rw [hp] at hrow
    simp only [Prod.mk.injEq] at hrow
    rw [hrow.1]; exact hz
  have HN := Aside0.mk (show 0 ≤ n ∧ n ≤ 8 by omega)
  have HZ := Aside0.mk (show 1 ≤ n ∧ n ≤ 8 by omega)
  have bn0 : (n == 0) = false := beq_eq_false_iff_ne.mpr (by omega)
  have dn0 : decide (0 < n) = true := decide_eq_true (by omega)
  have hff : prim_Fits.f a0 a1 = some false := by rw [fits_some, hf]
  have HFF := Aside0.mk hff
  have T8 := Aside0.mk (fun (W : World) (hW : Tab W) => prim_Fits.calls a0 a1 false W hff hW)
  have TA := Aside0.mk (fun (acc : Int) (F : Nat → Int) (hF : ∀ j, 0 ≤ F j ∧ F j ≤ 255) (ha : acc = gAcc F n.toNat) => any_word a0 n sg fl nu mi ma hp hin acc F hF ha)
  have HB := Aside0.mk (Below.refl w.heap.size w)
  clear hT0 h1 h2 h3 hp hz hin hf hff
  have tk1 : Aside0 True := ⟨trivial⟩
  go_enter Tryd.func6, Tryd.ntmps6
  go_upto_if 34 with (first | (go_at_call 9; clear tk1; have tk2 : Aside0 True := ⟨trivial⟩; (with_reducible refine (T9.out _ (tab_below HT.out (by repeat (first | (with_reducible first | exact HB.out | apply below_alloc | apply pw_below_drewN | apply below_drew1 | refine below_set ?_ HGB.out) | exact HB.out)))).mono ?_); rintro e_ w_ ⟨rfl, hb_⟩; have n0_ := Aside0.mk (below_step (by repeat (first | (with_reducible first | exact HB.out | apply below_alloc | apply pw_below_drewN | apply below_drew1 | refine below_set ?_ HGB.out) | exact HB.out)) hb_); clear HB hb_; have HB := n0_; clear n0_) | (go_at_call 9; clear tk2; (with_reducible refine (T96.out _ (tab_below HT.out (by repeat (first | (with_reducible first | exact HB.out | apply below_alloc | apply pw_below_drewN | apply below_drew1 | refine below_set ?_ HGB.out) | exact HB.out)))).mono ?_); rintro e_ w_ ⟨rfl, hb_⟩; have n0_ := Aside0.mk (below_step (by repeat (first | (with_reducible first | exact HB.out | apply below_alloc | apply pw_below_drewN | apply below_drew1 | refine below_set ?_ HGB.out) | exact HB.out)) hb_); clear HB hb_; have HB := n0_; clear n0_) | (go_at_call 8; (with_reducible refine (T86.out _ (tab_below HT.out (by repeat (first | (with_reducible first | exact HB.out | apply below_alloc | apply pw_below_drewN | apply below_drew1 | refine below_set ?_ HGB.out) | exact HB.out)))).mono ?_); rintro e_ w_ ⟨rfl, hb_⟩; have n0_ := Aside0.mk (below_step (by repeat (first | (with_reducible first | exact HB.out | apply below_alloc | apply pw_below_drewN | apply below_drew1 | refine below_set ?_ HGB.out) | exact HB.out)) hb_); clear HB hb_; have HB := n0_; clear n0_))
  clear hr
  go_cut [2] (fun v wc => ∃ A : Int, v = .int .i64 A ∧ Aside0 (0 ≤ A ∧ A ≤ 8) ∧ Aside0 (Below w.heap.size w wc))
  case first => as_aux_lemma =>
    by_cases c : r < 0
    · have d_ : decide (r < 0) = true := decide_eq_true c
      rw [d_]
      have hw_ : wrap64 (-r) = -r := by have := HRR.out; unfold wrap64; omega
      have HAA := Aside0.mk (show 0 ≤ -r ∧ -r ≤ 8 by have := HRR.out; omega)
      clear c
      go_wp2
      go_meet
      case rel => exact ⟨-r, by first | with_reducible rfl | rw [hw_], HAA, ⟨(by repeat (first | (with_reducible first | exact HB.out | apply below_alloc | apply pw_below_drewN | apply below_drew1 | refine below_set ?_ HGB.out) | exact HB.out))⟩⟩
    · have d_ : decide (r < 0) = false := decide_eq_false c
      rw [d_]
      have HAA := Aside0.mk (show 0 ≤ r ∧ r ≤ 8 by have := HRR.out; omega)
      clear c
      go_wp2
      go_meet
      case rel => exact ⟨r, rfl, HAA, ⟨(by repeat (first | (with_reducible first | exact HB.out | apply below_alloc | apply pw_below_drewN | apply below_drew1 | refine below_set ?_ HGB.out) | exact HB.out))⟩⟩
  obtain ⟨A, rfl, HAA, HB'⟩ := hcut
  clear HB
  have HB := HB'
  clear HB'
  obtain ⟨wd, hw_⟩ : ∃ x, x = wc := ⟨_, rfl⟩
  subst hw_
  obtain ⟨mN, hmN⟩ : ∃ mN : Nat, mN = (A + n + 3).toNat := ⟨_, rfl⟩
  obtain ⟨m1, hm1⟩ : ∃ m1 : Int, wrap64 (A + n) = m1 := ⟨_, rfl⟩
  have HM1 := Aside0.mk (show m1 = A + n by rw [← hm1]; have h4 := HAA.out; have h5 := HN.out; unfold wrap64; omega)
  have hm2 : wrap64 (m1 + 3) = (mN : Int) := by rw [HM1.out, hmN]; have h4 := HAA.out; have h5 := HN.out; unfold wrap64; omega
  have HM2 := Aside0.mk hm2
  have HMN := Aside0.mk (show (mN : Int) = A + n + 3 by rw [hmN]; have h4 := HAA.out; have h5 := HN.out; omega)
  clear hmN
  go_wp2_with (first | ((with_reducible refine gate_dst (N := 10) rfl ?_); refine box_event ?hg (N := 10) ?hd (cs := #[.string ByteArray.empty, .string ByteArray.empty]) (t := 43) ?hr ?_; (case hd => rfl); (case hg => rfl); (case hr => first | (go_simp; done) | (go_simp; rfl)); intro gB hgx wb hbox hbw; have HGB := Aside0.mk (show w.heap.size ≤ gB from hgx ▸ below_size HB.out); have n0_ := Aside0.mk (below_step HB.out hbw); clear HB; have HB := n0_; clear n0_; have HK := Aside0.mk hbox; clear hgx hbox hbw))
  go_loopw [11] (fun v wr => ∃ (x : Int) (S0 S1 : ByteArray), v = .int .i64 x ∧ Aside0 ((x = 0 ∨ x = 1 ∨ x = 2) ∧ S0 = ByteArray.empty ∧ S1 = ByteArray.empty) ∧ Aside0 (wr.heap[gB]? = some (.cells #[.string S0, .string S1] 43 (0, 0))) ∧ Aside0 (Below w.heap.size w wr)) (fun v _ => 3 - (intOf v).toNat)
  case atStart => exact ⟨0, _, _, rfl, ⟨⟨.inl rfl, rfl, rfl⟩⟩, HK, HB⟩
  case round =>
  clear HK HB
  obtain ⟨x, S0, S1, rfl, HX, HK, HB⟩ := hrel
  obtain ⟨wo, hw_⟩ : ∃ y, y = wr := ⟨_, rfl⟩
  subst hw_
  rcases HX.out with ⟨rfl | rfl | rfl, hs0, hs1⟩
  case inl => as_aux_lemma =>
    have hs_ := Aside0.mk (And.intro hs0 hs1)
    clear hs0 hs1
    have HMP := Aside0.mk (show 0 < mN by have h4 := HAA.out; have h5 := HN.out; have h6 := HMN.out; omega)
    have HTO := Aside0.mk (tab_below HT.out HB.out)
    have HBX := Aside0.mk (Below.refl wo.heap.size wo)
    have HML := Aside0.mk (show ((mN : Int)).toNat * 1 ≤ 281474976710656 by have h4 := HAA.out; have h5 := HN.out; have h6 := HMN.out; omega)
    go_wp2_with (first | ((with_reducible refine gate_dst (N := 45) rfl ?_); refine Kd.R_make (Kd.int .u8) (w0 := wo) (ok := fun _ => True) (okp := fun _ => False) wo.heap.size 5 rfl (N := 45) rfl 31 _ _ rfl (mN : Int) (congrArg (Value.int .i64) HM2.out) (congrArg (Value.int .i64) HM2.out) Tryd.underlying31 (.int .u8 0) 1 info5 rfl (by decide) (by decide) 0 (show Kd.M (Kd.int .u8) _ _ _ 0 [.int .u8 0] from rfl) (fun _ h => h.elim) trivial (by omega) HML.out (by repeat (first | (with_reducible first | exact HBX.out | apply below_alloc | apply pw_below_drewN | apply below_drew1) | exact HBX.out)) (below_size (by repeat (first | (with_reducible first | exact HBX.out | apply below_alloc | apply pw_below_drewN | apply below_drew1) | exact HBX.out))) ?_; intro vb wb2 ho_ hb_ hg_ hnew_; clear hg_ hnew_; have HRX := Aside0.mk ho_; have n0_ := Aside0.mk hb_; clear HBX ho_ hb_; have HBX := n0_; clear n0_; rw [Int.toNat_natCast] at HRX; obtain ⟨g, cp, rfl, hgw⟩ := row_form HRX.out mN List.length_replicate HMP.out; have HGW := Aside0.mk hgw; clear hgw))
    go_loopw [48] (fun v wr => ∃ (k : Nat) (y : Int), v = .int .i64 y ∧ Aside0 (y = (k : Int) ∧ k ≤ mN) ∧ Aside0 (Kd.R (Kd.int .u8) 5 wr wo.heap.size (fun _ => True) (.slice (some ⟨g, 0, none⟩) mN cp) (List.replicate k a3 ++ (List.replicate mN 0).drop k)) ∧ Aside0 (Below wo.heap.size wo wr)) (fun v _ => mN + 1 - (intOf v).toNat)
    case atStart => exact ⟨0, 0, rfl, ⟨rfl, Nat.zero_le _⟩, ⟨by rw [List.drop_zero, List.replicate_zero, List.nil_append]; exact HRX.out⟩, HBX⟩
    case round =>
    clear HRX HBX
    obtain ⟨k, y, rfl, HKM, HRX, HBX⟩ := hrel
    by_cases hlt : k < mN
    case pos => as_aux_lemma =>
      have hyk := HKM.out.1
      have i1' : y < (mN : Int) := by omega
      have d0 : decide (y < (mN : Int)) = true := decide_eq_true i1'
      have i0 := eq_true (show 0 ≤ y by omega)
      have i1 := eq_true i1'
      obtain ⟨hn_, hb_, hl_, hc, hfz, hput⟩ := byte_at HRX.out y (by omega) i1'
      clear hn_ hb_ hl_
      generalize (List.replicate k a3 ++ (List.replicate mN 0).drop k).getD y.toNat 0 = old at hc
      have HPUT := Aside0.mk (hput a3)
      have hset : (List.replicate k a3 ++ (List.replicate mN (0 : Int)).drop k).set y.toNat a3 = List.replicate (k + 1) a3 ++ (List.replicate mN (0 : Int)).drop (k + 1) := by
        rw [show y.toNat = k by omega]
        exact reps_set8 _ a3 k (by rw [List.length_replicate]; exact hlt)
      rw [hset] at HPUT
      clear hset
      have HWK := Aside0.mk (show wrap64 (y + 1) = y + 1 by have h4 := HAA.out; have h5 := HN.out; have h6 := HMN.out; unfold wrap64; omega)
      have HK1 := Aside0.mk (show y + 1 = ((k + 1 : Nat) : Int) ∧ k + 1 ≤ mN ∧ 0 ≤ y ∧ y < (mN : Int) by omega)
      have HGW2 := Aside0.mk (show wo.heap.size ≤ g from HGW.out)
      clear hput hlt hyk i1'
      go_wp2
      go_roundw
      case rel => exact ⟨k + 1, y + 1, by first | with_reducible rfl | rw [HWK.out], ⟨HK1.out.1, HK1.out.2.1⟩, HPUT, ⟨HBX.out.setCell HGW2.out _⟩⟩
      case measure => exact measN _ y _ HK1.out.2.2.1 HK1.out.2.2.2 (by first | exact HWK.out | rfl)
    case neg =>
    have d0 : decide (y < (mN : Int)) = false := decide_eq_false (by have := HKM.out; omega)
    have hk_ : mN = k := by have := HKM.out; omega
    subst hk_
    have hrow : List.replicate mN a3 ++ (List.replicate mN (0 : Int)).drop mN = List.replicate mN a3 := by rw [List.drop_of_length_le (by rw [List.length_replicate]; exact Nat.le_refl _), List.append_nil]
    rw [hrow] at HRX
    clear hlt hrow HKM HML
    have T25 := Aside0.mk (fun (W : World) (hW : Tab W) => prim_Put.range W hW (.slice (some ⟨g, 0, none⟩) mN cp) A a0 0 a1 n sg fl nu mi ma HP.out (by have := HZ.out; omega) (by decide) HFF.out)
    go_wp2_with (first | (go_at_call 25; (with_reducible refine (T25.out _ (tab_below HTO.out (by repeat (first | (with_reducible first | exact HBX.out | apply below_alloc | apply pw_below_drewN | apply below_drew1) | exact HBX.out)))).mono ?_); rintro e_ w25 ⟨rfl, hb_⟩; have n0_ := Aside0.mk (below_step (by repeat (first | (with_reducible first | exact HBX.out | apply below_alloc | apply pw_below_drewN | apply below_drew1) | exact HBX.out)) hb_); clear HBX hb_; have HBX := n0_; clear n0_) | (go_at_call 8; (with_reducible refine (T8.out _ (tab_below HTO.out (by repeat (first | (with_reducible first | exact HBX.out | apply below_alloc | apply pw_below_drewN | apply below_drew1) | exact HBX.out)))).mono ?_); rintro e_ w8 ⟨rfl, hb_⟩; have n0_ := Aside0.mk (below_step (by repeat (first | (with_reducible first | exact HBX.out | apply below_alloc | apply pw_below_drewN | apply below_drew1) | exact HBX.out)) hb_); clear HBX hb_; have HBX := n0_; clear n0_))
    go_roundw
    case rel => exact ⟨1, S0, S1, by first | with_reducible rfl | (simp; done) | decide, ⟨.inr (.inl rfl), hs_.out.1, hs_.out.2⟩, ⟨blk_below HK.out (by repeat (first | (with_reducible first | exact HBX.out | apply below_alloc | apply pw_below_drewN | apply below_drew1) | exact HBX.out))⟩, ⟨below_step HB.out (by repeat (first | (with_reducible first | exact HBX.out | apply below_alloc | apply pw_below_drewN | apply below_drew1) | exact HBX.out))⟩⟩
    case measure => first | decide | (simp [intOf]; done) | (simp [intOf, wrap64]; done)
  case inr.inl => as_aux_lemma =>
    have hs_ := Aside0.mk (And.intro hs0 hs1)
    clear hs0 hs1
    have HMP := Aside0.mk (show 0 < mN by have h4 := HAA.out; have h5 := HN.out; have h6 := HMN.out; omega)
    have HTO := Aside0.mk (tab_below HT.out HB.out)
    have HBX := Aside0.mk (Below.refl wo.heap.size wo)
    have HML := Aside0.mk (show ((mN : Int)).toNat * 1 ≤ 281474976710656 by have h4 := HAA.out; have h5 := HN.out; have h6 := HMN.out; omega)
    go_wp2_with (first | ((with_reducible refine gate_dst (N := 45) rfl ?_); refine Kd.R_make (Kd.int .u8) (w0 := wo) (ok := fun _ => True) (okp := fun _ => False) wo.heap.size 5 rfl (N := 45) rfl 31 _ _ rfl (mN : Int) (congrArg (Value.int .i64) HM2.out) (congrArg (Value.int .i64) HM2.out) Tryd.underlying31 (.int .u8 0) 1 info5 rfl (by decide) (by decide) 0 (show Kd.M (Kd.int .u8) _ _ _ 0 [.int .u8 0] from rfl) (fun _ h => h.elim) trivial (by omega) HML.out (by repeat (first | (with_reducible first | exact HBX.out | apply below_alloc | apply pw_below_drewN | apply below_drew1) | exact HBX.out)) (below_size (by repeat (first | (with_reducible first | exact HBX.out | apply below_alloc | apply pw_below_drewN | apply below_drew1) | exact HBX.out))) ?_; intro vb wb2 ho_ hb_ hg_ hnew_; clear hg_ hnew_; have HRX := Aside0.mk ho_; have n0_ := Aside0.mk hb_; clear HBX ho_ hb_; have HBX := n0_; clear n0_; rw [Int.toNat_natCast] at HRX; obtain ⟨g, cp, rfl, hgw⟩ := row_form HRX.out mN List.length_replicate HMP.out; have HGW := Aside0.mk hgw; clear hgw))
    go_loopw [48] (fun v wr => ∃ (k : Nat) (y : Int), v = .int .i64 y ∧ Aside0 (y = (k : Int) ∧ k ≤ mN) ∧ Aside0 (Kd.R (Kd.int .u8) 5 wr wo.heap.size (fun _ => True) (.slice (some ⟨g, 0, none⟩) mN cp) (List.replicate k a3 ++ (List.replicate mN 0).drop k)) ∧ Aside0 (Below wo.heap.size wo wr)) (fun v _ => mN + 1 - (intOf v).toNat)
    case atStart => exact ⟨0, 0, rfl, ⟨rfl, Nat.zero_le _⟩, ⟨by rw [List.drop_zero, List.replicate_zero, List.nil_append]; exact HRX.out⟩, HBX⟩
    case round =>
    clear HRX HBX
    obtain ⟨k, y, rfl, HKM, HRX, HBX⟩ := hrel
    by_cases hlt : k < mN
    case pos => as_aux_lemma =>
      have hyk := HKM.out.1
      have i1' : y < (mN : Int) := by omega
      have d0 : decide (y < (mN : Int)) = true := decide_eq_true i1'
      have i0 := eq_true (show 0 ≤ y by omega)
      have i1 := eq_true i1'
      obtain ⟨hn_, hb_, hl_, hc, hfz, hput⟩ := byte_at HRX.out y (by omega) i1'
      clear hn_ hb_ hl_
      generalize (List.replicate k a3 ++ (List.replicate mN 0).drop k).getD y.toNat 0 = old at hc
      have HPUT := Aside0.mk (hput a3)
      have hset : (List.replicate k a3 ++ (List.replicate mN (0 : Int)).drop k).set y.toNat a3 = List.replicate (k + 1) a3 ++ (List.replicate mN (0 : Int)).drop (k + 1) := by
        rw [show y.toNat = k by omega]
        exact reps_set8 _ a3 k (by rw [List.length_replicate]; exact hlt)
      rw [hset] at HPUT
      clear hset
      have HWK := Aside0.mk (show wrap64 (y + 1) = y + 1 by have h4 := HAA.out; have h5 := HN.out; have h6 := HMN.out; unfold wrap64; omega)
      have HK1 := Aside0.mk (show y + 1 = ((k + 1 : Nat) : Int) ∧ k + 1 ≤ mN ∧ 0 ≤ y ∧ y < (mN : Int) by omega)
      have HGW2 := Aside0.mk (show wo.heap.size ≤ g from HGW.out)
      clear hput hlt hyk i1'
      go_wp2
      go_roundw
      case rel => exact ⟨k + 1, y + 1, by first | with_reducible rfl | rw [HWK.out], ⟨HK1.out.1, HK1.out.2.1⟩, HPUT, ⟨HBX.out.setCell HGW2.out _⟩⟩
      case measure => exact measN _ y _ HK1.out.2.2.1 HK1.out.2.2.2 (by first | exact HWK.out | rfl)
    case neg =>
    have d0 : decide (y < (mN : Int)) = false := decide_eq_false (by have := HKM.out; omega)
    have hk_ : mN = k := by have := HKM.out; omega
    subst hk_
    have hrow : List.replicate mN a3 ++ (List.replicate mN (0 : Int)).drop mN = List.replicate mN a3 := by rw [List.drop_of_length_le (by rw [List.length_replicate]; exact Nat.le_refl _), List.append_nil]
    rw [hrow] at HRX
    clear hlt hrow HKM HML
    have T25 := Aside0.mk (fun (W : World) (hW : Tab W) => prim_Put.range W hW (.slice (some ⟨g, 0, none⟩) mN cp) A a0 1 a1 n sg fl nu mi ma HP.out (by have := HZ.out; omega) (by decide) HFF.out)
    go_wp2_with (first | (go_at_call 25; (with_reducible refine (T25.out _ (tab_below HTO.out (by repeat (first | (with_reducible first | exact HBX.out | apply below_alloc | apply pw_below_drewN | apply below_drew1) | exact HBX.out)))).mono ?_); rintro e_ w25 ⟨rfl, hb_⟩; have n0_ := Aside0.mk (below_step (by repeat (first | (with_reducible first | exact HBX.out | apply below_alloc | apply pw_below_drewN | apply below_drew1) | exact HBX.out)) hb_); clear HBX hb_; have HBX := n0_; clear n0_) | (go_at_call 8; (with_reducible refine (T8.out _ (tab_below HTO.out (by repeat (first | (with_reducible first | exact HBX.out | apply below_alloc | apply pw_below_drewN | apply below_drew1) | exact HBX.out)))).mono ?_); rintro e_ w8 ⟨rfl, hb_⟩; have n0_ := Aside0.mk (below_step (by repeat (first | (with_reducible first | exact HBX.out | apply below_alloc | apply pw_below_drewN | apply below_drew1) | exact HBX.out)) hb_); clear HBX hb_; have HBX := n0_; clear n0_))
    go_roundw
    case rel => exact ⟨2, S0, S1, by first | with_reducible rfl | (simp; done) | decide, ⟨.inr (.inr rfl), hs_.out.1, hs_.out.2⟩, ⟨blk_below HK.out (by repeat (first | (with_reducible first | exact HBX.out | apply below_alloc | apply pw_below_drewN | apply below_drew1) | exact HBX.out))⟩, ⟨below_step HB.out (by repeat (first | (with_reducible first | exact HBX.out | apply below_alloc | apply pw_below_drewN | apply below_drew1) | exact HBX.out))⟩⟩
    case measure => first | decide | (simp [intOf]; done) | (simp [intOf, wrap64]; done)
  case inr.inr =>
    have HTURN := Aside0.mk (show ∀ i : Nat, i < S0.size → (i : Int) < n ∧ S1.size = n.toNat ∧ bt S0 (i : Int) = bt S1 (n - 1 - i) by rw [hs0]; intro i hi; exact absurd hi (by simp))
    have kB0 : wo.cell? ⟨gB, 0, none⟩ = some (.string S0) := blk_cell HK.out 0
    have HGK := Aside0.mk (show gB < wo.heap.size from blk_lt HK.out)
    have HS1 := Aside0.mk (show (S0.size : Int) < 9223372036854775807 from (by rw [hs0]; decide))
    clear hs0 hs1
    go_wp2
    clear kB0
    go_loopw [18] (fun _ wr => ∃ pos : Nat, Aside0 (wr.heap[wo.heap.size]? = some (.stringIter S0 pos)) ∧ Aside0 (wr.heap[gB]? = some (.cells #[.string S0, .string S1] 43 (0, 0))) ∧ Aside0 (Below w.heap.size w wr)) (fun _ wr => S0.size + 1 - wr.iterPos wo.heap.size)
    case atStart => exact ⟨0, ⟨by have z_ := World.iter_heap wo S0 0; simpa using z_⟩, ⟨iter_far HK.out⟩, ⟨iter_below HB.out⟩⟩
    case round =>
    clear HK HB
    obtain ⟨pos, HIT, HK, HB⟩ := hrel
    by_cases hp : pos < S0.size
    case pos => as_aux_lemma =>
      have hnx := fun ty => Lib.run_next_any_at (P := Tryd.prog) wr wo.heap.size S0 pos ty HIT.out hp
      obtain ⟨t1, t2, t3⟩ := HTURN.out pos hp
      obtain ⟨ru, hru⟩ : ∃ ru, ru = (Utf8.decode S0 pos).1 := ⟨_, rfl⟩
      obtain ⟨wi, hwi⟩ : ∃ wi, wi = (Utf8.decode S0 pos).2 := ⟨_, rfl⟩
      rw [← hru, ← hwi] at hnx
      have HWI := Aside0.mk (show 1 ≤ wi from hwi ▸ dec_wid S0 pos)
      obtain ⟨w2, hw2⟩ : ∃ w2, w2 = wr.iterAt wo.heap.size S0 (pos + wi) := ⟨_, rfl⟩
      rw [← hw2] at hnx
      have HIT2 := Aside0.mk (show w2.heap[wo.heap.size]? = some (.stringIter S0 (pos + wi)) by rw [hw2]; exact Lib.iterAt_heap wr wo.heap.size S0 pos (pos + wi) HIT.out)
      have hk2 : w2.heap[gB]? = some (.cells #[.string S0, .string S1] 43 (0, 0)) := by rw [hw2, Lib.iterAt_other wr wo.heap.size gB S0 (pos + wi) (by have := HGK.out; omega)]; exact HK.out
      have HK2 := Aside0.mk hk2
      have HB2 := Aside0.mk (show Below w.heap.size w w2 by rw [hw2]; exact Lib.below_iterAt HB.out (by have h1 := HGB.out; have h2 := HGK.out; omega) S0 (pos + wi))
      have kB0 : w2.cell? ⟨gB, 0, none⟩ = some (.string S0) := blk_cell hk2 0
      have kB1 : w2.cell? ⟨gB, 1, none⟩ = some (.string S1) := blk_cell hk2 1
      have kD0 : w2.drew.cell? ⟨gB, 0, none⟩ = some (.string S0) := kB0
      have kD1 : w2.drew.cell? ⟨gB, 1, none⟩ = some (.string S1) := kB1
      obtain ⟨y, hy⟩ : ∃ y : Int, y = (pos : Int) := ⟨_, rfl⟩
      rw [← hy] at hnx t1 t3
      have i0 := eq_true (show 0 ≤ y by omega)
      have i1 := eq_true (show y < (S0.size : Int) by omega)
      obtain ⟨q1, hq1⟩ : ∃ q1, wrap64 (n - 1) = q1 := ⟨_, rfl⟩
      have hq1b : q1 = n - 1 := by rw [← hq1]; have := HN.out; unfold wrap64; omega
      obtain ⟨q2, hq2⟩ : ∃ q2, wrap64 (q1 - y) = q2 := ⟨_, rfl⟩
      have hq2b : q2 = n - 1 - y := by rw [← hq2, hq1b]; have := HN.out; unfold wrap64; omega
      have hq1c : IntKind.i64.wrap (n - 1) = q1 := by rw [IntKind.wrap_i64, hq1b]; have := HN.out; omega
      have hq2c : IntKind.i64.wrap (q1 - y) = q2 := by rw [IntKind.wrap_i64, hq2b, hq1b]; have := HN.out; omega
      rw [← hq2b] at t3
      have i2 := eq_true (show 0 ≤ q2 by omega)
      have i3 := eq_true (show q2 < (S1.size : Int) by rw [t2]; omega)
      have hx0 := bt_at S0 y
      have hx1 := bt_at S1 q2
      rw [← t3] at hx1
      generalize bt S0 y = b at hx0 hx1
      have HPS := Aside0.mk hp
      clear t1 t2 t3 hru hwi hw2 hk2 hy hq1b hq2b hp
      go_upto_region 37 with (fail)
      go_still (by kernel_rfl)
      go_wp2
      go_roundw
      case rel => exact ⟨pos + wi, ⟨by first | exact HIT2.out | exact blk_drN HIT2.out _⟩, ⟨by first | exact HK2.out | exact blk_drN HK2.out _⟩, ⟨by first | exact HB2.out | exact below_drew HB2.out | exact pw_below_drewN HB2.out _⟩⟩
      case measure =>
        first | rw [iterPos_ofB HIT2.out, iterPos_ofB HIT.out] | (show _ - World.iterPos w2 _ < _; rw [iterPos_ofB HIT2.out, iterPos_ofB HIT.out])
        have h1 := HWI.out
        have h2 := HPS.out
        omega
    case neg =>
    have hnx := fun ty => Lib.run_next_end_at (P := Tryd.prog) wr wo.heap.size S0 pos ty HIT.out hp
    clear hp HIT HK HTURN
    obtain ⟨wp, hw_⟩ : ∃ y, y = wr := ⟨_, rfl⟩
    subst hw_
    have HTO := Aside0.mk (tab_below HT.out HB.out)
    have HBX := Aside0.mk (Below.refl wp.heap.size wp)
    go_wp2_with (first | ((with_reducible refine gate_dst (N := 144) rfl ?_); refine Kd.R_make (Kd.int .u8) (w0 := wp) (ok := fun _ => True) (okp := fun _ => False) wp.heap.size 5 rfl (N := 144) rfl 31 _ _ rfl 8 rfl rfl Tryd.underlying31 (.int .u8 0) 1 info5 rfl (by decide) (by decide) 0 (show Kd.M (Kd.int .u8) _ _ _ 0 [.int .u8 0] from rfl) (fun _ h => h.elim) trivial (by omega) (by decide) (by repeat (first | (with_reducible first | exact HBX.out | apply below_alloc | apply pw_below_drewN | apply below_drew1) | exact HBX.out)) (below_size (by repeat (first | (with_reducible first | exact HBX.out | apply below_alloc | apply pw_below_drewN | apply below_drew1) | exact HBX.out))) ?_; intro vb wb2 ho_ hb_ hg_ hnew_; clear hg_ hnew_; have HRX := Aside0.mk ho_; have n0_ := Aside0.mk hb_; clear HBX ho_ hb_; have HBX := n0_; clear n0_; have HRX := Aside0.mk (show Kd.R (Kd.int .u8) 5 wb2 wp.heap.size (fun _ => True) vb (List.replicate 8 0) from HRX.out); obtain ⟨g, cp, rfl, hgw⟩ := row_form HRX.out 8 List.length_replicate (by decide); have HGW := Aside0.mk hgw; clear hgw))
    go_loopw [147] (fun v wr => ∃ (k : Nat) (y : Int) (ys : List Int), v = .int .i64 y ∧ Aside0 (y = (k : Int) ∧ k ≤ 8) ∧ Aside0 (ys.length = 8 ∧ ∀ z ∈ ys, 0 ≤ z ∧ z ≤ 255) ∧ Aside0 (Kd.R (Kd.int .u8) 5 wr wp.heap.size (fun _ => True) (.slice (some ⟨g, 0, none⟩) 8 cp) (ys)) ∧ Aside0 (Below wp.heap.size wp wr)) (fun v _ => 8 + 1 - (intOf v).toNat)
    case atStart => exact ⟨0, 0, _, rfl, ⟨rfl, Nat.zero_le _⟩, ⟨List.length_replicate, fun z hz => by rw [List.eq_of_mem_replicate hz]; decide⟩, HRX, HBX⟩
    case round =>
    clear HRX HBX
    obtain ⟨k, y, ys, rfl, HKM, HYS, HRX, HBX⟩ := hrel
    by_cases hlt : k < 8
    case pos => as_aux_lemma =>
      have hyk := HKM.out.1
      have i1' : y < 8 := by omega
      have d0 : decide (y < 8) = true := decide_eq_true i1'
      have i0 := eq_true (show 0 ≤ y by omega)
      have i1 := eq_true i1'
      obtain ⟨hn_, hb_, hl_, hc, hfz, hput⟩ := byte_at HRX.out y (by omega) (by omega)
      clear hn_ hb_ hl_
      generalize ys.getD y.toNat 0 = old at hc
      obtain ⟨v0, hv0⟩ : ∃ v0, IntKind.u8.wrap y = v0 := ⟨_, rfl⟩
      obtain ⟨v1, hv1⟩ : ∃ v1, IntKind.u8.wrap (v0 * 37) = v1 := ⟨_, rfl⟩
      obtain ⟨v2, hv2⟩ : ∃ v2, IntKind.u8.wrap (a3 + v1) = v2 := ⟨_, rfl⟩
      have hr2 : 0 ≤ v2 ∧ v2 ≤ 255 := by rw [← hv2, IntKind.wrap_u8]; omega
      have hv0' := hv0
      have hv1' := hv1
      have hv2' := hv2
      rw [IntKind.wrap_u8] at hv0' hv1' hv2'
      have HPUT := Aside0.mk (hput v2)
      have HYS2 := Aside0.mk (show (ys.set y.toNat v2).length = 8 ∧ ∀ z ∈ ys.set y.toNat v2, 0 ≤ z ∧ z ≤ 255 from ⟨by rw [List.length_set]; exact HYS.out.1, fun z hz => (List.mem_or_eq_of_mem_set hz).elim (HYS.out.2 z) (fun e => e ▸ hr2)⟩)
      have HWK := Aside0.mk (show wrap64 (y + 1) = y + 1 by unfold wrap64; omega)
      have HK1 := Aside0.mk (show y + 1 = ((k + 1 : Nat) : Int) ∧ k + 1 ≤ 8 ∧ 0 ≤ y ∧ y < ((8 : Nat) : Int) by omega)
      have HGW2 := Aside0.mk (show wp.heap.size ≤ g from HGW.out)
      clear hput hlt hyk i1' hr2
      go_wp2
      go_roundw
      case rel => exact ⟨k + 1, y + 1, _, by first | with_reducible rfl | rw [HWK.out], ⟨HK1.out.1, HK1.out.2.1⟩, HYS2, HPUT, ⟨HBX.out.setCell HGW2.out _⟩⟩
      case measure => exact measN _ y _ HK1.out.2.2.1 HK1.out.2.2.2 (by first | exact HWK.out | rfl)
    case neg =>
    have d0 : decide (y < 8) = false := decide_eq_false (by have := HKM.out; omega)
    clear hlt HKM
    obtain ⟨acc, hacc⟩ : ∃ acc, acc = gAcc (fun k : Nat => ys.getD (0 + plc n 0 (k : Int)).toNat 0) n.toNat := ⟨_, rfl⟩
    obtain ⟨rr, hr1, hr2, hr3⟩ := TA.out acc _ (fun j => by
      rw [List.getD_eq_getElem?_getD]
      cases h : ys[(0 + plc n 0 (j : Int)).toNat]? with
      | none => exact ⟨by decide, by decide⟩
      | some z => exact HYS.out.2 z (List.mem_of_getElem? h)) hacc
    have T21 := Aside0.mk (prim_Get.ok wr (tab_below HTO.out HBX.out) wp.heap.size g 8 cp 8 cp ys HRX.out (Nat.le_refl _) HYS.out.2 0 a0 0 n sg fl nu mi ma HP.out HZ.out (.inl rfl) ⟨by decide, by have := HZ.out; omega⟩ (by decide) acc rr hacc hr1)
    have T8 := Aside0.mk (fun (W : World) (hW : Tab W) => prim_Fits.calls a0 rr true W hr2 hW)
    have T7 := Aside0.mk (fun (W : World) (hW : Tab W) => prim_Compare.calls 2 a0 rr rr 0 W hr3 hW)
    clear hacc hr1 hr2 hr3
    go_wp2_with (first | (go_at_call 21; (with_reducible refine T21.out.mono ?_); rintro e_ w21 ⟨rfl, hb_⟩; have n0_ := Aside0.mk (below_step HBX.out hb_); clear HBX hb_; have HBX := n0_; clear n0_) | (go_at_call 8; (with_reducible refine (T8.out _ (tab_below HTO.out (by repeat (first | (with_reducible first | exact HBX.out | apply below_alloc | apply pw_below_drewN | apply below_drew1) | exact HBX.out)))).mono ?_); rintro e_ w8 ⟨rfl, hb_⟩; have n0_ := Aside0.mk (below_step (by repeat (first | (with_reducible first | exact HBX.out | apply below_alloc | apply pw_below_drewN | apply below_drew1) | exact HBX.out)) hb_); clear HBX hb_; have HBX := n0_; clear n0_) | (go_at_call 7; (with_reducible refine (T7.out _ (tab_below HTO.out (by repeat (first | (with_reducible first | exact HBX.out | apply below_alloc | apply pw_below_drewN | apply below_drew1) | exact HBX.out)))).mono ?_); rintro e_ w7 ⟨rfl, hb_⟩; have n0_ := Aside0.mk (below_step (by repeat (first | (with_reducible first | exact HBX.out | apply below_alloc | apply pw_below_drewN | apply below_drew1) | exact HBX.out)) hb_); clear HBX hb_; have HBX := n0_; clear n0_))
    go_ret
    exact ⟨rfl, below_step HB.out (by repeat (first | (with_reducible first | exact HBX.out | apply below_alloc | apply pw_below_drewN | apply below_drew1) | exact HBX.out))⟩
theorem stencillaw01_PrimBack.calls (a0 a1 a2 a3 : Int) (r : Bool) (w : World) (h : stencillaw01_PrimBack.f a0 a1 a2 a3 = some r) (hT0 : Tab w) :
    Calls Tryd.prog 6 #[.int .i64 a0, .int .u64 a1, .int .i64 a2, .int .u8 a3] w fun e w' => e = .returned (.bool r) ∧ Below w.heap.size w w' := by
  unfold stencillaw01_PrimBack.f at h
  split at h
  case isFalse => cases h
  rename_i hh
  obtain rfl := Option.some.inj h
  obtain ⟨h1, h2, h3⟩ := hh
  by_cases hin : a0 < 0 ∨ 10 < a0
  · rcases row_cases a0 with ⟨_, hrow⟩ | hr
    · exact PrimBack.zero a0 a1 a2 a3 w hT0 h1 h2 h3 0 false false 0 0 0 hrow rfl
    · omega
  · obtain ⟨z, sg, fl, nu, mi, ma, hp, _⟩ := word_all a0 hin
    cases hf : fitsV a0 a1 with
    | true => exact PrimBack.ok a0 a1 a2 a3 w hT0 h1 h2 h3 z sg fl nu mi ma hp hin hf
    | false => exact PrimBack.range a0 a1 a2 a3 w hT0 h1 h2 h3 z sg fl nu mi ma hp hin hf
theorem PrimBack_pure (a0 a1 a2 a3 : Int) (w0 : (Lit.int .i64 a0).wf = true) (w1 : (Lit.int .u64 a1).wf = true) (w2 : (Lit.int .i64 a2).wf = true) (w3 : (Lit.int .u8 a3).wf = true) : stencillaw01_PrimBack.f a0 a1 a2 a3 = some true := by
  have z1 := wf_u64 w1
  have z2 : IntKind.i64.min ≤ a2 ∧ a2 ≤ IntKind.i64.max := by simpa [Lit.wf] using w2
  have z3 : IntKind.u8.min ≤ a3 ∧ a3 ≤ IntKind.u8.max := by simpa [Lit.wf] using w3
  rw [show IntKind.i64.min = -9223372036854775808 by decide, show IntKind.i64.max = 9223372036854775807 by decide] at z2
  rw [show IntKind.u8.min = 0 by decide, show IntKind.u8.max = 255 by decide] at z3
  unfold stencillaw01_PrimBack.f
  rw [if_pos ⟨z1, z2, z3⟩]

end Go.Proofs.YtgackepigegbkaaDoor.B
