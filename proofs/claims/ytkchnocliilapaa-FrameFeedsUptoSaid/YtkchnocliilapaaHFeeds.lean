/- Both framers of layer 24's statements side by side: the document's (its rest as a text) and the program's (its bytes in memory). -/
import Derived.Test.YtkchnocliilapaaQx0
import Derived.Test.YtkchnocliilapaaQx2
import Derived.Test.YtkchnocliilapaaQx4
import Derived.Test.YtkchnocliilapaaHFeed
import Derived.Test.YtkchnocliilapaaHKeepLaw
import Derived.Test.YtkchnocliilapaaHPureSplit
import Derived.IntWalk
import Derived.BigQuiet
namespace Go.Proofs.Ytkchnocliilapaa.Q
open Go.RowKit Go.Proofs.YtkchnocliilapaaW.PrintWords Go.Proofs.YtkchnocliilapaaW.PrintLast Go.Proofs.YtkchnocliilapaaW.PrintMore
attribute [local go_sem] max2_int min2_int max_two min_two max_three min_three max_four min_four   -- for this text's walks alone
set_option linter.unusedVariables false
set_option linter.unusedSimpArgs false

theorem w64f {x : Int} (h0 : -9223372036854775808 ≤ x) (h1 : x < 9223372036854775808) : wrap64 x = x := by unfold wrap64; omega
theorem strOf_bytes (s : ByteArray) : strOfNums (bytesOf s) = s := by
  apply ByteArray.ext
  simp [strOfNums, bytesOf]
  cases s
  simp [Function.comp_def]
theorem bytes_strOf (l : List Int) (h : ∀ x ∈ l, 0 ≤ x ∧ x < 256) : bytesOf (strOfNums l) = l := by
  unfold bytesOf strOfNums
  simp only [List.map_map]
  conv => rhs; rw [← List.map_id l]
  refine List.map_congr_left fun x hx => ?_
  have := h x hx
  simp
  omega
theorem strOf_size (l : List Int) : (strOfNums l).size = l.length := strOfNums_size l
theorem strOf_app (a b : List Int) : strOfNums a ++ strOfNums b = strOfNums (a ++ b) := by
  apply ByteArray.ext; simp [strOfNums]
theorem strOf_bt (l : List Int) (h : ∀ x ∈ l, 0 ≤ x ∧ x < 256) (i : Nat) (x : Int) (hi : l[i]? = some x) : bt (strOfNums l) (i : Int) = x := by
  rw [← rd_bytesOf, bytes_strOf l h]
  simp [rd, List.getD_eq_getElem?_getD, hi]
theorem strOf_cut (l : List Int) (a b : Nat) : (strOfNums l).extract a b = strOfNums ((l.drop a).take (b - a)) := by
  unfold strOfNums
  rw [ByteArray.extract_mk, ← List.map_drop, ← List.map_take]
theorem FrO.below {w w1 : World} {base g bb : Nat} {bs : List Int} {lim ref : Int} (h : FrO w base g bb bs lim ref) (hb : Below w.heap.size w w1) : FrO w1 base g bb bs lim ref := by
  obtain ⟨v, h1, h2, h3, h4⟩ := h
  exact ⟨v, blk_below h1 hb, Kd.R_below h2 hb, h3, Nat.lt_of_lt_of_le h4 hb.size⟩
theorem FrO.drewN {w : World} {base g bb : Nat} {bs : List Int} {lim ref : Int} (h : FrO w base g bb bs lim ref) (n : Nat) : FrO (w.drewN n) base g bb bs lim ref := h.below (pw_below_drewN (Below.refl _ _) n)
theorem FrO.drew {w : World} {base g bb : Nat} {bs : List Int} {lim ref : Int} (h : FrO w base g bb bs lim ref) : FrO w.drew base g bb bs lim ref := h.below (below_drew (Below.refl _ _))

/-- What is left is the stream's end. -/
theorem parcelsF_rest (lim : Int) : ∀ (f : Nat) (bs : List Int) (acc : List S23), ∃ n, n ≤ bs.length ∧ (parcelsF lim f bs acc).2 = bs.drop n
  | 0, bs, acc => ⟨0, Nat.zero_le _, rfl⟩
  | f + 1, bs, acc => by
    rw [parcelsF]
    split
    · rename_i h
      have h1 := look_one h
      obtain ⟨n, hn, he⟩ := parcelsF_rest lim f (bs.drop (numL (bs.take 4)).toNat) (acc ++ [⟨numL ((bs.take 6).drop 4), strOfNums ((bs.take (numL (bs.take 4)).toNat).drop 6)⟩])
      refine ⟨(numL (bs.take 4)).toNat + n, by rw [List.length_drop] at hn; omega, ?_⟩
      rw [he, List.drop_drop]
    · exact ⟨0, Nat.zero_le _, rfl⟩
/-- A document's framer in memory. -/
def IsRef (w : World) (h : Nat) (lim : Int) (rest : ByteArray) (err : Int) : Prop := w.heap[h]? = some (.cells #[.int .i64 lim, .string rest, .int .i64 err] 69 (0, 0))
theorem ref_Held.calls (w : World) (h : Nat) (lim err n : Int) (S : ByteArray) (hI : IsRef w h lim S err) (hn : (S.size : Int) = n) :
    Calls Try.prog 20 #[.pointer (some ⟨h, 0, none⟩)] w fun e w' => e = .returned (.int .i64 n) ∧ Drawn0 w w' := by
  subst hn
  have c0 := blk_cell hI 1
  simp only [List.getElem?_toArray, List.getElem?_cons_zero, List.getElem?_cons_succ] at c0
  clear hI
  go_enter Try.func20, Try.ntmps20
  go_wp2
  go_ret
  exact ⟨rfl, Drawn0.refl _⟩
theorem refNeed_val (bs : List Int) (S : ByteArray) (hS : S = strOfNums bs) (hb : ∀ b ∈ bs, 0 ≤ b ∧ b < 256) (hl : bs.length < 1000000000000) (h4 : 4 ≤ bs.length) : ∃ k, stencilref24_number.f k S 0 4 = some (numL (bs.take 4)) := by
  have := (refNumber_f S 0 4 (by rw [hS, strOf_size]; exact hl) (by rw [hS, strOf_size]; omega) (by omega)).rounds
  rw [hS, bytes_strOf bs hb, List.drop_zero, ← hS] at this
  simpa using this
set_option maxHeartbeats 1000000 in
theorem ref_Need.calls (w : World) (h : Nat) (lim err : Int) (bs : List Int) (S : ByteArray) (hI : IsRef w h lim S err) (hS : S = strOfNums bs) (hb : ∀ b ∈ bs, 0 ≤ b ∧ b < 256) (hl : bs.length < 1000000000000) :
    Calls Try.prog 22 #[.pointer (some ⟨h, 0, none⟩)] w fun e w' => e = .returned (.int .i64 (needF err bs)) ∧ Drawn0 w w' := by
  have hz : S.size = bs.length := by rw [hS, strOf_size]
  have c1 := blk_cell hI 1
  have c2 := blk_cell hI 2
  simp only [List.getElem?_toArray, List.getElem?_cons_zero, List.getElem?_cons_succ] at c1 c2
  have HV := Aside0.mk (refNeed_val bs S hS hb hl)
  have hbound := fun (h : 4 ≤ bs.length) => numL_bound 4 (bs.take 4) (by rw [List.length_take]; omega) (fun b hx => hb b (List.mem_of_mem_take hx))
  clear hI hS hb
  unfold needF
  by_cases c : err = 0
  · rw [if_neg (by simpa using c)]
    subst c
    by_cases c4 : bs.length < 4
    · rw [if_pos c4]
      have w1 : wrap64 (6 - (S.size : Int)) = 6 - (bs.length : Int) := by rw [w64f (by omega) (by omega), hz]
      have d1 : decide ((S.size : Int) < 4) = true := decide_eq_true (by omega)
      have d2 : S.size < 4 := by omega
      have HZ := Aside0.mk hz
      clear w1 hz hl c4 hbound HV
      go_enter Try.func22, Try.ntmps22
      go_wp2
      go_ret
      exact ⟨congrArg (fun z : Nat => Ending.returned (.int .i64 (6 - (z : Int)))) HZ.out, Drawn0.refl _⟩
    · rw [if_neg c4]
      obtain ⟨k, hk⟩ := HV.out (by omega)
      have hbd := hbound (by omega)
      have p4 : (256 : Int) ^ 4 = 4294967296 := by decide
      rw [p4] at hbd
      generalize numL (bs.take 4) = x at *
      have w1 : wrap64 (x - (S.size : Int)) = x - (bs.length : Int) := by rw [w64f (by omega) (by omega), hz]
      have d1 : decide ((S.size : Int) < 4) = false := decide_eq_false (by omega)
      have d2 : ¬ S.size < 4 := by omega
      have HZ := Aside0.mk hz
      have HK := Aside0.mk hk
      have HW := Aside0.mk w1
      clear hz hl c4 hbound HV hk hbd p4 w1
      go_enter Try.func22, Try.ntmps22
      go_wp2
      go_quiet ((go_at_call 28; exact Calls.quiet_of ((stencilref24_number.calls k S 0 4 x _ HK.out).mono (fun e w' hq => ⟨hq.1, hq.2.out⟩))))
      go_wp2
      go_ret
      exact ⟨by first | exact congrArg (fun z => Ending.returned (.int .i64 z)) HW.out | exact congrArg (fun z : Nat => Ending.returned (.int .i64 (x - (z : Int)))) HZ.out, by repeat (first | exact Drawn0.refl _ | apply Drawn0.step)⟩
  · rw [if_pos c]
    have d1 : (err != 0) = true := bne_iff_ne.mpr c
    clear c HV hbound
    go_enter Try.func22, Try.ntmps22
    go_wp2
    go_ret
    exact ⟨rfl, Drawn0.refl _⟩
theorem ref_Feed.refused (w : World) (h : Nat) (lim err : Int) (S ch : ByteArray) (hr : err ≠ 0) (hI : IsRef w h lim S err) :
    Calls Try.prog 17 #[.pointer (some ⟨h, 0, none⟩), .string ch] w fun e w' => e = .returned (.tuple #[.slice none 0 0, .int .i64 err]) ∧ Drawn0 w w' := by
  have c2 := blk_cell hI 2
  simp only [List.getElem?_toArray, List.getElem?_cons_zero, List.getElem?_cons_succ] at c2
  have d1 : (err != 0) = true := bne_iff_ne.mpr hr
  clear hI hr
  go_enter Try.func17, Try.ntmps17
  go_wp2
  repeat (go_quiet (fail); try go_wp2)
  go_ret2
  exact ⟨rfl, by repeat (first | exact Drawn0.refl _ | apply Drawn0.step)⟩
theorem refSplit_val (lim : Int) (bs : List Int) (S : ByteArray) (hS : S = strOfNums bs) (hb : ∀ b ∈ bs, 0 ≤ b ∧ b < 256) (hl : bs.length < 1000000000000) :
    ∃ k n, stencilref24_Split.f k lim S = some (feedL lim bs, n, feedE lim bs) ∧ 0 ≤ n ∧ n ≤ (S.size : Int) ∧ S.extract n.toNat S.size = strOfNums (parcelsF lim bs.length bs []).2 := by
  obtain ⟨k, hk⟩ := refSplit lim S (by rw [hS, strOf_size]; exact hl)
  have hz : S.size = bs.length := by rw [hS, strOf_size]
  rw [hz] at hk ⊢
  rw [show bytesOf S = bs by rw [hS, bytes_strOf bs hb]] at hk
  obtain ⟨n, hn, he⟩ := parcelsF_rest lim bs.length bs []
  have hlen : (parcelsF lim bs.length bs []).2.length = bs.length - n := by rw [he, List.length_drop]
  refine ⟨k, _, hk, by omega, by omega, ?_⟩
  rw [hlen, he, hS, strOf_cut]
  congr 1
  rw [show ((bs.length : Int) - ((bs.length - n : Nat) : Int)).toNat = n by omega, List.take_of_length_le (by simp)]
/-- REFTAKEN -/
theorem ref_put {w : World} {h : Nat} {lim err : Int} {S : ByteArray} (hI : IsRef w h lim S err) (S2 : ByteArray) (e2 : Int) : IsRef ((w.setCell ⟨h, 1, none⟩ (.string S2)).setCell ⟨h, 2, none⟩ (.int .i64 e2)) h lim S2 e2 := by
  have z := blk_set (blk_set hI 1 (.string S2)) 2 (.int .i64 e2)
  simpa [IsRef] using z
theorem ref_put1 {w : World} {h : Nat} {lim err : Int} {S : ByteArray} (hI : IsRef w h lim S err) (S2 : ByteArray) : IsRef (w.setCell ⟨h, 1, none⟩ (.string S2)) h lim S2 err := by
  have z := blk_set hI 1 (.string S2)
  simpa [IsRef] using z
theorem kept_put {w w1 : World} {h : Nat} (hk : Kept w w1 (fun k => k = h)) (j : Nat) (v : Value) : Kept w (w1.setCell ⟨h, j, none⟩ v) (fun k => k = h) := kept_set hk rfl j v
theorem kept_below {w w1 : World} {S : Nat → Prop} (h : Below w.heap.size w w1) : Kept w w1 S := ⟨h.size, fun i hi _ => h.block i hi⟩
set_option maxHeartbeats 2000000 in
theorem ref_Feed.taken (w0 w : World) (h : Nat) (lim : Int) (bs ch : List Int) (S C : ByteArray) (hI : IsRef w h lim S 0) (hS : S = strOfNums bs) (hC : C = strOfNums ch) (hb : ∀ b ∈ bs ++ ch, 0 ≤ b ∧ b < 256) (hl : (bs ++ ch).length < 1000000000000) (hB : Below w0.heap.size w0 w) (hg : w0.heap.size ≤ h) :
    Calls Try.prog 17 #[.pointer (some ⟨h, 0, none⟩), .string C] w fun e w' => ∃ v, e = .returned (.tuple #[v, .int .i64 (feedE lim (bs ++ ch))]) ∧ Kd.R k23 23 w' w0.heap.size (fun k => w.heap.size ≤ k) v (feedL lim (bs ++ ch)) ∧ IsRef w' h lim (strOfNums (feedB lim (bs ++ ch))) (feedE lim (bs ++ ch)) ∧ Below w0.heap.size w0 w' ∧ Kept w w' (fun k => k = h) := by
  have hsz : S.size + C.size = (bs ++ ch).length := by rw [hS, hC, strOf_size, strOf_size, List.length_append]
  obtain ⟨k, n, h1, h2, h3, h4⟩ := refSplit_val lim (bs ++ ch) (S ++ C) (by rw [hS, hC, strOf_app]) hb hl
  have hE : feedB lim (bs ++ ch) = if feedE lim (bs ++ ch) = 0 then (parcelsF lim (bs ++ ch).length (bs ++ ch) []).2 else [] := rfl
  rw [hE]
  generalize (parcelsF lim (bs ++ ch).length (bs ++ ch) []).2 = R at *
  generalize feedE lim (bs ++ ch) = E at *
  generalize feedL lim (bs ++ ch) = l at *
  obtain ⟨T, hT⟩ : ∃ T, S ++ C = T := ⟨_, rfl⟩
  rw [hT] at h1 h3 h4
  obtain ⟨X, hX⟩ : ∃ X, T.extract n.toNat T.size = X := ⟨_, rfl⟩
  rw [hX] at h4
  have hbig : (9223372036854775807 < S.size + C.size) = False := eq_false (by omega)
  have HSP := Aside0.mk h1
  have HI := Aside0.mk hI
  have HB := Aside0.mk hB
  have HG := Aside0.mk hg
  have HLT := Aside0.mk (blk_lt hI)
  have c0 := blk_cell hI 0
  have c1 := blk_cell hI 1
  have c2 := blk_cell hI 2
  simp only [List.getElem?_toArray, List.getElem?_cons_zero, List.getElem?_cons_succ] at c0 c1 c2
  have H4 := Aside0.mk h4
  have hn0 := eq_true h2
  have hn1 := eq_true h3
  clear hI hS hC hb hl hB hg hsz h1 h4 h2 h3 hE
  by_cases hE0 : E = 0
  · subst hE0
    rw [if_pos rfl]
    go_enter Try.func17, Try.ntmps17
    go_wp2_with (first | (go_at_call 8; (with_reducible refine (stencilref24_Split.calls k lim T l n 0 _ HSP.out).mono ?_); rintro e w8 ⟨v1, rfl, ho1, hb_⟩; have HI8 := Aside0.mk (show IsRef w8 h lim S 0 from (hb_.block h HLT.out).trans HI.out); clear c0 c1 c2; have c0 := blk_cell HI8.out 0; have c1 := blk_cell HI8.out 1; have c2 := blk_cell HI8.out 2; simp only [List.getElem?_toArray, List.getElem?_cons_zero, List.getElem?_cons_succ] at c0 c1 c2; have f1 := blk_frozen HI8.out 1; have f2 := blk_frozen HI8.out 2; have HO8 := Aside0.mk (Kd.R_lower (Kd.R_mono (Kd.R_bound ho1) (ok' := fun k => w.heap.size ≤ k) (fun k hk => hk.2.1)) HB.out.size); have HB8 := Aside0.mk (below_then HB.out HB.out.size hb_); have HK8 := Aside0.mk (kept_below (S := fun k => k = h) hb_); clear ho1 hb_))
    go_ret2
    refine ⟨_, rfl, Kd.R_far (Kd.R_far HO8.out (p := ⟨h, 1, none⟩) (fun k hk e => by have := HLT.out; have e' : k = h := e; omega) _) (p := ⟨h, 2, none⟩) (fun k hk e => by have := HLT.out; have e' : k = h := e; omega) _, ?_, (HB8.out.setCell HG.out _).setCell HG.out _, kept_put (kept_put HK8.out _ _) _ _⟩
    rw [← H4.out]
    exact ref_put HI8.out _ _
  · rw [if_neg hE0]
    have d1 : (E != 0) = true := bne_iff_ne.mpr hE0
    clear hE0
    go_enter Try.func17, Try.ntmps17
    go_wp2_with (first | (go_at_call 8; (with_reducible refine (stencilref24_Split.calls k lim T l n E _ HSP.out).mono ?_); rintro e w8 ⟨v1, rfl, ho1, hb_⟩; have HI8 := Aside0.mk (show IsRef w8 h lim S 0 from (hb_.block h HLT.out).trans HI.out); clear c0 c1 c2; have c0 := blk_cell HI8.out 0; have c1 := blk_cell HI8.out 1; have c2 := blk_cell HI8.out 2; simp only [List.getElem?_toArray, List.getElem?_cons_zero, List.getElem?_cons_succ] at c0 c1 c2; have f1 := blk_frozen HI8.out 1; have f2 := blk_frozen HI8.out 2; have HO8 := Aside0.mk (Kd.R_lower (Kd.R_mono (Kd.R_bound ho1) (ok' := fun k => w.heap.size ≤ k) (fun k hk => hk.2.1)) HB.out.size); have HB8 := Aside0.mk (below_then HB.out HB.out.size hb_); have HK8 := Aside0.mk (kept_below (S := fun k => k = h) hb_); clear ho1 hb_))
    go_ret2
    refine ⟨_, rfl, Kd.R_far (Kd.R_far (Kd.R_far HO8.out (p := ⟨h, 1, none⟩) (fun k hk e => by have := HLT.out; have e' : k = h := e; omega) _) (p := ⟨h, 2, none⟩) (fun k hk e => by have := HLT.out; have e' : k = h := e; omega) _) (p := ⟨h, 1, none⟩) (fun k hk e => by have := HLT.out; have e' : k = h := e; omega) _, ?_, ((HB8.out.setCell HG.out _).setCell HG.out _).setCell HG.out _, kept_put (kept_put (kept_put HK8.out _ _) _ _) _ _⟩
    exact ref_put1 (ref_put HI8.out _ _) _

end Go.Proofs.Ytkchnocliilapaa.Q
