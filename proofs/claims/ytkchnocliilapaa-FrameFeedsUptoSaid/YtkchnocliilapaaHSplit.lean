/- Split (layer 24), by hand: the parcels at a stream's begin, how many bytes they take, what refuses the rest. -/

import Derived.Test.YtkchnocliilapaaQx0
import Derived.Test.YtkchnocliilapaaQx2
import Derived.Test.YtkchnocliilapaaHParcels
namespace Go.Proofs.Ytkchnocliilapaa.Q
open Go.RowKit Go.Proofs.YtkchnocliilapaaW.PrintWords Go.Proofs.YtkchnocliilapaaW.PrintLast Go.Proofs.YtkchnocliilapaaW.PrintMore
attribute [local go_sem] max2_int min2_int max_two min_two max_three min_three max_four min_four   -- for this text's walks alone
set_option linter.unusedVariables false
set_option linter.unusedSimpArgs false

def verdictF (lim : Int) (bs : List Int) : Int := if lookF lim bs = 2 then 240 else if lookF lim bs = 3 then 241 else 0

set_option maxHeartbeats 1000000 in
theorem Framer_verdict.calls (w : World) (g bb : Nat) (lim ref : Int) (bs : List Int) (hF : FrS w g bb bs lim ref) (hb : ∀ b ∈ bs, 0 ≤ b ∧ b < 256) :
    Calls Try.prog 27 #[.pointer (some ⟨g, 0, none⟩)] w fun e w' => e = .returned (.int .i64 (verdictF lim bs)) ∧ Drawn0 w w' := by
  obtain ⟨A, c, hblk, hC, hc, hA, hbb, hne⟩ := hF
  have hlook := Framer_look.calls w g A c lim bs (blk_cell hblk 0) (blk_cell hblk 1) hc hC hb
  have HLK := Aside0.mk hlook
  clear hlook hblk hC hc hA hbb hne hb
  unfold verdictF
  generalize lookF lim bs = x at *
  by_cases h2 : x = 2
  · subst h2
    rw [if_pos rfl]
    go_enter Try.func27, Try.ntmps27
    go_wp2_with ((go_at_call 33; (with_reducible refine (HLK.out).mono ?_); rintro e w_33_ ⟨rfl, ⟨m1, rfl⟩⟩))
    go_ret
    exact ⟨rfl, by repeat (first | exact Drawn0.refl _ | apply Drawn0.step)⟩
  · rw [if_neg h2]
    by_cases h3 : x = 3
    · subst h3
      rw [if_pos rfl]
      go_enter Try.func27, Try.ntmps27
      go_wp2_with ((go_at_call 33; (with_reducible refine (HLK.out).mono ?_); rintro e w_33_ ⟨rfl, ⟨m1, rfl⟩⟩))
      go_ret
      exact ⟨rfl, by repeat (first | exact Drawn0.refl _ | apply Drawn0.step)⟩
    · rw [if_neg h3]
      have b2 : (x == 2) = false := beq_eq_false_iff_ne.2 h2
      have b3 : (x == 3) = false := beq_eq_false_iff_ne.2 h3
      clear h2 h3
      go_enter Try.func27, Try.ntmps27
      go_wp2_with ((go_at_call 33; (with_reducible refine (HLK.out).mono ?_); rintro e w_33_ ⟨rfl, ⟨m1, rfl⟩⟩))
      go_ret
      exact ⟨rfl, by repeat (first | exact Drawn0.refl _ | apply Drawn0.step)⟩

theorem bytesOf_range (s : ByteArray) : ∀ b ∈ bytesOf s, 0 ≤ b ∧ b < 256 := by
  intro b hb
  obtain ⟨x, _, rfl⟩ := List.mem_map.1 hb
  have := x.toNat_lt
  omega
theorem C_bytesWorld (w : World) (s : ByteArray) (hs : s.size ≤ 9223372036854775807) : Kd.C (Kd.int .u8) (Lib.bytesWorld w 5 s) (some ⟨w.heap.size, 0, none⟩) (bytesOf s).length (bytesOf s) := by
  refine ⟨rfl, by rw [bytesOf_length]; exact hs, fun _ => ⟨_, rfl, fun j p hj => ?_⟩⟩
  have hjl : j < s.size := by rw [← bytesOf_length s]; exact (List.getElem?_eq_some_iff.1 hj).1
  refine ⟨[.int .u8 p], rfl, rfl, fun i u hu => ?_⟩
  cases i with
  | succ i => simp at hu
  | zero =>
    injection hu with hu
    subst hu
    have := Lib.bytesWorld_cell w 5 s j hjl
    have e : p = ((s.data.toList.getD j 0).toNat : Int) := by
      have := hj
      unfold bytesOf at this
      rw [List.getElem?_map] at this
      rw [List.getD_eq_getElem?_getD]
      cases hq : s.data.toList[j]? with
      | none => rw [hq] at this; cases this
      | some x => rw [hq] at this; injection this with this; rw [← this]; rfl
    rw [e]
    have hadd : (⟨w.heap.size, 0, none⟩ : Addr).add (j * (Kd.int .u8).sz + 0) = ⟨w.heap.size, j, none⟩ := by
      rw [add_plain]; simp [show (Kd.int .u8).sz = 1 from rfl]
    rw [hadd]
    exact this

theorem split_FrS {w1 : World} {g c0 : Nat} {A0 : Option Addr} {lim : Int} {s : ByteArray} (h : (Lib.bytesWorld w1 5 s).heap[g]? = some (.cells #[.slice A0 0 c0, .int .i64 lim, .int .i64 0] 62 (0, 0))) (hlt : g < w1.heap.size) (hs : s.size ≤ 9223372036854775807) :
    FrS ((Lib.bytesWorld w1 5 s).setCell ⟨g, 0, none⟩ (.slice (some ⟨w1.heap.size, 0, none⟩) s.size (grownCap w1 s.size 0 5))) g w1.heap.size (bytesOf s) lim 0 := by
  refine ⟨some ⟨w1.heap.size, 0, none⟩, grownCap w1 s.size 0 5, ?_, C_block (C_bytesWorld w1 s hs) (bb := w1.heap.size) (fun a ha => by injection ha with ha; rw [← ha]) (blk_far' _ (Nat.ne_of_gt hlt) _), by rw [bytesOf_length]; exact grownCap_ge w1 s.size 0 5, fun a ha => by injection ha with ha; rw [← ha], ?_, Nat.ne_of_gt hlt⟩
  · have z := blk_set h 0 (.slice (some ⟨w1.heap.size, 0, none⟩) s.size (grownCap w1 s.size 0 5))
    rw [bytesOf_length]
    simpa using z
  · simp [Lib.bytesWorld_size]
theorem split_below {w w1 : World} {g : Nat} {s : ByteArray} {v : Value} (h : Below w.heap.size w w1) (hg : w.heap.size ≤ g) : Below w.heap.size w ((Lib.bytesWorld w1 5 s).setCell ⟨g, 0, none⟩ v) := by
  refine Below.setCell ?_ hg _
  exact ⟨h.os, h.tape, h.output, by rw [Lib.bytesWorld_size]; have := h.size; omega, fun i hi => (Lib.bytesWorld_at_old w1 5 s i (Nat.lt_of_lt_of_le hi h.size)).trans (h.block i hi)⟩
theorem parcelsF_range {lim : Int} : ∀ (f : Nat) (bs : List Int) (acc : List S23), (∀ b ∈ bs, 0 ≤ b ∧ b < 256) → ∀ b ∈ (parcelsF lim f bs acc).2, 0 ≤ b ∧ b < 256
  | 0, bs, acc, h => by simpa [parcelsF] using h
  | f + 1, bs, acc, h => by
    rw [parcelsF]
    split
    · exact parcelsF_range f _ _ (fun b hb => h b (List.mem_of_mem_drop hb))
    · exact h
theorem split_range {lim : Int} {s : ByteArray} {R : List S23 × List Int} (h : R = parcelsF lim s.size (bytesOf s) []) : ∀ b ∈ R.2, 0 ≤ b ∧ b < 256 := by
  rw [h]; exact parcelsF_range _ _ _ (bytesOf_range s)

theorem parcelsF_len {lim : Int} : ∀ (f : Nat) (bs : List Int) (acc : List S23), (parcelsF lim f bs acc).2.length ≤ bs.length
  | 0, bs, acc => by simp [parcelsF]
  | f + 1, bs, acc => by
    rw [parcelsF]
    split
    · exact Nat.le_trans (parcelsF_len f _ _) (by rw [List.length_drop]; omega)
    · exact Nat.le_refl _
theorem split_len {lim : Int} {s : ByteArray} {R : List S23 × List Int} (h : R = parcelsF lim s.size (bytesOf s) []) : R.2.length ≤ s.size := by
  rw [h]; have := parcelsF_len (lim := lim) s.size (bytesOf s) []; rwa [bytesOf_length] at this

set_option maxHeartbeats 2000000 in
theorem frame_Split.calls (w : World) (lim : Int) (s : ByteArray) (hs : s.size < 1000000000000000) (hcn : (parcelsF lim s.size (bytesOf s) []).1.length < 1000000000000) :
    Calls Try.prog 7 #[.int .i64 lim, .string s] w fun e w' => ∃ v, e = .returned (.tuple #[v, .int .i64 ((s.size : Int) - (parcelsF lim s.size (bytesOf s) []).2.length), .int .i64 (verdictF lim (parcelsF lim s.size (bytesOf s) []).2)]) ∧ Kd.R k23 23 w' w.heap.size (fun _ => True) v (parcelsF lim s.size (bytesOf s) []).1 ∧ Below w.heap.size w w' := by
  have HB := Aside0.mk (Below.refl w.heap.size w)
  have kb := fun W => print_bytes (P := Try.prog) 9 45 5 Try.underlying9 Try.underlying45 Try.underlying5 s W
  obtain ⟨R, hR⟩ : ∃ R, R = parcelsF lim s.size (bytesOf s) [] := ⟨_, rfl⟩
  rw [← hR] at hcn ⊢
  have HCN := Aside0.mk hcn
  clear hcn
  have HRR := Aside0.mk hR
  clear hR
  go_enter Try.func7, Try.ntmps7
  go_wp2_with (first | (go_at_call 15; (with_reducible refine (frame_New.calls lim [] lim 0 w _ HB.out rfl).mono ?_); rintro e w1 ⟨g, rfl, hIs, hb1, hb2⟩; have HB1 := Aside0.mk hb1; obtain ⟨A0, c0, hblk, hgw, hnil⟩ := hIs; have HG := Aside0.mk hgw; have HBLK := Aside0.mk ((Lib.bytesWorld_at_old w1 5 s g (blk_lt hblk)).trans hblk); have HLT := Aside0.mk (blk_lt hblk); clear hblk hgw hnil hb1 hb2 HB; have hc0 := blk_cell HBLK.out 0; have hf0 := blk_frozen HBLK.out 0; simp at hc0) | (go_at_call 25; (with_reducible refine (Framer_parcels.calls w _ g w1.heap.size lim 0 (bytesOf s) (split_FrS HBLK.out HLT.out (by omega)) (bytesOf_range s) (split_below HB1.out HG.out) HG.out (by rw [bytesOf_length, ← HRR.out]; exact HCN.out) (by rw [bytesOf_length]; exact hs)).mono ?_); rintro e w3 ⟨v3, rfl, ho3, hF3, hb3, hk3⟩; rw [bytesOf_length, ← HRR.out] at ho3 hF3; have HO3 := Aside0.mk ho3; have HF3 := Aside0.mk hF3; have HB3 := Aside0.mk hb3; clear ho3 hF3 hb3 hk3 hc0 hf0 kb; obtain ⟨A3, c3, hblk3, hC3, hcc3, hA3, hbb3, hne3⟩ := HF3.out; have hs0 := blk_cell hblk3 0; have HS := Aside0.mk (held_size.calls w3 g A3 R.2.length c3 hs0); clear hs0 hblk3 hC3 hcc3 hA3 hbb3 hne3; have HRB := Aside0.mk (split_range HRR.out)) | (go_at_call 26; (with_reducible refine HS.out.mono ?_); rintro e w4 ⟨rfl, rfl⟩) | (go_at_call 27; (with_reducible refine (Framer_verdict.calls _ g w1.heap.size lim 0 R.2 HF3.out HRB.out).mono ?_); rintro e w_27_ ⟨rfl, ⟨m1, rfl⟩⟩))
  go_ret3
  have hle := split_len HRR.out
  have hw : wrap64 ((s.size : Int) - R.2.length) = (s.size : Int) - R.2.length := by unfold wrap64; omega
  refine ⟨v3, ?_, Kd.R_mono (Kd.R_drewN HO3.out _) (fun _ _ => trivial), pw_below_drewN HB3.out _⟩
  simp only [hw]
  rfl

end Go.Proofs.Ytkchnocliilapaa.Q
