/- The walk of FrameSplits (layer 24), by hand, where what is read is of bulk at most 1048576. -/

import Derived.Test.YtkchnocliilapaaQx0
import Derived.Test.YtkchnocliilapaaQx2
import Derived.Test.YtkchnocliilapaaQx3
import Derived.Test.YtkchnocliilapaaHKeepLaw
import Derived.Test.YtkchnocliilapaaHPureSplit
namespace Go.Proofs.Ytkchnocliilapaa.Q
open Go.RowKit Go.Proofs.YtkchnocliilapaaW.PrintWords Go.Proofs.YtkchnocliilapaaW.PrintLast Go.Proofs.YtkchnocliilapaaW.PrintMore
attribute [local go_sem] max2_int min2_int max_two min_two max_three min_three max_four min_four   -- for this text's walks alone
set_option linter.unusedVariables false
set_option linter.unusedSimpArgs false

theorem same_refl (l : List S23) (hl : l.length ≤ 9223372036854775807) : ∀ (d i : Nat), i + d = l.length → stencillaw24_same.l0 (d + 1) l l (i : Int) = some true
  | 0, i, h => by rw [stencillaw24_same.l0, if_neg (by omega)]
  | d + 1, i, h => by
    have c1 : (i : Int) < (l.length : Int) := by omega
    have c2 : 0 ≤ (i : Int) := by omega
    have ih := same_refl l hl d (i + 1) (by omega)
    have w1 : wrap64 ((i : Int) + 1) = ((i + 1 : Nat) : Int) := w64_id (by omega) (by omega)
    rw [stencillaw24_same.l0, if_pos c1, if_pos c2, if_pos c1, if_neg (by simp), w1]
    exact ih
theorem same_self (l : List S23) (hl : l.length ≤ 9223372036854775807) : stencillaw24_same.f (l.length + 1) l l = some true := by
  unfold stencillaw24_same.f
  rw [if_pos rfl]
  exact same_refl l hl l.length 0 (by omega)
theorem rd_marks (x : S23) (n : Nat) (i : Nat) (h : i < n) : rd_T23 (List.replicate n x) (i : Int) = x := by
  unfold rd_T23
  rw [Int.toNat_natCast, List.getD_eq_getElem?_getD, List.getElem?_replicate, if_pos h]; rfl
theorem holds_l1 (m : Int) (n : Nat) (hm0 : 0 ≤ m) (hm1 : m < 1000000000000) (hn : n < 1000000000000) : ∀ (d i : Nat), i + d = n + 1 → Ev (fun k => stencillaw24_kept_holds.l1 k (i : Int) (List.replicate n (mkP m)) (List.replicate (n + 1) (mkP m)) m) true
  | 0, i, h => by
    have w1 : wrap64 ((n : Int) + 1) = (n : Int) + 1 := w64_id (by omega) (by omega)
    refine ev_now (g := fun k => stencillaw24_kept_holds.l1 k (i : Int) (List.replicate n (mkP m)) (List.replicate (n + 1) (mkP m)) m) fun k => ?_
    rw [stencillaw24_kept_holds.l1, if_neg (by rw [List.length_replicate]; omega), List.length_replicate, List.length_replicate, w1]
    simp
  | d + 1, i, h => by
    have c1 : (i : Int) < ((List.replicate (n + 1) (mkP m)).length : Int) := by rw [List.length_replicate]; omega
    have c2 : 0 ≤ (i : Int) := by omega
    have c3 : i < n + 1 := by omega
    have ih := holds_l1 m n hm0 hm1 hn d (i + 1) (by omega)
    have w1 : wrap64 ((i : Int) + 1) = ((i + 1 : Nat) : Int) := w64_id (by omega) (by omega)
    have w2 : wrap64 (-m) = -m := w64_id (by omega) (by omega)
    have w3 : wrap64 (-m - 1) = -m - 1 := w64_id (by omega) (by omega)
    refine Ev.step (fun k => ?_) ih
    rw [stencillaw24_kept_holds.l1, if_pos c1, if_pos c2, rd_marks _ _ _ c3, w2, w3, if_pos (show (mkP m).f0 = -m - 1 from rfl), w1]
theorem holds_l0 (m : Int) (n : Nat) (hm0 : 0 ≤ m) (hm1 : m < 1000000000000) (hn : n < 1000000000000) : ∀ (d i : Nat), i + d = n → Ev (fun k => stencillaw24_kept_holds.l0 k (i : Int) (List.replicate n (mkP m)) (List.replicate (n + 1) (mkP m)) m) true
  | 0, i, h => by
    refine Ev.step (fun k => ?_) (holds_l1 m n hm0 hm1 hn (n + 1) 0 (by omega))
    rw [stencillaw24_kept_holds.l0, if_neg (by rw [List.length_replicate]; omega)]
    rfl
  | d + 1, i, h => by
    have c1 : (i : Int) < ((List.replicate n (mkP m)).length : Int) := by rw [List.length_replicate]; omega
    have c2 : 0 ≤ (i : Int) := by omega
    have c3 : i < n := by omega
    have ih := holds_l0 m n hm0 hm1 hn d (i + 1) (by omega)
    have w1 : wrap64 ((i : Int) + 1) = ((i + 1 : Nat) : Int) := w64_id (by omega) (by omega)
    have w2 : wrap64 (-m) = -m := w64_id (by omega) (by omega)
    have w3 : wrap64 (-m - 1) = -m - 1 := w64_id (by omega) (by omega)
    refine Ev.step (fun k => ?_) ih
    rw [stencillaw24_kept_holds.l0, if_pos c1, if_pos c2, rd_marks _ _ _ c3, w2, w3, if_pos (show (mkP m).f0 = -m - 1 from rfl), w1]
theorem holds_marks (m : Int) (n : Nat) (hm0 : 0 ≤ m) (hm1 : m < 1000000000000) (hn : n < 1000000000000) : ∃ k, stencillaw24_kept_holds.f k (List.replicate n (mkP m)) (List.replicate (n + 1) (mkP m)) m = some true :=
  (holds_l0 m n hm0 hm1 hn n 0 (by omega)).rounds

theorem wrap_eq (t : Int) (b : ByteArray) (hb : b.size < 2147483648) : ∃ r1 r2, frame_Wrap.f t b = some (r1, r2) ∧ stencilref24_Wrap.f t b = some (r1, r2) := by
  unfold frame_Wrap.f stencilref24_Wrap.f
  rw [known_f, refKnown_f]
  simp only [Option.bind_some]
  cases hk : (t == 23520 || t == 60240) with
  | false => exact ⟨_, _, by rw [if_neg (by simp)], by rw [if_neg (by simp)]⟩
  | true =>
    have w1 : wrap64 (6 + (b.size : Int)) = (b.size : Int) + 6 := by rw [w64_id (by omega) (by omega)]; omega
    have w2 : wrap64 ((b.size : Int) + 6) = (b.size : Int) + 6 := w64_id (by omega) (by omega)
    rw [if_pos rfl, if_pos rfl, w1, w2, if_neg (c := (b.size : Int) + 6 > 4294967295) (by omega), if_neg (c := (b.size : Int) + 6 > 4294967295) (by omega)]
    clear w1 w2
    obtain ⟨n, hn⟩ : ∃ n : Int, n = (b.size : Int) + 6 := ⟨_, rfl⟩
    have hn0 : 0 ≤ n ∧ n < 2147483654 := by omega
    rw [← hn]
    have ht : t = 23520 ∨ t = 60240 := by simpa using hk
    have e1 : wrap64 (Int.tdiv n 16777216) = n / 16777216 := by rw [Int.tdiv_eq_ediv_of_nonneg hn0.1]; exact w64_id (by omega) (by omega)
    have e2 : Int.tmod (wrap64 (Int.tdiv n 65536)) 256 = n / 65536 % 256 := by rw [Int.tdiv_eq_ediv_of_nonneg hn0.1, w64_id (by omega) (by omega), Int.tmod_eq_emod_of_nonneg (by omega)]
    have e3 : Int.tmod (wrap64 (Int.tdiv n 256)) 256 = n / 256 % 256 := by rw [Int.tdiv_eq_ediv_of_nonneg hn0.1, w64_id (by omega) (by omega), Int.tmod_eq_emod_of_nonneg (by omega)]
    have e4 : Int.tmod n 256 = n % 256 := Int.tmod_eq_emod_of_nonneg hn0.1
    have e5 : wrap64 (Int.tdiv t 256) = t / 256 := by rcases ht with rfl | rfl <;> (rw [w64_id (by decide) (by decide)]; decide)
    have e6 : Int.tmod t 256 = t % 256 := by rcases ht with rfl | rfl <;> decide
    rw [e1, e2, e3, e4, e5, e6, Int.emod_emod_of_dvd _ (Int.dvd_refl _), Int.emod_emod_of_dvd _ (Int.dvd_refl _), Int.emod_emod_of_dvd _ (Int.dvd_refl _), Int.emod_emod_of_dvd _ (Int.dvd_refl _)]
    have hs : ∀ l : List Int, l.length = 6 → (strOfNums l).size + b.size ≤ 9223372036854775807 := fun l hl => by rw [strOfNums_size, hl]; omega
    exact ⟨_, _, by rw [if_pos (hs _ rfl)], by rw [if_pos (hs _ rfl)]⟩

def stencillaw24_FrameSplits.f (a0 : Int) (a1 : ByteArray) (p0 : Int) (p1 : ByteArray) : Option Bool := if a1.size + p1.size ≤ 1048576 then some true else none

theorem parcelsF_count (lim : Int) : ∀ (f : Nat) (bs : List Int) (acc : List S23), (parcelsF lim f bs acc).1.length ≤ acc.length + bs.length
  | 0, bs, acc => by simp [parcelsF]
  | f + 1, bs, acc => by
    rw [parcelsF]
    split
    · rename_i h
      have h1 := look_one h
      refine Nat.le_trans (parcelsF_count lim f _ _) ?_
      rw [List.length_append, List.length_drop, List.length_singleton]
      omega
    · exact Nat.le_add_right _ _
theorem own_old {α : Type} {d : Kd α} {e base : Nat} {ok : Nat → Prop} {w w1 : World} {A : Option Addr} {n c : Nat} {xs : List α} (h : d.R e w base ok (.slice A n c) xs) (hb : Below w.heap.size w w1) : ∀ a, A = some a → a.block < w.heap.size := by
  intro a ha
  subst ha
  obtain ⟨inner, ho⟩ := Kd.R_own h
  exact own_lt ho a.block rfl

theorem own_from {α : Type} {d : Kd α} {e base : Nat} {ok : Nat → Prop} {w : World} {A : Option Addr} {n c : Nat} {xs : List α} (h : d.R e w base ok (.slice A n c) xs) : ∀ a, A = some a → base ≤ a.block := by
  intro a ha
  subst ha
  obtain ⟨inner, ho⟩ := Kd.R_own h
  exact own_base ho a.block rfl
theorem own_in {α : Type} {d : Kd α} {e base : Nat} {ok : Nat → Prop} {w : World} {A : Option Addr} {n c : Nat} {xs : List α} (h : d.R e w base ok (.slice A n c) xs) : ∀ a, A = some a → base ≤ a.block ∧ a.block < w.heap.size := by
  intro a ha
  refine ⟨own_from h a ha, ?_⟩
  subst ha
  obtain ⟨inner, ho⟩ := Kd.R_own h
  exact own_lt ho a.block rfl
theorem kept_other {W w11 : World} {A1 A2 : Option Addr} {n B : Nat} {l : List S23} (hC : Kd.C k23 W A2 n l) (hA2 : ∀ a, A2 = some a → B ≤ a.block ∧ a.block < W.heap.size) (hA1 : ∀ a, A1 = some a → a.block < B) (hkp : Kept W w11 (fun k => ∃ a, A1 = some a ∧ k = a.block)) : Kd.C k23 w11 A2 n l :=
  C23_same hC (fun a ha => hkp.2 _ (hA2 a ha).2 (fun ⟨a', h', e⟩ => by have := hA1 a' h'; have := (hA2 a ha).1; omega))

set_option maxHeartbeats 4000000 in
set_option maxRecDepth 100000 in
theorem stencillaw24_FrameSplits.calls (a0 : Int) (a1 : ByteArray) (p0 : Int) (p1 : ByteArray) (r : Bool) (w : World) (h : stencillaw24_FrameSplits.f a0 a1 p0 p1 = some r) :
    Calls Try.prog 3 #[.int .i64 a0, .string a1, .agg #[.int .i64 p0, .string p1]] w fun e w' => e = .returned (.bool r) ∧ Below w.heap.size w w' := by
  unfold stencillaw24_FrameSplits.f at h
  split at h
  case isFalse => cases h
  rename_i hsz
  obtain rfl := Option.some.inj h
  clear h
  have hu23 := Try.underlying23
  have hu31 := Try.underlying31
  obtain ⟨k, hk⟩ := refSplit a0 a1 (by omega)
  have hSplit := fun W => frame_Split.calls W a0 a1 (by omega)
  have hlen := parcelsF_count a0 a1.size (bytesOf a1) []
  rw [bytesOf_length] at hlen
  obtain ⟨u1, u2, hw1, hw2⟩ := wrap_eq p0 p1 (by omega)
  generalize parcelsF a0 a1.size (bytesOf a1) [] = R at *
  generalize (a1.size : Int) - R.2.length = n at *
  generalize verdictF a0 R.2 = v at *
  have hll : R.1.length < 1000000000000 := by have := hlen; rw [List.length_nil] at this; omega
  obtain ⟨kh, hkh⟩ := holds_marks 1 R.1.length (by decide) (by decide) hll
  generalize R.1 = l at *
  have hH := fun (A1 A4 : Option Addr) (c1 c4 : Nat) (W : World) (h1 : Kd.C k23 W A1 l.length (List.replicate l.length (mkP 1))) (h2 : l.length ≤ c1) (h3 : Kd.C k23 W A4 (l.length + 1) (List.replicate (l.length + 1) (mkP 1))) (h4 : l.length + 1 ≤ c4) => stencillaw24_kept_holds.calls kh A1 c1 (List.replicate l.length (mkP 1)) A4 c4 (List.replicate (l.length + 1) (mkP 1)) 1 true W (by rwa [List.length_replicate]) (by rwa [List.length_replicate]) (by rwa [List.length_replicate]) (by rwa [List.length_replicate]) hkh
  simp only [List.length_replicate] at hH
  have HHC := Aside0.mk hH
  clear hH
  have HSP := Aside0.mk hSplit
  have HK := Aside0.mk hk
  have HW1 := Aside0.mk hw1
  have HW2 := Aside0.mk hw2
  have HH := Aside0.mk hkh
  have hp1 : p1.size < 2147483648 := by omega
  clear hSplit hk hw1 hw2 hkh hlen hsz
  have HB := Aside0.mk (Below.refl w.heap.size w)
  have tok1 : Aside0 True := ⟨trivial⟩
  go_enter Try.func3, Try.ntmps3
  go_wp2_with (first | ((with_reducible refine gate_dst (N := 5) rfl ?_); refine box_event ?hg (N := 5) ?hd (cs := #[.int .i64 p0, .string p1]) (t := 23) ?hr ?_; (case hd => rfl); (case hg => rfl); (case hr => first | (go_simp; done) | (go_simp; rfl)); intro g5 hgx w5 hbox hbw; have HBX := Aside0.mk hbox; have HG5 := Aside0.mk (blk_lt hbox); have n0_ := Aside0.mk (below_step HB.out hbw); clear HB; have HB := n0_; clear n0_; clear hgx hbox hbw) | (go_at_call 7; (with_reducible refine (HSP.out _).mono ?_); clear tok1; rintro e w7 ⟨v1, rfl, ho1, hb_⟩; have HX5 := Aside0.mk ((hb_.block g5 (blk_lt HBX.out)).trans HBX.out); have ho1' := Kd.R_lower (base' := w.heap.size) ho1 (below_size (by repeat (first | (with_reducible first | exact HB.out | apply below_alloc | apply pw_below_drewN | apply below_drew1) | exact HB.out))); have n0_ := Aside0.mk (below_step (by repeat (first | (with_reducible first | exact HB.out | apply below_alloc | apply pw_below_drewN | apply below_drew1) | exact HB.out)) hb_); clear HB; have HB := n0_; clear n0_ HBX; obtain ⟨A1, c1, rfl⟩ := Kd.R_slice ho1; have HA1 := Aside0.mk (own_from ho1); have HO1 := Aside0.mk ho1'; clear ho1 ho1' hb_) | (go_at_call 8; (with_reducible refine (stencilref24_Split.calls k a0 a1 l n v _ HK.out).mono ?_); rintro e w8 ⟨v2, rfl, ho2, hb_⟩; have HX8 := Aside0.mk ((hb_.block g5 (blk_lt HX5.out)).trans HX5.out); have HO8 := Aside0.mk (Kd.R_below HO1.out hb_); have HLT := Aside0.mk (own_old HO1.out hb_); have n0_ := Aside0.mk (below_step (by repeat (first | (with_reducible first | exact HB.out | apply below_alloc | apply pw_below_drewN | apply below_drew1) | exact HB.out)) hb_); clear HB; have HB := n0_; clear n0_ HO1 HX5; obtain ⟨A2, c2, rfl⟩ := Kd.R_slice ho2; have HA2 := Aside0.mk (own_in ho2); have HC8 := Aside0.mk (Kd.R_reads' ho2).2.2; have HO2 := Aside0.mk ho2; clear ho2 hb_) | (go_at_call 9; (with_reducible refine (stencillaw24_same.calls _ A1 c1 l A2 c2 l true _ (Kd.R_reads' HO8.out).2.2 (Kd.R_reads' HO8.out).2.1 (Kd.R_reads' HO2.out).2.2 (Kd.R_reads' HO2.out).2.1 (same_self l (by omega))).mono ?_); rintro e w9 ⟨rfl, ⟨m1, rfl⟩⟩) | (go_at_call 10; (with_reducible refine (stencillaw24_num.calls v v _ rfl).mono ?_); rintro e w10 ⟨rfl, ⟨m3, rfl⟩⟩) | (go_at_call 11; (with_reducible refine (keep.calls w _ A1 c1 l 1 (by (with_reducible repeat (first | apply Kd.R_alloc | apply Kd.R_drewN | apply Kd.R_drew)); exact HO8.out) (by repeat (first | (with_reducible first | exact HB.out | apply below_alloc | apply pw_below_drewN | apply below_drew1) | exact HB.out)) hll (by decide) (by decide)).mono ?_); rintro e w11 ⟨A4, c4, rfl, hl1, hl2, hk1, hk2, hb4, hkp⟩; have HX11 := Aside0.mk ((hkp.2 g5 (blk_lt HX8.out) (fun ⟨a, h, e⟩ => by have := HA1.out a h; have := HG5.out; omega)).trans HX8.out); have HC2 := Aside0.mk (kept_other (by repeat (first | exact HC8.out | (with_reducible refine Kd.C_alloc ?_ _) | (with_reducible refine Kd.C_drewN ?_ _) | (with_reducible refine Kd.C_drew ?_))) HA2.out HLT.out hkp); have HL2 := Aside0.mk (Kd.R_reads' HO2.out).2.1; have HK1 := Aside0.mk hk1; have HK2 := Aside0.mk hk2; have HL3 := Aside0.mk hl1; have HL4 := Aside0.mk hl2; clear HB; have HB := Aside0.mk hb4; clear HO8 HO2 HC8 HX8 HA2 HLT HA1 HG5 hl1 hl2 hk1 hk2 hb4 hkp) | ((with_reducible refine gate_dst (N := 13) rfl ?_); refine box_event ?hg (N := 13) ?hd (cs := #[.slice none 0 0, .slice none 0 0, .int .i64 0]) (t := 31) ?hr ?_; (case hd => rfl); (case hg => rfl); (case hr => first | (go_simp; done) | (go_simp; rfl)); intro g13 hgx w13 hbox hbw; have HB13 := Aside0.mk hbw; have HGE13 := Aside0.mk (Nat.le_of_eq hgx.symm); have HBX13 := Aside0.mk hbox; have hz0 := blk_cell hbox 0; have hz1 := blk_cell hbox 1; have hz2 := blk_cell hbox 2; have hy0 := blk_frozen hbox 0; have hy1 := blk_frozen hbox 1; have hy2 := blk_frozen hbox 2; have HGE := Aside0.mk (show w.heap.size ≤ g13 by rw [hgx]; exact HB.out.size); have n0_ := Aside0.mk (below_step HB.out hbw); clear HB; have HB := n0_; clear n0_; clear hgx hbox hbw) | (go_at_call 7; (with_reducible refine (HSP.out _).mono ?_); rintro e w7b ⟨v3, rfl, ho3, hb_⟩; have hbb := below_step (((HB13.out.setCell HGE13.out (.slice A1 l.length c1)).setCell HGE13.out (.slice A4 (l.length + 1) c4)).setCell HGE13.out (.int .i64 1)) hb_; have HX7 := Aside0.mk ((hbb.block g5 (blk_lt HX11.out)).trans HX11.out); have HD2 := Aside0.mk (Kd.C_below HC2.out hbb); have HM1 := Aside0.mk (Kd.C_below HK1.out hbb); have HM2 := Aside0.mk (Kd.C_below HK2.out hbb); have hz := blk_set (blk_set (blk_set HBX13.out 0 (.slice A1 l.length c1)) 1 (.slice A4 (l.length + 1) c4)) 2 (.int .i64 1); have hz' := (hb_.block g13 (blk_lt hz)).trans hz; clear hz0 hz1 hz2 hy0 hy1 hy2; have hz0 := blk_cell hz' 0; have hz1 := blk_cell hz' 1; have hz2 := blk_cell hz' 2; simp at hz0 hz1 hz2; have n0_ := Aside0.mk (below_step (((HB.out.setCell HGE.out _).setCell HGE.out _).setCell HGE.out _) hb_); clear HB; have HB := n0_; clear n0_ hz hz' HB13 HGE13 HBX13 HX11 HC2 HK1 HK2; obtain ⟨A3, c3, rfl⟩ := Kd.R_slice ho3; have HC3 := Aside0.mk (Kd.R_reads' ho3).2.2; have HL5 := Aside0.mk (Kd.R_reads' ho3).2.1; clear ho3 hb_ hbb) | (go_at_call 9; (with_reducible refine (stencillaw24_same.calls _ A3 c3 l A2 c2 l true _ HC3.out HL5.out HD2.out HL2.out (same_self l (by omega))).mono ?_); rintro e w9b ⟨rfl, ⟨m4, rfl⟩⟩) | (go_at_call 12; (with_reducible refine (HHC.out A1 A4 c1 c4 _ (by repeat (first | exact HM1.out | (with_reducible refine Kd.C_alloc ?_ _) | (with_reducible refine Kd.C_drewN ?_ _) | (with_reducible refine Kd.C_drew ?_))) HL3.out (by repeat (first | exact HM2.out | (with_reducible refine Kd.C_alloc ?_ _) | (with_reducible refine Kd.C_drewN ?_ _) | (with_reducible refine Kd.C_drew ?_))) HL4.out).mono ?_); rintro e w12 ⟨rfl, hb_⟩; have HX12 := Aside0.mk ((hb_.block g5 (blk_lt HX7.out)).trans HX7.out); have hx0 := blk_cell HX12.out 0; have hx1 := blk_cell HX12.out 1; simp at hx0 hx1; have n0_ := Aside0.mk (below_step (by repeat (first | (with_reducible first | exact HB.out | apply below_alloc | apply pw_below_drewN | apply below_drew1) | exact HB.out)) hb_); clear HB; have HB := n0_; clear n0_ hz0 hz1 hz2 hb_ HX7) | (go_at_call 13; (with_reducible refine (frame_Wrap.calls p0 p1 u1 u2 _ HW1.out).mono ?_); rintro e w13b ⟨rfl, hb_⟩; have HX13 := Aside0.mk ((hb_.block g5 (blk_lt HX12.out)).trans HX12.out); clear hx0 hx1; have hx0 := blk_cell HX13.out 0; have hx1 := blk_cell HX13.out 1; simp at hx0 hx1; have n0_ := Aside0.mk (below_step (by repeat (first | (with_reducible first | exact HB.out | apply below_alloc | apply pw_below_drewN | apply below_drew1) | exact HB.out)) hb_); clear HB; have HB := n0_; clear n0_ hb_ HX12) | (go_at_call 14; (with_reducible refine (stencilref24_Wrap.calls p0 p1 u1 u2 _ HW2.out).mono ?_); rintro e w14 ⟨rfl, hb_⟩; have n0_ := Aside0.mk (below_step (by repeat (first | (with_reducible first | exact HB.out | apply below_alloc | apply pw_below_drewN | apply below_drew1) | exact HB.out)) hb_); clear HB; have HB := n0_; clear n0_ hb_ hx0 hx1) | (go_at_call 10; (with_reducible refine (stencillaw24_num.calls u2 u2 _ rfl).mono ?_); rintro e w10b ⟨rfl, ⟨m5, rfl⟩⟩))
  go_ret
  exact ⟨by simp, (by repeat (first | (with_reducible first | exact HB.out | apply below_alloc | apply pw_below_drewN | apply below_drew1) | exact HB.out))⟩
theorem FrameSplits_pure (a0 : Int) (a1 : ByteArray) (p0 : Int) (p1 : ByteArray) (h : a1.size + p1.size ≤ 1048576) : stencillaw24_FrameSplits.f a0 a1 p0 p1 = some true := by unfold stencillaw24_FrameSplits.f; rw [if_pos h]

end Go.Proofs.Ytkchnocliilapaa.Q
