/- The walk of PrimBytes (layer 1), by hand; written by gen_pbytes.py. -/
import Derived.Test.YtgackepigegbkaaDoorBx0
import Derived.Test.YtgackepigegbkaaDoorHPLaw
import Derived.IntWalk
import Derived.StillTailTactics
import Derived.Lib.SlBytesConst
namespace Go.Proofs.YtgackepigegbkaaDoor.B
open Go.RowKit Go.Proofs.YtgackepigegbkaaDoorW.PrintWords Go.Proofs.YtgackepigegbkaaDoorW.PrintLast Go.Proofs.YtgackepigegbkaaDoorW.PrintMore
attribute [local go_sem] max2_int min2_int max_two min_two max_three min_three max_four min_four   -- for this text's walks alone
set_option linter.unusedVariables false
set_option linter.unusedSimpArgs false

def stencillaw01_PrimBytes.f (l0 : List Int) (a1 a2 a3 a4 a5 : Int) (a6 : ByteArray) : Option Bool := if l0.length ≤ 140737488351232 ∧ (∀ x ∈ l0, 0 ≤ x ∧ x ≤ 255) ∧ (-9223372036854775808 ≤ a1 ∧ a1 ≤ 9223372036854775807) ∧ (0 ≤ a5 ∧ a5 < 18446744073709551616) then some true else none
theorem row_form8 {W : World} {base : Nat} {v : Value} {xs : List Int} (h : Kd.R (Kd.int .u8) 5 W base (fun _ => True) v xs) (m : Nat) (hm : xs.length = m) (hl : 0 < m) : ∃ g cap, v = .slice (some ⟨g, 0, none⟩) m cap ∧ base ≤ g := by
  subst hm
  obtain ⟨g, cap, hv, hb, _⟩ := Kd.R_form h hl
  exact ⟨g, cap, hv, hb⟩
theorem row_ne {W : World} {base g gx : Nat} {v : Value} {xs : List Int} (h : Kd.R (Kd.int .u8) 5 W base (fun _ => True) v xs) (hg : g < base) (hx : gx < base) : Kd.R (Kd.int .u8) 5 W base (fun k => k ≠ g ∧ k ≠ gx) v xs :=
  Kd.R_flat (fun hm => hm) h (fun k hk _ => by
    rcases (Kd.own_of_R h).2 with ⟨rfl, _⟩ | ⟨g', cap, cur, rfl, hb, _⟩
    · simp [Value.ownBlock] at hk
    · simp [Value.ownBlock] at hk; omega)
theorem Mine.kept {W W2 : World} {base g gx cap : Nat} {l : List Int} (h : Mine W base g cap l) (hk : Kept W W2 (fun k => k ≠ g ∧ k ≠ gx)) : Mine W2 base g cap l := by
  have h1 : Kd.R (Kd.int .u8) 5 W base (fun k => k = g) (.slice (some ⟨g, 0, none⟩) (l.length + 3) cap) (l ++ [77, 78, 79]) := Kd.R_flat (fun hm => hm) h (fun k hk _ => by simp [Value.ownBlock] at hk; exact hk.symm)
  exact Kd.R_mono (Kd.R_step h1 (fun k ho hlt => hk.2 k hlt (fun hn => hn.1 ho))) (fun _ _ => trivial)
theorem oth_row {w wr : World} {g gx base : Nat} {v : Value} {xs : List Int} (h : Oth w wr g) (hr : Kd.R (Kd.int .u8) 5 w base (fun k => k ≠ g ∧ k ≠ gx) v xs) : Kd.R (Kd.int .u8) 5 wr base (fun k => k ≠ g ∧ k ≠ gx) v xs := Kd.R_step hr (fun k ho hk => h.2 k hk ho.1)
theorem kept_row {W w' : World} {g gx base : Nat} {v : Value} {xs : List Int} (hg : g < W.heap.size) (hx : gx < W.heap.size) (hr : Kd.R (Kd.int .u8) 5 w' base (fun k_ => ((k_ ≠ g ∧ k_ ≠ gx) ∨ W.heap.size ≤ k_)) v xs) : Kd.R (Kd.int .u8) 5 w' base (fun k => k ≠ g ∧ k ≠ gx) v xs := Kd.R_mono hr (fun k hk => hk.elim id (fun h => ⟨by omega, by omega⟩))
theorem conv_own {W : World} {base n : Nat} {ok : Nat → Prop} {A : Option Addr} {c : Nat} {xs : List Int} (h : Kd.R (Kd.int .u8) 5 W base ok (.slice A n c) xs) (C : Nat) : (convert 31 9 (.slice A n C)).run Tryd.prog W = .ok (.string (strOfNums xs)) W := by
  have hn := (Kd.R_reads' h).1
  subst hn
  exact Kd.C_string Tryd.underlying31 Tryd.underlying5 Tryd.underlying9 (Kd.R_reads' h).2.2
theorem rd8_of {W : World} {base : Nat} {ok : Nat → Prop} {A : Option Addr} {n c : Nat} {xs : List Int} (h : Kd.R (Kd.int .u8) 5 W base ok (.slice A n c) xs) : Rd8 W (.slice A xs.length c) xs.length xs := by
  have hn := (Kd.R_reads' h).1
  subst hn
  rcases (Kd.own_of_R h).2 with ⟨hv, h0⟩ | ⟨g', cap, cur, hv, hb, _⟩
  · injection hv with e1 e2 e3
    subst e1 e3
    exact .inl ⟨by rw [h0], h0, List.eq_nil_of_length_eq_zero h0⟩
  · injection hv with e1 e2 e3
    subst e1 e3
    have hm : Kd.R (Kd.int .u8) 5 W base (fun _ => True) (.slice (some ⟨g', 0, none⟩) xs.length c) xs := Kd.R_mono h (fun _ _ => trivial)
    refine .inr ⟨g', c, rfl, (Kd.R_reads' h).2.1, rfl, fun i hi => ?_⟩
    obtain ⟨_, _, _, hc, _⟩ := byte_at hm (i : Int) (by omega) (by omega)
    rw [Int.toNat_natCast] at hc
    exact hc
theorem mine_conv {W : World} {base g cap : Nat} {l : List Int} (h : Mine W base g cap l) (C : Nat) : (convert 31 9 (.slice (some ⟨g, 0, none⟩) l.length C)).run Tryd.prog W = .ok (.string (strOfNums l)) W := by
  rcases h.rd with ⟨_, h1, h2⟩ | ⟨g', c', hv, _, hl, hc⟩
  · have := rd8_conv (W := W) (g := g) (n := 0) (xs := []) rfl (fun i hi => absurd hi (Nat.not_lt_zero _)) 0 0 C (by omega)
    rw [h2]; exact this
  · injection hv with e1 e2 e3
    injection e1 with e1
    injection e1 with e1
    subst e1
    have := rd8_conv (W := W) hl hc 0 l.length C (by omega)
    rw [Nat.zero_add, List.take_length, List.drop_zero] at this
    exact this
theorem mine_tail {W : World} {base g cap : Nat} {l : List Int} (h : Mine W base g cap l) (m : Nat) (hm : l.length = m) (C : Nat) : (convert 31 9 (.slice (some ⟨g, m, none⟩) 3 C)).run Tryd.prog W = .ok (.string ⟨#[77, 78, 79]⟩) W := by
  subst hm
  have := rd8_conv (W := W) (g := g) (n := l.length + 3) (xs := l ++ [77, 78, 79]) (by simp) (fun i hi => by
    obtain ⟨_, _, _, hc, _⟩ := byte_at h (i : Int) (by omega) (by omega)
    rw [Int.toNat_natCast] at hc
    exact hc) l.length 3 C (Nat.le_refl _)
  rw [List.take_of_length_le (by simp), List.drop_left] at this
  exact this
theorem cell_any {w : World} {g : Nat} {t : TypeId} {cs : Array Value} {fr : Nat × Nat} (h : w.heap[g]? = some (.cells cs t fr)) (i : Nat) : w.cell? ⟨g, i, none⟩ = cs[i]? := by simp [World.cell?, h]
theorem frz_any {w : World} {g : Nat} {t : TypeId} {cs : Array Value} {a b : Nat} (h : w.heap[g]? = some (.cells cs t (a, b))) (i : Nat) (hi : i < a) : w.frozen? ⟨g, i, none⟩ = false := by simp [World.frozen?, h]; omega
/-- []byte("ab"): the row, marked. -/
theorem ab_row (wq : World) : ∃ W1, (convert 31 31 (.slice (some ⟨wq.heap.size, 0, none⟩) 2 2)).run Tryd.prog (wq.alloc (.cells #[.int .u8 97, .int .u8 98] 5)) = .ok (.slice (some ⟨wq.heap.size, 0, none⟩) 2 2) W1 ∧ W1.heap[wq.heap.size]? = some (.cells #[.int .u8 97, .int .u8 98] 5 (2, 3)) ∧ Below wq.heap.size wq W1 :=
  ⟨_, Lib.run_convert_bytes_const (P := Tryd.prog) wq 31 5 #[.int .u8 97, .int .u8 98] 2 2 Tryd.underlying31 Tryd.underlying5, blk_new wq _, below_alloc (Below.refl _ _) _⟩
theorem ab_rd {W : World} {g : Nat} (h : W.heap[g]? = some (.cells #[.int .u8 97, .int .u8 98] 5 (2, 3))) : Rd8 W (.slice (some ⟨g, 0, none⟩) 2 2) 2 [97, 98] := by
  refine .inr ⟨g, 2, rfl, Nat.le_refl _, rfl, fun i hi => ?_⟩
  rw [cell_any h]
  have : i = 0 ∨ i = 1 := by omega
  rcases this with rfl | rfl <;> rfl
theorem last_strong {P : Program} {md : Region.Mode} {ops : Array Oper} {Q : Exit → Act → World → Prop} {S S2 : World → Prop} (himp : ∀ w, S2 w → S w) : ∀ (fuel : Nat) (l : Array Bool) (a : Act) (w : World), S2 w → wpAnyLast P md ops Q S2 [] fuel l a w → wpAnyLast P md ops Q S [] fuel l a w
  | 0, _, _, _, _, h => h
  | fuel + 1, _, _, _, hs, h => ⟨h.1, fun i hi => wpOp_mono (fun a' w' h' => ⟨fun _ _ => himp _ (h'.1 (by simp) hs), last_strong himp fuel _ a' w' (h'.1 (by simp) hs) h'.2⟩) (h.2 i hi)⟩
theorem own_new {v : Value} {W : World} {gx : Nat} (h : gx < W.heap.size) (hn : ∃ b, v.ownBlock = some b ∧ W.heap.size ≤ b) : some gx ≠ v.ownBlock := by
  obtain ⟨b, h1, h2⟩ := hn
  rw [h1]; intro e; injection e with e; omega
theorem own_ne {v v1 : Value} {W : World} {gx : Nat} {o : Obj} (h : W.heap[gx]? = some o) (hn : some gx ≠ v.ownBlock) (hat : v1.ownBlock = v.ownBlock ∨ ∃ b, v1.ownBlock = some b ∧ W.heap.size ≤ b) : some gx ≠ v1.ownBlock := by
  rcases hat with h1 | h1
  · rw [h1]; exact hn
  · exact own_new (blk_lt h) h1
set_option maxHeartbeats 8000000 in
set_option maxRecDepth 100000 in
theorem stencillaw01_PrimBytes.calls (A0 : Option Addr) (c0 : Nat) (l0 : List Int) (a1 a2 a3 a4 a5 : Int) (a6 : ByteArray) (r : Bool) (w : World) (hr0 : Kd.C (Kd.int .u8) w A0 l0.length l0) (hc0 : l0.length ≤ c0) (h : stencillaw01_PrimBytes.f l0 a1 a2 a3 a4 a5 a6 = some r) (hT0 : Tab w) :
    Calls Tryd.prog 5 #[.agg #[.slice A0 l0.length c0, .int .i64 a1, .int .i64 a2, .int .i64 a3, .int .i64 a4, .int .u64 a5, .string a6]] w fun e w' => e = .returned (.bool r) ∧ Below w.heap.size w w' := by
  unfold stencillaw01_PrimBytes.f at h
  split at h
  case isFalse => cases h
  rename_i hh
  obtain ⟨h1, h2, h3, h4⟩ := hh
  obtain rfl := Option.some.inj h
  clear h
  have HT := Aside0.mk hT0
  have HC0 := Aside0.mk hr0
  have HCW := Aside0.mk hr0
  have HL := Aside0.mk h1
  have HX := Aside0.mk h2
  have HC := Aside0.mk hc0
  obtain ⟨g1, g2, hg1, kg, hg2⟩ := get_both l0 a1 a3 a4 h2 (by omega) h3
  obtain ⟨S1, e1, hs1, hs2⟩ := chars_both l0 a1 a2 (by omega) h3
  obtain ⟨p1, l1, hl1, hp1, kp, hp2⟩ := put_both l0 a1 a3 a4 a5 (by omega) h3 h4
  obtain ⟨q1, l2, hl2, hq1, kq, hq2⟩ := putc_both l1 a1 a2 a6 (by omega) h3
  have T21 := Aside0.mk hg1
  have T22 := Aside0.mk hg2
  have T23 := Aside0.mk hs1
  have T24 := Aside0.mk hs2
  have T25 := Aside0.mk hp1
  have T26 := Aside0.mk hp2
  rw [hl1] at hq1
  have HL2b := Aside0.mk (show l2.length = l0.length by rw [hl2, hl1])
  have T27 := Aside0.mk hq1
  have T28 := Aside0.mk hq2
  have HL1 := Aside0.mk hl1
  have HL2 := Aside0.mk hl2
  have HB := Aside0.mk (Below.refl w.heap.size w)
  have hu34 := Tryd.underlying34
  clear hT0 hr0 hc0 h1 h2 h3 h4 hg1 hg2 hs1 hs2 hp1 hp2 hq1 hq2 hl1 hl2
  have tk1 : Aside0 True := ⟨trivial⟩
  go_enter Tryd.func5, Tryd.ntmps5
  go_upto_region 2 with (first | ((with_reducible refine gate_dst (N := 1) rfl ?_); refine box_event ?hg (N := 1) ?hd (cs := #[.slice A0 l0.length c0, .int .i64 a1, .int .i64 a2, .int .i64 a3, .int .i64 a4, .int .u64 a5, .string a6]) (t := 34) ?hr ?_; (case hd => rfl); (case hg => rfl); (case hr => first | (go_simp; done) | (go_simp; rfl)); intro gx hgx wx hbox hbw; have HGX := Aside0.mk (show w.heap.size ≤ gx from hgx ▸ below_size HB.out); have n0_ := Aside0.mk (below_step HB.out hbw); have n1_ := Aside0.mk (Kd.C_below HC0.out hbw); clear HB HC0; have HB := n0_; have HC0 := n1_; clear n0_ n1_; have HBX := Aside0.mk hbox; have x0_ := blk_cell HBX.out 0; have x1_ := blk_cell HBX.out 1; have x2_ := blk_cell HBX.out 2; have x3_ := blk_cell HBX.out 3; have x4_ := blk_cell HBX.out 4; have x5_ := blk_cell HBX.out 5; have x6_ := blk_cell HBX.out 6; clear hgx hbox hbw) | ((with_reducible refine gate_dst (N := 17) rfl ?_); clear tk1; have tk2 : Aside0 True := ⟨trivial⟩; refine Kd.R_lit (Kd.int .u8) _ 5 ?hg (N := 17) ?hd (xs := ([] : List Int)) (inner := []) (ok := fun _ => True) (okp := fun _ => True) ?hr ?hp (fun _ hk => hk) trivial (Below.refl _ _) (Nat.le_refl _) (by simp) ?_; (case hd => rfl); (case hg => rfl); (case hr => first | (go_simp; done) | (go_simp; rfl)); (case hp => exact (Reps.none _ _)); intro v17 w17 ho_ hb_ hg_ hnew_; have hs_ := below_size HB.out; have hlt_ := blk_lt HBX.out; have n0_ := Aside0.mk (below_step HB.out hb_); have n1_ := Aside0.mk (Kd.C_below HC0.out hb_); clear HB HC0; have HB := n0_; have HC0 := n1_; clear n0_ n1_; have n2_ := Aside0.mk (blk_below HBX.out hb_); clear HBX; have HBX := n2_; clear n2_; clear x0_ x1_ x2_ x3_ x4_ x5_ x6_; have x0_ := blk_cell HBX.out 0; have x1_ := blk_cell HBX.out 1; have x2_ := blk_cell HBX.out 2; have x3_ := blk_cell HBX.out 3; have x4_ := blk_cell HBX.out 4; have x5_ := blk_cell HBX.out 5; have x6_ := blk_cell HBX.out 6; have HO17 := Aside0.mk (Kd.R_lower ho_ hs_ : Kd.R (Kd.int .u8) 5 w17 w.heap.size (fun _ => True) v17 []); have HN17 := Aside0.mk (own_new hlt_ hnew_); clear ho_ hb_ hg_ hnew_; clear hs_ hlt_) | ((with_reducible refine gate_builtin (b := .append) (xs := #[.tmp 17, .tmp 19]) rfl ?_); clear tk2; have tk3 : Aside0 True := ⟨trivial⟩; at_builtin; refine Kd.R_append_rows (Kd.int .u8) (w0 := w) w.heap.size rfl (.tmp 17) (.tmp 19) 31 5 (.int .u8 0) 1 rfl Tryd.underlying31 info5 rfl (by decide) (by omega) (v17) (([] : List Int)) (l0) _ _ _ (fun _ => True) (fun _ => False) rfl rfl ?aO ?aR (fun _ _ h => h) (fun _ h => h.elim) ?aF ?aB ?aS ?aL ?_; (case aR => exact HC0.out); (case aB => exact HB.out); (case aF => exact (fun _ _ => trivial)); (case aO => exact HO17.out); (case aS => exact below_size HB.out); (case aL => have := HL.out; simp; omega); intro v20 w_v20 ho_ hb_ hg_ hat_; have n0_ := Aside0.mk hb_; have n1_ := Aside0.mk (Kd.C_below HCW.out hb_); have n2_ := Aside0.mk ((hg_.block gx (blk_lt HBX.out) HN17.out).trans HBX.out); have HN20 := Aside0.mk (own_ne HBX.out HN17.out hat_); clear HB HC0 HBX; have HB := n0_; have HC0 := n1_; have HBX := n2_; clear n0_ n1_ n2_; clear x0_ x1_ x2_ x3_ x4_ x5_ x6_; have x0_ := blk_cell HBX.out 0; have x1_ := blk_cell HBX.out 1; have x2_ := blk_cell HBX.out 2; have x3_ := blk_cell HBX.out 3; have x4_ := blk_cell HBX.out 4; have x5_ := blk_cell HBX.out 5; have x6_ := blk_cell HBX.out 6; rw [List.nil_append] at ho_; have HO20 := Aside0.mk ho_; clear ho_ HO17 HN17; clear hb_ hg_ hat_) | ((with_reducible refine gate_dst (N := 21) rfl ?_); clear tk3; have tk4 : Aside0 True := ⟨trivial⟩; refine Kd.R_lit (Kd.int .u8) _ 5 ?hg (N := 21) ?hd (xs := ([77, 78, 79] : List Int)) (inner := [.int .u8 77, .int .u8 78, .int .u8 79]) (ok := fun _ => True) (okp := fun _ => True) ?hr ?hp (fun _ hk => hk) trivial (Below.refl _ _) (Nat.le_refl _) (by simp) ?_; (case hd => rfl); (case hg => rfl); (case hr => first | (go_simp; done) | (go_simp; rfl)); (case hp => exact (Reps.one (show Kd.M (Kd.int .u8) _ _ _ 77 [.int .u8 77] from rfl) (Reps.one (show Kd.M (Kd.int .u8) _ _ _ 78 [.int .u8 78] from rfl) (Reps.one (show Kd.M (Kd.int .u8) _ _ _ 79 [.int .u8 79] from rfl) (Reps.none _ _))))); intro v21 w21 ho_ hb_ hg_ hnew_; have hs_ := below_size HB.out; have hlt_ := blk_lt HBX.out; have n0_ := Aside0.mk (below_step HB.out hb_); have n1_ := Aside0.mk (Kd.C_below HC0.out hb_); clear HB HC0; have HB := n0_; have HC0 := n1_; clear n0_ n1_; have n2_ := Aside0.mk (blk_below HBX.out hb_); clear HBX; have HBX := n2_; clear n2_; clear x0_ x1_ x2_ x3_ x4_ x5_ x6_; have x0_ := blk_cell HBX.out 0; have x1_ := blk_cell HBX.out 1; have x2_ := blk_cell HBX.out 2; have x3_ := blk_cell HBX.out 3; have x4_ := blk_cell HBX.out 4; have x5_ := blk_cell HBX.out 5; have x6_ := blk_cell HBX.out 6; have n5_ := Aside0.mk (Kd.R_below HO20.out hb_); clear HO20; have HO20 := n5_; clear n5_; obtain ⟨A21, c21, rfl⟩ := Kd.R_slice ho_; have HX21 := Aside0.mk (Kd.R_reads' ho_).2.2; have HY21 := Aside0.mk (Kd.R_reads' ho_).2.1; clear ho_ hb_ hg_ hnew_; clear hs_ hlt_) | ((with_reducible refine gate_builtin (b := .append) (xs := #[.tmp 20, .tmp 21]) rfl ?_); clear tk4; have tk5 : Aside0 True := ⟨trivial⟩; at_builtin; refine Kd.R_append_rows (Kd.int .u8) (w0 := w) w.heap.size rfl (.tmp 20) (.tmp 21) 31 5 (.int .u8 0) 1 rfl Tryd.underlying31 info5 rfl (by decide) (by omega) (v20) (l0) ([77, 78, 79]) _ _ _ (fun _ => True) (fun _ => False) rfl rfl ?aO ?aR (fun _ _ h => h) (fun _ h => h.elim) ?aF ?aB ?aS ?aL ?_; (case aR => exact HX21.out); (case aB => exact HB.out); (case aF => exact (fun _ _ => trivial)); (case aO => exact HO20.out); (case aS => exact below_size HB.out); (case aL => have := HL.out; simp; omega); intro v22 w_v22 ho_ hb_ hg_ hat_; have n0_ := Aside0.mk hb_; have n1_ := Aside0.mk (Kd.C_below HCW.out hb_); have n2_ := Aside0.mk ((hg_.block gx (blk_lt HBX.out) HN20.out).trans HBX.out); have HN22 := Aside0.mk (own_ne HBX.out HN20.out hat_); clear HB HC0 HBX; have HB := n0_; have HC0 := n1_; have HBX := n2_; clear n0_ n1_ n2_; clear x0_ x1_ x2_ x3_ x4_ x5_ x6_; have x0_ := blk_cell HBX.out 0; have x1_ := blk_cell HBX.out 1; have x2_ := blk_cell HBX.out 2; have x3_ := blk_cell HBX.out 3; have x4_ := blk_cell HBX.out 4; have x5_ := blk_cell HBX.out 5; have x6_ := blk_cell HBX.out 6; obtain ⟨g, cp, rfl, hgw_⟩ := row_form8 ho_ (l0.length + 3) (by simp) (by omega); have HM := Aside0.mk (show Mine w_v22 w.heap.size g cp l0 from ho_); have HNX := Aside0.mk (show gx ≠ g from fun e => HN22.out (by rw [e]; rfl)); clear ho_ hgw_ HO20 HN20 HN22 HX21 HY21; clear hb_ hg_ hat_))
  have i0 := eq_true (show (0 : Int) ≤ (l0.length : Int) by omega)
  have i1 := eq_true (show (l0.length : Int) ≤ (cp : Int) by have := HM.out.cap; omega)
  go_upto_region 3 with (fail)
  obtain ⟨wm, hwm⟩ : ∃ y, y = w_v22 := ⟨_, rfl⟩
  subst hwm
  clear HCW
  have HCW := Aside0.mk HC0.out
  have HBw := Aside0.mk HB.out
  have HMw := Aside0.mk HM.out
  have HGW := Aside0.mk (blk_lt HBX.out)
  clear HB
  have HB := Aside0.mk (Below.refl wm.heap.size wm)
  go_upto_region 4 with (first | ((with_reducible refine gate_dst (N := 28) rfl ?_); clear tk5; have tk6 : Aside0 True := ⟨trivial⟩; refine Kd.R_lit (Kd.int .u8) _ 5 ?hg (N := 28) ?hd (xs := ([] : List Int)) (inner := []) (ok := fun _ => True) (okp := fun _ => True) ?hr ?hp (fun _ hk => hk) trivial (Below.refl _ _) (Nat.le_refl _) (by simp) ?_; (case hd => rfl); (case hg => rfl); (case hr => first | (go_simp; done) | (go_simp; rfl)); (case hp => exact (Reps.none _ _)); intro v28 w28 ho_ hb_ hg_ hnew_; have hs_ := below_size HB.out; have hlt_ := blk_lt HBX.out; have n0_ := Aside0.mk (below_step HB.out hb_); have n1_ := Aside0.mk (Kd.C_below HC0.out hb_); clear HB HC0; have HB := n0_; have HC0 := n1_; clear n0_ n1_; have n2_ := Aside0.mk (blk_below HBX.out hb_); clear HBX; have HBX := n2_; clear n2_; clear x0_ x1_ x2_ x3_ x4_ x5_ x6_; have x0_ := blk_cell HBX.out 0; have x1_ := blk_cell HBX.out 1; have x2_ := blk_cell HBX.out 2; have x3_ := blk_cell HBX.out 3; have x4_ := blk_cell HBX.out 4; have x5_ := blk_cell HBX.out 5; have x6_ := blk_cell HBX.out 6; have HO28 := Aside0.mk (Kd.R_lower ho_ hs_ : Kd.R (Kd.int .u8) 5 w28 wm.heap.size (fun _ => True) v28 []); have HN28 := Aside0.mk (own_new hlt_ hnew_); clear ho_ hb_ hg_ hnew_; clear hs_ hlt_) | ((with_reducible refine gate_builtin (b := .append) (xs := #[.tmp 28, .tmp 30]) rfl ?_); clear tk6; have tk7 : Aside0 True := ⟨trivial⟩; at_builtin; refine Kd.R_append_rows (Kd.int .u8) (w0 := wm) wm.heap.size rfl (.tmp 28) (.tmp 30) 31 5 (.int .u8 0) 1 rfl Tryd.underlying31 info5 rfl (by decide) (by omega) (v28) (([] : List Int)) (l0) _ _ _ (fun _ => True) (fun _ => False) rfl rfl ?aO ?aR (fun _ _ h => h) (fun _ h => h.elim) ?aF ?aB ?aS ?aL ?_; (case aR => exact HC0.out); (case aB => exact HB.out); (case aF => exact (fun _ _ => trivial)); (case aO => exact HO28.out); (case aS => exact below_size HB.out); (case aL => have := HL.out; simp; omega); intro v31 w_v31 ho_ hb_ hg_ hat_; have n0_ := Aside0.mk hb_; have n1_ := Aside0.mk (Kd.C_below HCW.out hb_); have n2_ := Aside0.mk ((hg_.block gx (blk_lt HBX.out) HN28.out).trans HBX.out); have HN31 := Aside0.mk (own_ne HBX.out HN28.out hat_); clear HB HC0 HBX; have HB := n0_; have HC0 := n1_; have HBX := n2_; clear n0_ n1_ n2_; clear x0_ x1_ x2_ x3_ x4_ x5_ x6_; have x0_ := blk_cell HBX.out 0; have x1_ := blk_cell HBX.out 1; have x2_ := blk_cell HBX.out 2; have x3_ := blk_cell HBX.out 3; have x4_ := blk_cell HBX.out 4; have x5_ := blk_cell HBX.out 5; have x6_ := blk_cell HBX.out 6; rw [List.nil_append] at ho_; obtain ⟨A31, c31, rfl⟩ := Kd.R_slice ho_; have HR := Aside0.mk (Kd.R_lower (row_ne ho_ HM.out.cap.2.2 HGW.out) (below_size HBw.out)); clear ho_ HO28 HN28 HN31; clear hb_ hg_ hat_))
  have HMn := Aside0.mk (HMw.out.below HB.out)
  have HBn := Aside0.mk (below_step HBw.out HB.out)
  clear HM HB HMw HBw HCW
  have HM := HMn
  have HB := HBn
  clear HMn HBn
  go_upto_region 8 with (first | (go_at_call 21; (with_reducible refine (T21.out _ w.heap.size g cp (tab_below HT.out HB.out) HM.out).mono ?_); rintro e_ w_21 ⟨rfl, hb_⟩; have n0_ := Aside0.mk (below_step HB.out hb_); have n1_ := Aside0.mk (HM.out.below hb_); have n2_ := Aside0.mk (Kd.R_below HR.out hb_); have n3_ := Aside0.mk (blk_below HBX.out hb_); have n4_ := Aside0.mk (Kd.C_below HC0.out hb_); clear HB HM HR HBX HC0 hb_; have HB := n0_; have HM := n1_; have HR := n2_; have HBX := n3_; have HC0 := n4_; clear n0_ n1_ n2_ n3_ n4_; clear x0_ x1_ x2_ x3_ x4_ x5_ x6_; have x0_ := blk_cell HBX.out 0; have x1_ := blk_cell HBX.out 1; have x2_ := blk_cell HBX.out 2; have x3_ := blk_cell HBX.out 3; have x4_ := blk_cell HBX.out 4; have x5_ := blk_cell HBX.out 5; have x6_ := blk_cell HBX.out 6) | (go_at_call 22; (with_reducible refine (stencilref01_Get.calls kg A31 c31 l0 a1 a3 a4 g1 g2 _ (Kd.R_reads' HR.out).2.2 (Kd.R_reads' HR.out).2.1 T22.out).mono ?_); rintro e_ w_22 ⟨rfl, hd_⟩; have hb_ := hd_.below; clear hd_; have n0_ := Aside0.mk (below_step HB.out hb_); have n1_ := Aside0.mk (HM.out.below hb_); have n2_ := Aside0.mk (Kd.R_below HR.out hb_); have n3_ := Aside0.mk (blk_below HBX.out hb_); have n4_ := Aside0.mk (Kd.C_below HC0.out hb_); clear HB HM HR HBX HC0 hb_; have HB := n0_; have HM := n1_; have HR := n2_; have HBX := n3_; have HC0 := n4_; clear n0_ n1_ n2_ n3_ n4_; clear x0_ x1_ x2_ x3_ x4_ x5_ x6_; have x0_ := blk_cell HBX.out 0; have x1_ := blk_cell HBX.out 1; have x2_ := blk_cell HBX.out 2; have x3_ := blk_cell HBX.out 3; have x4_ := blk_cell HBX.out 4; have x5_ := blk_cell HBX.out 5; have x6_ := blk_cell HBX.out 6) | (go_at_call 23; (with_reducible refine (T23.out _ w.heap.size g cp HM.out).mono ?_); rintro e_ w_23 ⟨rfl, hd_⟩; have hb_ := hd_.below; clear hd_; have n0_ := Aside0.mk (below_step HB.out hb_); have n1_ := Aside0.mk (HM.out.below hb_); have n2_ := Aside0.mk (Kd.R_below HR.out hb_); have n3_ := Aside0.mk (blk_below HBX.out hb_); have n4_ := Aside0.mk (Kd.C_below HC0.out hb_); clear HB HM HR HBX HC0 hb_; have HB := n0_; have HM := n1_; have HR := n2_; have HBX := n3_; have HC0 := n4_; clear n0_ n1_ n2_ n3_ n4_; clear x0_ x1_ x2_ x3_ x4_ x5_ x6_; have x0_ := blk_cell HBX.out 0; have x1_ := blk_cell HBX.out 1; have x2_ := blk_cell HBX.out 2; have x3_ := blk_cell HBX.out 3; have x4_ := blk_cell HBX.out 4; have x5_ := blk_cell HBX.out 5; have x6_ := blk_cell HBX.out 6) | (go_at_call 24; (with_reducible refine (T24.out _ A31 c31 (rd8_of HR.out)).mono ?_); rintro e_ w_24 ⟨rfl, hd_⟩; have hb_ := hd_.below; clear hd_; have n0_ := Aside0.mk (below_step HB.out hb_); have n1_ := Aside0.mk (HM.out.below hb_); have n2_ := Aside0.mk (Kd.R_below HR.out hb_); have n3_ := Aside0.mk (blk_below HBX.out hb_); have n4_ := Aside0.mk (Kd.C_below HC0.out hb_); clear HB HM HR HBX HC0 hb_; have HB := n0_; have HM := n1_; have HR := n2_; have HBX := n3_; have HC0 := n4_; clear n0_ n1_ n2_ n3_ n4_; clear x0_ x1_ x2_ x3_ x4_ x5_ x6_; have x0_ := blk_cell HBX.out 0; have x1_ := blk_cell HBX.out 1; have x2_ := blk_cell HBX.out 2; have x3_ := blk_cell HBX.out 3; have x4_ := blk_cell HBX.out 4; have x5_ := blk_cell HBX.out 5; have x6_ := blk_cell HBX.out 6))
  have hcv1 : ∀ C, (convert 31 9 (.slice (some ⟨g, 0, none⟩) l0.length C)).run Tryd.prog w_24 = .ok (.string (strOfNums l0)) w_24 := fun C => mine_conv HM.out C
  have hcv2 : (convert 31 9 (.slice A0 l0.length c0)).run Tryd.prog w_24 = .ok (.string (strOfNums l0)) w_24 := Kd.C_string Tryd.underlying31 Tryd.underlying5 Tryd.underlying9 HC0.out
  go_upto_region 10 with (fail)
  clear hcv1 hcv2
  go_cut [125] (fun v wc => v = .bool false ∧ Aside0 (Below w.heap.size w wc) ∧ Aside0 (Mine wc w.heap.size g cp l1) ∧ Aside0 (Kd.R (Kd.int .u8) 5 wc w.heap.size (fun k => k ≠ g ∧ k ≠ gx) (.slice A31 l0.length c31) l1) ∧ Aside0 (wc.heap[gx]? = some (.cells #[.slice A0 l0.length c0, .int .i64 a1, .int .i64 a2, .int .i64 a3, .int .i64 a4, .int .u64 a5, .string a6] 34 (0, 0))))
  case first => as_aux_lemma =>
    have HMd := Aside0.mk (HM.out.below (below_drew (Below.refl w_24.heap.size w_24)))
    have HBd := Aside0.mk (below_drew HB.out)
    have HRd := Aside0.mk (Kd.R_drew HR.out)
    have HBXd := Aside0.mk (show w_24.drew.heap[gx]? = _ from HBX.out)
    have d0_ : w_24.drew.cell? ⟨gx, 0, none⟩ = some (.slice A0 l0.length c0) := x0_
    have d1_ : w_24.drew.cell? ⟨gx, 1, none⟩ = some (.int .i64 a1) := x1_
    have d2_ : w_24.drew.cell? ⟨gx, 2, none⟩ = some (.int .i64 a2) := x2_
    have d3_ : w_24.drew.cell? ⟨gx, 3, none⟩ = some (.int .i64 a3) := x3_
    have d4_ : w_24.drew.cell? ⟨gx, 4, none⟩ = some (.int .i64 a4) := x4_
    have d5_ : w_24.drew.cell? ⟨gx, 5, none⟩ = some (.int .u64 a5) := x5_
    have d6_ : w_24.drew.cell? ⟨gx, 6, none⟩ = some (.string a6) := x6_
    refine start_ (n := 28) (S := fun w' => w'.cell? ⟨gx, 0, none⟩ = some (.slice A0 l0.length c0) ∧ w'.cell? ⟨gx, 1, none⟩ = some (.int .i64 a1) ∧ w'.cell? ⟨gx, 2, none⟩ = some (.int .i64 a2) ∧ w'.cell? ⟨gx, 3, none⟩ = some (.int .i64 a3) ∧ w'.cell? ⟨gx, 4, none⟩ = some (.int .i64 a4) ∧ w'.cell? ⟨gx, 5, none⟩ = some (.int .u64 a5) ∧ w'.cell? ⟨gx, 6, none⟩ = some (.string a6)) (ds := []) #[false, false, false, false, false, false, false, false, false, false, false, false, false, false, false, false, false, false, false, false, false, false, false, false, false, false, false, false] (by kernel_rfl) rfl rfl ⟨d0_, d1_, d2_, d3_, d4_, d5_, d6_⟩ (fun hHeld => ?_)
    refine pure_ (i := 0) (N := some 98) (v := ?_) (a' := ?_) #[true, false, false, false, false, false, false, false, false, false, false, false, false, false, false, false, false, false, false, false, false, false, false, false, false, false, false, false] rfl rfl (by kernel_rfl) (fun _ _ _ h => h) (Or.inl ⟨by rfl, ?_⟩) ?_ ?_
    rotate_left
    · intro w'
      go_simp
      with_reducible rfl
    rotate_left
    · simp only [Act.put, List.setIfInBounds_toArray, List.set_cons_zero, List.set_cons_succ, i64_w, i32_w]
      rfl
    refine pure_ (i := 1) (N := some 99) (v := ?_) (a' := ?_) #[true, true, false, false, false, false, false, false, false, false, false, false, false, false, false, false, false, false, false, false, false, false, false, false, false, false, false, false] rfl rfl (by kernel_rfl) (fun _ _ _ h => h) (Or.inl ⟨by rfl, ?_⟩) ?_ ?_
    rotate_left
    · intro w'
      go_simp
      with_reducible rfl
    rotate_left
    · simp only [Act.put, List.setIfInBounds_toArray, List.set_cons_zero, List.set_cons_succ, i64_w, i32_w]
      rfl
    refine pure_ (i := 3) (N := some 101) (v := ?_) (a' := ?_) #[true, true, false, true, false, false, false, false, false, false, false, false, false, false, false, false, false, false, false, false, false, false, false, false, false, false, false, false] rfl rfl (by kernel_rfl) (fun _ _ _ h => h) (Or.inl ⟨by rfl, ?_⟩) ?_ ?_
    rotate_left
    · intro w'
      go_simp
      with_reducible rfl
    rotate_left
    · simp only [Act.put, List.setIfInBounds_toArray, List.set_cons_zero, List.set_cons_succ, i64_w, i32_w]
      rfl
    refine pure_ (i := 5) (N := some 103) (v := ?_) (a' := ?_) #[true, true, false, true, false, true, false, false, false, false, false, false, false, false, false, false, false, false, false, false, false, false, false, false, false, false, false, false] rfl rfl (by kernel_rfl) (fun _ _ _ h => h) (Or.inl ⟨by rfl, ?_⟩) ?_ ?_
    rotate_left
    · intro w'
      go_simp
      with_reducible rfl
    rotate_left
    · simp only [Act.put, List.setIfInBounds_toArray, List.set_cons_zero, List.set_cons_succ, i64_w, i32_w]
      rfl
    refine pure_ (i := 7) (N := some 105) (v := ?_) (a' := ?_) #[true, true, false, true, false, true, false, true, false, false, false, false, false, false, false, false, false, false, false, false, false, false, false, false, false, false, false, false] rfl rfl (by kernel_rfl) (fun _ _ _ h => h) (Or.inl ⟨by rfl, ?_⟩) ?_ ?_
    rotate_left
    · intro w'
      go_simp
      with_reducible rfl
    rotate_left
    · simp only [Act.put, List.setIfInBounds_toArray, List.set_cons_zero, List.set_cons_succ, i64_w, i32_w]
      rfl
    refine pure_ (i := 10) (N := some 108) (v := ?_) (a' := ?_) #[true, true, false, true, false, true, false, true, false, false, true, false, false, false, false, false, false, false, false, false, false, false, false, false, false, false, false, false] rfl rfl (by kernel_rfl) (fun _ _ _ h => h) (Or.inl ⟨by rfl, ?_⟩) ?_ ?_
    rotate_left
    · intro w'
      go_simp
      with_reducible rfl
    rotate_left
    · simp only [Act.put, List.setIfInBounds_toArray, List.set_cons_zero, List.set_cons_succ, i64_w, i32_w]
      rfl
    refine pure_ (i := 11) (N := some 109) (v := ?_) (a' := ?_) #[true, true, false, true, false, true, false, true, false, false, true, true, false, false, false, false, false, false, false, false, false, false, false, false, false, false, false, false] rfl rfl (by kernel_rfl) (fun _ _ _ h => h) (Or.inl ⟨by rfl, ?_⟩) ?_ ?_
    rotate_left
    · intro w'
      go_simp
      with_reducible rfl
    rotate_left
    · simp only [Act.put, List.setIfInBounds_toArray, List.set_cons_zero, List.set_cons_succ, i64_w, i32_w]
      rfl
    refine pure_ (i := 13) (N := some 111) (v := ?_) (a' := ?_) #[true, true, false, true, false, true, false, true, false, false, true, true, false, true, false, false, false, false, false, false, false, false, false, false, false, false, false, false] rfl rfl (by kernel_rfl) (fun _ _ _ h => h) (Or.inl ⟨by rfl, ?_⟩) ?_ ?_
    rotate_left
    · intro w'
      go_simp
      with_reducible rfl
    rotate_left
    · simp only [Act.put, List.setIfInBounds_toArray, List.set_cons_zero, List.set_cons_succ, i64_w, i32_w]
      rfl
    refine pure_ (i := 15) (N := some 113) (v := ?_) (a' := ?_) #[true, true, false, true, false, true, false, true, false, false, true, true, false, true, false, true, false, false, false, false, false, false, false, false, false, false, false, false] rfl rfl (by kernel_rfl) (fun _ _ _ h => h) (Or.inl ⟨by rfl, ?_⟩) ?_ ?_
    rotate_left
    · intro w'
      go_simp
      with_reducible rfl
    rotate_left
    · simp only [Act.put, List.setIfInBounds_toArray, List.set_cons_zero, List.set_cons_succ, i64_w, i32_w]
      rfl
    refine pure_ (i := 17) (N := some 115) (v := ?_) (a' := ?_) #[true, true, false, true, false, true, false, true, false, false, true, true, false, true, false, true, false, true, false, false, false, false, false, false, false, false, false, false] rfl rfl (by kernel_rfl) (fun _ _ _ h => h) (Or.inl ⟨by rfl, ?_⟩) ?_ ?_
    rotate_left
    · intro w'
      go_simp
      with_reducible rfl
    rotate_left
    · simp only [Act.put, List.setIfInBounds_toArray, List.set_cons_zero, List.set_cons_succ, i64_w, i32_w]
      rfl
    refine take_ (i := 2) (N := some 100) (v := ?_) (a' := ?_) #[true, true, true, true, false, true, false, true, false, false, true, true, false, true, false, true, false, true, false, false, false, false, false, false, false, false, false, false] rfl rfl (by kernel_rfl) (fun _ _ _ h => h) (Or.inl ⟨by rfl, ?_⟩) hHeld ?_ ?_
    rotate_left
    · rintro w' ⟨s0, s1, s2, s3, s4, s5, s6⟩
      go_simp
      with_reducible rfl
    rotate_left
    · simp only [Act.put, List.setIfInBounds_toArray, List.set_cons_zero, List.set_cons_succ, i64_w, i32_w]
      rfl
    refine take_ (i := 4) (N := some 102) (v := ?_) (a' := ?_) #[true, true, true, true, true, true, false, true, false, false, true, true, false, true, false, true, false, true, false, false, false, false, false, false, false, false, false, false] rfl rfl (by kernel_rfl) (fun _ _ _ h => h) (Or.inl ⟨by rfl, ?_⟩) hHeld ?_ ?_
    rotate_left
    · rintro w' ⟨s0, s1, s2, s3, s4, s5, s6⟩
      go_simp
      with_reducible rfl
    rotate_left
    · simp only [Act.put, List.setIfInBounds_toArray, List.set_cons_zero, List.set_cons_succ, i64_w, i32_w]
      rfl
    refine take_ (i := 6) (N := some 104) (v := ?_) (a' := ?_) #[true, true, true, true, true, true, true, true, false, false, true, true, false, true, false, true, false, true, false, false, false, false, false, false, false, false, false, false] rfl rfl (by kernel_rfl) (fun _ _ _ h => h) (Or.inl ⟨by rfl, ?_⟩) hHeld ?_ ?_
    rotate_left
    · rintro w' ⟨s0, s1, s2, s3, s4, s5, s6⟩
      go_simp
      with_reducible rfl
    rotate_left
    · simp only [Act.put, List.setIfInBounds_toArray, List.set_cons_zero, List.set_cons_succ, i64_w, i32_w]
      rfl
    refine take_ (i := 8) (N := some 106) (v := ?_) (a' := ?_) #[true, true, true, true, true, true, true, true, true, false, true, true, false, true, false, true, false, true, false, false, false, false, false, false, false, false, false, false] rfl rfl (by kernel_rfl) (fun _ _ _ h => h) (Or.inl ⟨by rfl, ?_⟩) hHeld ?_ ?_
    rotate_left
    · rintro w' ⟨s0, s1, s2, s3, s4, s5, s6⟩
      go_simp
      with_reducible rfl
    rotate_left
    · simp only [Act.put, List.setIfInBounds_toArray, List.set_cons_zero, List.set_cons_succ, i64_w, i32_w]
      rfl
    refine take_ (i := 12) (N := some 110) (v := ?_) (a' := ?_) #[true, true, true, true, true, true, true, true, true, false, true, true, true, true, false, true, false, true, false, false, false, false, false, false, false, false, false, false] rfl rfl (by kernel_rfl) (fun _ _ _ h => h) (Or.inl ⟨by rfl, ?_⟩) hHeld ?_ ?_
    rotate_left
    · rintro w' ⟨s0, s1, s2, s3, s4, s5, s6⟩
      go_simp
      with_reducible rfl
    rotate_left
    · simp only [Act.put, List.setIfInBounds_toArray, List.set_cons_zero, List.set_cons_succ, i64_w, i32_w]
      rfl
    refine take_ (i := 14) (N := some 112) (v := ?_) (a' := ?_) #[true, true, true, true, true, true, true, true, true, false, true, true, true, true, true, true, false, true, false, false, false, false, false, false, false, false, false, false] rfl rfl (by kernel_rfl) (fun _ _ _ h => h) (Or.inl ⟨by rfl, ?_⟩) hHeld ?_ ?_
    rotate_left
    · rintro w' ⟨s0, s1, s2, s3, s4, s5, s6⟩
      go_simp
      with_reducible rfl
    rotate_left
    · simp only [Act.put, List.setIfInBounds_toArray, List.set_cons_zero, List.set_cons_succ, i64_w, i32_w]
      rfl
    refine take_ (i := 16) (N := some 114) (v := ?_) (a' := ?_) #[true, true, true, true, true, true, true, true, true, false, true, true, true, true, true, true, true, true, false, false, false, false, false, false, false, false, false, false] rfl rfl (by kernel_rfl) (fun _ _ _ h => h) (Or.inl ⟨by rfl, ?_⟩) hHeld ?_ ?_
    rotate_left
    · rintro w' ⟨s0, s1, s2, s3, s4, s5, s6⟩
      go_simp
      with_reducible rfl
    rotate_left
    · simp only [Act.put, List.setIfInBounds_toArray, List.set_cons_zero, List.set_cons_succ, i64_w, i32_w]
      rfl
    refine take_ (i := 18) (N := some 116) (v := ?_) (a' := ?_) #[true, true, true, true, true, true, true, true, true, false, true, true, true, true, true, true, true, true, true, false, false, false, false, false, false, false, false, false] rfl rfl (by kernel_rfl) (fun _ _ _ h => h) (Or.inl ⟨by rfl, ?_⟩) hHeld ?_ ?_
    rotate_left
    · rintro w' ⟨s0, s1, s2, s3, s4, s5, s6⟩
      go_simp
      with_reducible rfl
    rotate_left
    · simp only [Act.put, List.setIfInBounds_toArray, List.set_cons_zero, List.set_cons_succ, i64_w, i32_w]
      rfl
    refine one_ (i := 9) (N := some 107) #[true, true, true, true, true, true, true, true, true, true, true, true, true, true, true, true, true, true, true, false, false, false, false, false, false, false, false, false] rfl rfl (by kernel_rfl) (by decide) (fun K hK => ?_)
    refine goes_ Tryd.func25 (by kernel_rfl) rfl #[.slice (some ⟨g, 0, none⟩) l0.length cp, .int .i64 a1, .int .i64 a3, .int .i64 a4, .int .u64 a5] (by rfl) rfl rfl (by simp only [List.map_toArray, List.map_cons, List.map_nil]; rfl) ?_
    with_reducible refine (T25.out w _ g cp HT.out HBd.out HMd.out).mono ?_
    rintro e_ w_25 ⟨rfl, hm_, hb_, ho_⟩
    refine ⟨_, rfl, ?_⟩
    have HM1 := Aside0.mk hm_
    have HB1 := Aside0.mk hb_
    have HR1 := Aside0.mk (oth_row ho_ HRd.out)
    have HX1 := Aside0.mk ((ho_.2 gx (blk_lt HBXd.out) HNX.out).trans HBXd.out)
    have y0_ := blk_cell HX1.out 0
    have y1_ := blk_cell HX1.out 1
    have y2_ := blk_cell HX1.out 2
    have y3_ := blk_cell HX1.out 3
    have y4_ := blk_cell HX1.out 4
    have y5_ := blk_cell HX1.out 5
    have y6_ := blk_cell HX1.out 6
    clear hm_ hb_ ho_
    refine hK.out _ _ ⟨y0_, y1_, y2_, y3_, y4_, y5_, y6_⟩ (fun hHeld => ?_)
    clear hK K
    refine norm_ (a' := ?_) ?_ ?_
    rotate_left
    · show Act.put _ (some 107) _ = _
      simp only [Act.put, List.setIfInBounds_toArray, List.set_cons_zero, List.set_cons_succ, i64_w, i32_w]
      rfl
    refine one_ (i := 19) (N := some 117) #[true, true, true, true, true, true, true, true, true, true, true, true, true, true, true, true, true, true, true, true, false, false, false, false, false, false, false, false] rfl rfl (by kernel_rfl) (by decide) (fun K hK => ?_)
    refine goes_ Tryd.func26 (by kernel_rfl) rfl #[.slice A31 l0.length c31, .int .i64 a1, .int .i64 a3, .int .i64 a4, .int .u64 a5] (by rfl) rfl rfl (by simp only [List.map_toArray, List.map_cons, List.map_nil]; rfl) ?_
    with_reducible refine (stencilref01_Put.calls kp (fun k => k ≠ g ∧ k ≠ gx) (.slice A31 l0.length c31) l0 a1 a3 a4 a5 p1 l1 w _ HB1.out HR1.out T26.out).mono ?_
    rintro e_ w_26 ⟨rfl, hr_, hb_, hk_⟩
    refine ⟨_, rfl, ?_⟩
    have HR2 := Aside0.mk (kept_row HM1.out.cap.2.2 (blk_lt HX1.out) hr_)
    have HM2 := Aside0.mk (HM1.out.kept hk_)
    have HB2 := Aside0.mk hb_
    have HX2 := Aside0.mk ((hk_.2 gx (blk_lt HX1.out) (fun hn => hn.2 rfl)).trans HX1.out)
    have z0_ := blk_cell HX2.out 0
    have z1_ := blk_cell HX2.out 1
    have z2_ := blk_cell HX2.out 2
    have z3_ := blk_cell HX2.out 3
    have z4_ := blk_cell HX2.out 4
    have z5_ := blk_cell HX2.out 5
    have z6_ := blk_cell HX2.out 6
    have hcv1 : ∀ C, (convert 31 9 (.slice (some ⟨g, 0, none⟩) l0.length C)).run Tryd.prog w_26 = .ok (.string (strOfNums l1)) w_26 := fun C => HL1.out ▸ mine_conv HM2.out C
    have hcv2 : ∀ C, (convert 31 9 (.slice A31 l0.length C)).run Tryd.prog w_26 = .ok (.string (strOfNums l1)) w_26 := fun C => conv_own HR2.out C
    clear hr_ hb_ hk_
    refine hK.out _ _ ⟨z0_, z1_, z2_, z3_, z4_, z5_, z6_⟩ (fun hHeld => ?_)
    clear hK K
    refine norm_ (a' := ?_) ?_ ?_
    rotate_left
    · show Act.put _ (some 117) _ = _
      simp only [Act.put, List.setIfInBounds_toArray, List.set_cons_zero, List.set_cons_succ, i64_w, i32_w]
      rfl
    have hHeld2 : (fun w' => w'.cell? ⟨gx, 0, none⟩ = some (.slice A0 l0.length c0) ∧ w'.cell? ⟨gx, 1, none⟩ = some (.int .i64 a1) ∧ w'.cell? ⟨gx, 2, none⟩ = some (.int .i64 a2) ∧ w'.cell? ⟨gx, 3, none⟩ = some (.int .i64 a3) ∧ w'.cell? ⟨gx, 4, none⟩ = some (.int .i64 a4) ∧ w'.cell? ⟨gx, 5, none⟩ = some (.int .u64 a5) ∧ w'.cell? ⟨gx, 6, none⟩ = some (.string a6) ∧ (∀ C, (convert 31 9 (.slice (some ⟨g, 0, none⟩) l0.length C)).run Tryd.prog w' = .ok (.string (strOfNums l1)) w') ∧ (∀ C, (convert 31 9 (.slice A31 l0.length C)).run Tryd.prog w' = .ok (.string (strOfNums l1)) w')) w_26 := ⟨z0_, z1_, z2_, z3_, z4_, z5_, z6_, hcv1, hcv2⟩
    refine last_strong (S2 := (fun w' => w'.cell? ⟨gx, 0, none⟩ = some (.slice A0 l0.length c0) ∧ w'.cell? ⟨gx, 1, none⟩ = some (.int .i64 a1) ∧ w'.cell? ⟨gx, 2, none⟩ = some (.int .i64 a2) ∧ w'.cell? ⟨gx, 3, none⟩ = some (.int .i64 a3) ∧ w'.cell? ⟨gx, 4, none⟩ = some (.int .i64 a4) ∧ w'.cell? ⟨gx, 5, none⟩ = some (.int .u64 a5) ∧ w'.cell? ⟨gx, 6, none⟩ = some (.string a6) ∧ (∀ C, (convert 31 9 (.slice (some ⟨g, 0, none⟩) l0.length C)).run Tryd.prog w' = .ok (.string (strOfNums l1)) w') ∧ (∀ C, (convert 31 9 (.slice A31 l0.length C)).run Tryd.prog w' = .ok (.string (strOfNums l1)) w'))) (fun _ ⟨h0, h1, h2, h3, h4, h5, h6, _, _⟩ => ⟨h0, h1, h2, h3, h4, h5, h6⟩) _ _ _ _ hHeld2 ?_
    refine pure_ (i := 20) (N := some 118) (v := ?_) (a' := ?_) #[true, true, true, true, true, true, true, true, true, true, true, true, true, true, true, true, true, true, true, true, true, false, false, false, false, false, false, false] rfl rfl (by kernel_rfl) (fun _ _ _ h => h) (Or.inl ⟨by rfl, ?_⟩) ?_ ?_
    rotate_left
    · intro w'
      go_simp
      with_reducible rfl
    rotate_left
    · simp only [Act.put, List.setIfInBounds_toArray, List.set_cons_zero, List.set_cons_succ, i64_w, i32_w]
      rfl
    refine pure_ (i := 21) (N := some 119) (v := ?_) (a' := ?_) #[true, true, true, true, true, true, true, true, true, true, true, true, true, true, true, true, true, true, true, true, true, true, false, false, false, false, false, false] rfl rfl (by kernel_rfl) (fun _ _ _ h => h) (Or.inl ⟨by rfl, ?_⟩) ?_ ?_
    rotate_left
    · intro w'
      go_simp
      with_reducible rfl
    rotate_left
    · simp only [Act.put, List.setIfInBounds_toArray, List.set_cons_zero, List.set_cons_succ, i64_w, i32_w]
      rfl
    refine pure_ (i := 22) (N := some 120) (v := ?_) (a' := ?_) #[true, true, true, true, true, true, true, true, true, true, true, true, true, true, true, true, true, true, true, true, true, true, true, false, false, false, false, false] rfl rfl (by kernel_rfl) (fun _ _ _ h => h) (Or.inl ⟨by rfl, ?_⟩) ?_ ?_
    rotate_left
    · intro w'
      go_simp
      with_reducible rfl
    rotate_left
    · simp only [Act.put, List.setIfInBounds_toArray, List.set_cons_zero, List.set_cons_succ, i64_w, i32_w]
      rfl
    refine pure_ (i := 24) (N := some 122) (v := ?_) (a' := ?_) #[true, true, true, true, true, true, true, true, true, true, true, true, true, true, true, true, true, true, true, true, true, true, true, false, true, false, false, false] rfl rfl (by kernel_rfl) (fun _ _ _ h => h) (Or.inl ⟨by rfl, ?_⟩) ?_ ?_
    rotate_left
    · intro w'
      go_simp
      with_reducible rfl
    rotate_left
    · simp only [Act.put, List.setIfInBounds_toArray, List.set_cons_zero, List.set_cons_succ, i64_w, i32_w]
      rfl
    refine take_ (i := 23) (N := some 121) (v := ?_) (a' := ?_) #[true, true, true, true, true, true, true, true, true, true, true, true, true, true, true, true, true, true, true, true, true, true, true, true, true, false, false, false] rfl rfl (by kernel_rfl) (fun _ _ _ h => h) (Or.inl ⟨by rfl, ?_⟩) hHeld2 ?_ ?_
    rotate_left
    · rintro w' ⟨s0, s1, s2, s3, s4, s5, s6, t1, t2⟩
      go_simp
      with_reducible rfl
    rotate_left
    · simp only [Act.put, List.setIfInBounds_toArray, List.set_cons_zero, List.set_cons_succ, i64_w, i32_w]
      rfl
    refine take_ (i := 25) (N := some 123) (v := ?_) (a' := ?_) #[true, true, true, true, true, true, true, true, true, true, true, true, true, true, true, true, true, true, true, true, true, true, true, true, true, true, false, false] rfl rfl (by kernel_rfl) (fun _ _ _ h => h) (Or.inl ⟨by rfl, ?_⟩) hHeld2 ?_ ?_
    rotate_left
    · rintro w' ⟨s0, s1, s2, s3, s4, s5, s6, t1, t2⟩
      go_simp
      with_reducible rfl
    rotate_left
    · simp only [Act.put, List.setIfInBounds_toArray, List.set_cons_zero, List.set_cons_succ, i64_w, i32_w]
      rfl
    refine pure_ (i := 26) (N := some 124) (v := ?_) (a' := ?_) #[true, true, true, true, true, true, true, true, true, true, true, true, true, true, true, true, true, true, true, true, true, true, true, true, true, true, true, false] rfl rfl (by kernel_rfl) (fun _ _ _ h => h) (Or.inl ⟨by rfl, ?_⟩) ?_ ?_
    rotate_left
    · intro w'
      go_simp
      with_reducible rfl
    rotate_left
    · simp only [Act.put, List.setIfInBounds_toArray, List.set_cons_zero, List.set_cons_succ, i64_w, i32_w]
      rfl
    refine pure_ (i := 27) (N := some 125) (v := ?_) (a' := ?_) #[true, true, true, true, true, true, true, true, true, true, true, true, true, true, true, true, true, true, true, true, true, true, true, true, true, true, true, true] rfl rfl (by kernel_rfl) (fun _ _ _ h => h) (Or.inl ⟨by rfl, ?_⟩) ?_ ?_
    rotate_left
    · intro w'
      go_simp
      with_reducible rfl
    rotate_left
    · simp only [Act.put, List.setIfInBounds_toArray, List.set_cons_zero, List.set_cons_succ, i64_w, i32_w]
      rfl
    refine done_ (by kernel_rfl) ?_
    go_wp2
    go_meet
    case rel => exact ⟨rfl, HB2, HM2, HR2, HX2⟩
  obtain ⟨rfl, HB', HM', HR', HBX'⟩ := hcut
  clear HB HM HR HBX HC0 x0_ x1_ x2_ x3_ x4_ x5_ x6_
  have HB := HB'
  have HM := HM'
  have HR := HR'
  have HBX := HBX'
  clear HB' HM' HR' HBX'
  have x0_ := blk_cell HBX.out 0
  have x1_ := blk_cell HBX.out 1
  have x2_ := blk_cell HBX.out 2
  have x3_ := blk_cell HBX.out 3
  have x4_ := blk_cell HBX.out 4
  have x5_ := blk_cell HBX.out 5
  have x6_ := blk_cell HBX.out 6
  obtain ⟨wd, hwd⟩ : ∃ y, y = wc := ⟨_, rfl⟩
  subst hwd
  go_upto_region 12 with (fail)
  go_cut [149] (fun v wc => v = .bool false ∧ Aside0 (Below w.heap.size w wc) ∧ Aside0 (Mine wc w.heap.size g cp l2) ∧ Aside0 (Kd.R (Kd.int .u8) 5 wc w.heap.size (fun k => k ≠ g ∧ k ≠ gx) (.slice A31 l0.length c31) l2) ∧ Aside0 (wc.heap[gx]? = some (.cells #[.slice A0 l0.length c0, .int .i64 a1, .int .i64 a2, .int .i64 a3, .int .i64 a4, .int .u64 a5, .string a6] 34 (0, 0))))
  case first => as_aux_lemma =>
    have HMd := Aside0.mk (HM.out.below (below_drew (Below.refl wd.heap.size wd)))
    have HBd := Aside0.mk (below_drew HB.out)
    have HRd := Aside0.mk (Kd.R_drew HR.out)
    have HBXd := Aside0.mk (show wd.drew.heap[gx]? = _ from HBX.out)
    have d0_ : wd.drew.cell? ⟨gx, 0, none⟩ = some (.slice A0 l0.length c0) := x0_
    have d1_ : wd.drew.cell? ⟨gx, 1, none⟩ = some (.int .i64 a1) := x1_
    have d2_ : wd.drew.cell? ⟨gx, 2, none⟩ = some (.int .i64 a2) := x2_
    have d3_ : wd.drew.cell? ⟨gx, 3, none⟩ = some (.int .i64 a3) := x3_
    have d4_ : wd.drew.cell? ⟨gx, 4, none⟩ = some (.int .i64 a4) := x4_
    have d5_ : wd.drew.cell? ⟨gx, 5, none⟩ = some (.int .u64 a5) := x5_
    have d6_ : wd.drew.cell? ⟨gx, 6, none⟩ = some (.string a6) := x6_
    refine start_ (n := 24) (S := fun w' => w'.cell? ⟨gx, 0, none⟩ = some (.slice A0 l0.length c0) ∧ w'.cell? ⟨gx, 1, none⟩ = some (.int .i64 a1) ∧ w'.cell? ⟨gx, 2, none⟩ = some (.int .i64 a2) ∧ w'.cell? ⟨gx, 3, none⟩ = some (.int .i64 a3) ∧ w'.cell? ⟨gx, 4, none⟩ = some (.int .i64 a4) ∧ w'.cell? ⟨gx, 5, none⟩ = some (.int .u64 a5) ∧ w'.cell? ⟨gx, 6, none⟩ = some (.string a6)) (ds := []) #[false, false, false, false, false, false, false, false, false, false, false, false, false, false, false, false, false, false, false, false, false, false, false, false] (by kernel_rfl) rfl rfl ⟨d0_, d1_, d2_, d3_, d4_, d5_, d6_⟩ (fun hHeld => ?_)
    refine pure_ (i := 0) (N := some 126) (v := ?_) (a' := ?_) #[true, false, false, false, false, false, false, false, false, false, false, false, false, false, false, false, false, false, false, false, false, false, false, false] rfl rfl (by kernel_rfl) (fun _ _ _ h => h) (Or.inl ⟨by rfl, ?_⟩) ?_ ?_
    rotate_left
    · intro w'
      go_simp
      with_reducible rfl
    rotate_left
    · simp only [Act.put, List.setIfInBounds_toArray, List.set_cons_zero, List.set_cons_succ, i64_w, i32_w]
      rfl
    refine pure_ (i := 1) (N := some 127) (v := ?_) (a' := ?_) #[true, true, false, false, false, false, false, false, false, false, false, false, false, false, false, false, false, false, false, false, false, false, false, false] rfl rfl (by kernel_rfl) (fun _ _ _ h => h) (Or.inl ⟨by rfl, ?_⟩) ?_ ?_
    rotate_left
    · intro w'
      go_simp
      with_reducible rfl
    rotate_left
    · simp only [Act.put, List.setIfInBounds_toArray, List.set_cons_zero, List.set_cons_succ, i64_w, i32_w]
      rfl
    refine pure_ (i := 3) (N := some 129) (v := ?_) (a' := ?_) #[true, true, false, true, false, false, false, false, false, false, false, false, false, false, false, false, false, false, false, false, false, false, false, false] rfl rfl (by kernel_rfl) (fun _ _ _ h => h) (Or.inl ⟨by rfl, ?_⟩) ?_ ?_
    rotate_left
    · intro w'
      go_simp
      with_reducible rfl
    rotate_left
    · simp only [Act.put, List.setIfInBounds_toArray, List.set_cons_zero, List.set_cons_succ, i64_w, i32_w]
      rfl
    refine pure_ (i := 5) (N := some 131) (v := ?_) (a' := ?_) #[true, true, false, true, false, true, false, false, false, false, false, false, false, false, false, false, false, false, false, false, false, false, false, false] rfl rfl (by kernel_rfl) (fun _ _ _ h => h) (Or.inl ⟨by rfl, ?_⟩) ?_ ?_
    rotate_left
    · intro w'
      go_simp
      with_reducible rfl
    rotate_left
    · simp only [Act.put, List.setIfInBounds_toArray, List.set_cons_zero, List.set_cons_succ, i64_w, i32_w]
      rfl
    refine pure_ (i := 8) (N := some 134) (v := ?_) (a' := ?_) #[true, true, false, true, false, true, false, false, true, false, false, false, false, false, false, false, false, false, false, false, false, false, false, false] rfl rfl (by kernel_rfl) (fun _ _ _ h => h) (Or.inl ⟨by rfl, ?_⟩) ?_ ?_
    rotate_left
    · intro w'
      go_simp
      with_reducible rfl
    rotate_left
    · simp only [Act.put, List.setIfInBounds_toArray, List.set_cons_zero, List.set_cons_succ, i64_w, i32_w]
      rfl
    refine pure_ (i := 9) (N := some 135) (v := ?_) (a' := ?_) #[true, true, false, true, false, true, false, false, true, true, false, false, false, false, false, false, false, false, false, false, false, false, false, false] rfl rfl (by kernel_rfl) (fun _ _ _ h => h) (Or.inl ⟨by rfl, ?_⟩) ?_ ?_
    rotate_left
    · intro w'
      go_simp
      with_reducible rfl
    rotate_left
    · simp only [Act.put, List.setIfInBounds_toArray, List.set_cons_zero, List.set_cons_succ, i64_w, i32_w]
      rfl
    refine pure_ (i := 11) (N := some 137) (v := ?_) (a' := ?_) #[true, true, false, true, false, true, false, false, true, true, false, true, false, false, false, false, false, false, false, false, false, false, false, false] rfl rfl (by kernel_rfl) (fun _ _ _ h => h) (Or.inl ⟨by rfl, ?_⟩) ?_ ?_
    rotate_left
    · intro w'
      go_simp
      with_reducible rfl
    rotate_left
    · simp only [Act.put, List.setIfInBounds_toArray, List.set_cons_zero, List.set_cons_succ, i64_w, i32_w]
      rfl
    refine pure_ (i := 13) (N := some 139) (v := ?_) (a' := ?_) #[true, true, false, true, false, true, false, false, true, true, false, true, false, true, false, false, false, false, false, false, false, false, false, false] rfl rfl (by kernel_rfl) (fun _ _ _ h => h) (Or.inl ⟨by rfl, ?_⟩) ?_ ?_
    rotate_left
    · intro w'
      go_simp
      with_reducible rfl
    rotate_left
    · simp only [Act.put, List.setIfInBounds_toArray, List.set_cons_zero, List.set_cons_succ, i64_w, i32_w]
      rfl
    refine take_ (i := 2) (N := some 128) (v := ?_) (a' := ?_) #[true, true, true, true, false, true, false, false, true, true, false, true, false, true, false, false, false, false, false, false, false, false, false, false] rfl rfl (by kernel_rfl) (fun _ _ _ h => h) (Or.inl ⟨by rfl, ?_⟩) hHeld ?_ ?_
    rotate_left
    · rintro w' ⟨s0, s1, s2, s3, s4, s5, s6⟩
      go_simp
      with_reducible rfl
    rotate_left
    · simp only [Act.put, List.setIfInBounds_toArray, List.set_cons_zero, List.set_cons_succ, i64_w, i32_w]
      rfl
    refine take_ (i := 4) (N := some 130) (v := ?_) (a' := ?_) #[true, true, true, true, true, true, false, false, true, true, false, true, false, true, false, false, false, false, false, false, false, false, false, false] rfl rfl (by kernel_rfl) (fun _ _ _ h => h) (Or.inl ⟨by rfl, ?_⟩) hHeld ?_ ?_
    rotate_left
    · rintro w' ⟨s0, s1, s2, s3, s4, s5, s6⟩
      go_simp
      with_reducible rfl
    rotate_left
    · simp only [Act.put, List.setIfInBounds_toArray, List.set_cons_zero, List.set_cons_succ, i64_w, i32_w]
      rfl
    refine take_ (i := 6) (N := some 132) (v := ?_) (a' := ?_) #[true, true, true, true, true, true, true, false, true, true, false, true, false, true, false, false, false, false, false, false, false, false, false, false] rfl rfl (by kernel_rfl) (fun _ _ _ h => h) (Or.inl ⟨by rfl, ?_⟩) hHeld ?_ ?_
    rotate_left
    · rintro w' ⟨s0, s1, s2, s3, s4, s5, s6⟩
      go_simp
      with_reducible rfl
    rotate_left
    · simp only [Act.put, List.setIfInBounds_toArray, List.set_cons_zero, List.set_cons_succ, i64_w, i32_w]
      rfl
    refine take_ (i := 10) (N := some 136) (v := ?_) (a' := ?_) #[true, true, true, true, true, true, true, false, true, true, true, true, false, true, false, false, false, false, false, false, false, false, false, false] rfl rfl (by kernel_rfl) (fun _ _ _ h => h) (Or.inl ⟨by rfl, ?_⟩) hHeld ?_ ?_
    rotate_left
    · rintro w' ⟨s0, s1, s2, s3, s4, s5, s6⟩
      go_simp
      with_reducible rfl
    rotate_left
    · simp only [Act.put, List.setIfInBounds_toArray, List.set_cons_zero, List.set_cons_succ, i64_w, i32_w]
      rfl
    refine take_ (i := 12) (N := some 138) (v := ?_) (a' := ?_) #[true, true, true, true, true, true, true, false, true, true, true, true, true, true, false, false, false, false, false, false, false, false, false, false] rfl rfl (by kernel_rfl) (fun _ _ _ h => h) (Or.inl ⟨by rfl, ?_⟩) hHeld ?_ ?_
    rotate_left
    · rintro w' ⟨s0, s1, s2, s3, s4, s5, s6⟩
      go_simp
      with_reducible rfl
    rotate_left
    · simp only [Act.put, List.setIfInBounds_toArray, List.set_cons_zero, List.set_cons_succ, i64_w, i32_w]
      rfl
    refine take_ (i := 14) (N := some 140) (v := ?_) (a' := ?_) #[true, true, true, true, true, true, true, false, true, true, true, true, true, true, true, false, false, false, false, false, false, false, false, false] rfl rfl (by kernel_rfl) (fun _ _ _ h => h) (Or.inl ⟨by rfl, ?_⟩) hHeld ?_ ?_
    rotate_left
    · rintro w' ⟨s0, s1, s2, s3, s4, s5, s6⟩
      go_simp
      with_reducible rfl
    rotate_left
    · simp only [Act.put, List.setIfInBounds_toArray, List.set_cons_zero, List.set_cons_succ, i64_w, i32_w]
      rfl
    refine one_ (i := 7) (N := some 133) #[true, true, true, true, true, true, true, true, true, true, true, true, true, true, true, false, false, false, false, false, false, false, false, false] rfl rfl (by kernel_rfl) (by decide) (fun K hK => ?_)
    refine goes_ Tryd.func27 (by kernel_rfl) rfl #[.slice (some ⟨g, 0, none⟩) l0.length cp, .int .i64 a1, .int .i64 a2, .string a6] (by rfl) rfl rfl (by simp only [List.map_toArray, List.map_cons, List.map_nil]; rfl) ?_
    with_reducible refine (T27.out w _ g cp HBd.out HMd.out).mono ?_
    rintro e_ w_27 ⟨rfl, hm_, hb_, ho_⟩
    refine ⟨_, rfl, ?_⟩
    have HM1 := Aside0.mk hm_
    have HB1 := Aside0.mk hb_
    have HR1 := Aside0.mk (oth_row ho_ HRd.out)
    have HX1 := Aside0.mk ((ho_.2 gx (blk_lt HBXd.out) HNX.out).trans HBXd.out)
    have y0_ := blk_cell HX1.out 0
    have y1_ := blk_cell HX1.out 1
    have y2_ := blk_cell HX1.out 2
    have y3_ := blk_cell HX1.out 3
    have y4_ := blk_cell HX1.out 4
    have y5_ := blk_cell HX1.out 5
    have y6_ := blk_cell HX1.out 6
    clear hm_ hb_ ho_
    refine hK.out _ _ ⟨y0_, y1_, y2_, y3_, y4_, y5_, y6_⟩ (fun hHeld => ?_)
    clear hK K
    refine norm_ (a' := ?_) ?_ ?_
    rotate_left
    · show Act.put _ (some 133) _ = _
      simp only [Act.put, List.setIfInBounds_toArray, List.set_cons_zero, List.set_cons_succ, i64_w, i32_w]
      rfl
    refine one_ (i := 15) (N := some 141) #[true, true, true, true, true, true, true, true, true, true, true, true, true, true, true, true, false, false, false, false, false, false, false, false] rfl rfl (by kernel_rfl) (by decide) (fun K hK => ?_)
    refine goes_ Tryd.func28 (by kernel_rfl) rfl #[.slice A31 l0.length c31, .int .i64 a1, .int .i64 a2, .string a6] (by rfl) rfl rfl (by simp only [List.map_toArray, List.map_cons, List.map_nil]; rfl) ?_
    with_reducible refine (stencilref01_PutChars.calls kq (fun k => k ≠ g ∧ k ≠ gx) (.slice A31 l0.length c31) l1 a1 a2 a6 q1 l2 w _ HB1.out HR1.out T28.out).mono ?_
    rintro e_ w_28 ⟨rfl, hr_, hb_, hk_⟩
    refine ⟨_, rfl, ?_⟩
    have HR2 := Aside0.mk (kept_row HM1.out.cap.2.2 (blk_lt HX1.out) hr_)
    have HM2 := Aside0.mk (HM1.out.kept hk_)
    have HB2 := Aside0.mk hb_
    have HX2 := Aside0.mk ((hk_.2 gx (blk_lt HX1.out) (fun hn => hn.2 rfl)).trans HX1.out)
    have z0_ := blk_cell HX2.out 0
    have z1_ := blk_cell HX2.out 1
    have z2_ := blk_cell HX2.out 2
    have z3_ := blk_cell HX2.out 3
    have z4_ := blk_cell HX2.out 4
    have z5_ := blk_cell HX2.out 5
    have z6_ := blk_cell HX2.out 6
    have hcv1 : ∀ C, (convert 31 9 (.slice (some ⟨g, 0, none⟩) l0.length C)).run Tryd.prog w_28 = .ok (.string (strOfNums l2)) w_28 := fun C => HL2b.out ▸ mine_conv HM2.out C
    have hcv2 : ∀ C, (convert 31 9 (.slice A31 l0.length C)).run Tryd.prog w_28 = .ok (.string (strOfNums l2)) w_28 := fun C => conv_own HR2.out C
    clear hr_ hb_ hk_
    refine hK.out _ _ ⟨z0_, z1_, z2_, z3_, z4_, z5_, z6_⟩ (fun hHeld => ?_)
    clear hK K
    refine norm_ (a' := ?_) ?_ ?_
    rotate_left
    · show Act.put _ (some 141) _ = _
      simp only [Act.put, List.setIfInBounds_toArray, List.set_cons_zero, List.set_cons_succ, i64_w, i32_w]
      rfl
    have hHeld2 : (fun w' => w'.cell? ⟨gx, 0, none⟩ = some (.slice A0 l0.length c0) ∧ w'.cell? ⟨gx, 1, none⟩ = some (.int .i64 a1) ∧ w'.cell? ⟨gx, 2, none⟩ = some (.int .i64 a2) ∧ w'.cell? ⟨gx, 3, none⟩ = some (.int .i64 a3) ∧ w'.cell? ⟨gx, 4, none⟩ = some (.int .i64 a4) ∧ w'.cell? ⟨gx, 5, none⟩ = some (.int .u64 a5) ∧ w'.cell? ⟨gx, 6, none⟩ = some (.string a6) ∧ (∀ C, (convert 31 9 (.slice (some ⟨g, 0, none⟩) l0.length C)).run Tryd.prog w' = .ok (.string (strOfNums l2)) w') ∧ (∀ C, (convert 31 9 (.slice A31 l0.length C)).run Tryd.prog w' = .ok (.string (strOfNums l2)) w')) w_28 := ⟨z0_, z1_, z2_, z3_, z4_, z5_, z6_, hcv1, hcv2⟩
    refine last_strong (S2 := (fun w' => w'.cell? ⟨gx, 0, none⟩ = some (.slice A0 l0.length c0) ∧ w'.cell? ⟨gx, 1, none⟩ = some (.int .i64 a1) ∧ w'.cell? ⟨gx, 2, none⟩ = some (.int .i64 a2) ∧ w'.cell? ⟨gx, 3, none⟩ = some (.int .i64 a3) ∧ w'.cell? ⟨gx, 4, none⟩ = some (.int .i64 a4) ∧ w'.cell? ⟨gx, 5, none⟩ = some (.int .u64 a5) ∧ w'.cell? ⟨gx, 6, none⟩ = some (.string a6) ∧ (∀ C, (convert 31 9 (.slice (some ⟨g, 0, none⟩) l0.length C)).run Tryd.prog w' = .ok (.string (strOfNums l2)) w') ∧ (∀ C, (convert 31 9 (.slice A31 l0.length C)).run Tryd.prog w' = .ok (.string (strOfNums l2)) w'))) (fun _ ⟨h0, h1, h2, h3, h4, h5, h6, _, _⟩ => ⟨h0, h1, h2, h3, h4, h5, h6⟩) _ _ _ _ hHeld2 ?_
    refine pure_ (i := 16) (N := some 142) (v := ?_) (a' := ?_) #[true, true, true, true, true, true, true, true, true, true, true, true, true, true, true, true, true, false, false, false, false, false, false, false] rfl rfl (by kernel_rfl) (fun _ _ _ h => h) (Or.inl ⟨by rfl, ?_⟩) ?_ ?_
    rotate_left
    · intro w'
      go_simp
      with_reducible rfl
    rotate_left
    · simp only [Act.put, List.setIfInBounds_toArray, List.set_cons_zero, List.set_cons_succ, i64_w, i32_w]
      rfl
    refine pure_ (i := 17) (N := some 143) (v := ?_) (a' := ?_) #[true, true, true, true, true, true, true, true, true, true, true, true, true, true, true, true, true, true, false, false, false, false, false, false] rfl rfl (by kernel_rfl) (fun _ _ _ h => h) (Or.inl ⟨by rfl, ?_⟩) ?_ ?_
    rotate_left
    · intro w'
      go_simp
      with_reducible rfl
    rotate_left
    · simp only [Act.put, List.setIfInBounds_toArray, List.set_cons_zero, List.set_cons_succ, i64_w, i32_w]
      rfl
    refine pure_ (i := 18) (N := some 144) (v := ?_) (a' := ?_) #[true, true, true, true, true, true, true, true, true, true, true, true, true, true, true, true, true, true, true, false, false, false, false, false] rfl rfl (by kernel_rfl) (fun _ _ _ h => h) (Or.inl ⟨by rfl, ?_⟩) ?_ ?_
    rotate_left
    · intro w'
      go_simp
      with_reducible rfl
    rotate_left
    · simp only [Act.put, List.setIfInBounds_toArray, List.set_cons_zero, List.set_cons_succ, i64_w, i32_w]
      rfl
    refine pure_ (i := 20) (N := some 146) (v := ?_) (a' := ?_) #[true, true, true, true, true, true, true, true, true, true, true, true, true, true, true, true, true, true, true, false, true, false, false, false] rfl rfl (by kernel_rfl) (fun _ _ _ h => h) (Or.inl ⟨by rfl, ?_⟩) ?_ ?_
    rotate_left
    · intro w'
      go_simp
      with_reducible rfl
    rotate_left
    · simp only [Act.put, List.setIfInBounds_toArray, List.set_cons_zero, List.set_cons_succ, i64_w, i32_w]
      rfl
    refine take_ (i := 19) (N := some 145) (v := ?_) (a' := ?_) #[true, true, true, true, true, true, true, true, true, true, true, true, true, true, true, true, true, true, true, true, true, false, false, false] rfl rfl (by kernel_rfl) (fun _ _ _ h => h) (Or.inl ⟨by rfl, ?_⟩) hHeld2 ?_ ?_
    rotate_left
    · rintro w' ⟨s0, s1, s2, s3, s4, s5, s6, t1, t2⟩
      go_simp
      with_reducible rfl
    rotate_left
    · simp only [Act.put, List.setIfInBounds_toArray, List.set_cons_zero, List.set_cons_succ, i64_w, i32_w]
      rfl
    refine take_ (i := 21) (N := some 147) (v := ?_) (a' := ?_) #[true, true, true, true, true, true, true, true, true, true, true, true, true, true, true, true, true, true, true, true, true, true, false, false] rfl rfl (by kernel_rfl) (fun _ _ _ h => h) (Or.inl ⟨by rfl, ?_⟩) hHeld2 ?_ ?_
    rotate_left
    · rintro w' ⟨s0, s1, s2, s3, s4, s5, s6, t1, t2⟩
      go_simp
      with_reducible rfl
    rotate_left
    · simp only [Act.put, List.setIfInBounds_toArray, List.set_cons_zero, List.set_cons_succ, i64_w, i32_w]
      rfl
    refine pure_ (i := 22) (N := some 148) (v := ?_) (a' := ?_) #[true, true, true, true, true, true, true, true, true, true, true, true, true, true, true, true, true, true, true, true, true, true, true, false] rfl rfl (by kernel_rfl) (fun _ _ _ h => h) (Or.inl ⟨by rfl, ?_⟩) ?_ ?_
    rotate_left
    · intro w'
      go_simp
      with_reducible rfl
    rotate_left
    · simp only [Act.put, List.setIfInBounds_toArray, List.set_cons_zero, List.set_cons_succ, i64_w, i32_w]
      rfl
    refine pure_ (i := 23) (N := some 149) (v := ?_) (a' := ?_) #[true, true, true, true, true, true, true, true, true, true, true, true, true, true, true, true, true, true, true, true, true, true, true, true] rfl rfl (by kernel_rfl) (fun _ _ _ h => h) (Or.inl ⟨by rfl, ?_⟩) ?_ ?_
    rotate_left
    · intro w'
      go_simp
      with_reducible rfl
    rotate_left
    · simp only [Act.put, List.setIfInBounds_toArray, List.set_cons_zero, List.set_cons_succ, i64_w, i32_w]
      rfl
    refine done_ (by kernel_rfl) ?_
    go_wp2
    go_meet
    case rel => exact ⟨rfl, HB2, HM2, HR2, HX2⟩
  obtain ⟨rfl, HB', HM', HR', HBX'⟩ := hcut
  clear HB HM HR HBX x0_ x1_ x2_ x3_ x4_ x5_ x6_
  have HB := HB'
  have HM := HM'
  have HR := HR'
  have HBX := HBX'
  clear HB' HM' HR' HBX'
  have x0_ := blk_cell HBX.out 0
  have x1_ := blk_cell HBX.out 1
  have x2_ := blk_cell HBX.out 2
  have x3_ := blk_cell HBX.out 3
  have x4_ := blk_cell HBX.out 4
  have x5_ := blk_cell HBX.out 5
  have x6_ := blk_cell HBX.out 6
  go_upto_region 14 with (fail)
  obtain ⟨wq, hwq⟩ : ∃ y, y = wc := ⟨_, rfl⟩
  subst hwq
  have HBq := Aside0.mk HB.out
  clear HB HR HBX x0_ x1_ x2_ x3_ x4_ x5_ x6_
  have HB := Aside0.mk (Below.refl wq.heap.size wq)
  obtain ⟨Y2, hY2⟩ : ∃ Y2, getC [97, 98] 0 2 = Y2 := ⟨_, rfl⟩
  have bY2 : (Y2.toList == ([97, 98] : List UInt8)) = true := beq_iff_eq.mpr (by rw [← hY2, ByteArray.toList_eq]; rfl)
  have T23b := Aside0.mk (fun (W : World) (v : Value) (h : Rd8 W v 2 [97, 98]) => prim_GetCharsH.yes W v 2 [97, 98] h 0 2 (by decide) (by decide))
  rw [hY2] at T23b
  clear hY2
  obtain ⟨W1, hcid, ho1_, hbo_⟩ := ab_row wq
  have HO1 := Aside0.mk ho1_
  have HBo := Aside0.mk hbo_
  clear ho1_ hbo_ HB
  go_upto_region 16 with (first | (go_at_call 23; (with_reducible refine (T23b.out W1 _ (ab_rd HO1.out)).mono ?_); rintro e_ w_23b ⟨rfl, hd_⟩; have hb_ := hd_.below; have HB := Aside0.mk (below_step HBo.out hb_); have HO2 := Aside0.mk ((hb_.block _ (blk_lt HO1.out)).trans HO1.out); clear hd_ hb_))
  have hc_ : w_23b.cell? ⟨wq.heap.size, 0, none⟩ = some (.int .u8 97) := cell_any HO2.out 0
  have hf_ := frz_any HO2.out 0 (by decide)
  have HBs := Aside0.mk (HB.out.setCell (p := ⟨wq.heap.size, 0, none⟩) (Nat.le_refl _) (.int .u8 120))
  have hms := HM.out.below HBs.out
  obtain ⟨Y3, hY3⟩ : ∃ Y3 : ByteArray, Y3 = ⟨#[77, 78, 79]⟩ := ⟨_, rfl⟩
  have bY3 : (Y3.toList == ([77, 78, 79] : List UInt8)) = true := beq_iff_eq.mpr (by rw [hY3, ByteArray.toList_eq])
  have hcv3 : ∀ C, (convert 31 9 (.slice (some ⟨g, l0.length, none⟩) 3 C)).run Tryd.prog (w_23b.setCell ⟨wq.heap.size, 0, none⟩ (.int .u8 120)) = .ok (.string Y3) (w_23b.setCell ⟨wq.heap.size, 0, none⟩ (.int .u8 120)) := fun C => by rw [hY3]; exact mine_tail hms l0.length (by rw [HL2.out, HL1.out]) C
  clear hY3
  have g1_ : ¬ cp = l0.length := by have := HM.out.cap; have h1 := HL1.out; have h2 := HL2.out; omega
  have g2_ : ¬ l0.length = cp := by omega
  have g3_ : ¬ cp ≤ l0.length := by have := HM.out.cap; have h1 := HL1.out; have h2 := HL2.out; omega
  clear hms
  go_wp2
  go_ret
  exact ⟨rfl, below_step HBq.out HBs.out⟩
theorem PrimBytes_pure (l0 : List Int) (a1 a2 a3 a4 a5 : Int) (a6 : ByteArray) (h0 : l0.length * 1 ≤ 140737488351232) (hx : ∀ x ∈ l0, (Lit.int .u8 x).wf = true) (h1 : (Lit.int .i64 a1).wf = true) (h5 : (Lit.int .u64 a5).wf = true) : stencillaw01_PrimBytes.f l0 a1 a2 a3 a4 a5 a6 = some true := by
  have z1 : IntKind.i64.min ≤ a1 ∧ a1 ≤ IntKind.i64.max := by simpa [Lit.wf] using h1
  rw [show IntKind.i64.min = -9223372036854775808 by decide, show IntKind.i64.max = 9223372036854775807 by decide] at z1
  have zx : ∀ x ∈ l0, 0 ≤ x ∧ x ≤ 255 := fun x hm => by
    have z3 : IntKind.u8.min ≤ x ∧ x ≤ IntKind.u8.max := by simpa [Lit.wf] using hx x hm
    rw [show IntKind.u8.min = 0 by decide, show IntKind.u8.max = 255 by decide] at z3
    exact z3
  unfold stencillaw01_PrimBytes.f
  rw [if_pos ⟨by omega, zx, z1, wf_u64 h5⟩]

end Go.Proofs.YtgackepigegbkaaDoor.B
