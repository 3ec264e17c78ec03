/- Feed (layer 24), by hand: the next bytes taken, the whole parcels told, the rest kept. -/

import Derived.Test.YtkchnocliilapaaQx0
import Derived.Test.YtkchnocliilapaaHSplit
import Derived.StillTailTactics
import Derived.Defers
import Derived.BigRegion
namespace Go.Proofs.Ytkchnocliilapaa.Q
open Go.RowKit Go.Proofs.YtkchnocliilapaaW.PrintWords Go.Proofs.YtkchnocliilapaaW.PrintLast Go.Proofs.YtkchnocliilapaaW.PrintMore
attribute [local go_sem] max2_int min2_int max_two min_two max_three min_three max_four min_four   -- for this text's walks alone
set_option linter.unusedVariables false
set_option linter.unusedSimpArgs false

/-- A framer in memory that owns its bytes: they lie in block bb. -/
def FrO (w : World) (base g bb : Nat) (bs : List Int) (lim ref : Int) : Prop :=
  ∃ v, w.heap[g]? = some (.cells #[v, .int .i64 lim, .int .i64 ref] 62 (0, 0)) ∧ Kd.R (Kd.int .u8) 5 w base (fun k => k = bb) v bs ∧ bb ≠ g ∧ bb < w.heap.size
theorem FrO_S {w : World} {base g bb : Nat} {v : Value} {bs : List Int} {lim ref : Int} (h : w.heap[g]? = some (.cells #[v, .int .i64 lim, .int .i64 ref] 62 (0, 0))) (hR : Kd.R (Kd.int .u8) 5 w base (fun k => k = bb) v bs) (hne : bb ≠ g) (hlt : bb < w.heap.size) : FrS w g bb bs lim ref := by
  obtain ⟨A, c, rfl⟩ := Kd.R_slice hR
  exact ⟨A, c, h, (Kd.R_reads' hR).2.2, (Kd.R_reads' hR).2.1, fun a ha => hR.1 a.block (by rw [ha]; rfl), hlt, hne⟩
/-- The block in which a row lies (or any other). -/
theorem R_pin {w : World} {base bb0 : Nat} {ok : Nat → Prop} {v : Value} {bs : List Int} (hR : Kd.R (Kd.int .u8) 5 w base ok v bs) (h0 : ok bb0) (hlt : bb0 < w.heap.size) : ∃ bb, ok bb ∧ bb < w.heap.size ∧ Kd.R (Kd.int .u8) 5 w base (fun k => k = bb) v bs := by
  cases hv : v.ownBlock with
  | none => exact ⟨bb0, h0, hlt, ⟨fun k hk => (by rw [hv] at hk; cases hk), hR.2.imp_ (fun _ _ hp => hp)⟩⟩
  | some b =>
    have := (Kd.R_bound hR).1 b hv
    exact ⟨b, hR.1 b hv, this.2.2.1, ⟨fun k hk => (by rw [hv] at hk; exact (Option.some.inj hk).symm), hR.2.imp_ (fun _ _ hp => hp)⟩⟩

theorem FrS.setRef {w : World} {g bb : Nat} {bs : List Int} {lim ref : Int} (h : FrS w g bb bs lim ref) (r : Int) : FrS (w.setCell ⟨g, 2, none⟩ (.int .i64 r)) g bb bs lim r := by
  obtain ⟨A, c, a, b, d, e, f, i⟩ := h
  refine ⟨A, c, ?_, C_block b e (blk_far' w i _), d, e, by simpa using f, i⟩
  have z := blk_set a 2 (.int .i64 r)
  simpa using z
theorem Feed_defer.zero (u : FrameMode) (w : World) (gb g : Nat) (h0 : w.cell? ⟨gb, 0, none⟩ = some (.pointer (some ⟨g, 0, none⟩))) (h2 : w.cell? ⟨g, 2, none⟩ = some (.int .i64 0)) :
    CallsD Try.prog 31 #[.pointer (some ⟨gb, 0, none⟩)] u w fun e u' w' => u' = u ∧ (e = .returned (.tuple #[]) ∧ w = w') := by
  go_enter_d Try.func31, Try.ntmps31
  go_wp2
  go_end0
  exact ⟨rfl, rfl⟩
theorem Feed_defer.some_ (u : FrameMode) (w : World) (gb g : Nat) (r : Int) (v : Value) (hr : r ≠ 0) (h0 : w.cell? ⟨gb, 0, none⟩ = some (.pointer (some ⟨g, 0, none⟩))) (h2 : w.cell? ⟨g, 2, none⟩ = some (.int .i64 r)) (hc : w.cell? ⟨g, 0, none⟩ = some v) (hf : w.frozen? ⟨g, 0, none⟩ = false) :
    CallsD Try.prog 31 #[.pointer (some ⟨gb, 0, none⟩)] u w fun e u' w' => u' = u ∧ (e = .returned (.tuple #[]) ∧ w.setCell ⟨g, 0, none⟩ (.slice none 0 0) = w') := by
  have hb : (r != 0) = true := bne_iff_ne.mpr hr
  have hb2 : (r == 0) = false := beq_eq_false_iff_ne.mpr hr
  clear hr
  go_enter_d Try.func31, Try.ntmps31
  go_wp2
  go_end0
  exact ⟨rfl, rfl⟩

theorem feed_results {tmps : Array Value} {W : World} {v0 v1 : Value} (h4 : tmps.getD 4 undef = v0) (h5 : tmps.getD 5 undef = v1) :
    (results Try.f18 tmps).run Try.prog W = .ok (.tuple #[v0, v1]) W := by
  simp only [Array.getD_eq_getD_getElem?] at h4 h5
  simp only [results, Try.results18]
  simp [go_sem, h4, h5]
theorem feed_zero {w0 w W : World} {g gb bb bb8 : Nat} {lim : Int} {v6 : Value} {l : List S23} {P2 : List Int} {E : Int} {B2 : List Int} {tmps : Array Value} (hE : E = 0) (hB2 : B2 = if E = 0 then P2 else []) (hx : W.heap[gb]? = some (.cells #[.pointer (some ⟨g, 0, none⟩)] 38 (0, 0))) (hF : FrO W w0.heap.size g bb8 P2 lim E) (hO : Kd.R k23 23 W w0.heap.size (fun k => w.heap.size ≤ k ∧ k ≠ bb8 ∧ k ≠ g ∧ k ≠ gb) v6 l) (hbb : bb8 = bb ∨ w.heap.size ≤ bb8) (hB : Below w0.heap.size w0 W) (hK : Kept w W (fun k => k = g ∨ k = bb)) (h4 : tmps.getD 4 undef = v6) (h5 : tmps.getD 5 undef = .int .i64 E) :
    Leaves Try.prog Try.f18 tmps (fun e w' => ∃ v bb', e = .returned (.tuple #[v, .int .i64 E]) ∧ Kd.R k23 23 w' w0.heap.size (fun k => w.heap.size ≤ k ∧ k ≠ bb' ∧ k ≠ g) v l ∧ FrO w' w0.heap.size g bb' B2 lim E ∧ (bb' = bb ∨ w.heap.size ≤ bb') ∧ Below w0.heap.size w0 w' ∧ Kept w w' (fun k => k = g ∨ k = bb))
      [{ target := .fn (.func 31) #[.pointer (some ⟨gb, 0, none⟩)], args := #[] }] .returning W := by
  obtain ⟨v, hG, _⟩ := id hF
  refine leaves_cons (f := 31) (args := #[.pointer (some ⟨gb, 0, none⟩)]) (by simp) (by simp [go_sem]) ?_
  refine (Feed_defer.zero .returning W gb g (blk_cell hx 0) (by rw [blk_cell hG 2, hE]; rfl)).mono ?_
  rintro e u' w'' ⟨rfl, rfl, rfl⟩
  rw [hB2, if_pos hE]
  exact ⟨_, feed_results h4 h5, v6, bb8, rfl, Kd.R_mono hO (fun _ hk => ⟨hk.1, hk.2.1, hk.2.2.1⟩), hF, hbb, hB, hK⟩
theorem feed_some {w0 w W : World} {g gb bb bb8 : Nat} {lim : Int} {v6 : Value} {l : List S23} {P2 : List Int} {E : Int} {B2 : List Int} {tmps : Array Value} (hE : E ≠ 0) (hB2 : B2 = if E = 0 then P2 else []) (hx : W.heap[gb]? = some (.cells #[.pointer (some ⟨g, 0, none⟩)] 38 (0, 0))) (hF : FrO W w0.heap.size g bb8 P2 lim E) (hO : Kd.R k23 23 W w0.heap.size (fun k => w.heap.size ≤ k ∧ k ≠ bb8 ∧ k ≠ g ∧ k ≠ gb) v6 l) (hgb : w.heap.size ≤ gb) (hne : gb ≠ g) (hgg : w0.heap.size ≤ g) (hB : Below w0.heap.size w0 W) (hK : Kept w W (fun k => k = g ∨ k = bb)) (h4 : tmps.getD 4 undef = v6) (h5 : tmps.getD 5 undef = .int .i64 E) :
    Leaves Try.prog Try.f18 tmps (fun e w' => ∃ v bb', e = .returned (.tuple #[v, .int .i64 E]) ∧ Kd.R k23 23 w' w0.heap.size (fun k => w.heap.size ≤ k ∧ k ≠ bb' ∧ k ≠ g) v l ∧ FrO w' w0.heap.size g bb' B2 lim E ∧ (bb' = bb ∨ w.heap.size ≤ bb') ∧ Below w0.heap.size w0 w' ∧ Kept w w' (fun k => k = g ∨ k = bb))
      [{ target := .fn (.func 31) #[.pointer (some ⟨gb, 0, none⟩)], args := #[] }] .returning W := by
  obtain ⟨v, hG, _⟩ := id hF
  refine leaves_cons (f := 31) (args := #[.pointer (some ⟨gb, 0, none⟩)]) (by simp) (by simp [go_sem]) ?_
  refine (Feed_defer.some_ .returning W gb g E v hE (blk_cell hx 0) (blk_cell hG 2) (blk_cell hG 0) (blk_frozen hG 0)).mono ?_
  rintro e u' w'' ⟨rfl, rfl, rfl⟩
  rw [hB2, if_neg hE]
  refine ⟨_, feed_results h4 h5, v6, gb, rfl, Kd.R_far (Kd.R_mono hO (fun _ hk => ⟨hk.1, hk.2.2.2, hk.2.2.1⟩)) (fun k hk => hk.2.2) _, ⟨.slice none 0 0, ?_, Kd.R_nil _ _ _ _ _, hne, by simpa using blk_lt hx⟩, .inr hgb, hB.setCell hgg _, ?_, ?_⟩
  · have z := blk_set hG 0 (.slice none 0 0)
    simpa using z
  · simpa using hK.1
  · intro i hi hn
    exact (Below.heap_setCell W ⟨g, 0, none⟩ _ i (fun e => hn (.inl e))).trans (hK.2 i hi hn)
set_option maxHeartbeats 4000000 in
set_option maxRecDepth 100000 in
/-- A stream that has been refused: no parcel, the same error. -/
theorem Framer_Feed.refused (w : World) (g : Nat) (v : Value) (lim ref : Int) (A : Option Addr) (n c : Nat) (hr : ref ≠ 0) (hG : w.heap[g]? = some (.cells #[v, .int .i64 lim, .int .i64 ref] 62 (0, 0))) :
    Calls Try.prog 18 #[.pointer (some ⟨g, 0, none⟩), .slice A n c] w fun e w' => e = .returned (.tuple #[.slice none 0 0, .int .i64 ref]) ∧ Below w.heap.size w w' := by
  have HG := Aside0.mk hG
  have hb : (ref != 0) = true := bne_iff_ne.mpr hr
  have HB := Aside0.mk (Below.refl w.heap.size w)
  clear hG hr
  go_enter_defers Try.func18, Try.ntmps18
  go_wp2_with (first | ((with_reducible refine gate_dst (N := 2) rfl ?_); refine box_event ?hg (N := 2) ?hd (cs := #[.pointer (some ⟨g, 0, none⟩)]) (t := 38) ?hr ?_; (case hd => rfl); (case hg => rfl); (case hr => first | (go_simp; done) | (go_simp; rfl)); intro gb hgx w1 hbox hbw; have BX := Aside0.mk hbox; have HB1 := Aside0.mk hbw; have HG1 := Aside0.mk (blk_below HG.out hbw); have cx0 := blk_cell hbox 0; have cg2 := blk_cell HG1.out 2; simp only [List.getElem?_toArray, List.getElem?_cons_zero, List.getElem?_cons_succ] at cx0 cg2; clear hgx hbox hbw))
  repeat (go_quiet (fail); try go_wp2)
  exact ⟨_, feed_results rfl rfl, rfl, pw_below_drewN HB1.out _⟩

/-- What one Feed comes to: the parcels, the verdict, what is kept. -/
def feedL (lim : Int) (bs : List Int) : List S23 := (parcelsF lim bs.length bs []).1
def feedE (lim : Int) (bs : List Int) : Int := verdictF lim (parcelsF lim bs.length bs []).2
def feedB (lim : Int) (bs : List Int) : List Int := if feedE lim bs = 0 then (parcelsF lim bs.length bs []).2 else []

set_option maxHeartbeats 4000000 in
set_option maxRecDepth 100000 in
theorem Framer_Feed.taken (w0 w : World) (g bb : Nat) (lim : Int) (bs ch : List Int) (A : Option Addr) (c : Nat) (hF : FrO w w0.heap.size g bb bs lim 0) (hB : Below w0.heap.size w0 w) (hg : w0.heap.size ≤ g) (hC : Kd.C (Kd.int .u8) w A ch.length ch) (hc : ch.length ≤ c) (hbs : ∀ b ∈ bs ++ ch, 0 ≤ b ∧ b < 256) (hl : (bs ++ ch).length ≤ 140737488355328) (hcn : (feedL lim (bs ++ ch)).length < 1000000000000) :
    Calls Try.prog 18 #[.pointer (some ⟨g, 0, none⟩), .slice A ch.length c] w fun e w' => ∃ v bb', e = .returned (.tuple #[v, .int .i64 (feedE lim (bs ++ ch))]) ∧ Kd.R k23 23 w' w0.heap.size (fun k => w.heap.size ≤ k ∧ k ≠ bb' ∧ k ≠ g) v (feedL lim (bs ++ ch)) ∧ FrO w' w0.heap.size g bb' (feedB lim (bs ++ ch)) lim (feedE lim (bs ++ ch)) ∧ (bb' = bb ∨ w.heap.size ≤ bb') ∧ Below w0.heap.size w0 w' ∧ Kept w w' (fun k => k = g ∨ k = bb) := by
  obtain ⟨v, hG, hR, hne, hlt⟩ := hF
  have HG := Aside0.mk hG
  have HR := Aside0.mk hR
  have HB := Aside0.mk hB
  have HC := Aside0.mk hC
  have HCC := Aside0.mk hc
  have HBS := Aside0.mk hbs
  have HL := Aside0.mk hl
  have HCN := Aside0.mk hcn
  have HCN2 := Aside0.mk (show (parcelsF lim (bs ++ ch).length (bs ++ ch) []).1.length < 1000000000000 from hcn)
  clear hcn
  have HGG := Aside0.mk hg
  have HNE := Aside0.mk hne
  have HLT := Aside0.mk hlt
  clear hG hR hB hC hbs hl hne hlt hc hg
  have hmf : ∀ (fn : Fn) (first cap : Array Value) (w : World), (Instr.makeFunc fn first cap).run Try.prog w = .ok (.func fn first cap) w := fun _ _ _ _ => rfl
  go_enter_defers Try.func18, Try.ntmps18
  go_upto_region 4 with (first | ((with_reducible refine gate_dst (N := 2) rfl ?_); refine box_event ?hg (N := 2) ?hd (cs := #[.pointer (some ⟨g, 0, none⟩)]) (t := 38) ?hr ?_; (case hd => rfl); (case hg => rfl); (case hr => first | (go_simp; done) | (go_simp; rfl)); intro gb hgx w1 hbox hbw; have BX := Aside0.mk hbox; have HBW := Aside0.mk hbw; have GB := Aside0.mk hgx; have HG1 := Aside0.mk (blk_below HG.out hbw); have cx0 := blk_cell hbox 0; have cg2 := blk_cell HG1.out 2; have cg0 := blk_cell HG1.out 0; have cf0 := blk_frozen HG1.out 0; simp only [List.getElem?_toArray, List.getElem?_cons_zero, List.getElem?_cons_succ] at cx0 cg2 cg0; clear hgx hbox hbw))
  have O4 := Aside0.mk (Kd.R_mono (Kd.R_drew (Kd.R_below HR.out HBW.out)) (ok' := fun k => k = bb ∨ w1.heap.size ≤ k) (fun k hk => .inl hk))
  have C4 := Aside0.mk (Kd.C_drew (Kd.C_below HC.out HBW.out))
  have B4 := Aside0.mk (below_drew (below_step HB.out HBW.out))
  have own4 := Aside0.mk HR.out.1
  have ge4 := Aside0.mk (show gb ≠ bb by have := HLT.out; have := GB.out; omega)
  have gg4 := Aside0.mk (show gb ≠ g by have := blk_lt HG.out; have := GB.out; omega)
  go_cut [24] from 17 to 27 (fun v4 wc => ∃ bb1, Aside0 (wc.heap[g]? = some (.cells #[v4, .int .i64 lim, .int .i64 0] 62 (0, 0))) ∧ Aside0 (Kd.R (Kd.int .u8) 5 wc w0.heap.size (fun k => k = bb1) v4 (bs ++ ch)) ∧ Aside0 (bb1 ≠ g ∧ bb1 < wc.heap.size ∧ (bb1 = bb ∨ w.heap.size ≤ bb1)) ∧ Aside0 (wc.heap[gb]? = some (.cells #[.pointer (some ⟨g, 0, none⟩)] 38 (0, 0))) ∧ Aside0 (Below w0.heap.size w0 wc) ∧ Aside0 (Kept w wc (fun k => k = g ∨ k = bb)))
  case first => as_aux_lemma =>
    first | go_region_law (first | (refine Kd.R_append_rows_step (Kd.int .u8) (w0 := w0) (W := w1.drew) w0.heap.size (by simp [Region.wanted]) (.tmp 22) (.tmp 23) 45 5 (.int .u8 0) 1 rfl Try.underlying45 info5 rfl (by decide) (by decide) v bs ch A ch.length c (fun k => k = bb ∨ w1.heap.size ≤ k) (fun _ => False) rfl rfl O4.out C4.out (fun _ _ h => h) (fun _ h => h.elim) (fun k hk => .inr hk) B4.out B4.out.size (by have := HL.out; rw [List.length_append] at this; omega) ?_; intro v4 w4 ho hb4 hg4 hat4; obtain ⟨A4, c4, rfl⟩ := Kd.R_slice ho; rw [List.length_append] at ho; have HO4 := Aside0.mk ho; have HB4 := Aside0.mk hb4; have HS4 := Aside0.mk hg4; have HX4 := Aside0.mk ((hg4.block gb (blk_lt BX.out) (fun e => ge4.out (own4.out gb e.symm))).trans BX.out); have HG4 := Aside0.mk ((hg4.block g (blk_lt HG1.out) (fun e => HNE.out (own4.out g e.symm).symm)).trans HG1.out); clear ho hb4 hg4 hat4; have dx0 := blk_cell HX4.out 0; have dg0 := blk_cell HG4.out 0; have df0 := blk_frozen HG4.out 0; simp only [List.getElem?_toArray, List.getElem?_cons_zero, List.getElem?_cons_succ] at dx0 dg0)) | fail
    all_goals
      go_wp2
      go_meet
      case rel =>
        obtain ⟨bb1, hb1, hb2, hb3⟩ := R_pin HO4.out (bb0 := bb) (.inl rfl) (Nat.lt_of_lt_of_le HLT.out (Nat.le_trans HBW.out.size HS4.out.size))
        have hne : bb1 ≠ g := by rcases hb1 with h | h; exact h ▸ HNE.out; have := blk_lt HG1.out; omega
        refine ⟨bb1, ⟨?_⟩, ⟨Kd.R_far hb3 (fun k hk e => hne (hk ▸ e)) _⟩, ⟨hne, by simpa using hb2, ?_⟩, ⟨(blk_far HX4.out gg4.out _)⟩, ⟨HB4.out.setCell HGG.out _⟩, ⟨?_, ?_⟩⟩
        · have z := blk_set HG4.out 0 (.slice A4 (bs.length + ch.length) c4)
          simpa using z
        · rcases hb1 with h | h
          · exact .inl h
          · exact .inr (Nat.le_trans HBW.out.size h)
        · simpa using Nat.le_trans HBW.out.size HS4.out.size
        · intro i hi hn
          refine (Below.heap_setCell w4 ⟨g, 0, none⟩ _ i (fun e => hn (.inl e))).trans ?_
          refine (HS4.out.block i (Nat.lt_of_lt_of_le hi HBW.out.size) (fun e => hn (.inr (own4.out i e.symm)))).trans ?_
          exact HBW.out.block i hi
  obtain ⟨bb1, HG5, HR5, HN5, HX5, HB5, HK5⟩ := hcut
  obtain ⟨wb, hw_⟩ : ∃ x, x = wc := ⟨_, rfl⟩
  subst hw_
  clear O4 C4 B4 own4 ge4 HB HC HCC BX HBW HG1 cx0 cg2 cg0 cf0 HR HG
  have GX := Aside0.mk (blk_lt HX5.out)
  have HWB := Aside0.mk HK5.out.1
  obtain ⟨P, hP⟩ : ∃ P, P = parcelsF lim (bs ++ ch).length (bs ++ ch) [] := ⟨_, rfl⟩
  have HP := Aside0.mk hP
  have hE : feedE lim (bs ++ ch) = verdictF lim P.2 := by rw [hP]; rfl
  have hLs : feedL lim (bs ++ ch) = P.1 := by rw [hP]; rfl
  have hBs : feedB lim (bs ++ ch) = if verdictF lim P.2 = 0 then P.2 else [] := by rw [hP]; rfl
  have HE := Aside0.mk hE
  have HLS := Aside0.mk hLs
  have HBX := Aside0.mk hBs
  have HPR := Aside0.mk (show ∀ b ∈ P.2, 0 ≤ b ∧ b < 256 by rw [hP]; exact parcelsF_range _ _ _ HBS.out)
  have HPL := Aside0.mk (show P.2.length ≤ 140737488355328 by have h1 := parcelsF_len (lim := lim) (bs ++ ch).length (bs ++ ch) []; rw [← hP] at h1; exact Nat.le_trans h1 HL.out)
  clear hP hE hLs hBs
  have cx5 := blk_cell HX5.out 0
  simp only [List.getElem?_toArray, List.getElem?_cons_zero] at cx5
  go_upto_region 6 with (first | (go_at_call 25; (with_reducible refine (Framer_parcels.calls w0 _ g bb1 lim 0 (bs ++ ch) (FrO_S HG5.out HR5.out HN5.out.1 HN5.out.2.1) HBS.out HB5.out HGG.out HCN2.out (by have := HL.out; omega)).mono ?_); rintro e w6 ⟨v6, rfl, ho6, hf6, hb6, hk6⟩; rw [← HP.out] at ho6 hf6; have HO6 := Aside0.mk ho6; have HF6 := Aside0.mk hf6; have HB6 := Aside0.mk hb6; have HX6 := Aside0.mk ((hk6.2 gb (blk_lt HX5.out) gg4.out).trans HX5.out); have HK6 := Aside0.mk (show Kept w w6 (fun k => k = g ∨ k = bb) from ⟨Nat.le_trans HK5.out.1 hk6.1, fun i hi hn => (hk6.2 i (Nat.lt_of_lt_of_le hi HK5.out.1) (fun e => hn (.inl e))).trans (HK5.out.2 i hi hn)⟩); have HS6 := Aside0.mk (show wb.heap.size ≤ w6.heap.size from hk6.1); clear ho6 hf6 hb6 hk6))
  have cx6 := blk_cell HX6.out 0
  simp only [List.getElem?_toArray, List.getElem?_cons_zero] at cx6
  have HV := Aside0.mk (Framer_verdict.calls w6.drew g bb1 lim 0 P.2 (HF6.out.keep rfl rfl (Nat.le_refl _)) HPR.out)
  obtain ⟨E, hEE⟩ : ∃ E, E = verdictF lim P.2 := ⟨_, rfl⟩
  rw [← hEE] at HV
  rw [← hEE] at HE HBX
  obtain ⟨A6, c6, hb6, hq6⟩ := HF6.out
  have cr6 := blk_cell hb6 2
  have fr6 := blk_frozen hb6 2
  simp only [List.getElem?_toArray, List.getElem?_cons_zero, List.getElem?_cons_succ] at cr6
  clear hb6 hq6 hEE
  go_cut [32] from 30 to 34 (fun v wd => Aside0 (FrS wd g bb1 P.2 lim E) ∧ Aside0 (Kd.R k23 23 wd w0.heap.size (fun k => k ≠ bb1 ∧ k ≠ g ∧ wb.heap.size ≤ k) v6 P.1) ∧ Aside0 (wd.heap[gb]? = some (.cells #[.pointer (some ⟨g, 0, none⟩)] 38 (0, 0))) ∧ Aside0 (Below w0.heap.size w0 wd) ∧ Aside0 (Kept w wd (fun k => k = g ∨ k = bb)))
  case first => as_aux_lemma =>
    first | go_region_law (first | (go_simp; go_at_call 27; (with_reducible refine HV.out.mono ?_); rintro e w7 ⟨rfl, ⟨m7, rfl⟩⟩)) | fail
    all_goals
      go_wp2
      go_meet
      case rel =>
        have HB := HB6
        exact ⟨⟨(FrS.setRef HF6.out E).keep rfl rfl (Nat.le_refl _)⟩, ⟨Kd.R_move (Kd.R_far HO6.out (p := ⟨g, 2, none⟩) (fun k hk => hk.2.1) (.int .i64 E)) (fun _ _ => rfl)⟩, ⟨blk_far HX6.out gg4.out _⟩, ⟨(by repeat (first | (with_reducible first | exact HB.out | apply below_alloc | apply pw_below_drewN | apply below_drew1 | refine below_set ?_ HGG.out) | exact HB.out))⟩, ⟨by simpa using HK6.out.1, fun i hi hn => (Below.heap_setCell w6 ⟨g, 2, none⟩ _ i (fun e => hn (.inl e))).trans (HK6.out.2 i hi hn)⟩⟩
  obtain ⟨HF7, HO7, HX7, HB7, HK7⟩ := hcut
  obtain ⟨wd, hw_⟩ : ∃ x, x = wc := ⟨_, rfl⟩
  subst hw_
  have HWD := Aside0.mk HK7.out.1
  obtain ⟨A7, c7, hb7, hC7, hc7, hA7, hbb7, hne7⟩ := HF7.out
  have HG7 := Aside0.mk hb7
  have cx7 := blk_cell HX7.out 0
  have cg7 := blk_cell HG7.out 0
  simp only [List.getElem?_toArray, List.getElem?_cons_zero] at cx7 cg7
  have C7 := Aside0.mk (Kd.C_drew hC7)
  have B7 := Aside0.mk (below_drew HB7.out)
  have N7 := Aside0.mk (Kd.R_nil (Kd.int .u8) 5 wd.drew w0.heap.size (fun k => k = gb ∨ wd.heap.size ≤ k))
  clear hb7 hC7 hc7 hA7 hbb7 hne7 cx6 cr6 fr6 HF6 HO6 HX6 HB6 HK6 HV HG5 HR5 HX5 HB5 HK5 cx5
  go_upto_region 7 with (fail)
  go_cut [41] from 35 to 44 (fun v8 we => ∃ bb8, Aside0 (we.heap[g]? = some (.cells #[v8, .int .i64 lim, .int .i64 E] 62 (0, 0))) ∧ Aside0 (Kd.R (Kd.int .u8) 5 we w0.heap.size (fun k => k = bb8) v8 P.2) ∧ Aside0 (bb8 ≠ g ∧ bb8 < we.heap.size ∧ (bb8 = gb ∨ wd.heap.size ≤ bb8)) ∧ Aside0 (we.heap[gb]? = some (.cells #[.pointer (some ⟨g, 0, none⟩)] 38 (0, 0))) ∧ Aside0 (Below w0.heap.size w0 we) ∧ Aside0 (Kept w we (fun k => k = g ∨ k = bb)) ∧ Aside0 (Kd.R k23 23 we w0.heap.size (fun k => (k ≠ bb1 ∧ k ≠ g ∧ wb.heap.size ≤ k) ∧ k < wd.heap.size) v6 P.1))
  case first => as_aux_lemma =>
    first | go_region_law (first | (refine Kd.R_append_rows_step (Kd.int .u8) (w0 := w0) (W := wd.drew) w0.heap.size (by simp [Region.wanted]) (.const (.slice none 0 0)) (.tmp 40) 45 5 (.int .u8 0) 1 rfl Try.underlying45 info5 rfl (by decide) (by decide) (.slice none 0 0) [] P.2 A7 P.2.length c7 (fun k => k = gb ∨ wd.heap.size ≤ k) (fun _ => False) rfl rfl N7.out C7.out (fun _ _ h => h) (fun _ h => h.elim) (fun k hk => .inr hk) B7.out B7.out.size (by have := HPL.out; simp; omega) ?_; intro v8 w8 ho hb8 hg8 hat8; obtain ⟨A8, c8, rfl⟩ := Kd.R_slice ho; rw [List.nil_append] at ho; have HO8 := Aside0.mk ho; have HB8 := Aside0.mk hb8; have HS8 := Aside0.mk hg8; have HX8 := Aside0.mk ((hg8.block gb (blk_lt HX7.out) (by simp [Value.ownBlock])).trans HX7.out); have HG8 := Aside0.mk ((hg8.block g (blk_lt HG7.out) (by simp [Value.ownBlock])).trans HG7.out); clear ho hb8 hg8 hat8; have dx0 := blk_cell HX8.out 0; have dg0 := blk_cell HG8.out 0; have df0 := blk_frozen HG8.out 0; simp only [List.getElem?_toArray, List.getElem?_cons_zero, List.getElem?_cons_succ] at dx0 dg0; rw [List.nil_append])) | fail
    all_goals
      go_wp2
      go_meet
      case rel =>
        obtain ⟨bb8, hb1, hb2, hb3⟩ := R_pin HO8.out (bb0 := gb) (.inl rfl) (blk_lt HX8.out)
        have hne : bb8 ≠ g := by rcases hb1 with h | h; exact h ▸ gg4.out; have := blk_lt HG7.out; omega
        refine ⟨bb8, ⟨?_⟩, ⟨Kd.R_far hb3 (fun k hk e => hne (hk ▸ e)) _⟩, ⟨hne, by simpa using hb2, hb1⟩, ⟨(blk_far HX8.out gg4.out _)⟩, ⟨HB8.out.setCell HGG.out _⟩, ⟨?_, ?_⟩, ⟨?_⟩⟩
        · have z := blk_set HG8.out 0 (.slice A8 P.2.length c8)
          simpa using z
        · simpa using Nat.le_trans HK7.out.1 HS8.out.size
        · intro i hi hn
          refine (Below.heap_setCell w8 ⟨g, 0, none⟩ _ i (fun e => hn (.inl e))).trans ?_
          refine (HS8.out.block i (Nat.lt_of_lt_of_le hi HK7.out.1) (by simp [Value.ownBlock])).trans ?_
          exact HK7.out.2 i hi hn
        · have r1 := Kd.R_mono (Kd.R_bound HO7.out) (ok' := fun k => (k ≠ bb1 ∧ k ≠ g ∧ wb.heap.size ≤ k) ∧ k < wd.heap.size) (fun k hk => ⟨hk.1, hk.2.2.1⟩)
          exact Kd.R_far (Kd.R_grown (Kd.R_drew r1) HS8.out (fun k _ => by simp [Value.ownBlock])) (fun k hk => hk.1.2.1) _
  obtain ⟨bb8, HG9, HR9, HN9, HX9, HB9, HK9, HO9⟩ := hcut
  have cx9 := blk_cell HX9.out 0
  have cg9 := blk_cell HG9.out 2
  simp only [List.getElem?_toArray, List.getElem?_cons_zero, List.getElem?_cons_succ] at cx9 cg9
  clear cx7 cg7 C7 B7 N7 HG7 HF7 HO7 HX7 HB7 HK7
  go_wp2
  repeat (go_quiet (fail); try go_wp2)
  rw [HE.out, HLS.out]
  have o9 : Kd.R k23 23 (wc.drewN nq) w0.heap.size (fun k => w.heap.size ≤ k ∧ k ≠ bb8 ∧ k ≠ g ∧ k ≠ gb) v6 P.1 := Kd.R_mono (Kd.R_drewN HO9.out nq) (fun k hk => by
    have h1 := hk.1.2.2
    have h2 := hk.2
    have h3 := HN9.out.2.2
    have h4 := GX.out
    have h5 := HWB.out
    exact ⟨by omega, by rcases h3 with h | h <;> omega, hk.1.2.1, by omega⟩)
  have f9 : FrO (wc.drewN nq) w0.heap.size g bb8 P.2 lim E := ⟨_, HG9.out, Kd.R_drewN HR9.out nq, HN9.out.1, HN9.out.2.1⟩
  have hgb : w.heap.size ≤ gb := Nat.le_of_eq GB.out.symm
  have hbb8 : w.heap.size ≤ bb8 := by have h1 := HWD.out; rcases HN9.out.2.2 with h | h <;> omega
  by_cases hE0 : E = 0
  · exact feed_zero hE0 HBX.out HX9.out f9 o9 (.inr hbb8) (pw_below_drewN HB9.out nq) HK9.out rfl rfl
  · exact feed_some hE0 HBX.out HX9.out f9 o9 hgb gg4.out HGG.out (pw_below_drewN HB9.out nq) HK9.out rfl rfl

/-- How many bytes are held. -/
theorem Framer_Held.calls (w : World) (base g bb : Nat) (bs : List Int) (lim ref : Int) (hF : FrO w base g bb bs lim ref) :
    Calls Try.prog 19 #[.pointer (some ⟨g, 0, none⟩)] w fun e w' => e = .returned (.int .i64 bs.length) ∧ Drawn0 w w' := by
  obtain ⟨v, hG, hR, _⟩ := hF
  obtain ⟨A, c, rfl⟩ := Kd.R_slice hR
  have HS := Aside0.mk (held_size.calls w g A bs.length c (blk_cell hG 0))
  clear hG hR
  go_enter Try.func19, Try.ntmps19
  go_wp2_with (first | (go_at_call 26; (with_reducible refine HS.out.mono ?_); rintro e w' ⟨rfl, rfl⟩))
  go_ret
  exact ⟨rfl, by repeat (first | exact Drawn0.refl _ | apply Drawn0.step)⟩
/-- How many more are wanted at least. -/
def needF (ref : Int) (bs : List Int) : Int := if ref ≠ 0 then 0 else if bs.length < 4 then 6 - (bs.length : Int) else numL (bs.take 4) - bs.length
theorem Framer_Need.calls (w : World) (base g bb : Nat) (bs : List Int) (lim ref : Int) (hF : FrO w base g bb bs lim ref) (hb : ∀ b ∈ bs, 0 ≤ b ∧ b < 256) (hl : bs.length ≤ 140737488355328) :
    Calls Try.prog 21 #[.pointer (some ⟨g, 0, none⟩)] w fun e w' => e = .returned (.int .i64 (needF ref bs)) ∧ Drawn0 w w' := by
  obtain ⟨v, hG, hR, _⟩ := hF
  obtain ⟨A, c, rfl⟩ := Kd.R_slice hR
  have HS := Aside0.mk (held_size.calls w g A bs.length c (blk_cell hG 0))
  have hN4 := number04 w g A c bs (blk_cell hG 0) (Kd.R_reads' hR).2.1 (Kd.R_reads' hR).2.2 hb
  have hbound := fun (h : 4 ≤ bs.length) => numL_bound 4 (bs.take 4) (by rw [List.length_take]; omega) (fun b hx => hb b (List.mem_of_mem_take hx))
  have HN4 := Aside0.mk hN4
  have HN4d := Aside0.mk (number04 w.drew g A c bs (blk_cell hG 0) (Kd.R_reads' hR).2.1 (Kd.C_drew (Kd.R_reads' hR).2.2) hb)
  have HCELL := Aside0.mk (show w.drew.cell? ⟨g, 0, none⟩ = some (.slice A bs.length c) from blk_cell hG 0)
  have cr := blk_cell hG 2
  simp only [List.getElem?_toArray, List.getElem?_cons_zero, List.getElem?_cons_succ] at cr
  clear hG hR hN4 hb
  unfold needF
  by_cases c1 : ref = 0
  · rw [if_neg (by simpa using c1)]
    subst c1
    by_cases c2 : bs.length < 4
    · rw [if_pos c2]
      have hw : wrap64 (6 - (bs.length : Int)) = 6 - (bs.length : Int) := by unfold wrap64; omega
      go_enter Try.func21, Try.ntmps21
      go_wp2_with (first | (go_at_call 26; (with_reducible refine HS.out.mono ?_); rintro e w' ⟨rfl, rfl⟩))
      go_ret
      exact ⟨by simp [hw], by repeat (first | exact Drawn0.refl _ | apply Drawn0.step)⟩
    · rw [if_neg c2]
      have hb4 := hbound (by omega)
      have N4 := Aside0.mk (HN4.out (by omega))
      have p4 : (256 : Int) ^ 4 = 4294967296 := by decide
      rw [p4] at hb4
      have hw : wrap64 (numL (bs.take 4) - (bs.length : Int)) = numL (bs.take 4) - (bs.length : Int) := by unfold wrap64; omega
      have HSd := Aside0.mk (held_size.calls w.drew g A bs.length c HCELL.out)
      have N4d := Aside0.mk (HN4d.out (by omega))
      clear hbound HN4 HN4d p4 hb4 N4
      go_enter Try.func21, Try.ntmps21
      go_upto_region 5 with (first | (go_at_call 26; (with_reducible refine HS.out.mono ?_); rintro e w' ⟨rfl, rfl⟩))
      first | go_region_law (first | (go_simp; go_at_call 32; (with_reducible refine N4d.out.mono ?_); rintro e w' ⟨rfl, rfl⟩) | (go_simp; go_at_call 26; (with_reducible refine HSd.out.mono ?_); rintro e w' ⟨rfl, rfl⟩)) | fail
      all_goals
        go_wp2
        go_ret
        exact ⟨by first | (simp only [i64_w, hw]; rfl) | (simp [hw]; done), by repeat (first | exact Drawn0.refl _ | apply Drawn0.step)⟩
  · rw [if_pos c1]
    have hb1 : (ref != 0) = true := bne_iff_ne.mpr c1
    have hb2 : (ref == 0) = false := beq_eq_false_iff_ne.mpr c1
    clear c1 hbound HN4
    go_enter Try.func21, Try.ntmps21
    go_wp2_with (first | (go_at_call 26; (with_reducible refine HS.out.mono ?_); rintro e w' ⟨rfl, rfl⟩))
    go_ret
    exact ⟨rfl, by repeat (first | exact Drawn0.refl _ | apply Drawn0.step)⟩

end Go.Proofs.Ytkchnocliilapaa.Q
