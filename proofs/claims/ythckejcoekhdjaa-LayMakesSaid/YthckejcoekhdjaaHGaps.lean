/- The contract of lay.Gaps (layer 7), by hand: the rooms of a laid block that nothing lies in. -/

import Derived.Test.YthckejcoekhdjaaQx0
import Derived.Test.YthckejcoekhdjaaHLaid
import Derived.StillTailTactics
namespace Go.Proofs.Ythckejcoekhdjaa.Q
open Go.RowKit Go.Proofs.YthckejcoekhdjaaW.PrintWords Go.Proofs.YthckejcoekhdjaaW.PrintLast Go.Proofs.YthckejcoekhdjaaW.PrintMore
attribute [local go_sem] max2_int min2_int max_two min_two max_three min_three max_four min_four   -- for this text's walks alone
set_option linter.unusedVariables false
set_option linter.unusedSimpArgs false

/-- What lies between e and where the next thing begins, if anything does. -/
def gapPut (acc : List S39) (e tt : Int) : List S39 := if e < tt then acc ++ [⟨tt - e, e⟩] else acc
/-- The gaps ahead of the rooms that take bytes, and where the last one of these ends. -/
def gapsF : List S39 → List Int → List S39 → Int → List S39 × Int
  | [], _, acc, e => (acc, e)
  | _ :: _, [], acc, e => (acc, e)
  | x :: xs, o :: os, acc, e => if 0 < x.f0 then gapsF xs os (gapPut acc e o) (o + x.f0) else gapsF xs os acc e
def lay_Gaps.f (l0 : List S39) (l1 : List Int) (a2 : Int) : Option (List S39 × Int) :=
  (lay_laid.f l0 l1 a2).bind fun b => if b = true then some (gapPut (gapsF l0 l1 [] 0).1 (gapsF l0 l1 [] 0).2 a2, 0) else some ([], 73)

theorem gapsF_round {l0 : List S39} {l1 : List Int} {i : Nat} (hlt : i < l0.length) (hlt1 : i < l1.length) (acc : List S39) (e : Int) :
    gapsF (l0.drop i) (l1.drop i) acc e = if 0 < (rd_T39 l0 i).f0 then gapsF (l0.drop (i + 1)) (l1.drop (i + 1)) (gapPut acc e (rd l1 i)) (rd l1 i + (rd_T39 l0 i).f0) else gapsF (l0.drop (i + 1)) (l1.drop (i + 1)) acc e := by
  rw [List.drop_eq_getElem_cons hlt, List.drop_eq_getElem_cons hlt1, gapsF]
  simp [rd, rd_T39, List.getD_eq_getElem?_getD, List.getElem?_eq_getElem hlt, List.getElem?_eq_getElem hlt1]

/-- The closure's two variables. -/
def GapS (w0 w : World) (ge gg : Nat) (l : List S39) (e : Int) : Prop :=
  w.heap[ge]? = some (.cells #[.int .i64 e] 3 (0, 0)) ∧ ∃ A c, w.heap[gg]? = some (.cells #[.slice A l.length c] 22 (0, 0)) ∧ Kd.R k39 39 w w0.heap.size (fun k => k ≠ ge ∧ k ≠ gg) (.slice A l.length c) l
theorem GapS.below {w0 w w1 : World} {ge gg : Nat} {l : List S39} {e : Int} (h : GapS w0 w ge gg l e) (hb : Below w.heap.size w w1) : GapS w0 w1 ge gg l e := by
  obtain ⟨h0, A, c, h1, h2⟩ := h
  exact ⟨(hb.block ge (blk_lt h0)).trans h0, A, c, (hb.block gg (blk_lt h1)).trans h1, Kd.R_below h2 hb⟩

set_option maxHeartbeats 2000000 in
theorem lay_Gaps1.calls (w0 w : World) (ge gg : Nat) (l : List S39) (e tt : Int) (hs : GapS w0 w ge gg l e) (hb : Below w0.heap.size w0 w) (he : w0.heap.size ≤ ge) (hg : w0.heap.size ≤ gg) (hl : l.length < 8796093022208)
    (he0 : 0 ≤ e) (he1 : e ≤ 65535) (ht0 : 0 ≤ tt) (ht1 : tt ≤ 65535) :
    Calls Try.prog 32 #[.int .i64 tt, .pointer (some ⟨ge, 0, none⟩), .pointer (some ⟨gg, 0, none⟩)] w fun r w' => r = .returned (.tuple #[]) ∧ Below w0.heap.size w0 w' ∧ GapS w0 w' ge gg (gapPut l e tt) e ∧ (∀ k, k < w.heap.size → k ≠ gg → (∀ v, w.heap[gg]? = some (.cells #[v] 22 (0, 0)) → some k ≠ v.ownBlock) → w'.heap[k]? = w.heap[k]?) := by
  obtain ⟨h0, A, c, h1, h2⟩ := hs
  have HE := Aside0.mk h0
  have HG := Aside0.mk h1
  have HR := Aside0.mk h2
  have HB := Aside0.mk hb
  have hc0 : w.cell? ⟨ge, 0, none⟩ = some (.int .i64 e) := blk_cell h0 0
  have hc1 : w.cell? ⟨gg, 0, none⟩ = some (.slice A l.length c) := blk_cell h1 0
  have hlt0 := blk_lt h0
  have hlt1 := blk_lt h1
  have hu39 := Try.underlying39
  have hs := Aside0.mk (⟨h0, A, c, h1, h2⟩ : GapS w0 w ge gg l e)
  clear h0 h1 h2 hb
  by_cases ct : e < tt
  · have hp : gapPut l e tt = l ++ [⟨tt - e, e⟩] := if_pos ct
    rw [hp]
    clear hp
    go_enter Try.func32, Try.ntmps32
    go_wp2_with (first | ((with_reducible refine gate_builtin (b := .append) (xs := #[.tmp 7, .tmp 13]) rfl ?_); at_builtin; refine Kd.R_append k39 (w0 := w0) w0.heap.size rfl (.tmp 7) (.tmp 13) 22 39 (.agg #[(.int .i64 0), (.int .i64 0)]) 16 rfl Try.underlying22 info39 rfl (by decide) (by omega) (.slice A l.length c) l ⟨tt - e, e⟩ [.int .i64 (tt - e), .int .i64 e] (fun k => k ≠ ge ∧ k ≠ gg) (fun _ => False) rfl rfl ?aP (fun _ hk => hk.elim) ?aF ?aO ?aB ?aS ?aL ?_; (case aP => exact k39_mkM _ _ _ ⟨tt - e, e⟩); (case aB => exact HB.out); (case aF => exact fun k hk => ⟨fun h_ => absurd hlt0 (Nat.not_lt.2 (h_ ▸ hk)), fun h_ => absurd hlt1 (Nat.not_lt.2 (h_ ▸ hk))⟩); (case aO => exact HR.out); (case aS => exact HB.out.size); (case aL => omega); intro v1 w1 ho hb1 hg1 hat1; obtain ⟨A1, c1, rfl⟩ := Kd.R_slice ho; have BG := Aside0.mk (blk_grown (g := gg) HG.out hg1 (Kd.R_ne HR.out HG.out (by decide))); have BE := Aside0.mk (blk_grown (g := ge) HE.out hg1 (Kd.R_ne HR.out HE.out (by decide))); have HO := Aside0.mk ho; have HB1 := Aside0.mk hb1; have HG1 := Aside0.mk hg1; clear ho hb1 hg1 hat1; have hz0 : w1.cell? ⟨gg, 0, none⟩ = some (.slice A l.length c) := blk_cell BG.out 0; have hf0 := blk_frozen BG.out 0))
    go_end0
    have hne : ge ≠ gg := blk_ne BE.out BG.out (by decide)
    refine ⟨rfl, HB1.out.setCell hg _, ⟨blk_far BE.out hne _, A1, c1, ?_, ?_⟩, fun k hk hkg hkv => (Below.heap_setCell _ _ _ k hkg).trans (HG1.out.block k hk (hkv _ HG.out))⟩
    · have z := blk_set BG.out 0 (.slice A1 (l ++ [(⟨tt - e, e⟩ : S39)]).length c1)
      simpa using z
    · have z := Kd.R_far (p := ⟨gg, 0, none⟩) HO.out (fun k hk => hk.2) (.slice A1 (l ++ [(⟨tt - e, e⟩ : S39)]).length c1)
      simpa using z
  · have hp : gapPut l e tt = l := if_neg ct
    rw [hp]
    clear hp
    go_enter Try.func32, Try.ntmps32
    go_wp2
    go_end0
    exact ⟨rfl, HB.out, hs.out, fun _ _ _ _ => rfl⟩

theorem gapPut_length (l : List S39) (e tt : Int) : (gapPut l e tt).length ≤ l.length + 1 := by
  unfold gapPut
  split <;> simp

set_option maxHeartbeats 4000000 in
set_option maxRecDepth 100000 in
theorem lay_Gaps.calls (A0 : Option Addr) (c0 : Nat) (l0 : List S39) (A1 : Option Addr) (c1 : Nat) (l1 : List Int) (a2 : Int) (r1 : List S39) (r2 : Int) (w : World) (hr0 : Kd.C k39 w A0 l0.length l0) (hc0 : l0.length ≤ c0)
    (hr1 : Kd.C (Kd.int .i64) w A1 l1.length l1) (hc1 : l1.length ≤ c1) (h : lay_Gaps.f l0 l1 a2 = some (r1, r2)) :
    Calls Try.prog 21 #[.slice A0 l0.length c0, .slice A1 l1.length c1, .int .i64 a2] w fun e w' => ∃ v0_ : Value, e = .returned (.tuple #[v0_, .int .i64 r2]) ∧ Kd.R k39 39 w' w.heap.size (fun _ => True) v0_ r1 ∧ Below w.heap.size w w' := by
  have HR0 := Aside0.mk hr0
  have HR1 := Aside0.mk hr1
  have HC0 := Aside0.mk hc0
  have HC1 := Aside0.mk hc1
  clear hr0 hr1 hc0 hc1
  have hu39 := Try.underlying39
  have hmf : ∀ (fn : Fn) (first cap : Array Value) (w : World), (Instr.makeFunc fn first cap).run Try.prog w = .ok (.func fn first cap) w := fun _ _ _ _ => rfl
  unfold lay_Gaps.f at h
  obtain ⟨b, hb, h⟩ := Option.bind_eq_some_iff.1 h
  have HLD := Aside0.mk hb
  have hlaid := hb
  unfold lay_laid.f at hlaid
  by_cases hbig : l0.length < 8796093022208
  case neg => rw [if_neg hbig] at hlaid; cases hlaid
  rw [if_pos hbig] at hlaid
  injection hlaid with hlaid
  cases b with
  | false =>
    rw [if_neg (by simp)] at h
    injection h with h
    injection h with e1 e2
    clear hlaid hb
    subst e1 e2
    go_enter Try.func21, Try.ntmps21
    go_wp2_with (go_at_call 31; refine (lay_laid.calls _ _ l0 _ _ l1 a2 false _ HR0.out HC0.out HR1.out HC1.out HLD.out).mono ?_; rintro _ w1 ⟨rfl, hb1⟩)
    go_ret2
    exact ⟨_, rfl, Kd.R_nil _ _ _ _ _, hb1⟩
  | true =>
    rw [if_pos rfl] at h
    injection h with h
    injection h with e1 e2
    subst e2
    rw [Bool.and_eq_true] at hlaid
    obtain ⟨hl1, hl2⟩ := hlaid
    have c3 : l0.length = l1.length := by simpa using hl1
    obtain ⟨E, hE, hE2, hE3⟩ : ∃ E, laidF l0 l1 0 = some E ∧ E ≤ a2 ∧ a2 ≤ 65535 := by
      cases hq : laidF l0 l1 0 with
      | none => rw [hq] at hl2; cases hl2
      | some E => rw [hq] at hl2; simp at hl2; exact ⟨E, rfl, hl2⟩
    have C3 := Aside0.mk c3
    have HE := Aside0.mk hE
    have HGO := Aside0.mk e1
    clear hl1 hl2 c3 hE e1 hb
    go_enter Try.func21, Try.ntmps21
    go_wp2_with (first | (go_at_call 31; refine (lay_laid.calls _ _ l0 _ _ l1 a2 true _ HR0.out HC0.out HR1.out HC1.out HLD.out).mono ?_; rintro _ w1 ⟨rfl, hb1⟩) | ((with_reducible refine gate_dst (N := 8) rfl ?_); refine box_event ?hg (N := 8) ?hd (cs := #[.slice none 0 0]) (t := 22) ?hr ?_; (case hd => rfl); (case hg => rfl); (case hr => first | (go_simp; done) | (go_simp; rfl)); intro gg hgg w2 hboxg hbw2; have HGG := Aside0.mk (Nat.le_trans hb1.size (Nat.le_of_eq hgg.symm)); have HBG := Aside0.mk hboxg; have HB2 := Aside0.mk (below_step hb1 hbw2); clear hgg hboxg hbw2 hb1) | ((with_reducible refine gate_dst (N := 9) rfl ?_); refine box_event ?hg (N := 9) ?hd (cs := #[.int .i64 0]) (t := 3) ?hr ?_; (case hd => rfl); (case hg => rfl); (case hr => first | (go_simp; done) | (go_simp; rfl)); intro ge hge w3 hboxe hbw3; have hcz : w3.cell? ⟨ge, 0, none⟩ = some (.int .i64 0) := blk_cell hboxe 0; have hfz := blk_frozen hboxe 0; have HGE := Aside0.mk (Nat.le_trans HB2.out.size (Nat.le_of_eq hge.symm)); have HBE := Aside0.mk hboxe; have HBG3 := Aside0.mk ((hbw3.block gg (blk_lt HBG.out)).trans HBG.out); have HB3 := Aside0.mk (below_step HB2.out hbw3); clear hge hboxe hbw3 HBG HB2))
    have hne : ge ≠ gg := blk_ne HBE.out HBG3.out (by decide)
    have HGS : GapS w (w3.setCell ⟨ge, 0, none⟩ (.int .i64 0)) ge gg [] 0 := ⟨by have z := blk_set HBE.out 0 (.int .i64 0); simpa using z, none, 0, blk_far HBG3.out (Ne.symm hne) _, Kd.R_nil _ _ _ _ _⟩
    have HS := Aside0.mk HGS
    have HB4 := Aside0.mk (HB3.out.setCell (p := ⟨ge, 0, none⟩) HGE.out (.int .i64 0))
    clear HGS hcz hfz HBE HBG3 HB3 hne
    generalize w3.setCell ⟨ge, 0, none⟩ (.int .i64 0) = w4 at *
    obtain ⟨G0, hG0⟩ : ∃ z, z = gapsF l0 l1 [] 0 := ⟨_, rfl⟩
    have HG := Aside0.mk hG0.symm
    have hgo := HGO.out
    rw [← hG0] at hgo
    have HGO' := Aside0.mk hgo
    clear hG0 hgo HGO HLD
    go_loopw [21] (fun v wr => ∃ (i : Nat) (l : List S39) (e e' : Int), v = .int .i64 i ∧ i ≤ l0.length ∧ 0 ≤ e ∧ e ≤ 65535 ∧ 0 ≤ e' ∧ e' ≤ 65535 ∧ Aside0 (l.length ≤ i) ∧ Aside0 (laidF (l0.drop i) (l1.drop i) e' = some E) ∧ Aside0 (gapsF (l0.drop i) (l1.drop i) l e = G0) ∧ Aside0 (GapS w wr ge gg l e) ∧ Aside0 (Below w.heap.size w wr)) (fun v _ => l0.length - (intOf v).toNat)
    case atStart => exact ⟨0, [], 0, 0, rfl, Nat.zero_le _, by omega, by omega, by omega, by omega, ⟨Nat.le_refl _⟩, ⟨HE.out⟩, ⟨HG.out⟩, HS, HB4⟩
    case round =>
      clear HS HB4 HE HG
      obtain ⟨i, l, e, e', rfl, hi, he0, he1, hz0, hz1, HL, HF, HG, HS, HB⟩ := hrel
      by_cases hlt : i < l0.length
      · have hlt1 : i < l1.length := C3.out ▸ hlt
        obtain ⟨ad, e110, hx0, hx1⟩ := at_T39 (Kd.C_below HR0.out HB.out) (i : Int) (by omega) (by omega)
        obtain ⟨ad1, e111, hy0⟩ := Kd.at_int (Kd.C_below HR1.out HB.out) (i : Int) (by omega) (by omega)
        cases e110
        cases e111
        rw [Int.toNat_natCast] at hx0 hx1 hy0
        have hl := laidF_round (l0 := l0) (l1 := l1) hlt hlt1 e'
        rw [HF.out] at hl
        have hgr := gapsF_round (l0 := l0) (l1 := l1) hlt hlt1 l e
        rw [HG.out] at hgr
        generalize rd_T39 l0 ↑i = x at *
        generalize hro : rd l1 ↑i = o at *
        have HRO := Aside0.mk hro
        clear hro
        have o0 : 0 ≤ o := by
          by_cases z : o < 0
          · rw [if_pos z] at hl; cases hl
          · omega
        rw [if_neg (show ¬ o < 0 by omega)] at hl
        have hce : layErr e' ⟨x.f0, o⟩ = 0 := by
          by_cases z : layErr e' ⟨x.f0, o⟩ = 0
          · exact z
          · rw [if_neg z] at hl; cases hl
        rw [if_pos hce] at hl
        obtain ⟨x0, _, _, o1, x1⟩ := layErr_zero hce
        rw [show layAt e' ⟨x.f0, o⟩ = o from if_neg (show ¬ o = -1 by omega)] at o1 x1
        have HF' := Aside0.mk hl.symm
        have HGR := Aside0.mk hgr
        clear hl hce hgr
        have p1 : (0 : Int) ≤ (i : Int) := by omega
        have p2 : (i : Int) < (l1.length : Int) := by omega
        by_cases cx : 0 < x.f0
        · have hg2 := HGR.out
          rw [if_pos cx] at hg2
          have HG' := Aside0.mk hg2.symm
          clear hg2 HGR
          have hhp : ∀ u, (wr.alloc (Obj.cells #[Value.int IntKind.i64 x.f0, Value.int IntKind.i64 x.f1] 39)).heap[gg]? = some (.cells #[u] 22 (0, 0)) → some wr.heap.size ≠ u.ownBlock := by
            intro u hu
            obtain ⟨h0, A, c, h1, h2⟩ := HS.out
            rw [(Below.heap_alloc wr _ gg (blk_lt h1)).trans h1] at hu
            injection hu with hu
            injection hu with hu
            have hu' : (Value.slice A l.length c) = u := by simpa using hu
            rw [← hu']
            intro z
            have := Kd.R_lt h2 _ z.symm
            omega
          have HHP := Aside0.mk hhp
          clear hhp
          have hy3 : (wr.alloc (Obj.cells #[Value.int IntKind.i64 x.f0, Value.int IntKind.i64 x.f1] 39)).cell? (ad1.add i) = some (.int .i64 o) := pw_cell_below ((Below.refl _ _).alloc (Nat.le_refl _) _) hy0
          go_wp2_with (go_at_call 32; refine (lay_Gaps1.calls w _ ge gg l e o (GapS.below HS.out ((Below.refl _ _).alloc (Nat.le_refl _) (Obj.cells #[Value.int IntKind.i64 x.f0, Value.int IntKind.i64 x.f1] 39))) (HB.out.alloc HB.out.size _) HGE.out HGG.out (by have := HL.out; omega) he0 he1 o0 o1).mono ?_; rintro _ w5 ⟨rfl, hb5, hs5, hk5⟩)
          have hbx : w5.heap[wr.heap.size]? = some (.cells #[.int .i64 x.f0, .int .i64 x.f1] 39 (0, 0)) := (hk5 wr.heap.size (by simp) (by have := blk_lt HS.out.2.choose_spec.choose_spec.1; omega) HHP.out).trans (heap_alloc_new wr _)
          have hbw5 := Kd.C_below HR1.out hb5
          obtain ⟨ad2, e112, hy5⟩ := Kd.at_int hbw5 (i : Int) (by omega) (by omega)
          cases e112
          rw [Int.toNat_natCast, HRO.out] at hy5
          have hx5 : w5.cell? ⟨wr.heap.size, 0, none⟩ = some (.int .i64 x.f0) := blk_cell hbx 0
          have hcz : w5.cell? ⟨ge, 0, none⟩ = some (.int .i64 e) := blk_cell hs5.1 0
          have hfz := blk_frozen hs5.1 0
          have HS5 := Aside0.mk hs5
          have HB5 := Aside0.mk hb5
          clear hk5 hbx hbw5 hs5 hb5 hx0 hx1 hy0 hy3
          generalize wr.heap.size = gx at *
          go_still_tail 7, (by kernel_rfl)
          change wpList _ _ _ _ _ w5.drew
          have HB6 := Aside0.mk (below_drew HB5.out)
          have HS6 : Aside0 (GapS w w5.drew ge gg (gapPut l e o) e) := ⟨HS5.out⟩
          have hcz6 : w5.drew.cell? ⟨ge, 0, none⟩ = some (.int .i64 e) := hcz
          have hfz6 : w5.drew.frozen? ⟨ge, 0, none⟩ = false := hfz
          generalize w5.drew = w6 at *
          clear hcz hfz hx5 hy5
          go_wp2
          go_roundw
          case rel =>
            obtain ⟨h0, A, c, h1, h2⟩ := HS6.out
            have hne : ge ≠ gg := blk_ne h0 h1 (by decide)
            refine ⟨i + 1, gapPut l e o, o + x.f0, o + x.f0, by go_num, by omega, by omega, by omega, by omega, by omega, ⟨?_⟩, HF', HG', ⟨?_, A, c, blk_far h1 (Ne.symm hne) _, Kd.R_far h2 (fun k hk => hk.1) _⟩, ⟨HB6.out.setCell HGE.out _⟩⟩
            · have := gapPut_length l e o
              have := HL.out
              omega
            · have z := blk_set h0 0 (.int .i64 (o + x.f0))
              simpa using z
          case measure => simp [intOf]; omega
        · have hg2 := HGR.out
          rw [if_neg cx] at hg2
          have HG' := Aside0.mk hg2.symm
          clear hg2 HGR
          go_wp2
          go_roundw
          case rel =>
            exact ⟨i + 1, l, e, o + x.f0, by go_num, by omega, by omega, by omega, by omega, by omega, ⟨by have := HL.out; omega⟩, HF', HG', ⟨GapS.below HS.out ((Below.refl _ _).alloc (Nat.le_refl _) _)⟩, ⟨HB.out.alloc HB.out.size _⟩⟩
          case measure => simp [intOf]; omega
      · have hii : i = l0.length := by omega
        have hf := HF.out
        have hg2 := HG.out
        rw [hii, List.drop_length] at hf hg2
        simp only [laidF, gapsF, Option.some.injEq] at hf hg2
        have hr := HGO'.out
        rw [← hg2] at hr
        have HR' := Aside0.mk hr
        clear hr hg2
        go_wp2_with (go_at_call 32; refine (lay_Gaps1.calls w _ ge gg l e a2 HS.out HB.out HGE.out HGG.out (by have := HL.out; omega) he0 he1 (by omega) hE3).mono ?_; rintro _ w5 ⟨rfl, hb5, ⟨hs0, A5, c5, hs1, hs2⟩, hk5⟩; have hcz : w5.cell? ⟨gg, 0, none⟩ = some (.slice A5 (gapPut l e a2).length c5) := blk_cell hs1 0)
        go_ret2
        exact ⟨_, rfl, by rw [← HR'.out]; exact Kd.R_mono hs2 (fun _ _ => trivial), hb5⟩

end Go.Proofs.Ythckejcoekhdjaa.Q
