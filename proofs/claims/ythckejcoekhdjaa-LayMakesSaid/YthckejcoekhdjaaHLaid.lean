/- The contract of lay.laid (layer 7), by hand: it tells whether rooms, offsets and a length are a laid block. -/

import Derived.Test.YthckejcoekhdjaaQx0
import Derived.Test.YthckejcoekhdjaaHRow
import Derived.StillTailTactics
namespace Go.Proofs.Ythckejcoekhdjaa.Q
open Go.RowKit Go.Proofs.YthckejcoekhdjaaW.PrintWords Go.Proofs.YthckejcoekhdjaaW.PrintLast Go.Proofs.YthckejcoekhdjaaW.PrintMore
attribute [local go_sem] max2_int min2_int max_two min_two max_three min_three max_four min_four   -- for this text's walks alone
set_option linter.unusedVariables false
set_option linter.unusedSimpArgs false

/-- The end of rooms that lie where the offsets say, from e on; none: one is refused. -/
def laidF : List S39 → List Int → Int → Option Int
  | [], _, e => some e
  | _ :: _, [], _ => none
  | x :: xs, o :: os, e => if o < 0 then none else if layErr e ⟨x.f0, o⟩ = 0 then laidF xs os (o + x.f0) else none
def lay_laid.f (l0 : List S39) (l1 : List Int) (a2 : Int) : Option Bool :=
  if l0.length < 8796093022208 then some (l0.length == l1.length && match laidF l0 l1 0 with | some e => decide (e ≤ a2) && decide (a2 ≤ 65535) | none => false) else none

theorem laidF_round {l0 : List S39} {l1 : List Int} {i : Nat} (hlt : i < l0.length) (hlt1 : i < l1.length) (e : Int) :
    laidF (l0.drop i) (l1.drop i) e = if rd l1 i < 0 then none else if layErr e ⟨(rd_T39 l0 i).f0, rd l1 i⟩ = 0 then laidF (l0.drop (i + 1)) (l1.drop (i + 1)) (rd l1 i + (rd_T39 l0 i).f0) else none := by
  rw [List.drop_eq_getElem_cons hlt, List.drop_eq_getElem_cons hlt1, laidF]
  simp [rd, rd_T39, List.getD_eq_getElem?_getD, List.getElem?_eq_getElem hlt, List.getElem?_eq_getElem hlt1]

set_option maxHeartbeats 4000000 in
set_option maxRecDepth 100000 in
theorem lay_laid.calls (A0 : Option Addr) (c0 : Nat) (l0 : List S39) (A1 : Option Addr) (c1 : Nat) (l1 : List Int) (a2 : Int) (r : Bool) (w : World) (hr0 : Kd.C k39 w A0 l0.length l0) (hc0 : l0.length ≤ c0)
    (hr1 : Kd.C (Kd.int .i64) w A1 l1.length l1) (hc1 : l1.length ≤ c1) (h : lay_laid.f l0 l1 a2 = some r) :
    Calls Try.prog 31 #[.slice A0 l0.length c0, .slice A1 l1.length c1, .int .i64 a2] w fun e w' => e = .returned (.bool r) ∧ Below w.heap.size w w' := by
  have HR0 := Aside0.mk hr0
  have HR1 := Aside0.mk hr1
  clear hr0 hr1
  have hu39 := Try.underlying39
  have hu54 := Try.underlying54
  unfold lay_laid.f at h
  by_cases hbig : l0.length < 8796093022208
  case neg => rw [if_neg hbig] at h; cases h
  rw [if_pos hbig] at h
  injection h with h
  by_cases c3 : l0.length = l1.length
  case neg =>
    have c3b0 : ((l0.length : Int) == (l1.length : Int)) = false := beq_eq_false_iff_ne.mpr (by omega)
    have c3b1 : ((l0.length : Int) != (l1.length : Int)) = true := bne_iff_ne.mpr (by omega)
    have c3b2 : (l0.length == l1.length) = false := by simpa using c3
    rw [c3b2, Bool.false_and] at h
    clear c3
    subst h
    go_enter Try.func31, Try.ntmps31
    go_wp2
    go_ret
    exact ⟨rfl, Below.refl _ _⟩
  have c3b2 : (l0.length == l1.length) = true := by simpa using c3
  rw [c3b2, Bool.true_and] at h
  have c3b0 : ((l0.length : Int) == (l1.length : Int)) = true := beq_iff_eq.mpr (by omega)
  have c3b1 : ((l0.length : Int) != (l1.length : Int)) = false := bne_eq_false_iff_eq.mpr (by omega)
  have C3 := Aside0.mk c3
  clear c3
  obtain ⟨R0, hR0⟩ : ∃ z, z = laidF l0 l1 0 := ⟨_, rfl⟩
  rw [← hR0] at h
  have HR := Aside0.mk h
  have HR00 := Aside0.mk hR0
  clear h hR0
  go_enter Try.func31, Try.ntmps31
  go_wp2_with (first | ((with_reducible refine gate_dst (N := 16) rfl ?_); refine box_event ?hg (N := 16) ?hd (cs := #[.slice none 0 0, .int .i64 0]) (t := 54) ?hr ?_; (case hd => rfl); (case hg => rfl); (case hr => first | (go_simp; done) | (go_simp; rfl)); intro g hgx w2 hbox hbw; have HROW := Aside0.mk (show RowS w w2 g [] 0 from ⟨none, 0, hbox, Kd.R_nil _ _ _ _ _⟩); have HB := Aside0.mk hbw; have HG := Aside0.mk (Nat.le_of_eq hgx.symm); clear hgx hbox hbw))
  go_loopw [19] (fun v wr => ∃ (i : Nat) (l : List Int) (e : Int), v = .int .i64 i ∧ i ≤ l0.length ∧ 0 ≤ e ∧ e ≤ 65535 ∧ Aside0 (l.length = i) ∧ Aside0 (laidF (l0.drop i) (l1.drop i) e = R0) ∧ Aside0 (RowS w wr g l e) ∧ Aside0 (Below w.heap.size w wr)) (fun v _ => l0.length - (intOf v).toNat)
  case atStart => exact ⟨0, [], 0, rfl, Nat.zero_le _, by omega, by omega, ⟨rfl⟩, ⟨HR00.out.symm⟩, HROW, HB⟩
  case round =>
    clear HROW HB
    obtain ⟨i, l, e, rfl, hi, he0, he1, HL, HF, HROW, HB⟩ := hrel
    by_cases hlt : i < l0.length
    · have hlt1 : i < l1.length := C3.out ▸ hlt
      obtain ⟨ad, e110, hx0, hx1⟩ := at_T39 (Kd.C_below HR0.out HB.out) (i : Int) (by omega) (by omega)
      obtain ⟨ad1, e111, hy0⟩ := Kd.at_int (Kd.C_below HR1.out HB.out) (i : Int) (by omega) (by omega)
      cases e110
      cases e111
      rw [Int.toNat_natCast] at hx0 hx1 hy0
      have hround := laidF_round (l0 := l0) (l1 := l1) hlt hlt1 e
      rw [HF.out] at hround
      generalize rd_T39 l0 ↑i = x at *
      generalize rd l1 ↑i = o at *
      have HRND := Aside0.mk hround
      clear hround
      have p1 : (0 : Int) ≤ (i : Int) := by omega
      have p2 : (i : Int) < (l1.length : Int) := by omega
      go_wp2
      have hw3 : Below wr.heap.size wr (wr.alloc (Obj.cells #[Value.int IntKind.i64 x.f0, Value.int IntKind.i64 x.f1] 39)) := (Below.refl _ _).alloc (Nat.le_refl _) _
      have hx3 : (wr.alloc (Obj.cells #[Value.int IntKind.i64 x.f0, Value.int IntKind.i64 x.f1] 39)).cell? ⟨wr.heap.size, 0, none⟩ = some (.int .i64 x.f0) := blk_cell (heap_alloc_new wr _) 0
      have hy3 : (wr.alloc (Obj.cells #[Value.int IntKind.i64 x.f0, Value.int IntKind.i64 x.f1] 39)).cell? (ad1.add i) = some (.int .i64 o) := pw_cell_below hw3 hy0
      generalize wr.alloc (Obj.cells #[Value.int IntKind.i64 x.f0, Value.int IntKind.i64 x.f1] 39) = w3 at *
      have HB3 := Aside0.mk (below_step HB.out hw3)
      have HROW3 := Aside0.mk (RowS.below HROW.out hw3)
      generalize wr.heap.size = gx at *
      clear hw3 hx0 hx1 hy0 HB HROW
      by_cases co : o < 0
      · have hR := HR.out
        rw [← (show none = R0 by have := HRND.out; rwa [if_pos co, eq_comm] at this)] at hR
        have HR' := Aside0.mk hR
        clear hR
        have cd : decide (o < 0) = true := decide_eq_true co
        go_quiet (fail)
        go_wp2
        go_ret
        exact ⟨by rw [← HR'.out]; rfl, pw_below_drewN HB3.out _⟩
      · have hrnd := HRND.out
        rw [if_neg co] at hrnd
        have cd : decide (o < 0) = false := decide_eq_false co
        by_cases ce : layErr e ⟨x.f0, o⟩ = 0
        · rw [if_pos ce] at hrnd
          have HF' := Aside0.mk hrnd.symm
          have HCE := Aside0.mk ce
          clear hrnd ce
          go_still_tail 14, (by kernel_rfl)
          change wpList _ _ _ _ _ w3.drew
          have HB5 := Aside0.mk (below_drew HB3.out)
          have HROW5 : Aside0 (RowS w w3.drew g l e) := ⟨HROW3.out⟩
          generalize w3.drew = w5 at *
          go_wp2_with (go_at_call 29; refine (row_lay.ok w _ g l e x.f0 o HROW5.out HB5.out HG.out (by have := HL.out; omega) he0 he1 HCE.out).mono ?_; rintro _ w4 ⟨rfl, hb4, hrow4⟩)
          go_roundw
          case rel =>
            have hat : layAt e ⟨x.f0, o⟩ = o := if_neg (show ¬ o = -1 by omega)
            rw [hat] at hrow4
            obtain ⟨z0, z1, z2, z3, z4⟩ := layErr_zero HCE.out
            rw [hat] at z3 z4
            exact ⟨i + 1, l ++ [o], o + x.f0, by go_num, by omega, by omega, by omega, ⟨by simp [HL.out]⟩, HF', ⟨hrow4⟩, ⟨hb4⟩⟩
          case measure => simp [intOf]; omega
        · rw [if_neg ce] at hrnd
          have hR := HR.out
          rw [hrnd] at hR
          have HR' := Aside0.mk hR
          have HCE := Aside0.mk ce
          clear hrnd ce hR
          go_still_tail 14, (by kernel_rfl)
          change wpList _ _ _ _ _ w3.drew
          have HB5 := Aside0.mk (below_drew HB3.out)
          have HROW5 : Aside0 (RowS w w3.drew g l e) := ⟨HROW3.out⟩
          have hne : (layErr e ⟨x.f0, o⟩ != 0) = true := bne_iff_ne.mpr HCE.out
          generalize w3.drew = w5 at *
          go_wp2_with (go_at_call 29; refine (row_lay.bad w _ g l e ⟨x.f0, o⟩ HROW5.out he0 he1 HCE.out).mono ?_; rintro _ w4 ⟨rfl, hb4⟩)
          go_ret
          exact ⟨by rw [← HR'.out]; rfl, below_step HB5.out hb4⟩
    · have hii : i = l0.length := by omega
      obtain ⟨A, c, hblk, _⟩ := HROW.out
      have hc1 : wr.cell? ⟨g, 1, none⟩ = some (.int .i64 e) := blk_cell hblk 1
      have hf := HF.out
      rw [hii, List.drop_length] at hf
      have hr := HR.out
      rw [← hf] at hr
      simp only [laidF] at hr
      have HR' := Aside0.mk hr
      clear hf hblk hii hr
      by_cases c9 : e ≤ a2
      · go_wp2
        go_ret
        exact ⟨by rw [← HR'.out]; first | (simp [c9]; done) | (simp; omega), HB.out⟩
      · go_wp2
        go_ret
        exact ⟨by rw [← HR'.out]; first | (simp [c9]; done) | (simp; omega), HB.out⟩

end Go.Proofs.Ythckejcoekhdjaa.Q
