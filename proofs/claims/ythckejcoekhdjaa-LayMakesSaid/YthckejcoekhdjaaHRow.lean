/- The contract of row.lay (layer 7), by hand: one more room is laid behind those of a row, or refused with its number. -/
import Derived.Test.YthckejcoekhdjaaQx0
namespace Go.Proofs.Ythckejcoekhdjaa.Q
open Go.RowKit Go.Proofs.YthckejcoekhdjaaW.PrintWords Go.Proofs.YthckejcoekhdjaaW.PrintLast Go.Proofs.YthckejcoekhdjaaW.PrintMore
attribute [local go_sem] max2_int min2_int max_two min_two max_three min_three max_four min_four   -- for this text's walks alone
set_option linter.unusedVariables false
set_option linter.unusedSimpArgs false

-- NEEDS

/-- Where a room comes to lie behind a row that ends at e. -/
def layAt (e : Int) (x : S39) : Int := if x.f1 = -1 then e else x.f1
/-- What refuses a room; 0: nothing. -/
def layErr (e : Int) (x : S39) : Int :=
  if x.f0 < 0 ∨ x.f1 < -1 then 73 else if x.f1 ≠ -1 ∧ x.f1 < e then 70 else if 65535 < layAt e x ∨ 65535 - layAt e x < x.f0 then 72 else 0
/-- A row in memory: its offsets are l, its end is e. -/
def RowS (w0 w : World) (g : Nat) (l : List Int) (e : Int) : Prop :=
  ∃ A c, w.heap[g]? = some (.cells #[.slice A l.length c, .int .i64 e] 54 (0, 0)) ∧ Kd.R (Kd.int .i64) 3 w w0.heap.size (fun k => k ≠ g) (.slice A l.length c) l

theorem RowS.below {w0 w w1 : World} {g : Nat} {l : List Int} {e : Int} (h : RowS w0 w g l e) (hb : Below w.heap.size w w1) : RowS w0 w1 g l e := by
  obtain ⟨A, c, h1, h2⟩ := h
  exact ⟨A, c, (hb.block g (blk_lt h1)).trans h1, Kd.R_below h2 hb⟩

set_option maxHeartbeats 1000000 in
theorem row_lay.bad (w0 w : World) (g : Nat) (l : List Int) (e : Int) (x : S39) (hs : RowS w0 w g l e) (he0 : 0 ≤ e) (he1 : e ≤ 65535) (h : layErr e x ≠ 0) :
    Calls Try.prog 29 #[.pointer (some ⟨g, 0, none⟩), .agg #[.int .i64 x.f0, .int .i64 x.f1]] w fun r w' => r = .returned (.int .i64 (layErr e x)) ∧ Below w.heap.size w w' := by
  obtain ⟨A, c, hblk, hR⟩ := hs
  have hc1 : w.cell? ⟨g, 1, none⟩ = some (.int .i64 e) := blk_cell hblk 1
  have hlt := blk_lt hblk
  have hu39 := Try.underlying39
  clear hblk hR
  rcases x with ⟨s, o⟩
  simp only [layErr, layAt] at h ⊢
  by_cases c1 : s < 0
  · rw [if_pos (.inl c1)]
    clear h
    go_enter Try.func29, Try.ntmps29
    go_wp2
    go_ret
    exact ⟨rfl, (Below.refl _ _).alloc (Nat.le_refl _) _⟩
  · by_cases c2 : o < -1
    · rw [if_pos (.inr c2)]
      clear h
      go_enter Try.func29, Try.ntmps29
      go_wp2
      go_ret
      exact ⟨rfl, (Below.refl _ _).alloc (Nat.le_refl _) _⟩
    · rw [if_neg (by omega)] at h ⊢
      by_cases c3 : o = -1
      · subst c3
        simp only [ne_eq, not_true, false_and, if_false, if_true] at h ⊢
        have c4 : 65535 - e < s := by
          by_cases c4 : 65535 - e < s
          · exact c4
          · rw [if_neg (by omega)] at h; exact absurd rfl h
        rw [if_pos (.inr c4)]
        clear h
        go_enter Try.func29, Try.ntmps29
        go_wp2
        go_ret
        exact ⟨rfl, (Below.refl _ _).alloc (Nat.le_refl _) _⟩
      · rw [if_neg c3] at h ⊢
        by_cases c4 : o < e
        · rw [if_pos ⟨c3, c4⟩]
          clear h
          have c5 : 0 ≤ o := by omega
          have c6 : (o == -1) = false := by simp; omega
          clear c3
          go_enter Try.func29, Try.ntmps29
          go_wp2
          go_ret
          exact ⟨rfl, (Below.refl _ _).alloc (Nat.le_refl _) _⟩
        · rw [if_neg (by omega)] at h ⊢
          have c6 : (o == -1) = false := by simp; omega
          have c7 : 0 ≤ o := by omega
          clear c3
          by_cases c5 : 65535 < o
          · rw [if_pos (.inl c5)]
            clear h
            go_enter Try.func29, Try.ntmps29
            go_wp2
            go_ret
            exact ⟨rfl, (Below.refl _ _).alloc (Nat.le_refl _) _⟩
          · have c8 : 65535 - o < s := by
              by_cases c8 : 65535 - o < s
              · exact c8
              · rw [if_neg (by omega)] at h; exact absurd rfl h
            rw [if_pos (.inr c8)]
            clear h
            go_enter Try.func29, Try.ntmps29
            go_wp2
            go_ret
            exact ⟨rfl, (Below.refl _ _).alloc (Nat.le_refl _) _⟩


theorem layErr_zero {e s o : Int} (h : layErr e ⟨s, o⟩ = 0) : 0 ≤ s ∧ -1 ≤ o ∧ (o = -1 ∨ e ≤ o) ∧ layAt e ⟨s, o⟩ ≤ 65535 ∧ s ≤ 65535 - layAt e ⟨s, o⟩ := by
  simp only [layErr] at h
  generalize layAt e ⟨s, o⟩ = a at *
  by_cases c1 : s < 0 ∨ o < -1
  · rw [if_pos c1] at h; omega
  · rw [if_neg c1] at h
    by_cases c2 : o ≠ -1 ∧ o < e
    · rw [if_pos c2] at h; omega
    · rw [if_neg c2] at h
      by_cases c3 : 65535 < a ∨ 65535 - a < s
      · rw [if_pos c3] at h; omega
      · omega

set_option maxHeartbeats 2000000 in
/-- The room is taken; at: where it comes to lie. -/
theorem row_lay.ok (w0 w : World) (g : Nat) (l : List Int) (e s o : Int) (hs : RowS w0 w g l e) (hb : Below w0.heap.size w0 w) (hg : w0.heap.size ≤ g) (hl : l.length < 17592186044415) (he0 : 0 ≤ e) (he1 : e ≤ 65535) (h : layErr e ⟨s, o⟩ = 0) :
    Calls Try.prog 29 #[.pointer (some ⟨g, 0, none⟩), .agg #[.int .i64 s, .int .i64 o]] w fun r w' => r = .returned (.int .i64 0) ∧ Below w0.heap.size w0 w' ∧ RowS w0 w' g (l ++ [layAt e ⟨s, o⟩]) (layAt e ⟨s, o⟩ + s) := by
  obtain ⟨A, c, hblk, hR⟩ := hs
  have HBLK := Aside0.mk hblk
  have HR := Aside0.mk hR
  have HB := Aside0.mk hb
  have hc0 : w.cell? ⟨g, 0, none⟩ = some (.slice A l.length c) := blk_cell hblk 0
  have hc1 : w.cell? ⟨g, 1, none⟩ = some (.int .i64 e) := blk_cell hblk 1
  have hlt := blk_lt hblk
  have hu39 := Try.underlying39
  obtain ⟨h0, h1, h2, h3, h4⟩ := layErr_zero h

  clear hblk hR hb h
  by_cases c3 : o = -1
  · subst c3
    have ha : layAt e ⟨s, -1⟩ = e := by simp [layAt]
    rw [ha] at h3 h4 ⊢
    clear ha h2
    go_enter Try.func29, Try.ntmps29
    go_wp2_with (first | ((with_reducible refine gate_dst (N := 3) rfl ?_); refine box_event ?hg (N := 3) ?hd (cs := #[.int .i64 s, .int .i64 (-1)]) (t := 39) ?hr ?_; (case hd => rfl); (case hg => rfl); (case hr => first | (go_simp; done) | (go_simp; rfl)); intro gx hgx w2 hbox hbw; have hne2 : gx ≠ g := Nat.ne_of_gt (hgx.symm ▸ hlt); have HBOX := Aside0.mk hbox; have HB2 := Aside0.mk (below_step HB.out hbw); have HR2 := Aside0.mk (Kd.R_below HR.out hbw); have HG2 := Aside0.mk ((hbw.block g hlt).trans HBLK.out); have hlt2 : g < w2.heap.size := Nat.lt_of_lt_of_le hlt hbw.size; clear hgx hbw hbox HB HR HBLK hc0 hc1 hlt; have hc0 : w2.cell? ⟨g, 0, none⟩ = some (.slice A l.length c) := blk_cell HG2.out 0; have hc1 : w2.cell? ⟨g, 1, none⟩ = some (.int .i64 e) := blk_cell HG2.out 1; have hb0 : w2.cell? ⟨gx, 0, none⟩ = some (.int .i64 s) := blk_cell HBOX.out 0; have hb1 : w2.cell? ⟨gx, 1, none⟩ = some (.int .i64 (-1)) := blk_cell HBOX.out 1) | ((with_reducible refine gate_builtin (b := .append) (xs := #[.tmp 43, .tmp 45]) rfl ?_); at_builtin; refine Kd.R_append (Kd.int .i64) (w0 := w0) w0.heap.size rfl (.tmp 43) (.tmp 45) 23 3 (.int .i64 0) 8 rfl Try.underlying23 info3 rfl (by decide) (by omega) (.slice A l.length c) l e [.int .i64 e] (fun k => k ≠ g) (fun _ => False) rfl rfl ?aP (fun _ hk => hk.elim) ?aF ?aO ?aB ?aS ?aL ?_; (case aP => exact rfl); (case aB => exact HB2.out); (case aF => exact fun k hk he => absurd hlt2 (Nat.not_lt.2 (he ▸ hk))); (case aO => exact HR2.out); (case aS => exact HB2.out.size); (case aL => omega); intro v1 w1 ho hb1 hg1 hat1; obtain ⟨A1, c1, rfl⟩ := Kd.R_slice ho; have BG := Aside0.mk (blk_grown (g := g) HG2.out hg1 (Kd.R_ne HR2.out HG2.out (by decide))); have BX := Aside0.mk (blk_grown (g := gx) HBOX.out hg1 (Kd.R_ne HR2.out HBOX.out (by decide))); have HO := Aside0.mk ho; have HB1 := Aside0.mk hb1; clear ho hb1 hg1 hat1; have hz0 : w1.cell? ⟨g, 0, none⟩ = some (.slice A l.length c) := blk_cell BG.out 0; have hz1 : w1.cell? ⟨g, 1, none⟩ = some (.int .i64 e) := blk_cell BG.out 1; have hf0 := blk_frozen BG.out 0; have hf1 := blk_frozen BG.out 1; have hx0 : w1.cell? ⟨gx, 0, none⟩ = some (.int .i64 s) := blk_cell BX.out 0))
    go_ret
    refine ⟨rfl, (HB1.out.setCell hg _).setCell hg _, A1, c1, ?_, ?_⟩
    · have z := blk_set (blk_set BG.out 0 (.slice A1 (l ++ [e]).length c1)) 1 (.int .i64 (e + s))
      simpa using z
    · exact Kd.R_far (Kd.R_far HO.out (fun k hk => hk) _) (fun k hk => hk) _
  · have ha : layAt e ⟨s, o⟩ = o := by simp [layAt, c3]
    rw [ha] at h3 h4 ⊢
    have h5 : e ≤ o := by omega
    have c6 : (o == -1) = false := by simp; omega
    clear ha h2 c3
    go_enter Try.func29, Try.ntmps29
    go_wp2_with (first | ((with_reducible refine gate_dst (N := 3) rfl ?_); refine box_event ?hg (N := 3) ?hd (cs := #[.int .i64 s, .int .i64 o]) (t := 39) ?hr ?_; (case hd => rfl); (case hg => rfl); (case hr => first | (go_simp; done) | (go_simp; rfl)); intro gx hgx w2 hbox hbw; have hne2 : gx ≠ g := Nat.ne_of_gt (hgx.symm ▸ hlt); have HBOX := Aside0.mk hbox; have HB2 := Aside0.mk (below_step HB.out hbw); have HR2 := Aside0.mk (Kd.R_below HR.out hbw); have HG2 := Aside0.mk ((hbw.block g hlt).trans HBLK.out); have hlt2 : g < w2.heap.size := Nat.lt_of_lt_of_le hlt hbw.size; clear hgx hbw hbox HB HR HBLK hc0 hc1 hlt; have hc0 : w2.cell? ⟨g, 0, none⟩ = some (.slice A l.length c) := blk_cell HG2.out 0; have hc1 : w2.cell? ⟨g, 1, none⟩ = some (.int .i64 e) := blk_cell HG2.out 1; have hb0 : w2.cell? ⟨gx, 0, none⟩ = some (.int .i64 s) := blk_cell HBOX.out 0; have hb1 : w2.cell? ⟨gx, 1, none⟩ = some (.int .i64 o) := blk_cell HBOX.out 1) | ((with_reducible refine gate_builtin (b := .append) (xs := #[.tmp 43, .tmp 45]) rfl ?_); at_builtin; refine Kd.R_append (Kd.int .i64) (w0 := w0) w0.heap.size rfl (.tmp 43) (.tmp 45) 23 3 (.int .i64 0) 8 rfl Try.underlying23 info3 rfl (by decide) (by omega) (.slice A l.length c) l o [.int .i64 o] (fun k => k ≠ g) (fun _ => False) rfl rfl ?aP (fun _ hk => hk.elim) ?aF ?aO ?aB ?aS ?aL ?_; (case aP => exact rfl); (case aB => exact HB2.out); (case aF => exact fun k hk he => absurd hlt2 (Nat.not_lt.2 (he ▸ hk))); (case aO => exact HR2.out); (case aS => exact HB2.out.size); (case aL => omega); intro v1 w1 ho hb1 hg1 hat1; obtain ⟨A1, c1, rfl⟩ := Kd.R_slice ho; have BG := Aside0.mk (blk_grown (g := g) HG2.out hg1 (Kd.R_ne HR2.out HG2.out (by decide))); have BX := Aside0.mk (blk_grown (g := gx) HBOX.out hg1 (Kd.R_ne HR2.out HBOX.out (by decide))); have HO := Aside0.mk ho; have HB1 := Aside0.mk hb1; clear ho hb1 hg1 hat1; have hz0 : w1.cell? ⟨g, 0, none⟩ = some (.slice A l.length c) := blk_cell BG.out 0; have hz1 : w1.cell? ⟨g, 1, none⟩ = some (.int .i64 e) := blk_cell BG.out 1; have hf0 := blk_frozen BG.out 0; have hf1 := blk_frozen BG.out 1; have hx0 : w1.cell? ⟨gx, 0, none⟩ = some (.int .i64 s) := blk_cell BX.out 0))
    go_ret
    refine ⟨rfl, (HB1.out.setCell hg _).setCell hg _, A1, c1, ?_, ?_⟩
    · have z := blk_set (blk_set BG.out 0 (.slice A1 (l ++ [o]).length c1)) 1 (.int .i64 (o + s))
      simpa using z
    · exact Kd.R_far (Kd.R_far HO.out (fun k hk => hk) _) (fun k hk => hk) _

end Go.Proofs.Ythckejcoekhdjaa.Q
