/- The walk of LayPlaces (layer 7), by hand: what the law comes to where the two answers agree. -/

import Derived.Test.YthckejcoekhdjaaQx0
import Derived.Test.YthckejcoekhdjaaQx2
import Derived.Test.YthckejcoekhdjaaQx3
import Derived.Test.YthckejcoekhdjaaHPlace
import Derived.Test.YthckejcoekhdjaaHSpare
namespace Go.Proofs.Ythckejcoekhdjaa.Q
open Go.RowKit Go.Proofs.YthckejcoekhdjaaW.PrintWords Go.Proofs.YthckejcoekhdjaaW.PrintLast Go.Proofs.YthckejcoekhdjaaW.PrintMore
attribute [local go_sem] max2_int min2_int max_two min_two max_three min_three max_four min_four   -- for this text's walks alone
set_option linter.unusedVariables false
set_option linter.unusedSimpArgs false

/-- The document's answer, round by round, is what Place lays. -/
theorem refPlace_loop (l0 : List S39) (a1 : Int) (hl : l0.length < 8796093022208) : ∀ (d i : Nat) (acc : List Int) (e : Int), i + d = l0.length → acc.length = i → 0 ≤ e → e ≤ 65535 →
    stencilref07_Place.l0 (5 * d + 5) l0 a1 acc e (i : Int) = some (placeEnd l0.length a1 (placeGo (l0.drop i) i acc e))
  | 0, i, acc, e, hi, ha, h0, h1 => by
    rw [stencilref07_Place.l0, if_neg (by omega), List.drop_eq_nil_of_le (by omega)]
    simp only [placeGo, placeEnd]
    by_cases c1 : a1 = -1
    · rw [if_pos c1, if_pos c1]
    · rw [if_neg c1, if_neg c1]
      by_cases c2 : a1 < e
      · rw [if_pos c2, if_pos c2]
      · rw [if_neg c2, if_neg c2]
  | d + 1, i, acc, e, hi, ha, h0, h1 => by
    have hlt : i < l0.length := by omega
    rw [placeGo_round hlt]
    have hx : (⟨(rd_T39 l0 (i : Int)).f0, (rd_T39 l0 (i : Int)).f1⟩ : S39) = rd_T39 l0 (i : Int) := rfl
    rw [← hx]
    clear hx
    have w1 : wrap64 ((i : Int) + 1) = ((i + 1 : Nat) : Int) := by unfold wrap64; omega
    rw [show 5 * (d + 1) + 5 = (5 * d + 9) + 1 from by omega, stencilref07_Place.l0, if_pos (by omega), if_pos (by omega)]
    generalize (rd_T39 l0 (i : Int)).f0 = s
    generalize (rd_T39 l0 (i : Int)).f1 = o
    have j4 : ∀ (p : Int) (b : Bool), stencilref07_Place.j4 (5 * d + 6) l0 a1 acc (i : Int) p b s o = if b = true then some ([], 0, 72, (i : Int)) else stencilref07_Place.l0 (5 * d + 5) l0 a1 (acc ++ [p]) (wrap64 (p + s)) ((i + 1 : Nat) : Int) := by
      intro p b
      rw [stencilref07_Place.j4]
      cases b
      · simp only [Bool.false_eq_true, if_false]
        rw [if_pos (by omega), w1]
      · rfl
    have j3 : ∀ (p : Int), stencilref07_Place.j3 (5 * d + 7) l0 a1 acc (i : Int) p s o = if p > 65535 then some ([], 0, 72, (i : Int)) else if s > 65535 then some ([], 0, 72, (i : Int)) else if wrap64 (p + s) > 65535 then some ([], 0, 72, (i : Int)) else stencilref07_Place.l0 (5 * d + 5) l0 a1 (acc ++ [p]) (wrap64 (p + s)) ((i + 1 : Nat) : Int) := by
      intro p
      rw [stencilref07_Place.j3, j4, j4]
      simp
    have j2 : ∀ (b : Bool), stencilref07_Place.j2 (5 * d + 8) l0 a1 acc e (i : Int) b s o = if b = true then some ([], 0, 70, (i : Int)) else if o = -1 then stencilref07_Place.j3 (5 * d + 7) l0 a1 acc (i : Int) e s o else stencilref07_Place.j3 (5 * d + 7) l0 a1 acc (i : Int) o s o := by
      intro b
      rw [stencilref07_Place.j2]
    have j1 : ∀ (b : Bool), stencilref07_Place.j1 (5 * d + 9) l0 a1 acc e (i : Int) b s o = if b = true then some ([], 0, 73, (i : Int)) else if o ≥ 0 ∧ o < e then some ([], 0, 70, (i : Int)) else if o = -1 then stencilref07_Place.j3 (5 * d + 7) l0 a1 acc (i : Int) e s o else stencilref07_Place.j3 (5 * d + 7) l0 a1 acc (i : Int) o s o := by
      intro b
      rw [stencilref07_Place.j1, j2, j2]
      by_cases c : o ≥ 0
      · simp [c]
      · rw [if_neg c, if_neg (c := o ≥ 0 ∧ o < e) (by omega)]; simp
    clear j2
    rw [j1, j1]
    have next := fun (p : Int) (hp0 : 0 ≤ p) (hp1 : p ≤ 65535) (hs0 : 0 ≤ s) (hs1 : s ≤ 65535 - p) => refPlace_loop l0 a1 hl d (i + 1) (acc ++ [p]) (p + s) (by omega) (by simp [ha]) (by omega) (by omega)
    clear j1 j4 hlt
    simp only [layErr]
    by_cases c1 : s < 0
    · rw [if_pos c1, if_pos (c := s < 0 ∨ o < -1) (.inl c1)]
      simp [placeEnd]
    · rw [if_neg c1]
      by_cases c2 : o < -1
      · rw [if_pos (c := decide (o < -1) = true) (by simpa using c2), if_pos (c := s < 0 ∨ o < -1) (.inr c2)]
        simp [placeEnd]
      · rw [if_neg (c := decide (o < -1) = true) (by simpa using c2), if_neg (c := s < 0 ∨ o < -1) (by omega)]
        by_cases c3 : o ≥ 0 ∧ o < e
        · rw [if_pos c3, if_pos (c := o ≠ -1 ∧ o < e) (by omega)]
          simp [placeEnd]
        · rw [if_neg c3, if_neg (c := o ≠ -1 ∧ o < e) (by omega)]
          have goal : ∀ p : Int, 0 ≤ p → layAt e ⟨s, o⟩ = p → stencilref07_Place.j3 (5 * d + 7) l0 a1 acc (i : Int) p s o = some (placeEnd l0.length a1 (if (if 65535 < layAt e ⟨s, o⟩ ∨ 65535 - layAt e ⟨s, o⟩ < s then 72 else 0) = (0 : Int) then placeGo (l0.drop (i + 1)) ((i : Int) + 1) (acc ++ [layAt e ⟨s, o⟩]) (layAt e ⟨s, o⟩ + s) else .inr (if 65535 < layAt e ⟨s, o⟩ ∨ 65535 - layAt e ⟨s, o⟩ < s then 72 else 0, (i : Int)))) := by
            intro p hp hat
            rw [hat, j3]
            by_cases c4 : 65535 < p ∨ 65535 - p < s
            · simp only [if_pos c4]
              rw [if_neg (c := (72 : Int) = 0) (by decide)]
              simp only [placeEnd]
              by_cases d1 : p > 65535
              · rw [if_pos d1]
              · rw [if_neg d1]
                by_cases d2 : s > 65535
                · rw [if_pos d2]
                · rw [if_neg d2, if_pos (by unfold wrap64; omega)]
            · simp only [if_neg c4]
              rw [if_pos trivial, if_neg (by omega), if_neg (by omega)]
              have w2 : wrap64 (p + s) = p + s := by unfold wrap64; omega
              rw [w2, if_neg (by omega)]
              exact next p hp (by omega) (by omega) (by omega)
          by_cases c4 : o = -1
          · rw [if_pos c4]
            exact goal e h0 (by simp [layAt, c4])
          · rw [if_neg c4]
            exact goal o (by omega) (by simp [layAt, c4])

theorem refPlace (l0 : List S39) (a1 : Int) (hl : l0.length < 8796093022208) : ∃ k r1 r2 r3 r4, stencilref07_Place.f k l0 a1 = some (r1, r2, r3, r4) ∧ lay_Place.f l0 a1 = some (r1, r2, r3, r4) := by
  obtain ⟨r, hr⟩ : ∃ r, lay_Place.f l0 a1 = some r := ⟨_, by unfold lay_Place.f; rw [if_pos hl]⟩
  obtain ⟨r1, r2, r3, r4⟩ := r
  refine ⟨5 * l0.length + 5, r1, r2, r3, r4, ?_, hr⟩
  rw [← hr]
  unfold stencilref07_Place.f lay_Place.f
  rw [if_pos hl]
  by_cases c1 : a1 < -1
  · rw [if_pos c1, if_pos c1]
  · rw [if_neg c1, if_neg c1]
    by_cases c2 : 65535 < a1
    · rw [if_pos c2, if_pos c2]
    · rw [if_neg c2, if_neg c2]
      have := refPlace_loop l0 a1 hl l0.length 0 [] 0 (by omega) rfl (by omega) (by omega)
      simpa using this

def stencillaw07_LayPlaces.f (l0 : List S39) (a1 : Int) : Option Bool := if l0.length * 16 ≤ 140737488351232 then some true else none
set_option maxHeartbeats 1000000 in
theorem stencillaw07_LayPlaces.calls (A0 : Option Addr) (c0 : Nat) (l0 : List S39) (a1 : Int) (r : Bool) (w : World) (hr0 : Kd.C k39 w A0 l0.length l0) (hc0 : l0.length ≤ c0) (h : stencillaw07_LayPlaces.f l0 a1 = some r) :
    Calls Try.prog 3 #[.slice A0 l0.length c0, .int .i64 a1] w fun e w' => e = .returned (.bool r) ∧ Below w.heap.size w w' := by
  unfold stencillaw07_LayPlaces.f at h
  split at h
  case isFalse => cases h
  rename_i hlen
  obtain rfl := Option.some.inj h
  clear h
  obtain ⟨k, r1, r2, r3, r4, hk1, hk2⟩ := refPlace l0 a1 (by omega)
  have HR0 := Aside0.mk hr0
  have HC0 := Aside0.mk hc0
  have HK1 := Aside0.mk hk1
  have HK2 := Aside0.mk hk2
  clear hr0 hc0 hk1 hk2
  have HB := Aside0.mk (Below.refl w.heap.size w)
  have H15 := fun (W : World) => stencillaw07_ints.sp none 0 [] W (Kd.C_nil _ _) (Nat.le_refl _) (by decide)
  simp only [List.length_nil, Nat.zero_add, List.nil_append] at H15
  have HI := Aside0.mk H15
  clear H15
  have H14 := fun (A0 A1 A2 : Option Addr) (c0 c1 c2 : Nat) (W : World) => stencillaw07_kept.yes A0 A1 A2 none c0 c1 c2 0 l0 [] W
  simp only [List.length_nil, Nat.zero_add, List.nil_append] at H14
  have HK := Aside0.mk H14
  clear H14
  go_enter Try.func3, Try.ntmps3
  go_wp2_with (first | (go_at_call 9; (with_reducible refine (stencilref07_Place.calls k _ _ l0 a1 r1 r2 r3 r4 _ HR0.out HC0.out HK1.out).mono ?_); rintro e w_9_ ⟨v1, rfl, ho1, hb_⟩; have n0_ := Aside0.mk (below_step (by repeat (first | (with_reducible first | exact HB.out | apply below_alloc | apply pw_below_drewN | apply below_drew1) | exact HB.out)) hb_); clear HB; have HB := n0_; clear n0_; have t_ := Aside0.mk (Kd.C_below (by repeat (first | exact HR0.out | (with_reducible refine Kd.C_alloc ?_ _) | (with_reducible refine Kd.C_drewN ?_ _) | (with_reducible refine Kd.C_drew ?_))) hb_); clear HR0; have HR0 := t_; clear t_; obtain ⟨A1, c1, rfl⟩ := Kd.R_slice ho1; have HX1 := Aside0.mk (Kd.R_reads' ho1).2.2; have HY1 := Aside0.mk (Kd.R_reads' ho1).2.1; clear ho1; clear hb_) | (go_at_call 10; (with_reducible refine (stencillaw07_rooms.sp _ _ l0 _ HR0.out HC0.out (by omega)).mono ?_); rintro e w_10_ ⟨A2, c2, rfl, ho2, hb_⟩; have n0_ := Aside0.mk (below_step (by repeat (first | (with_reducible first | exact HB.out | apply below_alloc | apply pw_below_drewN | apply below_drew1) | exact HB.out)) hb_); clear HB; have HB := n0_; clear n0_; have t_ := Aside0.mk (Kd.C_below (by repeat (first | exact HR0.out | (with_reducible refine Kd.C_alloc ?_ _) | (with_reducible refine Kd.C_drewN ?_ _) | (with_reducible refine Kd.C_drew ?_))) hb_); clear HR0; have HR0 := t_; clear t_; have t_ := Aside0.mk (Kd.C_below (by repeat (first | exact HX1.out | (with_reducible refine Kd.C_alloc ?_ _) | (with_reducible refine Kd.C_drewN ?_ _) | (with_reducible refine Kd.C_drew ?_))) hb_); clear HX1; have HX1 := t_; clear t_; have HX2 := Aside0.mk (show Kd.C k39 w_10_ A2 (l0.length + 1) (l0 ++ [⟨71, 72⟩]) by have := (Kd.R_reads' ho2).2.2; simpa using this); have HY2 := Aside0.mk (Kd.R_reads' ho2).2.1; clear ho2; clear hb_) | (go_at_call 11; (with_reducible refine (lay_Place.calls _ _ l0 a1 r1 r2 r3 r4 _ (spare_C HX2.out) (by have := HY2.out; omega) HK2.out).mono ?_); rintro e w_11_ ⟨v3, rfl, ho3, hb_⟩; have n0_ := Aside0.mk (below_step (by repeat (first | (with_reducible first | exact HB.out | apply below_alloc | apply pw_below_drewN | apply below_drew1) | exact HB.out)) hb_); clear HB; have HB := n0_; clear n0_; have t_ := Aside0.mk (Kd.C_below (by repeat (first | exact HR0.out | (with_reducible refine Kd.C_alloc ?_ _) | (with_reducible refine Kd.C_drewN ?_ _) | (with_reducible refine Kd.C_drew ?_))) hb_); clear HR0; have HR0 := t_; clear t_; have t_ := Aside0.mk (Kd.C_below (by repeat (first | exact HX1.out | (with_reducible refine Kd.C_alloc ?_ _) | (with_reducible refine Kd.C_drewN ?_ _) | (with_reducible refine Kd.C_drew ?_))) hb_); clear HX1; have HX1 := t_; clear t_; have t_ := Aside0.mk (Kd.C_below (by repeat (first | exact HX2.out | (with_reducible refine Kd.C_alloc ?_ _) | (with_reducible refine Kd.C_drewN ?_ _) | (with_reducible refine Kd.C_drew ?_))) hb_); clear HX2; have HX2 := t_; clear t_; obtain ⟨A3, c3, rfl⟩ := Kd.R_slice ho3; have HX3 := Aside0.mk (Kd.R_reads' ho3).2.2; have HY3 := Aside0.mk (Kd.R_reads' ho3).2.1; clear ho3; clear hb_) | (go_at_call 12; (with_reducible refine (stencillaw07_sameInts.calls _ _ _ r1 _ _ r1 true _ HX1.out HY1.out HX3.out HY3.out (sameInts_self r1 (C_len HX1.out))).mono ?_); rintro e w_12_ ⟨rfl, ⟨m1, rfl⟩⟩) | (go_at_call 13; (with_reducible refine (stencillaw07_num.calls r3 r3 _ (num_some r3)).mono ?_); rintro e w_13_ ⟨rfl, ⟨m3, rfl⟩⟩) | (go_at_call 15; (with_reducible refine (HI.out _).mono ?_); rintro e w_15_ ⟨A5, c5, rfl, ho5, hb_⟩; have n0_ := Aside0.mk (below_step (by repeat (first | (with_reducible first | exact HB.out | apply below_alloc | apply pw_below_drewN | apply below_drew1) | exact HB.out)) hb_); clear HB; have HB := n0_; clear n0_; have t_ := Aside0.mk (Kd.C_below (by repeat (first | exact HR0.out | (with_reducible refine Kd.C_alloc ?_ _) | (with_reducible refine Kd.C_drewN ?_ _) | (with_reducible refine Kd.C_drew ?_))) hb_); clear HR0; have HR0 := t_; clear t_; have t_ := Aside0.mk (Kd.C_below (by repeat (first | exact HX2.out | (with_reducible refine Kd.C_alloc ?_ _) | (with_reducible refine Kd.C_drewN ?_ _) | (with_reducible refine Kd.C_drew ?_))) hb_); clear HX2; have HX2 := t_; clear t_; have HX5 := Aside0.mk (Kd.R_reads' ho5).2.2; have HY5 := Aside0.mk (Kd.R_reads' ho5).2.1; clear ho5; clear hb_) | (go_at_call 14; (with_reducible refine (HK.out _ _ _ _ _ _ _ HX2.out HY2.out HR0.out HC0.out HX5.out HY5.out (Kd.C_nil _ _) (Nat.le_refl _) (by omega) (by decide)).mono ?_); rintro e w_14_ ⟨rfl, ⟨m2, rfl⟩⟩))
  go_ret
  exact ⟨rfl, (by repeat (first | (with_reducible first | exact HB.out | apply below_alloc | apply pw_below_drewN | apply below_drew1) | exact HB.out))⟩
theorem LayPlaces_pure (l0 : List S39) (a1 : Int) (h : l0.length * 16 ≤ 140737488351232) : stencillaw07_LayPlaces.f l0 a1 = some true := by unfold stencillaw07_LayPlaces.f; rw [if_pos h]

end Go.Proofs.Ythckejcoekhdjaa.Q
