/- The walk of LayRefuses (layer 7), by hand: one thing is spoilt in rooms that can be laid; Place refuses it with its number and its error. -/

import Derived.Test.YthckejcoekhdjaaQx0
import Derived.Test.YthckejcoekhdjaaQx2
import Derived.Test.YthckejcoekhdjaaQx3
import Derived.Test.YthckejcoekhdjaaQx4
import Derived.Test.YthckejcoekhdjaaHPlace
import Derived.Test.YthckejcoekhdjaaHLooks
import Derived.Test.YthckejcoekhdjaaHMade
import Derived.Test.YthckejcoekhdjaaHSpare
import Derived.IntWalk
namespace Go.Proofs.Ythckejcoekhdjaa.Q
open Go.RowKit Go.Proofs.YthckejcoekhdjaaW.PrintWords Go.Proofs.YthckejcoekhdjaaW.PrintLast Go.Proofs.YthckejcoekhdjaaW.PrintMore
attribute [local go_sem] max2_int min2_int max_two min_two max_three min_three max_four min_four   -- for this text's walks alone
set_option linter.unusedVariables false
set_option linter.unusedSimpArgs false

/-- Where the rooms ahead of number k end. -/
def endsAt : List S39 → List Int → Int → Nat → Int
  | _, _, s, 0 => s
  | x :: xs, o :: os, _, k + 1 => endsAt xs os (o + x.f0) k
  | _, _, s, _ + 1 => s

theorem Chain.at_ : ∀ {l : List S39} {os : List Int} {s e : Int} (k : Nat), Chain l os s e → k < l.length →
    s ≤ endsAt l os s k ∧ endsAt l os s k ≤ os.getD k 0 ∧ 0 ≤ (l.getD k z39).f0 ∧ (l.getD k z39).f0 < 70 ∧ ((l.getD k z39).f1 = os.getD k 0 ∨ ((l.getD k z39).f1 = -1 ∧ os.getD k 0 = endsAt l os s k)) ∧ os.getD k 0 + (l.getD k z39).f0 ≤ e
  | x :: l, o :: os, s, e, 0, h, _ => by
    obtain ⟨a, b, c, d, f, g⟩ := h
    obtain ⟨_, h2, _⟩ := Chain.len g
    refine ⟨Int.le_refl _, a, c, d, f, h2⟩
  | x :: l, o :: os, s, e, k + 1, h, hk => by
    obtain ⟨a, b, c, d, f, g⟩ := h
    obtain ⟨h1, h2, h3, h4, h5, h6⟩ := Chain.at_ k g (by simpa using hk)
    simp only [endsAt, List.getD_cons_succ]
    exact ⟨by omega, h2, h3, h4, h5, h6⟩
  | [], [], _, _, _, _, hk => by simp at hk
  | [], _ :: _, _, _, _, h, _ => h.elim
  | _ :: _, [], _, _, _, h, _ => h.elim
theorem endsAt_succ : ∀ {l : List S39} {os : List Int} {s e : Int} (k : Nat), Chain l os s e → k + 1 < l.length → endsAt l os s (k + 1) = os.getD k 0 + (l.getD k z39).f0
  | x :: l, o :: os, s, e, 0, _, _ => by simp [endsAt]
  | x :: l, o :: os, s, e, k + 1, h, hk => by
    obtain ⟨a, b, c, d, f, g⟩ := h
    simp only [endsAt, List.getD_cons_succ]
    exact endsAt_succ k g (by simpa using hk)
  | [], [], _, _, _, _, hk => by simp at hk
  | [], _ :: _, _, _, _, h, _ => h.elim
  | _ :: _, [], _, _, _, h, _ => h.elim

/-- The first room that can't be laid is told. -/
theorem Chain.spoilt {y : S39} : ∀ {l : List S39} {os : List Int} {s e : Int} (k : Nat) (i : Int) (acc : List Int), Chain l os s e → 0 ≤ s → e ≤ 65535 → k < l.length → layErr (endsAt l os s k) y ≠ 0 →
    placeGo (l.set k y) i acc s = .inr (layErr (endsAt l os s k) y, i + k)
  | x :: l, o :: os, s, e, 0, i, acc, h, _, _, _, hy => by
    simp only [List.set_cons_zero, placeGo, endsAt] at hy ⊢
    rw [if_neg hy]
    simp
  | x :: l, o :: os, s, e, k + 1, i, acc, h, hs, he, hk, hy => by
    obtain ⟨a, b, c, d, f, g⟩ := h
    obtain ⟨h1, h2, h3⟩ := Chain.len g
    obtain ⟨e1, e2⟩ := Chain.err a c f hs (by omega) (by omega)
    simp only [List.set_cons_succ, placeGo, endsAt] at hy ⊢
    rw [if_pos e1, e2, Chain.spoilt k (i + 1) (acc ++ [o]) g (by omega) he (by simpa using hk) hy]
    congr 2
    omega
  | [], [], _, _, _, _, _, _, _, _, hk, _ => by simp at hk
  | [], _ :: _, _, _, _, _, _, h, _, _, _, _ => h.elim
  | _ :: _, [], _, _, _, _, _, h, _, _, _, _ => h.elim

theorem fixed_yes : stencillaw07_fixed.f = some true := by decide +kernel

theorem place_spoilt (l : List S39) (os : List Int) (e : Int) (i : Nat) (y : S39) (want : Int) (hc : Chain l os 0 e) (hl : l.length ≤ 60) (he : e ≤ 6540) (hi : i < l.length) (hy : layErr (endsAt l os 0 i) y = want) (hw : want ≠ 0) :
    lay_Place.f (l.set i y) (-1) = some ([], 0, want, (i : Int)) := by
  have hp := Chain.spoilt (y := y) i 0 [] hc (by omega) (by omega) hi (by rw [hy]; exact hw)
  unfold lay_Place.f
  rw [List.length_set, if_pos (by omega), if_neg (by omega), if_neg (by omega), hp, hy]
  simp [placeEnd]
theorem lay_Place.calls' (A0 : Option Addr) (c0 n : Nat) (l0 : List S39) (hn : n = l0.length) (a1 : Int) (r1 : List Int) (r2 r3 r4 : Int) (w : World) (hr0 : Kd.C k39 w A0 n l0) (hc0 : n ≤ c0) (h : lay_Place.f l0 a1 = some (r1, r2, r3, r4)) :
    Calls Try.prog 11 #[.slice A0 n c0, .int .i64 a1] w fun e w' => ∃ v0_ : Value, e = .returned (.tuple #[v0_, .int .i64 r2, .int .i64 r3, .int .i64 r4]) ∧ Kd.R (Kd.int .i64) 3 w' w.heap.size (fun _ => True) v0_ r1 ∧ Below w.heap.size w w' := by
  subst hn
  exact lay_Place.calls A0 c0 l0 a1 r1 r2 r3 r4 w hr0 hc0 h
/-- One room of a row of the call's own: where it lies, and the row with one of its numbers written over. -/
theorem room_slot {W : World} {base : Nat} {ok : Nat → Prop} {A : Option Addr} {c : Nat} {xs : List S39} {n : Nat} (h : Kd.R k39 39 W base ok (.slice A n c) xs) (i : Nat) (hi : i < n) :
    ∃ g, A = some ⟨g, 0, none⟩ ∧ base ≤ g ∧ n = xs.length ∧ n ≤ c ∧ W.cell? ⟨g, i * 2, none⟩ = some (.int .i64 (rd_T39 xs (i : Int)).f0) ∧ W.cell? ⟨g, i * 2 + 1, none⟩ = some (.int .i64 (rd_T39 xs (i : Int)).f1) ∧ W.frozen? ⟨g, i * 2, none⟩ = false ∧ W.frozen? ⟨g, i * 2 + 1, none⟩ = false ∧
      rd_T39 xs (i : Int) = xs.getD i z39 ∧ (∀ m v, Kd.R k39 39 ((W.drewN m).setCell ⟨g, i * 2, none⟩ (.int .i64 v)) base ok (.slice A n c) (xs.set i ⟨v, (rd_T39 xs (i : Int)).f1⟩)) ∧ ∀ m v, Kd.R k39 39 ((W.drewN m).setCell ⟨g, i * 2 + 1, none⟩ (.int .i64 v)) base ok (.slice A n c) (xs.set i ⟨(rd_T39 xs (i : Int)).f0, v⟩) := by
  obtain ⟨hn, hnc, _⟩ := Kd.R_reads' h
  obtain ⟨g, cap, hv, hb, _, _⟩ := Kd.R_form h (by omega)
  injection hv with hA _ hcap
  subst hA
  obtain ⟨ce, hcl, hM, hcc, hfr⟩ := Kd.R_elem h z39 (i : Int) (by omega) (by omega)
  obtain rfl := k39_openM hM
  have h0 := hcc 0 _ rfl
  have h1 := hcc 1 _ rfl
  have f0 := hfr 0
  have f1 := hfr 1
  have P0 := fun (m : Nat) (v : Int) => Kd.R_seg (W := W.drewN m) (Kd.R_drewN h m) (i : Int) (by omega) (by omega) (seg := [.int .i64 v]) (j := 0) hcl hcc (show 1 ≤ 2 from by decide) (x' := (⟨v, (rd_T39 xs (i : Int)).f1⟩ : S39)) (k39_mkM _ _ _ (⟨v, (rd_T39 xs (i : Int)).f1⟩ : S39)) (fun _ hk => hk)
  have P1 := fun (m : Nat) (v : Int) => Kd.R_seg (W := W.drewN m) (Kd.R_drewN h m) (i : Int) (by omega) (by omega) (seg := [.int .i64 v]) (j := 1) hcl hcc (show 2 ≤ 2 from by decide) (x' := (⟨(rd_T39 xs (i : Int)).f0, v⟩ : S39)) (k39_mkM _ _ _ (⟨(rd_T39 xs (i : Int)).f0, v⟩ : S39)) (fun _ hk => hk)
  exact ⟨g, rfl, hb, hn, hnc, h0, h1, f0, f1, rfl, fun m v => (P0 m v).1, fun m v => (P1 m v).1⟩

theorem R_two {W : World} {base : Nat} {ok : Nat → Prop} {A : Option Addr} {c : Nat} {xs : List S39} {n : Nat} (h : Kd.R k39 39 W base ok (.slice A n c) xs) (i : Nat) (hi : i < n) (g : Nat) (hg : A = some ⟨g, 0, none⟩) (m : Nat) (v0 v1 : Int) :
    Kd.R k39 39 (((W.drewN m).setCell ⟨g, i * 2 + 1, none⟩ (.int .i64 v1)).setCell ⟨g, i * 2, none⟩ (.int .i64 v0)) base ok (.slice A n c) (xs.set i ⟨v0, v1⟩) := by
  obtain ⟨g', hg', _, hn, _, _, _, _, _, _, _, h1⟩ := room_slot h i hi
  obtain rfl : g = g' := by rw [hg] at hg'; injection hg' with hg'; injection hg'
  obtain ⟨g'', hg'', _, _, _, _, _, _, _, _, h0, _⟩ := room_slot (h1 m v1) i hi
  obtain rfl : g = g'' := by rw [hg] at hg''; injection hg'' with hg''; injection hg''
  have := h0 0 v0
  have e : (xs.set i ⟨(rd_T39 xs (i : Int)).f0, v1⟩ : List S39).set i ⟨v0, (rd_T39 (xs.set i ⟨(rd_T39 xs (i : Int)).f0, v1⟩) (i : Int)).f1⟩ = xs.set i ⟨v0, v1⟩ := by
    rw [List.set_set]
    have hx : rd_T39 (xs.set i ⟨(rd_T39 xs (i : Int)).f0, v1⟩) (i : Int) = ⟨(rd_T39 xs (i : Int)).f0, v1⟩ := by
      unfold rd_T39
      rw [Int.toNat_natCast, List.getD_eq_getElem?_getD, List.getElem?_set_self (by omega)]
      rfl
    rw [hx]
  rw [e] at this
  exact this
def stencillaw07_LayRefuses.f (l0 : List S57) (a1 a2 : Int) : Option Bool := some true
theorem R_as_C {W : World} {base : Nat} {ok : Nat → Prop} {A : Option Addr} {c n : Nat} {xs : List S39} (h : Kd.R k39 39 W base ok (.slice A n c) xs) : Kd.C k39 W A n xs := by
  obtain ⟨hn, _, h2⟩ := Kd.R_reads' h
  rw [hn]; exact h2

set_option maxHeartbeats 2000000 in
set_option maxRecDepth 100000 in
theorem stencillaw07_LayRefuses.c0 (k : Nat) (A0 : Option Addr) (c0 : Nat) (l0 : List S57) (l : List S39) (os : List Int) (e a1 a2 u : Int) (n : Nat) (w : World) (hr0 : Kd.C k57 w A0 l0.length l0) (hc0 : l0.length ≤ c0)
    (hm : stencillaw07_made.f k l0 = some (l, os, e)) (hp : lay_Place.f l (-1) = some (os, e, 0, 0)) (hl : l.length ≤ 60) (hn : n < l.length) (hlo : os.length = l.length) (hi : stencillaw07_mod.f a1 (l.length : Int) = some (n : Int)) (ht : stencillaw07_mod.f a2 5 = some 0) (hu : stencillaw07_mod.f a2 1000 = some u)  (hu0 : 0 ≤ u) (hu1 : u < 1000) (hps : lay_Place.f (l.set n ⟨-1 - u, (rd_T39 l (n : Int)).f1⟩) (-1) = some ([], 0, 73, (n : Int))) :
    Calls Try.prog 4 #[.slice A0 l0.length c0, .int .i64 a1, .int .i64 a2] w fun e w' => e = .returned (.bool true) ∧ Below w.heap.size w w' := by
  have hu39 := Try.underlying39
  have HR0 := Aside0.mk hr0
  have HC0 := Aside0.mk hc0
  have HM := Aside0.mk hm
  have HP := Aside0.mk hp
  have HI := Aside0.mk hi
  have HT := Aside0.mk ht
  have HU := Aside0.mk hu
  have PS := Aside0.mk hps
  clear hps
  have hz : ((l.length : Int) == 0) = false := beq_eq_false_iff_ne.2 (by omega)
  have hz' : (l.length == 0) = false := beq_eq_false_iff_ne.2 (by omega)
  have HLO := Aside0.mk hlo
  clear hr0 hc0 hm hp hi ht hu hlo
  have HB := Aside0.mk (Below.refl w.heap.size w)
  have tok1 : Aside0 True := ⟨trivial⟩
  have tok2 : Aside0 True := ⟨trivial⟩
  go_enter Try.func4, Try.ntmps4
  go_wp2_with (first | (go_at_call 16; (with_reducible refine (stencillaw07_made.calls k _ _ l0 l os e _ HR0.out HC0.out HM.out).mono ?_); rintro e w_16_ ⟨v1, v2, rfl, ho1, ho2, hb_⟩; have n0_ := Aside0.mk (below_step (by repeat (first | (with_reducible first | exact HB.out | apply below_alloc | apply pw_below_drewN | apply below_drew1) | exact HB.out)) hb_); clear HB; have HB := n0_; clear n0_; obtain ⟨A1, c1, rfl⟩ := Kd.R_slice ho1; have HX1 := Aside0.mk (Kd.R_reads' ho1).2.2; have HY1 := Aside0.mk (Kd.R_reads' ho1).2.1; clear ho1; obtain ⟨A2, c2, rfl⟩ := Kd.R_slice ho2; have HX2 := Aside0.mk (Kd.R_reads' ho2).2.2; have HY2 := Aside0.mk (Kd.R_reads' ho2).2.1; clear ho2; clear hb_) | (go_at_call 10; (with_reducible refine (stencillaw07_rooms.calls _ _ l l _ HX1.out HY1.out (rooms_some l (by omega))).mono ?_); clear tok1; rintro e w_10a_ ⟨v3, rfl, ho3, hb_⟩; have n0_ := Aside0.mk (below_step (by repeat (first | (with_reducible first | exact HB.out | apply below_alloc | apply pw_below_drewN | apply below_drew1) | exact HB.out)) hb_); clear HB; have HB := n0_; clear n0_; have t_ := Aside0.mk (Kd.C_below HX1.out hb_); clear HX1; have HX1 := t_; clear t_; have t_ := Aside0.mk (Kd.C_below HX2.out hb_); clear HX2; have HX2 := t_; clear t_; obtain ⟨A3, c3, rfl⟩ := Kd.R_slice ho3; have HX3 := Aside0.mk (Kd.R_reads' ho3).2.2; have HY3 := Aside0.mk (Kd.R_reads' ho3).2.1; clear ho3; clear hb_) | (go_at_call 11; (with_reducible refine (lay_Place.calls _ _ l (-1) os e 0 0 _ HX3.out HY3.out HP.out).mono ?_); clear tok2; rintro e_ w_11a_ ⟨v4, rfl, ho4, hb_⟩; have n0_ := Aside0.mk (below_step (by repeat (first | (with_reducible first | exact HB.out | apply below_alloc | apply pw_below_drewN | apply below_drew1) | exact HB.out)) hb_); clear HB; have HB := n0_; clear n0_; have t_ := Aside0.mk (Kd.C_below HX1.out hb_); clear HX1; have HX1 := t_; clear t_; have t_ := Aside0.mk (Kd.C_below HX2.out hb_); clear HX2; have HX2 := t_; clear t_; obtain ⟨A4, c4, rfl⟩ := Kd.R_slice ho4; have HX4 := Aside0.mk (Kd.R_reads' ho4).2.2; have HY4 := Aside0.mk (Kd.R_reads' ho4).2.1; clear ho4; clear hb_) | (go_at_call 13; (with_reducible refine (stencillaw07_num.calls 0 0 _ (num_some 0)).mono ?_); rintro e w_13_ ⟨rfl, ⟨m1, rfl⟩⟩) | (go_at_call 17; (with_reducible refine (stencillaw07_fixed.calls true _ fixed_yes).mono ?_); rintro e w_17_ ⟨rfl, hb_⟩; have n0_ := Aside0.mk (below_step (by repeat (first | (with_reducible first | exact HB.out | apply below_alloc | apply pw_below_drewN | apply below_drew1) | exact HB.out)) hb_); clear HB; have HB := n0_; clear n0_; have t_ := Aside0.mk (Kd.C_below (by repeat (first | exact HX1.out | (with_reducible refine Kd.C_alloc ?_ _) | (with_reducible refine Kd.C_drewN ?_ _) | (with_reducible refine Kd.C_drew ?_))) hb_); clear HX1; have HX1 := t_; clear t_; have t_ := Aside0.mk (Kd.C_below (by repeat (first | exact HX2.out | (with_reducible refine Kd.C_alloc ?_ _) | (with_reducible refine Kd.C_drewN ?_ _) | (with_reducible refine Kd.C_drew ?_))) hb_); clear HX2; have HX2 := t_; clear t_; skip; clear hb_) | (go_at_call 18; (with_reducible refine (stencillaw07_mod.calls a1 (l.length : Int) (n : Int) _ HI.out).mono ?_); rintro e w_18_ ⟨rfl, ⟨m2, rfl⟩⟩) | (go_at_call 10; (with_reducible refine (stencillaw07_rooms.calls _ _ l l _ (by repeat (first | exact HX1.out | (with_reducible refine Kd.C_alloc ?_ _) | (with_reducible refine Kd.C_drewN ?_ _) | (with_reducible refine Kd.C_drew ?_))) HY1.out (rooms_some l (by omega))).mono ?_); rintro e w_10_ ⟨v5, rfl, ho5, hb_⟩; have ho5' := Kd.R_lower (base' := w.heap.size) ho5 (below_size (by repeat (first | (with_reducible first | exact HB.out | apply below_alloc | apply pw_below_drewN | apply below_drew1) | exact HB.out))); have n0_ := Aside0.mk (below_step (by repeat (first | (with_reducible first | exact HB.out | apply below_alloc | apply pw_below_drewN | apply below_drew1) | exact HB.out)) hb_); clear HB; have HB := n0_; clear n0_; have t_ := Aside0.mk (Kd.C_below (by repeat (first | exact HX1.out | (with_reducible refine Kd.C_alloc ?_ _) | (with_reducible refine Kd.C_drewN ?_ _) | (with_reducible refine Kd.C_drew ?_))) hb_); clear HX1; have HX1 := t_; clear t_; have t_ := Aside0.mk (Kd.C_below (by repeat (first | exact HX2.out | (with_reducible refine Kd.C_alloc ?_ _) | (with_reducible refine Kd.C_drewN ?_ _) | (with_reducible refine Kd.C_drew ?_))) hb_); clear HX2; have HX2 := t_; clear t_; obtain ⟨A5, c5, rfl⟩ := Kd.R_slice ho5;  obtain ⟨g, rfl, hg, hnn, hnc, hx0, hx1, hf0, hf1, _, hs0, hs1⟩ := room_slot ho5' n hn; have hK5 := ho5'; have GB := Aside0.mk hg; have HNC := Aside0.mk hnc; have HS0 := Aside0.mk hs0; have HS1 := Aside0.mk hs1; clear ho5 ho5' hK5 hg hnn hnc hs0 hs1 hb_) | (go_at_call 18; (with_reducible refine (stencillaw07_mod.calls a2 5 _ _ HT.out).mono ?_); rintro e w_18_ ⟨rfl, ⟨m3, rfl⟩⟩) | (go_at_call 18; (with_reducible refine (stencillaw07_mod.calls a2 1000 u _ HU.out).mono ?_); rintro e w_18_ ⟨rfl, ⟨m4, rfl⟩⟩) | (go_at_call 11; (with_reducible refine (lay_Place.calls' _ _ l.length (l.set n ⟨-1 - u, (rd_T39 l (n : Int)).f1⟩) (by simp) (-1) [] 0 73 (n : Int) _ (by repeat (first | exact R_as_C (HS0.out _ _) | (with_reducible refine Kd.C_drewN ?_ _) | (with_reducible refine Kd.C_drew ?_))) HNC.out PS.out).mono ?_); rintro e w_11_ ⟨v6, rfl, ho6, hb_⟩; have n0_ := Aside0.mk (below_step (by repeat (first | (with_reducible first | exact HB.out | apply below_alloc | apply pw_below_drewN | apply below_drew1 | refine below_set ?_ GB.out) | exact HB.out)) hb_); clear HB; have HB := n0_; clear n0_; obtain ⟨A6, c6, rfl⟩ := Kd.R_slice ho6; have HX6 := Aside0.mk (Kd.R_reads' ho6).2.2; have HY6 := Aside0.mk (Kd.R_reads' ho6).2.1; clear ho6; clear hb_) | (go_at_call 13; (with_reducible refine (stencillaw07_num.calls 73 73 _ (num_some 73)).mono ?_); rintro e w_13_ ⟨rfl, ⟨m6, rfl⟩⟩))
  go_ret
  exact ⟨by simp, (by repeat (first | (with_reducible first | exact HB.out | apply below_alloc | apply pw_below_drewN | apply below_drew1 | refine below_set ?_ GB.out) | exact HB.out))⟩

set_option maxHeartbeats 2000000 in
set_option maxRecDepth 100000 in
theorem stencillaw07_LayRefuses.c1 (k : Nat) (A0 : Option Addr) (c0 : Nat) (l0 : List S57) (l : List S39) (os : List Int) (e a1 a2 u : Int) (n : Nat) (w : World) (hr0 : Kd.C k57 w A0 l0.length l0) (hc0 : l0.length ≤ c0)
    (hm : stencillaw07_made.f k l0 = some (l, os, e)) (hp : lay_Place.f l (-1) = some (os, e, 0, 0)) (hl : l.length ≤ 60) (hn : n < l.length) (hlo : os.length = l.length) (hi : stencillaw07_mod.f a1 (l.length : Int) = some (n : Int)) (ht : stencillaw07_mod.f a2 5 = some 1) (hu : stencillaw07_mod.f a2 1000 = some u)  (hu0 : 0 ≤ u) (hu1 : u < 1000) (hps : lay_Place.f (l.set n ⟨(rd_T39 l (n : Int)).f0, -2 - u⟩) (-1) = some ([], 0, 73, (n : Int))) :
    Calls Try.prog 4 #[.slice A0 l0.length c0, .int .i64 a1, .int .i64 a2] w fun e w' => e = .returned (.bool true) ∧ Below w.heap.size w w' := by
  have hu39 := Try.underlying39
  have HR0 := Aside0.mk hr0
  have HC0 := Aside0.mk hc0
  have HM := Aside0.mk hm
  have HP := Aside0.mk hp
  have HI := Aside0.mk hi
  have HT := Aside0.mk ht
  have HU := Aside0.mk hu
  have PS := Aside0.mk hps
  clear hps
  have hz : ((l.length : Int) == 0) = false := beq_eq_false_iff_ne.2 (by omega)
  have hz' : (l.length == 0) = false := beq_eq_false_iff_ne.2 (by omega)
  have HLO := Aside0.mk hlo
  clear hr0 hc0 hm hp hi ht hu hlo
  have HB := Aside0.mk (Below.refl w.heap.size w)
  have tok1 : Aside0 True := ⟨trivial⟩
  have tok2 : Aside0 True := ⟨trivial⟩
  go_enter Try.func4, Try.ntmps4
  go_wp2_with (first | (go_at_call 16; (with_reducible refine (stencillaw07_made.calls k _ _ l0 l os e _ HR0.out HC0.out HM.out).mono ?_); rintro e w_16_ ⟨v1, v2, rfl, ho1, ho2, hb_⟩; have n0_ := Aside0.mk (below_step (by repeat (first | (with_reducible first | exact HB.out | apply below_alloc | apply pw_below_drewN | apply below_drew1) | exact HB.out)) hb_); clear HB; have HB := n0_; clear n0_; obtain ⟨A1, c1, rfl⟩ := Kd.R_slice ho1; have HX1 := Aside0.mk (Kd.R_reads' ho1).2.2; have HY1 := Aside0.mk (Kd.R_reads' ho1).2.1; clear ho1; obtain ⟨A2, c2, rfl⟩ := Kd.R_slice ho2; have HX2 := Aside0.mk (Kd.R_reads' ho2).2.2; have HY2 := Aside0.mk (Kd.R_reads' ho2).2.1; clear ho2; clear hb_) | (go_at_call 10; (with_reducible refine (stencillaw07_rooms.calls _ _ l l _ HX1.out HY1.out (rooms_some l (by omega))).mono ?_); clear tok1; rintro e w_10a_ ⟨v3, rfl, ho3, hb_⟩; have n0_ := Aside0.mk (below_step (by repeat (first | (with_reducible first | exact HB.out | apply below_alloc | apply pw_below_drewN | apply below_drew1) | exact HB.out)) hb_); clear HB; have HB := n0_; clear n0_; have t_ := Aside0.mk (Kd.C_below HX1.out hb_); clear HX1; have HX1 := t_; clear t_; have t_ := Aside0.mk (Kd.C_below HX2.out hb_); clear HX2; have HX2 := t_; clear t_; obtain ⟨A3, c3, rfl⟩ := Kd.R_slice ho3; have HX3 := Aside0.mk (Kd.R_reads' ho3).2.2; have HY3 := Aside0.mk (Kd.R_reads' ho3).2.1; clear ho3; clear hb_) | (go_at_call 11; (with_reducible refine (lay_Place.calls _ _ l (-1) os e 0 0 _ HX3.out HY3.out HP.out).mono ?_); clear tok2; rintro e_ w_11a_ ⟨v4, rfl, ho4, hb_⟩; have n0_ := Aside0.mk (below_step (by repeat (first | (with_reducible first | exact HB.out | apply below_alloc | apply pw_below_drewN | apply below_drew1) | exact HB.out)) hb_); clear HB; have HB := n0_; clear n0_; have t_ := Aside0.mk (Kd.C_below HX1.out hb_); clear HX1; have HX1 := t_; clear t_; have t_ := Aside0.mk (Kd.C_below HX2.out hb_); clear HX2; have HX2 := t_; clear t_; obtain ⟨A4, c4, rfl⟩ := Kd.R_slice ho4; have HX4 := Aside0.mk (Kd.R_reads' ho4).2.2; have HY4 := Aside0.mk (Kd.R_reads' ho4).2.1; clear ho4; clear hb_) | (go_at_call 13; (with_reducible refine (stencillaw07_num.calls 0 0 _ (num_some 0)).mono ?_); rintro e w_13_ ⟨rfl, ⟨m1, rfl⟩⟩) | (go_at_call 17; (with_reducible refine (stencillaw07_fixed.calls true _ fixed_yes).mono ?_); rintro e w_17_ ⟨rfl, hb_⟩; have n0_ := Aside0.mk (below_step (by repeat (first | (with_reducible first | exact HB.out | apply below_alloc | apply pw_below_drewN | apply below_drew1) | exact HB.out)) hb_); clear HB; have HB := n0_; clear n0_; have t_ := Aside0.mk (Kd.C_below (by repeat (first | exact HX1.out | (with_reducible refine Kd.C_alloc ?_ _) | (with_reducible refine Kd.C_drewN ?_ _) | (with_reducible refine Kd.C_drew ?_))) hb_); clear HX1; have HX1 := t_; clear t_; have t_ := Aside0.mk (Kd.C_below (by repeat (first | exact HX2.out | (with_reducible refine Kd.C_alloc ?_ _) | (with_reducible refine Kd.C_drewN ?_ _) | (with_reducible refine Kd.C_drew ?_))) hb_); clear HX2; have HX2 := t_; clear t_; skip; clear hb_) | (go_at_call 18; (with_reducible refine (stencillaw07_mod.calls a1 (l.length : Int) (n : Int) _ HI.out).mono ?_); rintro e w_18_ ⟨rfl, ⟨m2, rfl⟩⟩) | (go_at_call 10; (with_reducible refine (stencillaw07_rooms.calls _ _ l l _ (by repeat (first | exact HX1.out | (with_reducible refine Kd.C_alloc ?_ _) | (with_reducible refine Kd.C_drewN ?_ _) | (with_reducible refine Kd.C_drew ?_))) HY1.out (rooms_some l (by omega))).mono ?_); rintro e w_10_ ⟨v5, rfl, ho5, hb_⟩; have ho5' := Kd.R_lower (base' := w.heap.size) ho5 (below_size (by repeat (first | (with_reducible first | exact HB.out | apply below_alloc | apply pw_below_drewN | apply below_drew1) | exact HB.out))); have n0_ := Aside0.mk (below_step (by repeat (first | (with_reducible first | exact HB.out | apply below_alloc | apply pw_below_drewN | apply below_drew1) | exact HB.out)) hb_); clear HB; have HB := n0_; clear n0_; have t_ := Aside0.mk (Kd.C_below (by repeat (first | exact HX1.out | (with_reducible refine Kd.C_alloc ?_ _) | (with_reducible refine Kd.C_drewN ?_ _) | (with_reducible refine Kd.C_drew ?_))) hb_); clear HX1; have HX1 := t_; clear t_; have t_ := Aside0.mk (Kd.C_below (by repeat (first | exact HX2.out | (with_reducible refine Kd.C_alloc ?_ _) | (with_reducible refine Kd.C_drewN ?_ _) | (with_reducible refine Kd.C_drew ?_))) hb_); clear HX2; have HX2 := t_; clear t_; obtain ⟨A5, c5, rfl⟩ := Kd.R_slice ho5;  obtain ⟨g, rfl, hg, hnn, hnc, hx0, hx1, hf0, hf1, _, hs0, hs1⟩ := room_slot ho5' n hn; have hK5 := ho5'; have GB := Aside0.mk hg; have HNC := Aside0.mk hnc; have HS0 := Aside0.mk hs0; have HS1 := Aside0.mk hs1; clear ho5 ho5' hK5 hg hnn hnc hs0 hs1 hb_) | (go_at_call 18; (with_reducible refine (stencillaw07_mod.calls a2 5 _ _ HT.out).mono ?_); rintro e w_18_ ⟨rfl, ⟨m3, rfl⟩⟩) | (go_at_call 18; (with_reducible refine (stencillaw07_mod.calls a2 1000 u _ HU.out).mono ?_); rintro e w_18_ ⟨rfl, ⟨m4, rfl⟩⟩) | (go_at_call 11; (with_reducible refine (lay_Place.calls' _ _ l.length (l.set n ⟨(rd_T39 l (n : Int)).f0, -2 - u⟩) (by simp) (-1) [] 0 73 (n : Int) _ (by repeat (first | exact R_as_C (HS1.out _ _) | (with_reducible refine Kd.C_drewN ?_ _) | (with_reducible refine Kd.C_drew ?_))) HNC.out PS.out).mono ?_); rintro e w_11_ ⟨v6, rfl, ho6, hb_⟩; have n0_ := Aside0.mk (below_step (by repeat (first | (with_reducible first | exact HB.out | apply below_alloc | apply pw_below_drewN | apply below_drew1 | refine below_set ?_ GB.out) | exact HB.out)) hb_); clear HB; have HB := n0_; clear n0_; obtain ⟨A6, c6, rfl⟩ := Kd.R_slice ho6; have HX6 := Aside0.mk (Kd.R_reads' ho6).2.2; have HY6 := Aside0.mk (Kd.R_reads' ho6).2.1; clear ho6; clear hb_) | (go_at_call 13; (with_reducible refine (stencillaw07_num.calls 73 73 _ (num_some 73)).mono ?_); rintro e w_13_ ⟨rfl, ⟨m6, rfl⟩⟩))
  go_ret
  exact ⟨by simp, (by repeat (first | (with_reducible first | exact HB.out | apply below_alloc | apply pw_below_drewN | apply below_drew1 | refine below_set ?_ GB.out) | exact HB.out))⟩

set_option maxHeartbeats 2000000 in
set_option maxRecDepth 100000 in
theorem stencillaw07_LayRefuses.c2 (k : Nat) (A0 : Option Addr) (c0 : Nat) (l0 : List S57) (l : List S39) (os : List Int) (e a1 a2 u : Int) (n : Nat) (w : World) (hr0 : Kd.C k57 w A0 l0.length l0) (hc0 : l0.length ≤ c0)
    (hm : stencillaw07_made.f k l0 = some (l, os, e)) (hp : lay_Place.f l (-1) = some (os, e, 0, 0)) (hl : l.length ≤ 60) (hn : n < l.length) (hlo : os.length = l.length) (hi : stencillaw07_mod.f a1 (l.length : Int) = some (n : Int)) (ht : stencillaw07_mod.f a2 5 = some 2) (hu : stencillaw07_mod.f a2 1000 = some u)  (o : Int) (ho : rd os (n : Int) = o) (ho0 : 0 ≤ o) (ho1 : o ≤ 65535) (hno : n < os.length) (hps : lay_Place.f (l.set n ⟨65536 - o, (rd_T39 l (n : Int)).f1⟩) (-1) = some ([], 0, 72, (n : Int))) :
    Calls Try.prog 4 #[.slice A0 l0.length c0, .int .i64 a1, .int .i64 a2] w fun e w' => e = .returned (.bool true) ∧ Below w.heap.size w w' := by
  have hu39 := Try.underlying39
  have HR0 := Aside0.mk hr0
  have HC0 := Aside0.mk hc0
  have HM := Aside0.mk hm
  have HP := Aside0.mk hp
  have HI := Aside0.mk hi
  have HT := Aside0.mk ht
  have HU := Aside0.mk hu
  have HO_ := Aside0.mk ho
  clear ho
  have PS := Aside0.mk hps
  clear hps
  have hz : ((l.length : Int) == 0) = false := beq_eq_false_iff_ne.2 (by omega)
  have hz' : (l.length == 0) = false := beq_eq_false_iff_ne.2 (by omega)
  have HLO := Aside0.mk hlo
  clear hr0 hc0 hm hp hi ht hu hlo
  have HB := Aside0.mk (Below.refl w.heap.size w)
  have tok1 : Aside0 True := ⟨trivial⟩
  have tok2 : Aside0 True := ⟨trivial⟩
  go_enter Try.func4, Try.ntmps4
  go_wp2_with (first | (go_at_call 16; (with_reducible refine (stencillaw07_made.calls k _ _ l0 l os e _ HR0.out HC0.out HM.out).mono ?_); rintro e w_16_ ⟨v1, v2, rfl, ho1, ho2, hb_⟩; have n0_ := Aside0.mk (below_step (by repeat (first | (with_reducible first | exact HB.out | apply below_alloc | apply pw_below_drewN | apply below_drew1) | exact HB.out)) hb_); clear HB; have HB := n0_; clear n0_; obtain ⟨A1, c1, rfl⟩ := Kd.R_slice ho1; have HX1 := Aside0.mk (Kd.R_reads' ho1).2.2; have HY1 := Aside0.mk (Kd.R_reads' ho1).2.1; clear ho1; obtain ⟨A2, c2, rfl⟩ := Kd.R_slice ho2; have HX2 := Aside0.mk (Kd.R_reads' ho2).2.2; have HY2 := Aside0.mk (Kd.R_reads' ho2).2.1; clear ho2; clear hb_) | (go_at_call 10; (with_reducible refine (stencillaw07_rooms.calls _ _ l l _ HX1.out HY1.out (rooms_some l (by omega))).mono ?_); clear tok1; rintro e w_10a_ ⟨v3, rfl, ho3, hb_⟩; have n0_ := Aside0.mk (below_step (by repeat (first | (with_reducible first | exact HB.out | apply below_alloc | apply pw_below_drewN | apply below_drew1) | exact HB.out)) hb_); clear HB; have HB := n0_; clear n0_; have t_ := Aside0.mk (Kd.C_below HX1.out hb_); clear HX1; have HX1 := t_; clear t_; have t_ := Aside0.mk (Kd.C_below HX2.out hb_); clear HX2; have HX2 := t_; clear t_; obtain ⟨A3, c3, rfl⟩ := Kd.R_slice ho3; have HX3 := Aside0.mk (Kd.R_reads' ho3).2.2; have HY3 := Aside0.mk (Kd.R_reads' ho3).2.1; clear ho3; clear hb_) | (go_at_call 11; (with_reducible refine (lay_Place.calls _ _ l (-1) os e 0 0 _ HX3.out HY3.out HP.out).mono ?_); clear tok2; rintro e_ w_11a_ ⟨v4, rfl, ho4, hb_⟩; have n0_ := Aside0.mk (below_step (by repeat (first | (with_reducible first | exact HB.out | apply below_alloc | apply pw_below_drewN | apply below_drew1) | exact HB.out)) hb_); clear HB; have HB := n0_; clear n0_; have t_ := Aside0.mk (Kd.C_below HX1.out hb_); clear HX1; have HX1 := t_; clear t_; have t_ := Aside0.mk (Kd.C_below HX2.out hb_); clear HX2; have HX2 := t_; clear t_; obtain ⟨A4, c4, rfl⟩ := Kd.R_slice ho4; have HX4 := Aside0.mk (Kd.R_reads' ho4).2.2; have HY4 := Aside0.mk (Kd.R_reads' ho4).2.1; clear ho4; clear hb_) | (go_at_call 13; (with_reducible refine (stencillaw07_num.calls 0 0 _ (num_some 0)).mono ?_); rintro e w_13_ ⟨rfl, ⟨m1, rfl⟩⟩) | (go_at_call 17; (with_reducible refine (stencillaw07_fixed.calls true _ fixed_yes).mono ?_); rintro e w_17_ ⟨rfl, hb_⟩; have n0_ := Aside0.mk (below_step (by repeat (first | (with_reducible first | exact HB.out | apply below_alloc | apply pw_below_drewN | apply below_drew1) | exact HB.out)) hb_); clear HB; have HB := n0_; clear n0_; have t_ := Aside0.mk (Kd.C_below (by repeat (first | exact HX1.out | (with_reducible refine Kd.C_alloc ?_ _) | (with_reducible refine Kd.C_drewN ?_ _) | (with_reducible refine Kd.C_drew ?_))) hb_); clear HX1; have HX1 := t_; clear t_; have t_ := Aside0.mk (Kd.C_below (by repeat (first | exact HX2.out | (with_reducible refine Kd.C_alloc ?_ _) | (with_reducible refine Kd.C_drewN ?_ _) | (with_reducible refine Kd.C_drew ?_))) hb_); clear HX2; have HX2 := t_; clear t_; skip; clear hb_) | (go_at_call 18; (with_reducible refine (stencillaw07_mod.calls a1 (l.length : Int) (n : Int) _ HI.out).mono ?_); rintro e w_18_ ⟨rfl, ⟨m2, rfl⟩⟩) | (go_at_call 10; (with_reducible refine (stencillaw07_rooms.calls _ _ l l _ (by repeat (first | exact HX1.out | (with_reducible refine Kd.C_alloc ?_ _) | (with_reducible refine Kd.C_drewN ?_ _) | (with_reducible refine Kd.C_drew ?_))) HY1.out (rooms_some l (by omega))).mono ?_); rintro e w_10_ ⟨v5, rfl, ho5, hb_⟩; have ho5' := Kd.R_lower (base' := w.heap.size) ho5 (below_size (by repeat (first | (with_reducible first | exact HB.out | apply below_alloc | apply pw_below_drewN | apply below_drew1) | exact HB.out))); have n0_ := Aside0.mk (below_step (by repeat (first | (with_reducible first | exact HB.out | apply below_alloc | apply pw_below_drewN | apply below_drew1) | exact HB.out)) hb_); clear HB; have HB := n0_; clear n0_; have t_ := Aside0.mk (Kd.C_below (by repeat (first | exact HX1.out | (with_reducible refine Kd.C_alloc ?_ _) | (with_reducible refine Kd.C_drewN ?_ _) | (with_reducible refine Kd.C_drew ?_))) hb_); clear HX1; have HX1 := t_; clear t_; have t_ := Aside0.mk (Kd.C_below (by repeat (first | exact HX2.out | (with_reducible refine Kd.C_alloc ?_ _) | (with_reducible refine Kd.C_drewN ?_ _) | (with_reducible refine Kd.C_drew ?_))) hb_); clear HX2; have HX2 := t_; clear t_; obtain ⟨A5, c5, rfl⟩ := Kd.R_slice ho5;  obtain ⟨g, rfl, hg, hnn, hnc, hx0, hx1, hf0, hf1, _, hs0, hs1⟩ := room_slot ho5' n hn; have hK5 := ho5'; have GB := Aside0.mk hg; have HNC := Aside0.mk hnc; have HS0 := Aside0.mk hs0; have HS1 := Aside0.mk hs1; clear ho5 ho5' hK5 hg hnn hnc hs0 hs1 hb_; obtain ⟨ad2, rfl, hy2⟩ := Kd.at_int HX2.out (n : Int) (by omega) (by omega); rw [HO_.out] at hy2; simp only [Int.toNat_natCast] at hy2) | (go_at_call 18; (with_reducible refine (stencillaw07_mod.calls a2 5 _ _ HT.out).mono ?_); rintro e w_18_ ⟨rfl, ⟨m3, rfl⟩⟩) | (go_at_call 18; (with_reducible refine (stencillaw07_mod.calls a2 1000 u _ HU.out).mono ?_); rintro e w_18_ ⟨rfl, ⟨m4, rfl⟩⟩) | (go_at_call 11; (with_reducible refine (lay_Place.calls' _ _ l.length (l.set n ⟨65536 - o, (rd_T39 l (n : Int)).f1⟩) (by simp) (-1) [] 0 72 (n : Int) _ (by repeat (first | exact R_as_C (HS0.out _ _) | (with_reducible refine Kd.C_drewN ?_ _) | (with_reducible refine Kd.C_drew ?_))) HNC.out PS.out).mono ?_); rintro e w_11_ ⟨v6, rfl, ho6, hb_⟩; have n0_ := Aside0.mk (below_step (by repeat (first | (with_reducible first | exact HB.out | apply below_alloc | apply pw_below_drewN | apply below_drew1 | refine below_set ?_ GB.out) | exact HB.out)) hb_); clear HB; have HB := n0_; clear n0_; obtain ⟨A6, c6, rfl⟩ := Kd.R_slice ho6; have HX6 := Aside0.mk (Kd.R_reads' ho6).2.2; have HY6 := Aside0.mk (Kd.R_reads' ho6).2.1; clear ho6; clear hb_) | (go_at_call 13; (with_reducible refine (stencillaw07_num.calls 72 72 _ (num_some 72)).mono ?_); rintro e w_13_ ⟨rfl, ⟨m6, rfl⟩⟩))
  go_ret
  exact ⟨by simp, (by repeat (first | (with_reducible first | exact HB.out | apply below_alloc | apply pw_below_drewN | apply below_drew1 | refine below_set ?_ GB.out) | exact HB.out))⟩

set_option maxHeartbeats 2000000 in
set_option maxRecDepth 100000 in
theorem stencillaw07_LayRefuses.c3a (k : Nat) (A0 : Option Addr) (c0 : Nat) (l0 : List S57) (l : List S39) (os : List Int) (e a1 a2 u : Int) (n : Nat) (w : World) (hr0 : Kd.C k57 w A0 l0.length l0) (hc0 : l0.length ≤ c0)
    (hm : stencillaw07_made.f k l0 = some (l, os, e)) (hp : lay_Place.f l (-1) = some (os, e, 0, 0)) (hl : l.length ≤ 60) (hn : n < l.length) (hlo : os.length = l.length) (hi : stencillaw07_mod.f a1 (l.length : Int) = some (n : Int)) (ht : stencillaw07_mod.f a2 5 = some 3) (hu : stencillaw07_mod.f a2 1000 = some u)  (s0 : Int) (hf0_ : (rd_T39 l (n : Int)).f0 = s0) (hfb : (s0 == 0) = false) (hps : lay_Place.f (l.set n ⟨s0, 9223372036854775807⟩) (-1) = some ([], 0, 72, (n : Int))) :
    Calls Try.prog 4 #[.slice A0 l0.length c0, .int .i64 a1, .int .i64 a2] w fun e w' => e = .returned (.bool true) ∧ Below w.heap.size w w' := by
  have hu39 := Try.underlying39
  have HR0 := Aside0.mk hr0
  have HC0 := Aside0.mk hc0
  have HM := Aside0.mk hm
  have HP := Aside0.mk hp
  have HI := Aside0.mk hi
  have HT := Aside0.mk ht
  have HU := Aside0.mk hu
  have HF_ := Aside0.mk hf0_
  clear hf0_
  have PS := Aside0.mk hps
  clear hps
  have hz : ((l.length : Int) == 0) = false := beq_eq_false_iff_ne.2 (by omega)
  have hz' : (l.length == 0) = false := beq_eq_false_iff_ne.2 (by omega)
  have HLO := Aside0.mk hlo
  clear hr0 hc0 hm hp hi ht hu hlo
  have HB := Aside0.mk (Below.refl w.heap.size w)
  have tok1 : Aside0 True := ⟨trivial⟩
  have tok2 : Aside0 True := ⟨trivial⟩
  go_enter Try.func4, Try.ntmps4
  go_wp2_with (first | (go_at_call 16; (with_reducible refine (stencillaw07_made.calls k _ _ l0 l os e _ HR0.out HC0.out HM.out).mono ?_); rintro e w_16_ ⟨v1, v2, rfl, ho1, ho2, hb_⟩; have n0_ := Aside0.mk (below_step (by repeat (first | (with_reducible first | exact HB.out | apply below_alloc | apply pw_below_drewN | apply below_drew1) | exact HB.out)) hb_); clear HB; have HB := n0_; clear n0_; obtain ⟨A1, c1, rfl⟩ := Kd.R_slice ho1; have HX1 := Aside0.mk (Kd.R_reads' ho1).2.2; have HY1 := Aside0.mk (Kd.R_reads' ho1).2.1; clear ho1; obtain ⟨A2, c2, rfl⟩ := Kd.R_slice ho2; have HX2 := Aside0.mk (Kd.R_reads' ho2).2.2; have HY2 := Aside0.mk (Kd.R_reads' ho2).2.1; clear ho2; clear hb_) | (go_at_call 10; (with_reducible refine (stencillaw07_rooms.calls _ _ l l _ HX1.out HY1.out (rooms_some l (by omega))).mono ?_); clear tok1; rintro e w_10a_ ⟨v3, rfl, ho3, hb_⟩; have n0_ := Aside0.mk (below_step (by repeat (first | (with_reducible first | exact HB.out | apply below_alloc | apply pw_below_drewN | apply below_drew1) | exact HB.out)) hb_); clear HB; have HB := n0_; clear n0_; have t_ := Aside0.mk (Kd.C_below HX1.out hb_); clear HX1; have HX1 := t_; clear t_; have t_ := Aside0.mk (Kd.C_below HX2.out hb_); clear HX2; have HX2 := t_; clear t_; obtain ⟨A3, c3, rfl⟩ := Kd.R_slice ho3; have HX3 := Aside0.mk (Kd.R_reads' ho3).2.2; have HY3 := Aside0.mk (Kd.R_reads' ho3).2.1; clear ho3; clear hb_) | (go_at_call 11; (with_reducible refine (lay_Place.calls _ _ l (-1) os e 0 0 _ HX3.out HY3.out HP.out).mono ?_); clear tok2; rintro e_ w_11a_ ⟨v4, rfl, ho4, hb_⟩; have n0_ := Aside0.mk (below_step (by repeat (first | (with_reducible first | exact HB.out | apply below_alloc | apply pw_below_drewN | apply below_drew1) | exact HB.out)) hb_); clear HB; have HB := n0_; clear n0_; have t_ := Aside0.mk (Kd.C_below HX1.out hb_); clear HX1; have HX1 := t_; clear t_; have t_ := Aside0.mk (Kd.C_below HX2.out hb_); clear HX2; have HX2 := t_; clear t_; obtain ⟨A4, c4, rfl⟩ := Kd.R_slice ho4; have HX4 := Aside0.mk (Kd.R_reads' ho4).2.2; have HY4 := Aside0.mk (Kd.R_reads' ho4).2.1; clear ho4; clear hb_) | (go_at_call 13; (with_reducible refine (stencillaw07_num.calls 0 0 _ (num_some 0)).mono ?_); rintro e w_13_ ⟨rfl, ⟨m1, rfl⟩⟩) | (go_at_call 17; (with_reducible refine (stencillaw07_fixed.calls true _ fixed_yes).mono ?_); rintro e w_17_ ⟨rfl, hb_⟩; have n0_ := Aside0.mk (below_step (by repeat (first | (with_reducible first | exact HB.out | apply below_alloc | apply pw_below_drewN | apply below_drew1) | exact HB.out)) hb_); clear HB; have HB := n0_; clear n0_; have t_ := Aside0.mk (Kd.C_below (by repeat (first | exact HX1.out | (with_reducible refine Kd.C_alloc ?_ _) | (with_reducible refine Kd.C_drewN ?_ _) | (with_reducible refine Kd.C_drew ?_))) hb_); clear HX1; have HX1 := t_; clear t_; have t_ := Aside0.mk (Kd.C_below (by repeat (first | exact HX2.out | (with_reducible refine Kd.C_alloc ?_ _) | (with_reducible refine Kd.C_drewN ?_ _) | (with_reducible refine Kd.C_drew ?_))) hb_); clear HX2; have HX2 := t_; clear t_; skip; clear hb_) | (go_at_call 18; (with_reducible refine (stencillaw07_mod.calls a1 (l.length : Int) (n : Int) _ HI.out).mono ?_); rintro e w_18_ ⟨rfl, ⟨m2, rfl⟩⟩) | (go_at_call 10; (with_reducible refine (stencillaw07_rooms.calls _ _ l l _ (by repeat (first | exact HX1.out | (with_reducible refine Kd.C_alloc ?_ _) | (with_reducible refine Kd.C_drewN ?_ _) | (with_reducible refine Kd.C_drew ?_))) HY1.out (rooms_some l (by omega))).mono ?_); rintro e w_10_ ⟨v5, rfl, ho5, hb_⟩; have ho5' := Kd.R_lower (base' := w.heap.size) ho5 (below_size (by repeat (first | (with_reducible first | exact HB.out | apply below_alloc | apply pw_below_drewN | apply below_drew1) | exact HB.out))); have n0_ := Aside0.mk (below_step (by repeat (first | (with_reducible first | exact HB.out | apply below_alloc | apply pw_below_drewN | apply below_drew1) | exact HB.out)) hb_); clear HB; have HB := n0_; clear n0_; have t_ := Aside0.mk (Kd.C_below (by repeat (first | exact HX1.out | (with_reducible refine Kd.C_alloc ?_ _) | (with_reducible refine Kd.C_drewN ?_ _) | (with_reducible refine Kd.C_drew ?_))) hb_); clear HX1; have HX1 := t_; clear t_; have t_ := Aside0.mk (Kd.C_below (by repeat (first | exact HX2.out | (with_reducible refine Kd.C_alloc ?_ _) | (with_reducible refine Kd.C_drewN ?_ _) | (with_reducible refine Kd.C_drew ?_))) hb_); clear HX2; have HX2 := t_; clear t_; obtain ⟨A5, c5, rfl⟩ := Kd.R_slice ho5;  obtain ⟨g, rfl, hg, hnn, hnc, hx0, hx1, hf0, hf1, _, hs0, hs1⟩ := room_slot ho5' n hn; have hK5 := ho5'; have GB := Aside0.mk hg; have HNC := Aside0.mk hnc; have HS0 := Aside0.mk hs0; have HS1 := Aside0.mk hs1; clear ho5 ho5' hK5 hg hnn hnc hs0 hs1 hb_; rw [HF_.out] at hx0) | (go_at_call 18; (with_reducible refine (stencillaw07_mod.calls a2 5 _ _ HT.out).mono ?_); rintro e w_18_ ⟨rfl, ⟨m3, rfl⟩⟩) | (go_at_call 18; (with_reducible refine (stencillaw07_mod.calls a2 1000 u _ HU.out).mono ?_); rintro e w_18_ ⟨rfl, ⟨m4, rfl⟩⟩) | (go_at_call 11; (with_reducible refine (lay_Place.calls' _ _ l.length (l.set n ⟨s0, 9223372036854775807⟩) (by simp) (-1) [] 0 72 (n : Int) _ (by repeat (first | exact R_as_C (HF_.out ▸ HS1.out _ _) | (with_reducible refine Kd.C_drewN ?_ _) | (with_reducible refine Kd.C_drew ?_))) HNC.out PS.out).mono ?_); rintro e w_11_ ⟨v6, rfl, ho6, hb_⟩; have n0_ := Aside0.mk (below_step (by repeat (first | (with_reducible first | exact HB.out | apply below_alloc | apply pw_below_drewN | apply below_drew1 | refine below_set ?_ GB.out) | exact HB.out)) hb_); clear HB; have HB := n0_; clear n0_; obtain ⟨A6, c6, rfl⟩ := Kd.R_slice ho6; have HX6 := Aside0.mk (Kd.R_reads' ho6).2.2; have HY6 := Aside0.mk (Kd.R_reads' ho6).2.1; clear ho6; clear hb_) | (go_at_call 13; (with_reducible refine (stencillaw07_num.calls 72 72 _ (num_some 72)).mono ?_); rintro e w_13_ ⟨rfl, ⟨m6, rfl⟩⟩))
  go_ret
  exact ⟨by simp, (by repeat (first | (with_reducible first | exact HB.out | apply below_alloc | apply pw_below_drewN | apply below_drew1 | refine below_set ?_ GB.out) | exact HB.out))⟩

set_option maxHeartbeats 2000000 in
set_option maxRecDepth 100000 in
theorem stencillaw07_LayRefuses.c3b (k : Nat) (A0 : Option Addr) (c0 : Nat) (l0 : List S57) (l : List S39) (os : List Int) (e a1 a2 u : Int) (n : Nat) (w : World) (hr0 : Kd.C k57 w A0 l0.length l0) (hc0 : l0.length ≤ c0)
    (hm : stencillaw07_made.f k l0 = some (l, os, e)) (hp : lay_Place.f l (-1) = some (os, e, 0, 0)) (hl : l.length ≤ 60) (hn : n < l.length) (hlo : os.length = l.length) (hi : stencillaw07_mod.f a1 (l.length : Int) = some (n : Int)) (ht : stencillaw07_mod.f a2 5 = some 3) (hu : stencillaw07_mod.f a2 1000 = some u)  (s0 : Int) (hf0_ : (rd_T39 l (n : Int)).f0 = s0) (hfb : (s0 == 0) = true) (hps : lay_Place.f (l.set n ⟨1, 9223372036854775807⟩) (-1) = some ([], 0, 72, (n : Int))) :
    Calls Try.prog 4 #[.slice A0 l0.length c0, .int .i64 a1, .int .i64 a2] w fun e w' => e = .returned (.bool true) ∧ Below w.heap.size w w' := by
  have hu39 := Try.underlying39
  have HR0 := Aside0.mk hr0
  have HC0 := Aside0.mk hc0
  have HM := Aside0.mk hm
  have HP := Aside0.mk hp
  have HI := Aside0.mk hi
  have HT := Aside0.mk ht
  have HU := Aside0.mk hu
  have HF_ := Aside0.mk hf0_
  clear hf0_
  have PS := Aside0.mk hps
  clear hps
  have hz : ((l.length : Int) == 0) = false := beq_eq_false_iff_ne.2 (by omega)
  have hz' : (l.length == 0) = false := beq_eq_false_iff_ne.2 (by omega)
  have HLO := Aside0.mk hlo
  clear hr0 hc0 hm hp hi ht hu hlo
  have HB := Aside0.mk (Below.refl w.heap.size w)
  have tok1 : Aside0 True := ⟨trivial⟩
  have tok2 : Aside0 True := ⟨trivial⟩
  go_enter Try.func4, Try.ntmps4
  go_wp2_with (first | (go_at_call 16; (with_reducible refine (stencillaw07_made.calls k _ _ l0 l os e _ HR0.out HC0.out HM.out).mono ?_); rintro e w_16_ ⟨v1, v2, rfl, ho1, ho2, hb_⟩; have n0_ := Aside0.mk (below_step (by repeat (first | (with_reducible first | exact HB.out | apply below_alloc | apply pw_below_drewN | apply below_drew1) | exact HB.out)) hb_); clear HB; have HB := n0_; clear n0_; obtain ⟨A1, c1, rfl⟩ := Kd.R_slice ho1; have HX1 := Aside0.mk (Kd.R_reads' ho1).2.2; have HY1 := Aside0.mk (Kd.R_reads' ho1).2.1; clear ho1; obtain ⟨A2, c2, rfl⟩ := Kd.R_slice ho2; have HX2 := Aside0.mk (Kd.R_reads' ho2).2.2; have HY2 := Aside0.mk (Kd.R_reads' ho2).2.1; clear ho2; clear hb_) | (go_at_call 10; (with_reducible refine (stencillaw07_rooms.calls _ _ l l _ HX1.out HY1.out (rooms_some l (by omega))).mono ?_); clear tok1; rintro e w_10a_ ⟨v3, rfl, ho3, hb_⟩; have n0_ := Aside0.mk (below_step (by repeat (first | (with_reducible first | exact HB.out | apply below_alloc | apply pw_below_drewN | apply below_drew1) | exact HB.out)) hb_); clear HB; have HB := n0_; clear n0_; have t_ := Aside0.mk (Kd.C_below HX1.out hb_); clear HX1; have HX1 := t_; clear t_; have t_ := Aside0.mk (Kd.C_below HX2.out hb_); clear HX2; have HX2 := t_; clear t_; obtain ⟨A3, c3, rfl⟩ := Kd.R_slice ho3; have HX3 := Aside0.mk (Kd.R_reads' ho3).2.2; have HY3 := Aside0.mk (Kd.R_reads' ho3).2.1; clear ho3; clear hb_) | (go_at_call 11; (with_reducible refine (lay_Place.calls _ _ l (-1) os e 0 0 _ HX3.out HY3.out HP.out).mono ?_); clear tok2; rintro e_ w_11a_ ⟨v4, rfl, ho4, hb_⟩; have n0_ := Aside0.mk (below_step (by repeat (first | (with_reducible first | exact HB.out | apply below_alloc | apply pw_below_drewN | apply below_drew1) | exact HB.out)) hb_); clear HB; have HB := n0_; clear n0_; have t_ := Aside0.mk (Kd.C_below HX1.out hb_); clear HX1; have HX1 := t_; clear t_; have t_ := Aside0.mk (Kd.C_below HX2.out hb_); clear HX2; have HX2 := t_; clear t_; obtain ⟨A4, c4, rfl⟩ := Kd.R_slice ho4; have HX4 := Aside0.mk (Kd.R_reads' ho4).2.2; have HY4 := Aside0.mk (Kd.R_reads' ho4).2.1; clear ho4; clear hb_) | (go_at_call 13; (with_reducible refine (stencillaw07_num.calls 0 0 _ (num_some 0)).mono ?_); rintro e w_13_ ⟨rfl, ⟨m1, rfl⟩⟩) | (go_at_call 17; (with_reducible refine (stencillaw07_fixed.calls true _ fixed_yes).mono ?_); rintro e w_17_ ⟨rfl, hb_⟩; have n0_ := Aside0.mk (below_step (by repeat (first | (with_reducible first | exact HB.out | apply below_alloc | apply pw_below_drewN | apply below_drew1) | exact HB.out)) hb_); clear HB; have HB := n0_; clear n0_; have t_ := Aside0.mk (Kd.C_below (by repeat (first | exact HX1.out | (with_reducible refine Kd.C_alloc ?_ _) | (with_reducible refine Kd.C_drewN ?_ _) | (with_reducible refine Kd.C_drew ?_))) hb_); clear HX1; have HX1 := t_; clear t_; have t_ := Aside0.mk (Kd.C_below (by repeat (first | exact HX2.out | (with_reducible refine Kd.C_alloc ?_ _) | (with_reducible refine Kd.C_drewN ?_ _) | (with_reducible refine Kd.C_drew ?_))) hb_); clear HX2; have HX2 := t_; clear t_; skip; clear hb_) | (go_at_call 18; (with_reducible refine (stencillaw07_mod.calls a1 (l.length : Int) (n : Int) _ HI.out).mono ?_); rintro e w_18_ ⟨rfl, ⟨m2, rfl⟩⟩) | (go_at_call 10; (with_reducible refine (stencillaw07_rooms.calls _ _ l l _ (by repeat (first | exact HX1.out | (with_reducible refine Kd.C_alloc ?_ _) | (with_reducible refine Kd.C_drewN ?_ _) | (with_reducible refine Kd.C_drew ?_))) HY1.out (rooms_some l (by omega))).mono ?_); rintro e w_10_ ⟨v5, rfl, ho5, hb_⟩; have ho5' := Kd.R_lower (base' := w.heap.size) ho5 (below_size (by repeat (first | (with_reducible first | exact HB.out | apply below_alloc | apply pw_below_drewN | apply below_drew1) | exact HB.out))); have n0_ := Aside0.mk (below_step (by repeat (first | (with_reducible first | exact HB.out | apply below_alloc | apply pw_below_drewN | apply below_drew1) | exact HB.out)) hb_); clear HB; have HB := n0_; clear n0_; have t_ := Aside0.mk (Kd.C_below (by repeat (first | exact HX1.out | (with_reducible refine Kd.C_alloc ?_ _) | (with_reducible refine Kd.C_drewN ?_ _) | (with_reducible refine Kd.C_drew ?_))) hb_); clear HX1; have HX1 := t_; clear t_; have t_ := Aside0.mk (Kd.C_below (by repeat (first | exact HX2.out | (with_reducible refine Kd.C_alloc ?_ _) | (with_reducible refine Kd.C_drewN ?_ _) | (with_reducible refine Kd.C_drew ?_))) hb_); clear HX2; have HX2 := t_; clear t_; obtain ⟨A5, c5, rfl⟩ := Kd.R_slice ho5;  obtain ⟨g, rfl, hg, hnn, hnc, hx0, hx1, hf0, hf1, _, hs0, hs1⟩ := room_slot ho5' n hn; have hK5 := ho5'; have GB := Aside0.mk hg; have HNC := Aside0.mk hnc; have HS0 := Aside0.mk hs0; have HS1 := Aside0.mk hs1; rw [HF_.out] at hx0; have HW5 := Aside0.mk (R_two (W := w_10_) hK5 n hn g rfl); clear ho5 ho5' hK5 hg hnn hnc hs0 hs1 hb_) | (go_at_call 18; (with_reducible refine (stencillaw07_mod.calls a2 5 _ _ HT.out).mono ?_); rintro e w_18_ ⟨rfl, ⟨m3, rfl⟩⟩) | (go_at_call 18; (with_reducible refine (stencillaw07_mod.calls a2 1000 u _ HU.out).mono ?_); rintro e w_18_ ⟨rfl, ⟨m4, rfl⟩⟩) | (go_at_call 11; (with_reducible refine (lay_Place.calls' _ _ l.length (l.set n ⟨1, 9223372036854775807⟩) (by simp) (-1) [] 0 72 (n : Int) _ (by repeat (first | exact R_as_C (HW5.out _ _ _) | (with_reducible refine Kd.C_drewN ?_ _) | (with_reducible refine Kd.C_drew ?_))) HNC.out PS.out).mono ?_); rintro e w_11_ ⟨v6, rfl, ho6, hb_⟩; have n0_ := Aside0.mk (below_step (by repeat (first | (with_reducible first | exact HB.out | apply below_alloc | apply pw_below_drewN | apply below_drew1 | refine below_set ?_ GB.out) | exact HB.out)) hb_); clear HB; have HB := n0_; clear n0_; obtain ⟨A6, c6, rfl⟩ := Kd.R_slice ho6; have HX6 := Aside0.mk (Kd.R_reads' ho6).2.2; have HY6 := Aside0.mk (Kd.R_reads' ho6).2.1; clear ho6; clear hb_) | (go_at_call 13; (with_reducible refine (stencillaw07_num.calls 72 72 _ (num_some 72)).mono ?_); rintro e w_13_ ⟨rfl, ⟨m6, rfl⟩⟩))
  go_ret
  exact ⟨by simp, (by repeat (first | (with_reducible first | exact HB.out | apply below_alloc | apply pw_below_drewN | apply below_drew1 | refine below_set ?_ GB.out) | exact HB.out))⟩

set_option maxHeartbeats 2000000 in
set_option maxRecDepth 100000 in
theorem stencillaw07_LayRefuses.c4a (k : Nat) (A0 : Option Addr) (c0 : Nat) (l0 : List S57) (l : List S39) (os : List Int) (e a1 a2 u : Int) (n : Nat) (w : World) (hr0 : Kd.C k57 w A0 l0.length l0) (hc0 : l0.length ≤ c0)
    (hm : stencillaw07_made.f k l0 = some (l, os, e)) (hp : lay_Place.f l (-1) = some (os, e, 0, 0)) (hl : l.length ≤ 60) (hn : n < l.length) (hlo : os.length = l.length) (hi : stencillaw07_mod.f a1 (l.length : Int) = some (n : Int)) (ht : stencillaw07_mod.f a2 5 = some 4) (hu : stencillaw07_mod.f a2 1000 = some u)  (hn0 : ((n : Int) == 0) = true) (hn0' : (n == 0) = true) :
    Calls Try.prog 4 #[.slice A0 l0.length c0, .int .i64 a1, .int .i64 a2] w fun e w' => e = .returned (.bool true) ∧ Below w.heap.size w w' := by
  have hu39 := Try.underlying39
  have HR0 := Aside0.mk hr0
  have HC0 := Aside0.mk hc0
  have HM := Aside0.mk hm
  have HP := Aside0.mk hp
  have HI := Aside0.mk hi
  have HT := Aside0.mk ht
  have HU := Aside0.mk hu
  have hz : ((l.length : Int) == 0) = false := beq_eq_false_iff_ne.2 (by omega)
  have hz' : (l.length == 0) = false := beq_eq_false_iff_ne.2 (by omega)
  have HLO := Aside0.mk hlo
  clear hr0 hc0 hm hp hi ht hu hlo
  have HB := Aside0.mk (Below.refl w.heap.size w)
  have tok1 : Aside0 True := ⟨trivial⟩
  have tok2 : Aside0 True := ⟨trivial⟩
  go_enter Try.func4, Try.ntmps4
  go_wp2_with (first | (go_at_call 16; (with_reducible refine (stencillaw07_made.calls k _ _ l0 l os e _ HR0.out HC0.out HM.out).mono ?_); rintro e w_16_ ⟨v1, v2, rfl, ho1, ho2, hb_⟩; have n0_ := Aside0.mk (below_step (by repeat (first | (with_reducible first | exact HB.out | apply below_alloc | apply pw_below_drewN | apply below_drew1) | exact HB.out)) hb_); clear HB; have HB := n0_; clear n0_; obtain ⟨A1, c1, rfl⟩ := Kd.R_slice ho1; have HX1 := Aside0.mk (Kd.R_reads' ho1).2.2; have HY1 := Aside0.mk (Kd.R_reads' ho1).2.1; clear ho1; obtain ⟨A2, c2, rfl⟩ := Kd.R_slice ho2; have HX2 := Aside0.mk (Kd.R_reads' ho2).2.2; have HY2 := Aside0.mk (Kd.R_reads' ho2).2.1; clear ho2; clear hb_) | (go_at_call 10; (with_reducible refine (stencillaw07_rooms.calls _ _ l l _ HX1.out HY1.out (rooms_some l (by omega))).mono ?_); clear tok1; rintro e w_10a_ ⟨v3, rfl, ho3, hb_⟩; have n0_ := Aside0.mk (below_step (by repeat (first | (with_reducible first | exact HB.out | apply below_alloc | apply pw_below_drewN | apply below_drew1) | exact HB.out)) hb_); clear HB; have HB := n0_; clear n0_; have t_ := Aside0.mk (Kd.C_below HX1.out hb_); clear HX1; have HX1 := t_; clear t_; have t_ := Aside0.mk (Kd.C_below HX2.out hb_); clear HX2; have HX2 := t_; clear t_; obtain ⟨A3, c3, rfl⟩ := Kd.R_slice ho3; have HX3 := Aside0.mk (Kd.R_reads' ho3).2.2; have HY3 := Aside0.mk (Kd.R_reads' ho3).2.1; clear ho3; clear hb_) | (go_at_call 11; (with_reducible refine (lay_Place.calls _ _ l (-1) os e 0 0 _ HX3.out HY3.out HP.out).mono ?_); clear tok2; rintro e_ w_11a_ ⟨v4, rfl, ho4, hb_⟩; have n0_ := Aside0.mk (below_step (by repeat (first | (with_reducible first | exact HB.out | apply below_alloc | apply pw_below_drewN | apply below_drew1) | exact HB.out)) hb_); clear HB; have HB := n0_; clear n0_; have t_ := Aside0.mk (Kd.C_below HX1.out hb_); clear HX1; have HX1 := t_; clear t_; have t_ := Aside0.mk (Kd.C_below HX2.out hb_); clear HX2; have HX2 := t_; clear t_; obtain ⟨A4, c4, rfl⟩ := Kd.R_slice ho4; have HX4 := Aside0.mk (Kd.R_reads' ho4).2.2; have HY4 := Aside0.mk (Kd.R_reads' ho4).2.1; clear ho4; clear hb_) | (go_at_call 13; (with_reducible refine (stencillaw07_num.calls 0 0 _ (num_some 0)).mono ?_); rintro e w_13_ ⟨rfl, ⟨m1, rfl⟩⟩) | (go_at_call 17; (with_reducible refine (stencillaw07_fixed.calls true _ fixed_yes).mono ?_); rintro e w_17_ ⟨rfl, hb_⟩; have n0_ := Aside0.mk (below_step (by repeat (first | (with_reducible first | exact HB.out | apply below_alloc | apply pw_below_drewN | apply below_drew1) | exact HB.out)) hb_); clear HB; have HB := n0_; clear n0_; have t_ := Aside0.mk (Kd.C_below (by repeat (first | exact HX1.out | (with_reducible refine Kd.C_alloc ?_ _) | (with_reducible refine Kd.C_drewN ?_ _) | (with_reducible refine Kd.C_drew ?_))) hb_); clear HX1; have HX1 := t_; clear t_; have t_ := Aside0.mk (Kd.C_below (by repeat (first | exact HX2.out | (with_reducible refine Kd.C_alloc ?_ _) | (with_reducible refine Kd.C_drewN ?_ _) | (with_reducible refine Kd.C_drew ?_))) hb_); clear HX2; have HX2 := t_; clear t_; skip; clear hb_) | (go_at_call 18; (with_reducible refine (stencillaw07_mod.calls a1 (l.length : Int) (n : Int) _ HI.out).mono ?_); rintro e w_18_ ⟨rfl, ⟨m2, rfl⟩⟩) | (go_at_call 10; (with_reducible refine (stencillaw07_rooms.calls _ _ l l _ (by repeat (first | exact HX1.out | (with_reducible refine Kd.C_alloc ?_ _) | (with_reducible refine Kd.C_drewN ?_ _) | (with_reducible refine Kd.C_drew ?_))) HY1.out (rooms_some l (by omega))).mono ?_); rintro e w_10_ ⟨v5, rfl, ho5, hb_⟩; have ho5' := Kd.R_lower (base' := w.heap.size) ho5 (below_size (by repeat (first | (with_reducible first | exact HB.out | apply below_alloc | apply pw_below_drewN | apply below_drew1) | exact HB.out))); have n0_ := Aside0.mk (below_step (by repeat (first | (with_reducible first | exact HB.out | apply below_alloc | apply pw_below_drewN | apply below_drew1) | exact HB.out)) hb_); clear HB; have HB := n0_; clear n0_; have t_ := Aside0.mk (Kd.C_below (by repeat (first | exact HX1.out | (with_reducible refine Kd.C_alloc ?_ _) | (with_reducible refine Kd.C_drewN ?_ _) | (with_reducible refine Kd.C_drew ?_))) hb_); clear HX1; have HX1 := t_; clear t_; have t_ := Aside0.mk (Kd.C_below (by repeat (first | exact HX2.out | (with_reducible refine Kd.C_alloc ?_ _) | (with_reducible refine Kd.C_drewN ?_ _) | (with_reducible refine Kd.C_drew ?_))) hb_); clear HX2; have HX2 := t_; clear t_; obtain ⟨A5, c5, rfl⟩ := Kd.R_slice ho5;  obtain ⟨g, rfl, hg, hnn, hnc, hx0, hx1, hf0, hf1, _, hs0, hs1⟩ := room_slot ho5' n hn; have GB := Aside0.mk hg; have HNC := Aside0.mk hnc; have HS0 := Aside0.mk hs0; have HS1 := Aside0.mk hs1; clear ho5 ho5' hg hnn hnc hs0 hs1 hb_) | (go_at_call 18; (with_reducible refine (stencillaw07_mod.calls a2 5 _ _ HT.out).mono ?_); rintro e w_18_ ⟨rfl, ⟨m3, rfl⟩⟩) | (go_at_call 18; (with_reducible refine (stencillaw07_mod.calls a2 1000 u _ HU.out).mono ?_); rintro e w_18_ ⟨rfl, ⟨m4, rfl⟩⟩))
  go_quiet (fail)
  go_wp2
  go_ret
  exact ⟨by simp, (by repeat (first | (with_reducible first | exact HB.out | apply below_alloc | apply pw_below_drewN | apply below_drew1 | refine below_set ?_ GB.out) | exact HB.out))⟩

set_option maxHeartbeats 2000000 in
set_option maxRecDepth 100000 in
theorem stencillaw07_LayRefuses.c4b (k : Nat) (A0 : Option Addr) (c0 : Nat) (l0 : List S57) (l : List S39) (os : List Int) (e a1 a2 u : Int) (n : Nat) (w : World) (hr0 : Kd.C k57 w A0 l0.length l0) (hc0 : l0.length ≤ c0)
    (hm : stencillaw07_made.f k l0 = some (l, os, e)) (hp : lay_Place.f l (-1) = some (os, e, 0, 0)) (hl : l.length ≤ 60) (hn : n < l.length) (hlo : os.length = l.length) (hi : stencillaw07_mod.f a1 (l.length : Int) = some ((n + 1 : Nat) : Int)) (ht : stencillaw07_mod.f a2 5 = some 4) (hu : stencillaw07_mod.f a2 1000 = some u)  (o s : Int) (ho : rd os (n : Int) = o) (hs : (rd_T39 l (n : Int)).f0 = s) (ho0 : 0 ≤ o) (ho1 : o ≤ 65535) (hs0 : 0 ≤ s) (hs1 : s ≤ 70) (hn1 : n + 1 < l.length) (hno : n < os.length) (hz0 : (o + s == 0) = true) :
    Calls Try.prog 4 #[.slice A0 l0.length c0, .int .i64 a1, .int .i64 a2] w fun e w' => e = .returned (.bool true) ∧ Below w.heap.size w w' := by
  have hu39 := Try.underlying39
  have HR0 := Aside0.mk hr0
  have HC0 := Aside0.mk hc0
  have HM := Aside0.mk hm
  have HP := Aside0.mk hp
  have HI := Aside0.mk hi
  have HT := Aside0.mk ht
  have HU := Aside0.mk hu
  have HO_ := Aside0.mk ho
  have HS_ := Aside0.mk hs
  clear ho hs
  have hz : ((l.length : Int) == 0) = false := beq_eq_false_iff_ne.2 (by omega)
  have hz' : (l.length == 0) = false := beq_eq_false_iff_ne.2 (by omega)
  have HLO := Aside0.mk hlo
  clear hr0 hc0 hm hp hi ht hu hlo
  have HB := Aside0.mk (Below.refl w.heap.size w)
  have tok1 : Aside0 True := ⟨trivial⟩
  have tok2 : Aside0 True := ⟨trivial⟩
  go_enter Try.func4, Try.ntmps4
  go_wp2_with (first | (go_at_call 16; (with_reducible refine (stencillaw07_made.calls k _ _ l0 l os e _ HR0.out HC0.out HM.out).mono ?_); rintro e w_16_ ⟨v1, v2, rfl, ho1, ho2, hb_⟩; have n0_ := Aside0.mk (below_step (by repeat (first | (with_reducible first | exact HB.out | apply below_alloc | apply pw_below_drewN | apply below_drew1) | exact HB.out)) hb_); clear HB; have HB := n0_; clear n0_; obtain ⟨A1, c1, rfl⟩ := Kd.R_slice ho1; have HX1 := Aside0.mk (Kd.R_reads' ho1).2.2; have HY1 := Aside0.mk (Kd.R_reads' ho1).2.1; clear ho1; obtain ⟨A2, c2, rfl⟩ := Kd.R_slice ho2; have HX2 := Aside0.mk (Kd.R_reads' ho2).2.2; have HY2 := Aside0.mk (Kd.R_reads' ho2).2.1; clear ho2; clear hb_) | (go_at_call 10; (with_reducible refine (stencillaw07_rooms.calls _ _ l l _ HX1.out HY1.out (rooms_some l (by omega))).mono ?_); clear tok1; rintro e w_10a_ ⟨v3, rfl, ho3, hb_⟩; have n0_ := Aside0.mk (below_step (by repeat (first | (with_reducible first | exact HB.out | apply below_alloc | apply pw_below_drewN | apply below_drew1) | exact HB.out)) hb_); clear HB; have HB := n0_; clear n0_; have t_ := Aside0.mk (Kd.C_below HX1.out hb_); clear HX1; have HX1 := t_; clear t_; have t_ := Aside0.mk (Kd.C_below HX2.out hb_); clear HX2; have HX2 := t_; clear t_; obtain ⟨A3, c3, rfl⟩ := Kd.R_slice ho3; have HX3 := Aside0.mk (Kd.R_reads' ho3).2.2; have HY3 := Aside0.mk (Kd.R_reads' ho3).2.1; clear ho3; clear hb_) | (go_at_call 11; (with_reducible refine (lay_Place.calls _ _ l (-1) os e 0 0 _ HX3.out HY3.out HP.out).mono ?_); clear tok2; rintro e_ w_11a_ ⟨v4, rfl, ho4, hb_⟩; have n0_ := Aside0.mk (below_step (by repeat (first | (with_reducible first | exact HB.out | apply below_alloc | apply pw_below_drewN | apply below_drew1) | exact HB.out)) hb_); clear HB; have HB := n0_; clear n0_; have t_ := Aside0.mk (Kd.C_below HX1.out hb_); clear HX1; have HX1 := t_; clear t_; have t_ := Aside0.mk (Kd.C_below HX2.out hb_); clear HX2; have HX2 := t_; clear t_; obtain ⟨A4, c4, rfl⟩ := Kd.R_slice ho4; have HX4 := Aside0.mk (Kd.R_reads' ho4).2.2; have HY4 := Aside0.mk (Kd.R_reads' ho4).2.1; clear ho4; clear hb_) | (go_at_call 13; (with_reducible refine (stencillaw07_num.calls 0 0 _ (num_some 0)).mono ?_); rintro e w_13_ ⟨rfl, ⟨m1, rfl⟩⟩) | (go_at_call 17; (with_reducible refine (stencillaw07_fixed.calls true _ fixed_yes).mono ?_); rintro e w_17_ ⟨rfl, hb_⟩; have n0_ := Aside0.mk (below_step (by repeat (first | (with_reducible first | exact HB.out | apply below_alloc | apply pw_below_drewN | apply below_drew1) | exact HB.out)) hb_); clear HB; have HB := n0_; clear n0_; have t_ := Aside0.mk (Kd.C_below (by repeat (first | exact HX1.out | (with_reducible refine Kd.C_alloc ?_ _) | (with_reducible refine Kd.C_drewN ?_ _) | (with_reducible refine Kd.C_drew ?_))) hb_); clear HX1; have HX1 := t_; clear t_; have t_ := Aside0.mk (Kd.C_below (by repeat (first | exact HX2.out | (with_reducible refine Kd.C_alloc ?_ _) | (with_reducible refine Kd.C_drewN ?_ _) | (with_reducible refine Kd.C_drew ?_))) hb_); clear HX2; have HX2 := t_; clear t_; skip; clear hb_) | (go_at_call 18; (with_reducible refine (stencillaw07_mod.calls a1 (l.length : Int) ((n + 1 : Nat) : Int) _ HI.out).mono ?_); rintro e w_18_ ⟨rfl, ⟨m2, rfl⟩⟩) | (go_at_call 10; (with_reducible refine (stencillaw07_rooms.calls _ _ l l _ (by repeat (first | exact HX1.out | (with_reducible refine Kd.C_alloc ?_ _) | (with_reducible refine Kd.C_drewN ?_ _) | (with_reducible refine Kd.C_drew ?_))) HY1.out (rooms_some l (by omega))).mono ?_); rintro e w_10_ ⟨v5, rfl, ho5, hb_⟩; have ho5' := Kd.R_lower (base' := w.heap.size) ho5 (below_size (by repeat (first | (with_reducible first | exact HB.out | apply below_alloc | apply pw_below_drewN | apply below_drew1) | exact HB.out))); have n0_ := Aside0.mk (below_step (by repeat (first | (with_reducible first | exact HB.out | apply below_alloc | apply pw_below_drewN | apply below_drew1) | exact HB.out)) hb_); clear HB; have HB := n0_; clear n0_; have t_ := Aside0.mk (Kd.C_below (by repeat (first | exact HX1.out | (with_reducible refine Kd.C_alloc ?_ _) | (with_reducible refine Kd.C_drewN ?_ _) | (with_reducible refine Kd.C_drew ?_))) hb_); clear HX1; have HX1 := t_; clear t_; have t_ := Aside0.mk (Kd.C_below (by repeat (first | exact HX2.out | (with_reducible refine Kd.C_alloc ?_ _) | (with_reducible refine Kd.C_drewN ?_ _) | (with_reducible refine Kd.C_drew ?_))) hb_); clear HX2; have HX2 := t_; clear t_; obtain ⟨A5, c5, rfl⟩ := Kd.R_slice ho5;  obtain ⟨g, rfl, hg, hnn, hnc, hx0, hx1, hf0, hf1, _, hs0, hs1⟩ := room_slot ho5' (n + 1) hn1; have GB := Aside0.mk hg; have HNC := Aside0.mk hnc; have HS0 := Aside0.mk hs0; have HS1 := Aside0.mk hs1; clear ho5 ho5' hg hnn hnc hs0 hs1 hb_; obtain ⟨ad2, rfl, hy2⟩ := Kd.at_int HX2.out (n : Int) (by omega) (by omega); rw [HO_.out] at hy2; simp only [Int.toNat_natCast] at hy2; obtain ⟨ad1, rfl, hy10, hy11⟩ := at_T39 HX1.out (n : Int) (by omega) (by omega); rw [HS_.out] at hy10; simp only [Int.toNat_natCast] at hy10; clear hy11) | (go_at_call 18; (with_reducible refine (stencillaw07_mod.calls a2 5 _ _ HT.out).mono ?_); rintro e w_18_ ⟨rfl, ⟨m3, rfl⟩⟩) | (go_at_call 18; (with_reducible refine (stencillaw07_mod.calls a2 1000 u _ HU.out).mono ?_); rintro e w_18_ ⟨rfl, ⟨m4, rfl⟩⟩))
  have z1 : (((n + 1 : Nat) : Int) == 0) = false := beq_eq_false_iff_ne.2 (by omega)
  have z2 : ((n : Int) + 1 == 0) = false := beq_eq_false_iff_ne.2 (by omega)
  have z6 : 0 ≤ (n : Int) + 1 - 1 := by omega
  have z3 : IntKind.i64.wrap ((n : Int) + 1 - 1) = (n : Int) := by rw [IntWalk.i64_in _ (by omega)]; omega
  have z5 : IntKind.i64.wrap (o + s - 1) = o + s - 1 := IntWalk.i64_in _ (by omega)
  have z4 : IntKind.i64.wrap (o + s) = o + s := IntWalk.i64_in _ (by omega)
  have z7 : IntKind.i64.wrap (n : Int) = (n : Int) := IntWalk.i64_in _ (by omega)
  go_quiet (fail)
  go_wp2
  go_ret
  exact ⟨by simp, (by repeat (first | (with_reducible first | exact HB.out | apply below_alloc | apply pw_below_drewN | apply below_drew1 | refine below_set ?_ GB.out) | exact HB.out))⟩

set_option maxHeartbeats 2000000 in
set_option maxRecDepth 100000 in
theorem stencillaw07_LayRefuses.c4c (k : Nat) (A0 : Option Addr) (c0 : Nat) (l0 : List S57) (l : List S39) (os : List Int) (e a1 a2 u : Int) (n : Nat) (w : World) (hr0 : Kd.C k57 w A0 l0.length l0) (hc0 : l0.length ≤ c0)
    (hm : stencillaw07_made.f k l0 = some (l, os, e)) (hp : lay_Place.f l (-1) = some (os, e, 0, 0)) (hl : l.length ≤ 60) (hn : n < l.length) (hlo : os.length = l.length) (hi : stencillaw07_mod.f a1 (l.length : Int) = some ((n + 1 : Nat) : Int)) (ht : stencillaw07_mod.f a2 5 = some 4) (hu : stencillaw07_mod.f a2 1000 = some u)  (o s : Int) (ho : rd os (n : Int) = o) (hs : (rd_T39 l (n : Int)).f0 = s) (ho0 : 0 ≤ o) (ho1 : o ≤ 65535) (hs0 : 0 ≤ s) (hs1 : s ≤ 70) (hn1 : n + 1 < l.length) (hno : n < os.length) (hz0 : (o + s == 0) = false) (hps : lay_Place.f (l.set (n + 1) ⟨(rd_T39 l ((n + 1 : Nat) : Int)).f0, o + s - 1⟩) (-1) = some ([], 0, 70, ((n + 1 : Nat) : Int))) :
    Calls Try.prog 4 #[.slice A0 l0.length c0, .int .i64 a1, .int .i64 a2] w fun e w' => e = .returned (.bool true) ∧ Below w.heap.size w w' := by
  have hu39 := Try.underlying39
  have HR0 := Aside0.mk hr0
  have HC0 := Aside0.mk hc0
  have HM := Aside0.mk hm
  have HP := Aside0.mk hp
  have HI := Aside0.mk hi
  have HT := Aside0.mk ht
  have HU := Aside0.mk hu
  have HO_ := Aside0.mk ho
  have HS_ := Aside0.mk hs
  clear ho hs
  have PS := Aside0.mk hps
  clear hps
  have hz : ((l.length : Int) == 0) = false := beq_eq_false_iff_ne.2 (by omega)
  have hz' : (l.length == 0) = false := beq_eq_false_iff_ne.2 (by omega)
  have HLO := Aside0.mk hlo
  clear hr0 hc0 hm hp hi ht hu hlo
  have HB := Aside0.mk (Below.refl w.heap.size w)
  have tok1 : Aside0 True := ⟨trivial⟩
  have tok2 : Aside0 True := ⟨trivial⟩
  go_enter Try.func4, Try.ntmps4
  go_wp2_with (first | (go_at_call 16; (with_reducible refine (stencillaw07_made.calls k _ _ l0 l os e _ HR0.out HC0.out HM.out).mono ?_); rintro e w_16_ ⟨v1, v2, rfl, ho1, ho2, hb_⟩; have n0_ := Aside0.mk (below_step (by repeat (first | (with_reducible first | exact HB.out | apply below_alloc | apply pw_below_drewN | apply below_drew1) | exact HB.out)) hb_); clear HB; have HB := n0_; clear n0_; obtain ⟨A1, c1, rfl⟩ := Kd.R_slice ho1; have HX1 := Aside0.mk (Kd.R_reads' ho1).2.2; have HY1 := Aside0.mk (Kd.R_reads' ho1).2.1; clear ho1; obtain ⟨A2, c2, rfl⟩ := Kd.R_slice ho2; have HX2 := Aside0.mk (Kd.R_reads' ho2).2.2; have HY2 := Aside0.mk (Kd.R_reads' ho2).2.1; clear ho2; clear hb_) | (go_at_call 10; (with_reducible refine (stencillaw07_rooms.calls _ _ l l _ HX1.out HY1.out (rooms_some l (by omega))).mono ?_); clear tok1; rintro e w_10a_ ⟨v3, rfl, ho3, hb_⟩; have n0_ := Aside0.mk (below_step (by repeat (first | (with_reducible first | exact HB.out | apply below_alloc | apply pw_below_drewN | apply below_drew1) | exact HB.out)) hb_); clear HB; have HB := n0_; clear n0_; have t_ := Aside0.mk (Kd.C_below HX1.out hb_); clear HX1; have HX1 := t_; clear t_; have t_ := Aside0.mk (Kd.C_below HX2.out hb_); clear HX2; have HX2 := t_; clear t_; obtain ⟨A3, c3, rfl⟩ := Kd.R_slice ho3; have HX3 := Aside0.mk (Kd.R_reads' ho3).2.2; have HY3 := Aside0.mk (Kd.R_reads' ho3).2.1; clear ho3; clear hb_) | (go_at_call 11; (with_reducible refine (lay_Place.calls _ _ l (-1) os e 0 0 _ HX3.out HY3.out HP.out).mono ?_); clear tok2; rintro e_ w_11a_ ⟨v4, rfl, ho4, hb_⟩; have n0_ := Aside0.mk (below_step (by repeat (first | (with_reducible first | exact HB.out | apply below_alloc | apply pw_below_drewN | apply below_drew1) | exact HB.out)) hb_); clear HB; have HB := n0_; clear n0_; have t_ := Aside0.mk (Kd.C_below HX1.out hb_); clear HX1; have HX1 := t_; clear t_; have t_ := Aside0.mk (Kd.C_below HX2.out hb_); clear HX2; have HX2 := t_; clear t_; obtain ⟨A4, c4, rfl⟩ := Kd.R_slice ho4; have HX4 := Aside0.mk (Kd.R_reads' ho4).2.2; have HY4 := Aside0.mk (Kd.R_reads' ho4).2.1; clear ho4; clear hb_) | (go_at_call 13; (with_reducible refine (stencillaw07_num.calls 0 0 _ (num_some 0)).mono ?_); rintro e w_13_ ⟨rfl, ⟨m1, rfl⟩⟩) | (go_at_call 17; (with_reducible refine (stencillaw07_fixed.calls true _ fixed_yes).mono ?_); rintro e w_17_ ⟨rfl, hb_⟩; have n0_ := Aside0.mk (below_step (by repeat (first | (with_reducible first | exact HB.out | apply below_alloc | apply pw_below_drewN | apply below_drew1) | exact HB.out)) hb_); clear HB; have HB := n0_; clear n0_; have t_ := Aside0.mk (Kd.C_below (by repeat (first | exact HX1.out | (with_reducible refine Kd.C_alloc ?_ _) | (with_reducible refine Kd.C_drewN ?_ _) | (with_reducible refine Kd.C_drew ?_))) hb_); clear HX1; have HX1 := t_; clear t_; have t_ := Aside0.mk (Kd.C_below (by repeat (first | exact HX2.out | (with_reducible refine Kd.C_alloc ?_ _) | (with_reducible refine Kd.C_drewN ?_ _) | (with_reducible refine Kd.C_drew ?_))) hb_); clear HX2; have HX2 := t_; clear t_; skip; clear hb_) | (go_at_call 18; (with_reducible refine (stencillaw07_mod.calls a1 (l.length : Int) ((n + 1 : Nat) : Int) _ HI.out).mono ?_); rintro e w_18_ ⟨rfl, ⟨m2, rfl⟩⟩) | (go_at_call 10; (with_reducible refine (stencillaw07_rooms.calls _ _ l l _ (by repeat (first | exact HX1.out | (with_reducible refine Kd.C_alloc ?_ _) | (with_reducible refine Kd.C_drewN ?_ _) | (with_reducible refine Kd.C_drew ?_))) HY1.out (rooms_some l (by omega))).mono ?_); rintro e w_10_ ⟨v5, rfl, ho5, hb_⟩; have ho5' := Kd.R_lower (base' := w.heap.size) ho5 (below_size (by repeat (first | (with_reducible first | exact HB.out | apply below_alloc | apply pw_below_drewN | apply below_drew1) | exact HB.out))); have n0_ := Aside0.mk (below_step (by repeat (first | (with_reducible first | exact HB.out | apply below_alloc | apply pw_below_drewN | apply below_drew1) | exact HB.out)) hb_); clear HB; have HB := n0_; clear n0_; have t_ := Aside0.mk (Kd.C_below (by repeat (first | exact HX1.out | (with_reducible refine Kd.C_alloc ?_ _) | (with_reducible refine Kd.C_drewN ?_ _) | (with_reducible refine Kd.C_drew ?_))) hb_); clear HX1; have HX1 := t_; clear t_; have t_ := Aside0.mk (Kd.C_below (by repeat (first | exact HX2.out | (with_reducible refine Kd.C_alloc ?_ _) | (with_reducible refine Kd.C_drewN ?_ _) | (with_reducible refine Kd.C_drew ?_))) hb_); clear HX2; have HX2 := t_; clear t_; obtain ⟨A5, c5, rfl⟩ := Kd.R_slice ho5;  obtain ⟨g, rfl, hg, hnn, hnc, hx0, hx1, hf0, hf1, _, hs0, hs1⟩ := room_slot ho5' (n + 1) hn1; have GB := Aside0.mk hg; have HNC := Aside0.mk hnc; have HS0 := Aside0.mk hs0; have HS1 := Aside0.mk hs1; clear ho5 ho5' hg hnn hnc hs0 hs1 hb_; obtain ⟨ad2, rfl, hy2⟩ := Kd.at_int HX2.out (n : Int) (by omega) (by omega); rw [HO_.out] at hy2; simp only [Int.toNat_natCast] at hy2; obtain ⟨ad1, rfl, hy10, hy11⟩ := at_T39 HX1.out (n : Int) (by omega) (by omega); rw [HS_.out] at hy10; simp only [Int.toNat_natCast] at hy10; clear hy11) | (go_at_call 18; (with_reducible refine (stencillaw07_mod.calls a2 5 _ _ HT.out).mono ?_); rintro e w_18_ ⟨rfl, ⟨m3, rfl⟩⟩) | (go_at_call 18; (with_reducible refine (stencillaw07_mod.calls a2 1000 u _ HU.out).mono ?_); rintro e w_18_ ⟨rfl, ⟨m4, rfl⟩⟩))
  have z1 : (((n + 1 : Nat) : Int) == 0) = false := beq_eq_false_iff_ne.2 (by omega)
  have z2 : ((n : Int) + 1 == 0) = false := beq_eq_false_iff_ne.2 (by omega)
  have z6 : 0 ≤ (n : Int) + 1 - 1 := by omega
  have z3 : IntKind.i64.wrap ((n : Int) + 1 - 1) = (n : Int) := by rw [IntWalk.i64_in _ (by omega)]; omega
  have z5 : IntKind.i64.wrap (o + s - 1) = o + s - 1 := IntWalk.i64_in _ (by omega)
  have z4 : IntKind.i64.wrap (o + s) = o + s := IntWalk.i64_in _ (by omega)
  have z7 : IntKind.i64.wrap (n : Int) = (n : Int) := IntWalk.i64_in _ (by omega)
  go_quiet (fail)
  go_wp2
  go_region
  go_wp2_with (first | (go_at_call 11; (with_reducible refine (lay_Place.calls' _ _ l.length (l.set (n + 1) ⟨(rd_T39 l ((n + 1 : Nat) : Int)).f0, o + s - 1⟩) (by simp) (-1) [] 0 70 ((n + 1 : Nat) : Int) _ (by repeat (first | exact R_as_C (HS1.out _ _) | (with_reducible refine Kd.C_drewN ?_ _) | (with_reducible refine Kd.C_drew ?_))) HNC.out PS.out).mono ?_); rintro e w_11_ ⟨v6, rfl, ho6, hb_⟩; have n0_ := Aside0.mk (below_step (by repeat (first | (with_reducible first | exact HB.out | apply below_alloc | apply pw_below_drewN | apply below_drew1 | refine below_set ?_ GB.out) | exact HB.out)) hb_); clear HB; have HB := n0_; clear n0_; obtain ⟨A6, c6, rfl⟩ := Kd.R_slice ho6; have HX6 := Aside0.mk (Kd.R_reads' ho6).2.2; have HY6 := Aside0.mk (Kd.R_reads' ho6).2.1; clear ho6; clear hb_) | (go_at_call 13; (with_reducible refine (stencillaw07_num.calls 70 70 _ (num_some 70)).mono ?_); rintro e w_13_ ⟨rfl, ⟨m6, rfl⟩⟩))
  go_ret
  exact ⟨by simp, (by repeat (first | (with_reducible first | exact HB.out | apply below_alloc | apply pw_below_drewN | apply below_drew1 | refine below_set ?_ GB.out) | exact HB.out))⟩

set_option maxHeartbeats 2000000 in
set_option maxRecDepth 100000 in
theorem stencillaw07_LayRefuses.cz (k : Nat) (A0 : Option Addr) (c0 : Nat) (l0 : List S57) (l : List S39) (os : List Int) (e a1 a2 : Int) (w : World) (hr0 : Kd.C k57 w A0 l0.length l0) (hc0 : l0.length ≤ c0)
    (hm : stencillaw07_made.f k l0 = some (l, os, e)) (hp : lay_Place.f l (-1) = some (os, e, 0, 0)) (hl : l.length ≤ 60) (hn : l.length = 0) (hlo : os.length = l.length)  :
    Calls Try.prog 4 #[.slice A0 l0.length c0, .int .i64 a1, .int .i64 a2] w fun e w' => e = .returned (.bool true) ∧ Below w.heap.size w w' := by
  have hu39 := Try.underlying39
  have HR0 := Aside0.mk hr0
  have HC0 := Aside0.mk hc0
  have HM := Aside0.mk hm
  have HP := Aside0.mk hp
  have hz : ((l.length : Int) == 0) = true := beq_iff_eq.2 (by omega)
  have hz' : (l.length == 0) = true := beq_iff_eq.2 (by omega)
  have HLO := Aside0.mk hlo
  clear hr0 hc0 hm hp hn hlo
  have HB := Aside0.mk (Below.refl w.heap.size w)
  have tok1 : Aside0 True := ⟨trivial⟩
  have tok2 : Aside0 True := ⟨trivial⟩
  go_enter Try.func4, Try.ntmps4
  go_wp2_with (first | (go_at_call 16; (with_reducible refine (stencillaw07_made.calls k _ _ l0 l os e _ HR0.out HC0.out HM.out).mono ?_); rintro e w_16_ ⟨v1, v2, rfl, ho1, ho2, hb_⟩; have n0_ := Aside0.mk (below_step (by repeat (first | (with_reducible first | exact HB.out | apply below_alloc | apply pw_below_drewN | apply below_drew1) | exact HB.out)) hb_); clear HB; have HB := n0_; clear n0_; obtain ⟨A1, c1, rfl⟩ := Kd.R_slice ho1; have HX1 := Aside0.mk (Kd.R_reads' ho1).2.2; have HY1 := Aside0.mk (Kd.R_reads' ho1).2.1; clear ho1; obtain ⟨A2, c2, rfl⟩ := Kd.R_slice ho2; have HX2 := Aside0.mk (Kd.R_reads' ho2).2.2; have HY2 := Aside0.mk (Kd.R_reads' ho2).2.1; clear ho2; clear hb_) | (go_at_call 10; (with_reducible refine (stencillaw07_rooms.calls _ _ l l _ HX1.out HY1.out (rooms_some l (by omega))).mono ?_); clear tok1; rintro e w_10a_ ⟨v3, rfl, ho3, hb_⟩; have n0_ := Aside0.mk (below_step (by repeat (first | (with_reducible first | exact HB.out | apply below_alloc | apply pw_below_drewN | apply below_drew1) | exact HB.out)) hb_); clear HB; have HB := n0_; clear n0_; have t_ := Aside0.mk (Kd.C_below HX1.out hb_); clear HX1; have HX1 := t_; clear t_; have t_ := Aside0.mk (Kd.C_below HX2.out hb_); clear HX2; have HX2 := t_; clear t_; obtain ⟨A3, c3, rfl⟩ := Kd.R_slice ho3; have HX3 := Aside0.mk (Kd.R_reads' ho3).2.2; have HY3 := Aside0.mk (Kd.R_reads' ho3).2.1; clear ho3; clear hb_) | (go_at_call 11; (with_reducible refine (lay_Place.calls _ _ l (-1) os e 0 0 _ HX3.out HY3.out HP.out).mono ?_); clear tok2; rintro e_ w_11a_ ⟨v4, rfl, ho4, hb_⟩; have n0_ := Aside0.mk (below_step (by repeat (first | (with_reducible first | exact HB.out | apply below_alloc | apply pw_below_drewN | apply below_drew1) | exact HB.out)) hb_); clear HB; have HB := n0_; clear n0_; have t_ := Aside0.mk (Kd.C_below HX1.out hb_); clear HX1; have HX1 := t_; clear t_; have t_ := Aside0.mk (Kd.C_below HX2.out hb_); clear HX2; have HX2 := t_; clear t_; obtain ⟨A4, c4, rfl⟩ := Kd.R_slice ho4; have HX4 := Aside0.mk (Kd.R_reads' ho4).2.2; have HY4 := Aside0.mk (Kd.R_reads' ho4).2.1; clear ho4; clear hb_) | (go_at_call 13; (with_reducible refine (stencillaw07_num.calls 0 0 _ (num_some 0)).mono ?_); rintro e w_13_ ⟨rfl, ⟨m1, rfl⟩⟩) | (go_at_call 17; (with_reducible refine (stencillaw07_fixed.calls true _ fixed_yes).mono ?_); rintro e w_17_ ⟨rfl, hb_⟩; have n0_ := Aside0.mk (below_step (by repeat (first | (with_reducible first | exact HB.out | apply below_alloc | apply pw_below_drewN | apply below_drew1) | exact HB.out)) hb_); clear HB; have HB := n0_; clear n0_; have t_ := Aside0.mk (Kd.C_below (by repeat (first | exact HX1.out | (with_reducible refine Kd.C_alloc ?_ _) | (with_reducible refine Kd.C_drewN ?_ _) | (with_reducible refine Kd.C_drew ?_))) hb_); clear HX1; have HX1 := t_; clear t_; have t_ := Aside0.mk (Kd.C_below (by repeat (first | exact HX2.out | (with_reducible refine Kd.C_alloc ?_ _) | (with_reducible refine Kd.C_drewN ?_ _) | (with_reducible refine Kd.C_drew ?_))) hb_); clear HX2; have HX2 := t_; clear t_; skip; clear hb_))
  go_ret
  exact ⟨by simp, (by repeat (first | (with_reducible first | exact HB.out | apply below_alloc | apply pw_below_drewN | apply below_drew1) | exact HB.out))⟩

theorem stencillaw07_LayRefuses.calls (A0 : Option Addr) (c0 : Nat) (l0 : List S57) (a1 a2 : Int) (r : Bool) (w : World) (hr0 : Kd.C k57 w A0 l0.length l0) (hc0 : l0.length ≤ c0) (h : stencillaw07_LayRefuses.f l0 a1 a2 = some r) :
    Calls Try.prog 4 #[.slice A0 l0.length c0, .int .i64 a1, .int .i64 a2] w fun e w' => e = .returned (.bool r) ∧ Below w.heap.size w w' := by
  obtain rfl : r = true := (Option.some.inj h).symm
  obtain ⟨l, os, e, hm, hc, hl⟩ := made_some l0
  obtain ⟨k, hm⟩ := hm.rounds
  obtain ⟨hlo, he0, he1⟩ := hc.len
  have hp : lay_Place.f l (-1) = some (os, e, 0, 0) := by
    unfold lay_Place.f
    rw [if_pos (by omega), if_neg (by omega), if_neg (by omega), Chain.place 0 [] hc (by omega) (by omega)]
    simp [placeEnd]
  by_cases hz : l.length = 0
  · exact stencillaw07_LayRefuses.cz k A0 c0 l0 l os e a1 a2 w hr0 hc0 hm hp hl hz hlo.symm
  · obtain ⟨i, hi, hi0, hi1⟩ := mod_some a1 (l.length : Int) (by omega) (by omega)
    obtain ⟨t, ht, ht0, ht1⟩ := mod_some a2 5 (by omega) (by omega)
    obtain ⟨u, hu, hu0, hu1⟩ := mod_some a2 1000 (by omega) (by omega)
    obtain ⟨n, rfl⟩ := Int.eq_ofNat_of_zero_le hi0
    have hn : n < l.length := by omega
    obtain ⟨g1, g2, g3, g4, g5, g6⟩ := Chain.at_ n hc hn
    have r1 : rd os (n : Int) = os.getD n 0 := by simp [rd]
    have r2 : rd_T39 l (n : Int) = l.getD n z39 := by simp [rd_T39]
    have ps := fun y want hy hw => place_spoilt l os e n y want hc hl (by omega) hn hy hw
    rcases (show t = 0 ∨ t = 1 ∨ t = 2 ∨ t = 3 ∨ t = 4 from by omega) with rfl | rfl | rfl | rfl | rfl
    · refine stencillaw07_LayRefuses.c0 k A0 c0 l0 l os e a1 a2 u n w hr0 hc0 hm hp hl hn hlo.symm hi ht hu hu0 hu1 (ps _ 73 ?_ (by omega))
      unfold layErr
      rw [if_pos (.inl (by simp only; omega))]
    · refine stencillaw07_LayRefuses.c1 k A0 c0 l0 l os e a1 a2 u n w hr0 hc0 hm hp hl hn hlo.symm hi ht hu hu0 hu1 (ps _ 73 ?_ (by omega))
      unfold layErr
      rw [if_pos (.inr (by simp only; omega))]
    · refine stencillaw07_LayRefuses.c2 k A0 c0 l0 l os e a1 a2 u n w hr0 hc0 hm hp hl hn hlo.symm hi ht hu (os.getD n 0) r1 (by omega) (by omega) (by omega) (ps _ 72 ?_ (by omega))
      rw [r2]
      generalize os.getD n 0 = o at *
      generalize (l.getD n z39).f1 = f1 at *
      generalize endsAt l os 0 n = s at *
      have ha : layAt s ⟨65536 - o, f1⟩ = o := by
        unfold layAt
        rcases g5 with g5 | ⟨g5, g7⟩
        · rw [if_neg (by simp only; omega)]; exact g5
        · rw [if_pos g5]; exact g7.symm
      unfold layErr
      rw [ha, if_neg (by simp only; omega), if_neg (by simp only; omega), if_pos (.inr (by simp only; omega))]
    · have key : ∀ f0 : Int, 0 ≤ f0 → layErr (endsAt l os 0 n) ⟨f0, 9223372036854775807⟩ = 72 := by
        intro f0 hf
        have ha : layAt (endsAt l os 0 n) ⟨f0, 9223372036854775807⟩ = 9223372036854775807 := by simp [layAt]
        unfold layErr
        rw [ha, if_neg (by simp only; omega), if_neg (by simp only; omega), if_pos (.inl (by omega))]
      by_cases c : (l.getD n z39).f0 = 0
      · exact stencillaw07_LayRefuses.c3b k A0 c0 l0 l os e a1 a2 u n w hr0 hc0 hm hp hl hn hlo.symm hi ht hu _ rfl (by rw [r2]; exact beq_iff_eq.2 c) (ps _ 72 (key _ (by omega)) (by omega))
      · exact stencillaw07_LayRefuses.c3a k A0 c0 l0 l os e a1 a2 u n w hr0 hc0 hm hp hl hn hlo.symm hi ht hu _ rfl (by rw [r2]; exact beq_eq_false_iff_ne.2 c) (ps _ 72 (key _ (by rw [r2]; exact g3)) (by omega))
    · cases n with
      | zero => exact stencillaw07_LayRefuses.c4a k A0 c0 l0 l os e a1 a2 u 0 w hr0 hc0 hm hp hl hn hlo.symm hi ht hu rfl rfl
      | succ n =>
        obtain ⟨k1, k2, k3, k4, k5, k6⟩ := Chain.at_ n hc (by omega)
        have q1 : rd os (n : Int) = os.getD n 0 := by simp [rd]
        have q2 : rd_T39 l (n : Int) = l.getD n z39 := by simp [rd_T39]
        have q3 := endsAt_succ n hc hn
        by_cases hz0 : os.getD n 0 + (l.getD n z39).f0 = 0
        · exact stencillaw07_LayRefuses.c4b k A0 c0 l0 l os e a1 a2 u n w hr0 hc0 hm hp hl (by omega) hlo.symm hi ht hu _ _ q1 (by rw [q2]) (by omega) (by omega) k3 (by omega) hn (by omega) (beq_iff_eq.2 hz0)
        · refine stencillaw07_LayRefuses.c4c k A0 c0 l0 l os e a1 a2 u n w hr0 hc0 hm hp hl (by omega) hlo.symm hi ht hu _ _ q1 (by rw [q2]) (by omega) (by omega) k3 (by omega) hn (by omega) (beq_eq_false_iff_ne.2 hz0) (ps _ 70 ?_ (by omega))
          rw [r2, q3]
          unfold layErr layAt
          rw [if_neg (by simp only; omega), if_pos (by simp only; omega)]

end Go.Proofs.Ythckejcoekhdjaa.Q
