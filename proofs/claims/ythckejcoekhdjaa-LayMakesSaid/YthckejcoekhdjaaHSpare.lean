/- Lists handed in with a room behind them (layer 7's statements), by hand: what 'rooms' and 'ints' lay behind a list, and that 'kept' finds it there. -/

import Derived.Test.YthckejcoekhdjaaQx0
import Derived.Test.YthckejcoekhdjaaQx2
import Derived.Test.YthckejcoekhdjaaQx3
namespace Go.Proofs.Ythckejcoekhdjaa.Q
open Go.RowKit Go.Proofs.YthckejcoekhdjaaW.PrintWords Go.Proofs.YthckejcoekhdjaaW.PrintLast Go.Proofs.YthckejcoekhdjaaW.PrintMore
attribute [local go_sem] max2_int min2_int max_two min_two max_three min_three max_four min_four   -- for this text's walks alone
set_option linter.unusedVariables false
set_option linter.unusedSimpArgs false

/-- The list is copied, with one element more behind it. -/
theorem stencillaw07_rooms.sp (A0 : Option Addr) (c0 : Nat) (l0 : List S39) (w : World) (hr0 : Kd.C k39 w A0 l0.length l0) (hc0 : l0.length ≤ c0) (hl : l0.length < 8796093022207) :
    Calls Try.prog 10 #[.slice A0 l0.length c0] w fun e w' => ∃ A c, e = .returned (.slice A l0.length c) ∧ Kd.R k39 39 w' w.heap.size (fun _ => True) (.slice A (l0.length + 1) c) (l0 ++ [⟨71, 72⟩]) ∧ Below w.heap.size w w' := by
  have hu39 := Try.underlying39
  have HR0 := Aside0.mk hr0
  clear hr0 hc0
  have HB := Aside0.mk (Below.refl w.heap.size w)
  go_enter Try.func10, Try.ntmps10
  go_wp2_with (first | ((with_reducible refine gate_builtin (b := .append) (xs := #[.tmp 4, .tmp 5]) rfl ?_); at_builtin; refine Kd.R_append_rows (k39) (w0 := w) w.heap.size rfl (.tmp 4) (.tmp 5) 22 39 (.agg #[(.int .i64 0), (.int .i64 0)]) 16 rfl Try.underlying22 info39 rfl (by decide) (by omega) (.slice none 0 0) ([] : List S39) (l0) _ _ _ (fun _ => True) (fun _ => False) rfl rfl ?aO ?aR (fun _ _ h => h) (fun _ h => h.elim) ?aF ?aB ?aS ?aL ?_; (case aR => repeat (first | exact HR0.out | (with_reducible refine Kd.C_alloc ?_ _) | (with_reducible refine Kd.C_drewN ?_ _) | (with_reducible refine Kd.C_drew ?_))); (case aB => exact (by repeat (first | (with_reducible first | exact HB.out | apply below_alloc | apply pw_below_drewN | apply below_drew1) | exact HB.out))); (case aF => exact (fun _ _ => trivial)); (case aO => exact ((Kd.R_nil _ _ _ _ (fun _ => True)))); (case aS => exact (below_size (by repeat (first | (with_reducible first | exact HB.out | apply below_alloc | apply pw_below_drewN | apply below_drew1) | exact HB.out)))); (case aL => simp only [List.length_nil]; omega); intro v1 w_v1 ho hb hg hat; have n0_ := Aside0.mk (hb); have HO1 := Aside0.mk ho; clear HB; have HB := n0_; clear n0_; clear ho hb hg hat) | ((with_reducible refine gate_builtin (b := .append) (xs := #[.tmp 7, .tmp 9]) rfl ?_); at_builtin; refine Kd.R_append (k39) (w0 := w) w.heap.size rfl (.tmp 7) (.tmp 9) 22 39 (.agg #[(.int .i64 0), (.int .i64 0)]) 16 rfl Try.underlying22 info39 rfl (by decide) (by omega) (v1) ([] ++ l0) ((⟨71, 72⟩ : S39)) [.int .i64 71, .int .i64 72] (fun _ => True) (fun _ => False) rfl rfl ?aP (fun _ hk => hk.elim) ?aF ?aO ?aB ?aS ?aL ?_; (case aP => exact k39_mkM _ _ _ (⟨71, 72⟩ : S39)); (case aB => exact (by repeat (first | (with_reducible first | exact HB.out | apply below_alloc | apply pw_below_drewN | apply below_drew1) | exact HB.out))); (case aF => exact (fun _ _ => trivial)); (case aO => exact (by (with_reducible repeat (first | apply Kd.R_alloc | apply Kd.R_drewN | apply Kd.R_drew)); exact HO1.out)); (case aS => exact (below_size (by repeat (first | (with_reducible first | exact HB.out | apply below_alloc | apply pw_below_drewN | apply below_drew1) | exact HB.out)))); (case aL => simp only [List.nil_append]; omega); intro v2 w_v2 ho hb hg hat; have n0_ := Aside0.mk (hb); have HO2 := Aside0.mk (ho); clear HB; have HB := n0_; clear n0_; clear ho hb hg hat; obtain ⟨Ao, co, eo⟩ := Kd.R_slice HO2.out; subst eo; obtain ⟨i0, hi0, _, _, _⟩ := info_parts info39; have hcut := cut_to (P := Try.prog) 22 39 .i64 Try.underlying22 hi0 Ao (l0.length + 1) co (l0.length : Int) (Int.natCast_nonneg _) (by omega) (by have := (Kd.R_reads' HO2.out).2.1; simp at this; omega); simp only [Int.toNat_natCast] at hcut; clear hi0))
  go_ret
  exact ⟨_, _, rfl, by simpa using HO2.out, HB.out⟩

theorem stencillaw07_ints.sp (A0 : Option Addr) (c0 : Nat) (l0 : List Int) (w : World) (hr0 : Kd.C (Kd.int .i64) w A0 l0.length l0) (hc0 : l0.length ≤ c0) (hl : l0.length < 17592186044415) :
    Calls Try.prog 15 #[.slice A0 l0.length c0] w fun e w' => ∃ A c, e = .returned (.slice A l0.length c) ∧ Kd.R (Kd.int .i64) 3 w' w.heap.size (fun _ => True) (.slice A (l0.length + 1) c) (l0 ++ [73]) ∧ Below w.heap.size w w' := by
  have HR0 := Aside0.mk hr0
  clear hr0 hc0
  have HB := Aside0.mk (Below.refl w.heap.size w)
  go_enter Try.func15, Try.ntmps15
  go_wp2_with (first | ((with_reducible refine gate_builtin (b := .append) (xs := #[.tmp 4, .tmp 5]) rfl ?_); at_builtin; refine Kd.R_append_rows ((Kd.int .i64)) (w0 := w) w.heap.size rfl (.tmp 4) (.tmp 5) 23 3 (.int .i64 0) 8 rfl Try.underlying23 info3 rfl (by decide) (by omega) (.slice none 0 0) ([] : List Int) (l0) _ _ _ (fun _ => True) (fun _ => False) rfl rfl ?aO ?aR (fun _ _ h => h) (fun _ h => h.elim) ?aF ?aB ?aS ?aL ?_; (case aR => repeat (first | exact HR0.out | (with_reducible refine Kd.C_alloc ?_ _) | (with_reducible refine Kd.C_drewN ?_ _) | (with_reducible refine Kd.C_drew ?_))); (case aB => exact (by repeat (first | (with_reducible first | exact HB.out | apply below_alloc | apply pw_below_drewN | apply below_drew1) | exact HB.out))); (case aF => exact (fun _ _ => trivial)); (case aO => exact ((Kd.R_nil _ _ _ _ (fun _ => True)))); (case aS => exact (below_size (by repeat (first | (with_reducible first | exact HB.out | apply below_alloc | apply pw_below_drewN | apply below_drew1) | exact HB.out)))); (case aL => simp only [List.length_nil]; omega); intro v1 w_v1 ho hb hg hat; have n0_ := Aside0.mk (hb); have HO1 := Aside0.mk ho; clear HB; have HB := n0_; clear n0_; clear ho hb hg hat) | ((with_reducible refine gate_builtin (b := .append) (xs := #[.tmp 7, .tmp 8]) rfl ?_); at_builtin; refine Kd.R_append ((Kd.int .i64)) (w0 := w) w.heap.size rfl (.tmp 7) (.tmp 8) 23 3 (.int .i64 0) 8 rfl Try.underlying23 info3 rfl (by decide) (by omega) (v1) ([] ++ l0) (73) [.int .i64 73] (fun _ => True) (fun _ => False) rfl rfl ?aP (fun _ hk => hk.elim) ?aF ?aO ?aB ?aS ?aL ?_; (case aP => exact rfl); (case aB => exact (by repeat (first | (with_reducible first | exact HB.out | apply below_alloc | apply pw_below_drewN | apply below_drew1) | exact HB.out))); (case aF => exact (fun _ _ => trivial)); (case aO => exact (by (with_reducible repeat (first | apply Kd.R_alloc | apply Kd.R_drewN | apply Kd.R_drew)); exact HO1.out)); (case aS => exact (below_size (by repeat (first | (with_reducible first | exact HB.out | apply below_alloc | apply pw_below_drewN | apply below_drew1) | exact HB.out)))); (case aL => simp only [List.nil_append]; omega); intro v2 w_v2 ho hb hg hat; have n0_ := Aside0.mk (hb); have HO2 := Aside0.mk (ho); clear HB; have HB := n0_; clear n0_; clear ho hb hg hat; obtain ⟨Ao, co, eo⟩ := Kd.R_slice HO2.out; subst eo; obtain ⟨i0, hi0, _, _, _⟩ := info_parts info3; have hcut := cut_to (P := Try.prog) 23 3 .i64 Try.underlying23 hi0 Ao (l0.length + 1) co (l0.length : Int) (Int.natCast_nonneg _) (by omega) (by have := (Kd.R_reads' HO2.out).2.1; simp at this; omega); simp only [Int.toNat_natCast] at hcut; clear hi0))
  go_ret
  exact ⟨_, _, rfl, by simpa using HO2.out, HB.out⟩

/-- What a slice is cut to, up to its capacity. -/
theorem cut_cap {P : Program} (t e : TypeId) (kh : IntKind) {i : TypeInfo} (ht : P.underlying t = some (.slice e)) (hi : P.info? e = some i) (A : Option Addr) (n c : Nat) (j : Int) (h0 : 0 ≤ j) (hm : j ≤ c) :
    ∀ W : World, (Instr.slice t (.slice A n c) none (some (.int kh j)) none).run P W = .ok (.slice A j.toNat c) W := by
  intro W
  have hel : P.elem t = e := by simp [Program.elem, ht]
  have hu : P.underlying t = some (.slice (P.elem t)) := by rw [hel]; exact ht
  have ha : (A.map fun x => x.add 0) = A := by cases A <;> simp [Addr.add]
  rw [run_slice_h W t A n c hu kh j h0 (by omega), hel]
  simp [sizeOf, typeInfo, hi, sliced, Result.andThen, ha]
theorem rd39_last (l : List S39) (x : S39) : rd_T39 (l ++ [x]) (l.length : Int) = x := by simp [rd_T39]
theorem rd_last (l : List Int) (x : Int) : rd (l ++ [x]) (l.length : Int) = x := by simp [rd]

theorem sameInts_refl (l : List Int) (hl : l.length ≤ 9223372036854775807) : ∀ (d : Nat) (i : Nat), i + d = l.length → stencillaw07_sameInts.l0 (d + 1) l l (i : Int) = some true
  | 0, i, h => by simp only [stencillaw07_sameInts.l0]; rw [if_neg (by omega)]
  | d + 1, i, h => by
    have w : wrap64 ((i : Int) + 1) = ((i + 1 : Nat) : Int) := by unfold wrap64; omega
    have ih := sameInts_refl l hl d (i + 1) (by omega)
    rw [stencillaw07_sameInts.l0, if_pos (by omega), if_pos (by omega), if_pos (by omega), if_pos rfl, w]
    exact ih
theorem sameInts_self (l : List Int) (hl : l.length ≤ 9223372036854775807) : stencillaw07_sameInts.f (l.length + 1) l l = some true := by
  unfold stencillaw07_sameInts.f
  rw [if_pos rfl]
  exact sameInts_refl l hl l.length 0 (by omega)
theorem sameRooms_refl (l : List S39) (hl : l.length ≤ 9223372036854775807) : ∀ (d : Nat) (i : Nat), i + d = l.length → stencillaw07_sameRooms.l0 (d + 1) l l (i : Int) = some true
  | 0, i, h => by simp only [stencillaw07_sameRooms.l0]; rw [if_neg (by omega)]
  | d + 1, i, h => by
    have w : wrap64 ((i : Int) + 1) = ((i + 1 : Nat) : Int) := by unfold wrap64; omega
    have ih := sameRooms_refl l hl d (i + 1) (by omega)
    rw [stencillaw07_sameRooms.l0, if_pos (by omega), if_pos (by omega), if_pos (by omega), if_neg (by simp), w]
    exact ih
theorem sameRooms_self (l : List S39) (hl : l.length ≤ 9223372036854775807) : stencillaw07_sameRooms.f (l.length + 1) l l = some true := by
  unfold stencillaw07_sameRooms.f
  rw [if_pos rfl]
  exact sameRooms_refl l hl l.length 0 (by omega)

set_option maxHeartbeats 1000000 in
/-- The lists are what they were, and what was laid behind them is there. -/
theorem stencillaw07_kept.yes (A0 A1 A2 A3 : Option Addr) (c0 c1 c2 c3 : Nat) (l : List S39) (os : List Int) (w : World) (h0 : Kd.C k39 w A0 (l.length + 1) (l ++ [⟨71, 72⟩])) (hc0 : l.length + 1 ≤ c0) (h1 : Kd.C k39 w A1 l.length l) (hc1 : l.length ≤ c1)
    (h2 : Kd.C (Kd.int .i64) w A2 (os.length + 1) (os ++ [73])) (hc2 : os.length + 1 ≤ c2) (h3 : Kd.C (Kd.int .i64) w A3 os.length os) (hc3 : os.length ≤ c3) (hm : l.length < 8796093022208) (hn : os.length < 17592186044416) :
    Calls Try.prog 14 #[.slice A0 l.length c0, .slice A1 l.length c1, .slice A2 os.length c2, .slice A3 os.length c3] w fun e w' => e = .returned (.bool true) ∧ Drawn0 w w' := by
  have hu39 := Try.underlying39
  have hu22 := Try.underlying22
  have hu23 := Try.underlying23
  have e1 : (l ++ [(⟨71, 72⟩ : S39)]).length = l.length + 1 := by simp
  have e2 : (os ++ [(73 : Int)]).length = os.length + 1 := by simp
  obtain ⟨ad0, rfl, hx0, hx1⟩ := at_T39 h0 (l.length : Int) (by omega) (by omega)
  obtain ⟨ad2, rfl, hx2⟩ := Kd.at_int h2 (os.length : Int) (by omega) (by omega)
  rw [rd39_last] at hx0 hx1
  rw [rd_last] at hx2
  simp only [Int.toNat_natCast] at hx0 hx1 hx2
  have HR0 := Aside0.mk (show Kd.C k39 w (some ad0) l.length l by have := Kd.C_take (m := l.length) (e1 ▸ h0) (by simp); simpa using this)
  have HR2 := Aside0.mk (show Kd.C (Kd.int .i64) w (some ad2) os.length os by have := Kd.C_take (m := os.length) (e2 ▸ h2) (by simp); simpa using this)
  have HR1 := Aside0.mk h1
  have HR3 := Aside0.mk h3
  have S1 := Aside0.mk (sameRooms_self l (by omega))
  have S2 := Aside0.mk (sameInts_self os (by omega))
  have HC0 := Aside0.mk hc0
  have HC1 := Aside0.mk hc1
  have HC2 := Aside0.mk hc2
  have HC3 := Aside0.mk hc3
  obtain ⟨i0, hi0, _, _, _⟩ := info_parts info39
  obtain ⟨i1, hi1, _, _, _⟩ := info_parts info3
  have cut1 := cut_cap (P := Try.prog) 22 39 .i64 hu22 hi0 (some ad0) l.length c0 ((l.length : Int) + 1) (by omega) (by omega)
  have cut2 := cut_cap (P := Try.prog) 23 3 .i64 hu23 hi1 (some ad2) os.length c2 ((os.length : Int) + 1) (by omega) (by omega)
  have t1 : ((l.length : Int) + 1).toNat = l.length + 1 := by omega
  have t2 : ((os.length : Int) + 1).toNat = os.length + 1 := by omega
  rw [t1] at cut1
  rw [t2] at cut2
  clear hi0 hi1 t1 t2 h0 h1 h2 h3 e1 e2 hc0 hc1 hc2 hc3
  go_enter Try.func14, Try.ntmps14
  go_wp2_with (first | (go_at_call 23; (with_reducible refine (stencillaw07_sameRooms.calls _ _ _ l _ _ l true _ HR0.out (by have := HC0.out; omega) HR1.out HC1.out S1.out).mono ?_); rintro e w1 ⟨rfl, ⟨m1, rfl⟩⟩) | (go_at_call 12; (with_reducible refine (stencillaw07_sameInts.calls _ _ _ os _ _ os true _ (Kd.C_drewN HR2.out _) (by have := HC2.out; omega) (Kd.C_drewN HR3.out _) HC3.out S2.out).mono ?_); rintro e w2 ⟨rfl, ⟨m2, rfl⟩⟩))
  go_ret
  exact ⟨rfl, by repeat (first | exact Drawn0.refl _ | apply Drawn0.step)⟩

theorem num_some (a : Int) : stencillaw07_num.f a = some a := rfl
theorem C_len {α : Type} {d : Kd α} {w : World} {A : Option Addr} {n : Nat} {xs : List α} (h : d.C w A n xs) : n ≤ 9223372036854775807 := h.2.1
theorem spare_C {w : World} {A : Option Addr} {l0 : List S39} {x : S39} (h : Kd.C k39 w A (l0.length + 1) (l0 ++ [x])) : Kd.C k39 w A l0.length l0 := by
  have e1 : (l0 ++ [x]).length = l0.length + 1 := by simp
  have := Kd.C_take (m := l0.length) (e1 ▸ h) (by simp)
  simpa using this

theorem spare_I {w : World} {A : Option Addr} {l0 : List Int} {x : Int} (h : Kd.C (Kd.int .i64) w A (l0.length + 1) (l0 ++ [x])) : Kd.C (Kd.int .i64) w A l0.length l0 := by
  have e1 : (l0 ++ [x]).length = l0.length + 1 := by simp
  have := Kd.C_take (m := l0.length) (e1 ▸ h) (by simp)
  simpa using this

end Go.Proofs.Ythckejcoekhdjaa.Q
