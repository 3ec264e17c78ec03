/- text.entity (layer 2), by hand: what stands in the table, and a number in decimal or hex. -/
import Derived.Test.YthgodajjaddgbaaVx0
import Derived.Test.YthgodajjaddgbaaVx1
import Derived.Test.YthgodajjaddgbaaHBase
import Derived.Test.YthgodajjaddgbaaHEnt
import Derived.IntWalk
namespace Go.Proofs.Ythgodajjaddgbaa.V
open Go.RowKit Go.Proofs.YthgodajjaddgbaaW.PrintWords Go.Proofs.YthgodajjaddgbaaW.PrintLast Go.Proofs.YthgodajjaddgbaaW.PrintMore
attribute [local go_sem] max2_int min2_int max_two min_two max_three min_three max_four min_four   -- for this text's walks alone
set_option linter.unusedVariables false
set_option linter.unusedSimpArgs false

set_option maxHeartbeats 4000000 in
set_option maxRecDepth 100000 in
theorem ent_hit (w : World) (s v : ByteArray) (hs : s.size ≤ maxLen) (hit : ∃ e ∈ entMap.toList, e.key = .string s) (hv : ∀ e ∈ entMap.toList, e.key = .string s → e.val = .string v) :
    Calls Try.prog 32 #[.string s] w fun e w' => e = .returned (.tuple #[.string v, .bool true]) ∧ Below w.heap.size w w' := by
  have HL := Aside0.mk (fun W g (h : MapAt W g entMap 5) => map_look W g entMap 5 h s hs (.string v) hit hv)
  clear hs hit hv
  go_enter Try.func32, Try.ntmps32
  go_wp2_with (first | (go_at_call 54; (with_reducible refine (text_names.calls _).mono ?_); rintro e_ w1 ⟨g, rfl, hm_, hb_⟩; have hlk := HL.out w1 g hm_; have HB := Aside0.mk hb_; clear hm_ hb_))
  go_ret2
  exact ⟨rfl, HB.out⟩
set_option maxHeartbeats 4000000 in
set_option maxRecDepth 100000 in
theorem ent_dec (w : World) (s s1 t v : ByteArray) (k : Nat) (ok : Bool) (hs : s.size ≤ maxLen) (hno : ∀ e ∈ entMap.toList, e.key ≠ .string s) (h1 : strings_CutPrefix.f s ⟨#[35, 120]⟩ = some (s1, false)) (h2 : strings_CutPrefix.f s ⟨#[35]⟩ = some (t, true)) (h3 : text_number.f k t 10 = some (v, ok)) :
    Calls Try.prog 32 #[.string s] w fun e w' => e = .returned (.tuple #[.string v, .bool ok]) ∧ Below w.heap.size w w' := by
  have HL := Aside0.mk (fun W g (h : MapAt W g entMap 5) => map_miss W g entMap 5 h s hs hno)
  have H1 := Aside0.mk h1
  have H2 := Aside0.mk h2
  have H3 := Aside0.mk h3
  clear hs hno h1 h2 h3
  have tk1 : Aside0 True := ⟨trivial⟩
  go_enter Try.func32, Try.ntmps32
  go_wp2_with (first | (go_at_call 54; (with_reducible refine (text_names.calls _).mono ?_); rintro e_ w1 ⟨g, rfl, hm_, hb_⟩; have hlk := HL.out w1 g hm_; have HB := Aside0.mk hb_; clear hm_ hb_) | (go_at_call 55; clear tk1; have tk2 : Aside0 True := ⟨trivial⟩; (with_reducible refine (strings_CutPrefix.calls _ _ s1 false _ H1.out).mono ?_); rintro e_ w2 ⟨rfl, ⟨m2, rfl⟩⟩) | (go_at_call 55; clear tk2; (with_reducible refine (strings_CutPrefix.calls _ _ t true _ H2.out).mono ?_); rintro e_ w3 ⟨rfl, ⟨m3, rfl⟩⟩) | (go_at_call 56; (with_reducible refine (text_number.calls k t 10 v ok _ H3.out).mono ?_); rintro e_ w4 ⟨rfl, hb_⟩; have HB4 := Aside0.mk hb_; clear hb_))
  go_ret2
  exact ⟨rfl, below_step (by repeat (first | exact HB.out | apply pw_below_drewN | apply below_drew)) HB4.out⟩
theorem ml_small (n : Nat) (h : n ≤ 10) : n ≤ maxLen := by unfold maxLen; omega
theorem ent_amp (w : World) : Calls Try.prog 32 #[.string ⟨#[97, 109, 112]⟩] w fun e w' => e = .returned (.tuple #[.string ⟨#[38]⟩, .bool true]) ∧ Below w.heap.size w w' :=
  ent_hit w _ _ (ml_small _ (by decide)) ⟨_, by simp only [entMap]; exact List.mem_cons_self, rfl⟩ (fun e he hk => by simp only [entMap, List.mem_cons, List.not_mem_nil, or_false] at he; rcases he with rfl | rfl | rfl | rfl | rfl <;> first | rfl | exact absurd hk (ba_ne _ _ (by decide)))
theorem ent_lt (w : World) : Calls Try.prog 32 #[.string ⟨#[108, 116]⟩] w fun e w' => e = .returned (.tuple #[.string ⟨#[60]⟩, .bool true]) ∧ Below w.heap.size w w' :=
  ent_hit w _ _ (ml_small _ (by decide)) ⟨_, by simp only [entMap]; exact List.mem_cons_of_mem _ List.mem_cons_self, rfl⟩ (fun e he hk => by simp only [entMap, List.mem_cons, List.not_mem_nil, or_false] at he; rcases he with rfl | rfl | rfl | rfl | rfl <;> first | rfl | exact absurd hk (ba_ne _ _ (by decide)))
theorem ent_gt (w : World) : Calls Try.prog 32 #[.string ⟨#[103, 116]⟩] w fun e w' => e = .returned (.tuple #[.string ⟨#[62]⟩, .bool true]) ∧ Below w.heap.size w w' :=
  ent_hit w _ _ (ml_small _ (by decide)) ⟨_, by simp only [entMap]; exact List.mem_cons_of_mem _ (List.mem_cons_of_mem _ List.mem_cons_self), rfl⟩ (fun e he hk => by simp only [entMap, List.mem_cons, List.not_mem_nil, or_false] at he; rcases he with rfl | rfl | rfl | rfl | rfl <;> first | rfl | exact absurd hk (ba_ne _ _ (by decide)))
theorem ent_quot (w : World) : Calls Try.prog 32 #[.string ⟨#[113, 117, 111, 116]⟩] w fun e w' => e = .returned (.tuple #[.string ⟨#[34]⟩, .bool true]) ∧ Below w.heap.size w w' :=
  ent_hit w _ _ (ml_small _ (by decide)) ⟨_, by simp only [entMap]; exact List.mem_cons_of_mem _ (List.mem_cons_of_mem _ (List.mem_cons_of_mem _ List.mem_cons_self)), rfl⟩ (fun e he hk => by simp only [entMap, List.mem_cons, List.not_mem_nil, or_false] at he; rcases he with rfl | rfl | rfl | rfl | rfl <;> first | rfl | exact absurd hk (ba_ne _ _ (by decide)))
theorem ent_no (s : Array UInt8) (h : s ≠ #[97, 109, 112] ∧ s ≠ #[108, 116] ∧ s ≠ #[103, 116] ∧ s ≠ #[113, 117, 111, 116] ∧ s ≠ #[97, 112, 111, 115]) : ∀ e ∈ entMap.toList, e.key ≠ .string ⟨s⟩ := by
  intro e he
  simp only [entMap, List.mem_cons, List.not_mem_nil, or_false] at he
  rcases he with rfl | rfl | rfl | rfl | rfl
  · exact ba_ne _ _ h.1.symm
  · exact ba_ne _ _ h.2.1.symm
  · exact ba_ne _ _ h.2.2.1.symm
  · exact ba_ne _ _ h.2.2.2.1.symm
  · exact ba_ne _ _ h.2.2.2.2.symm
theorem ent_13 (w : World) : Calls Try.prog 32 #[.string ⟨#[35, 49, 51]⟩] w fun e w' => e = .returned (.tuple #[.string ⟨#[13]⟩, .bool true]) ∧ Below w.heap.size w w' :=
  ent_dec w _ ⟨#[35, 49, 51]⟩ ⟨#[49, 51]⟩ _ 20 true (ml_small _ (by decide)) (ent_no _ (by decide)) (by kernel_rfl) (by kernel_rfl) (by kernel_rfl)
theorem ent_9 (w : World) : Calls Try.prog 32 #[.string ⟨#[35, 57]⟩] w fun e w' => e = .returned (.tuple #[.string ⟨#[9]⟩, .bool true]) ∧ Below w.heap.size w w' :=
  ent_dec w _ ⟨#[35, 57]⟩ ⟨#[57]⟩ _ 20 true (ml_small _ (by decide)) (ent_no _ (by decide)) (by kernel_rfl) (by kernel_rfl) (by kernel_rfl)
theorem ent_10 (w : World) : Calls Try.prog 32 #[.string ⟨#[35, 49, 48]⟩] w fun e w' => e = .returned (.tuple #[.string ⟨#[10]⟩, .bool true]) ∧ Below w.heap.size w w' :=
  ent_dec w _ ⟨#[35, 49, 48]⟩ ⟨#[49, 48]⟩ _ 20 true (ml_small _ (by decide)) (ent_no _ (by decide)) (by kernel_rfl) (by kernel_rfl) (by kernel_rfl)
set_option maxHeartbeats 4000000 in
set_option maxRecDepth 100000 in
theorem ent_hex (w : World) (s t v : ByteArray) (k : Nat) (ok : Bool) (hs : s.size ≤ maxLen) (hno : ∀ e ∈ entMap.toList, e.key ≠ .string s) (h1 : strings_CutPrefix.f s ⟨#[35, 120]⟩ = some (t, true)) (h3 : text_number.f k t 16 = some (v, ok)) :
    Calls Try.prog 32 #[.string s] w fun e w' => e = .returned (.tuple #[.string v, .bool ok]) ∧ Below w.heap.size w w' := by
  have HL := Aside0.mk (fun W g (h : MapAt W g entMap 5) => map_miss W g entMap 5 h s hs hno)
  have H1 := Aside0.mk h1
  have H3 := Aside0.mk h3
  clear hs hno h1 h3
  go_enter Try.func32, Try.ntmps32
  go_wp2_with (first | (go_at_call 54; (with_reducible refine (text_names.calls _).mono ?_); rintro e_ w1 ⟨g, rfl, hm_, hb_⟩; have hlk := HL.out w1 g hm_; have HB := Aside0.mk hb_; clear hm_ hb_) | (go_at_call 55; (with_reducible refine (strings_CutPrefix.calls _ _ t true _ H1.out).mono ?_); rintro e_ w2 ⟨rfl, ⟨m2, rfl⟩⟩) | (go_at_call 56; (with_reducible refine (text_number.calls k t 16 v ok _ H3.out).mono ?_); rintro e_ w4 ⟨rfl, hb_⟩; have HB4 := Aside0.mk hb_; clear hb_))
  go_ret2
  exact ⟨rfl, below_step (by repeat (first | exact HB.out | apply pw_below_drewN | apply below_drew)) HB4.out⟩

end Go.Proofs.Ythgodajjaddgbaa.V
