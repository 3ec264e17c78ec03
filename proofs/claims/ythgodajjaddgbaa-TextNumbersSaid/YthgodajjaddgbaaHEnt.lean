/- text.names and text.entity (layer 2), by hand: the map of five entities; the entities that Escape writes. -/
import Derived.Test.YthgodajjaddgbaaVx0
import Derived.Test.YthgodajjaddgbaaHBld
import Derived.Test.YthgodajjaddgbaaHShelf
import Derived.Maps.Own
import Derived.Maps.Keyed
import Derived.IntWalk
import Derived.WalkKit
namespace Go.Proofs.Ythgodajjaddgbaa.V
open Go.RowKit Go.Proofs.YthgodajjaddgbaaW.PrintWords Go.Proofs.YthgodajjaddgbaaW.PrintLast Go.Proofs.YthgodajjaddgbaaW.PrintMore
attribute [local go_sem] max2_int min2_int max_two min_two max_three min_three max_four min_four   -- for this text's walks alone
set_option linter.unusedVariables false
set_option linter.unusedSimpArgs false

open Go.Maps (Keyed)
open Go.WideMaps (keyOf_string_mk)
open Go.ChangeMaps
theorem strKey : Keyed Try.prog 9 := Go.Maps.string_keyed Try.underlying9
theorem keyS (s : ByteArray) (hs : s.size ≤ maxLen) : ∃ l, keyOf Try.prog 9 (.string s) = some l := ⟨_, keyOf_string_mk Try.underlying9 hs⟩
/-- A block is this map. -/
def MapAt (w : World) (b : Nat) (es : Array MapEntry) (clock : Nat) : Prop := w.heap[b]? = some (.map es clock) ∧ ∀ e ∈ es.toList, ∃ s : ByteArray, e.key = .string s ∧ s.size ≤ maxLen
theorem map_store (w : World) (b : Nat) (es : Array MapEntry) (clock : Nat) (h : MapAt w b es clock) (s : ByteArray) (val : Value) (hs : s.size ≤ maxLen) (hnew : ∀ e ∈ es.toList, e.key ≠ .string s) :
    ∃ w', (Instr.mapUpdate 68 (.map (some b)) (.string s) val).run Try.prog w = .ok () w' ∧ MapAt w' b (es.push ⟨.string s, val, clock⟩) (clock + 1) ∧ w.grownBy w' (some b) := by
  obtain ⟨hb, hk⟩ := h
  have hkey := keyOf_string_mk Try.underlying9 hs
  have hks : ∀ e ∈ es.toList, ∃ l, keyOf Try.prog 9 e.key = some l := fun e he => by obtain ⟨t, h1, h2⟩ := hk e he; rw [h1]; exact keyS t h2
  rcases strKey.find w hkey es.toList hks with ⟨h1, _⟩ | ⟨j, e0, _, h2, h3⟩
  · refine ⟨setBlock w b (.map (es.push ⟨.string s, val, clock⟩) (clock + 1)), ?_, ⟨heap_setBlock_same hb _, ?_⟩, ⟨rfl, rfl, rfl, by simp [setBlock], fun i _ hi => heap_setBlock_other hb _ (fun e => hi (by rw [e]))⟩⟩
    · simp [Instr.mapUpdate, run_underlying Try.underlying68, MapKept.run_getObj_map hb, strKey.check w false hkey, h1, MapKept.run_setObj_map _ hb, Result.andThen, setBlock]
    · intro e he
      rw [Array.toList_push] at he
      rcases List.mem_append.1 he with he | he
      · exact hk e he
      · rw [List.mem_singleton.1 he]; exact ⟨s, rfl, hs⟩
  · exact absurd h3 (hnew e0 (List.mem_of_getElem? h2))
theorem map_look (w : World) (b : Nat) (es : Array MapEntry) (clock : Nat) (h : MapAt w b es clock) (s : ByteArray) (hs : s.size ≤ maxLen) (v : Value) (hit : ∃ e ∈ es.toList, e.key = .string s) (hv : ∀ e ∈ es.toList, e.key = .string s → e.val = v) :
    (Instr.lookup 68 (.map (some b)) (.string s) true).run Try.prog w = .ok (.tuple #[v, .bool true]) w := by
  obtain ⟨hb, hk⟩ := h
  have hkey := keyOf_string_mk Try.underlying9 hs
  have hks : ∀ e ∈ es.toList, ∃ l, keyOf Try.prog 9 e.key = some l := fun e he => by obtain ⟨t, h1, h2⟩ := hk e he; rw [h1]; exact keyS t h2
  rcases strKey.find w hkey es.toList hks with ⟨_, h2⟩ | ⟨j, e0, h1, h2, h3⟩
  · obtain ⟨e, he, hek⟩ := hit
    exact absurd hek (h2 e he)
  · have := hv e0 (List.mem_of_getElem? h2) h3
    subst this
    simp [Instr.lookup, run_underlying Try.underlying68, MapKept.run_getObj_map hb, strKey.check w _ hkey, h1, Result.andThen]
theorem map_miss (w : World) (b : Nat) (es : Array MapEntry) (clock : Nat) (h : MapAt w b es clock) (s : ByteArray) (hs : s.size ≤ maxLen) (hno : ∀ e ∈ es.toList, e.key ≠ .string s) :
    (Instr.lookup 68 (.map (some b)) (.string s) true).run Try.prog w = .ok (.tuple #[.string ⟨#[]⟩, .bool false]) w := by
  obtain ⟨hb, hk⟩ := h
  have hkey := keyOf_string_mk Try.underlying9 hs
  have hks : ∀ e ∈ es.toList, ∃ l, keyOf Try.prog 9 e.key = some l := fun e he => by obtain ⟨t, h1, h2⟩ := hk e he; rw [h1]; exact keyS t h2
  have hz : (zeroValue 9).run Try.prog w = .ok (.string ⟨#[]⟩) w := by kernel_rfl
  rcases strKey.find w hkey es.toList hks with ⟨h1, _⟩ | ⟨j, e0, _, h2, h3⟩
  · simp [Instr.lookup, run_underlying Try.underlying68, MapKept.run_getObj_map hb, strKey.check w _ hkey, h1, hz, Result.andThen]
  · exact absurd h3 (hno e0 (List.mem_of_getElem? h2))
def entMap : Array MapEntry := #[⟨.string ⟨#[97, 109, 112]⟩, .string ⟨#[38]⟩, 0⟩, ⟨.string ⟨#[108, 116]⟩, .string ⟨#[60]⟩, 1⟩, ⟨.string ⟨#[103, 116]⟩, .string ⟨#[62]⟩, 2⟩, ⟨.string ⟨#[113, 117, 111, 116]⟩, .string ⟨#[34]⟩, 3⟩, ⟨.string ⟨#[97, 112, 111, 115]⟩, .string ⟨#[39]⟩, 4⟩]
theorem ba_ne (a b : Array UInt8) (h : a ≠ b) : Value.string ⟨a⟩ ≠ Value.string ⟨b⟩ := fun e => by injection e with e; injection e with e; exact h e
set_option maxHeartbeats 4000000 in
set_option maxRecDepth 100000 in
theorem text_names.calls (w : World) : Calls Try.prog 54 #[] w fun e w' => ∃ g, e = .returned (.map (some g)) ∧ MapAt w' g entMap 5 ∧ Below w.heap.size w w' := by
  have hmm := @run_makeMap Try.prog
  have m0 : MapAt (w.alloc (.map #[] 0)) w.heap.size #[] 0 := ⟨(MapKept.heap_alloc w _).1, fun e he => by simp at he⟩
  have hml : ∀ n : Nat, n ≤ 10 → n ≤ maxLen := fun n h => by unfold maxLen; omega
  obtain ⟨w1, r1, m1, g1⟩ := map_store _ _ _ _ m0 ⟨#[97, 109, 112]⟩ (.string ⟨#[38]⟩) (hml _ (by decide)) (fun e he => by simp at he)
  obtain ⟨w2, r2, m2, g2⟩ := map_store _ _ _ _ m1 ⟨#[108, 116]⟩ (.string ⟨#[60]⟩) (hml _ (by decide)) (fun e he => by simp at he; subst he; exact ba_ne _ _ (by decide))
  obtain ⟨w3, r3, m3, g3⟩ := map_store _ _ _ _ m2 ⟨#[103, 116]⟩ (.string ⟨#[62]⟩) (hml _ (by decide)) (fun e he => by simp at he; rcases he with rfl | rfl <;> exact ba_ne _ _ (by decide))
  obtain ⟨w4, r4, m4, g4⟩ := map_store _ _ _ _ m3 ⟨#[113, 117, 111, 116]⟩ (.string ⟨#[34]⟩) (hml _ (by decide)) (fun e he => by simp at he; rcases he with rfl | rfl | rfl <;> exact ba_ne _ _ (by decide))
  obtain ⟨w5, r5, m5, g5⟩ := map_store _ _ _ _ m4 ⟨#[97, 112, 111, 115]⟩ (.string ⟨#[39]⟩) (hml _ (by decide)) (fun e he => by simp at he; rcases he with rfl | rfl | rfl | rfl <;> exact ba_ne _ _ (by decide))
  have b0 : Below w.heap.size w (w.alloc (.map #[] 0)) := below_alloc (Below.refl _ _) _
  have bs : ∀ {a b : World}, Below w.heap.size w a → a.grownBy b (some w.heap.size) → Below w.heap.size w b := fun h g => h.grown g h.size (fun k hk => by cases hk; exact Nat.le_refl _)
  have HB := Aside0.mk (bs (bs (bs (bs (bs b0 g1) g2) g3) g4) g5)
  have HM := Aside0.mk m5
  clear m0 m1 m2 m3 m4 m5 g1 g2 g3 g4 g5 b0 bs hml
  go_enter Try.func54, Try.ntmps54
  go_wp2
  go_ret
  exact ⟨_, rfl, HM.out, HB.out⟩

end Go.Proofs.Ythgodajjaddgbaa.V
