/- The pure statement of FrameEnds, and how its arguments are opened. Made by this project's own program. -/
import Derived.Test.YtkchnocliilapaaHFrameEnds
import Derived.Test.YtkchnocliilapaaHOpen
namespace Go.Proofs.Ytkchnocliilapaa.Q
open Go.RowKit Go.Proofs.YtkchnocliilapaaW.PrintWords Go.Proofs.YtkchnocliilapaaW.PrintLast Go.Proofs.YtkchnocliilapaaW.PrintMore
attribute [local go_sem] max2_int min2_int max_two min_two max_three min_three max_four min_four   -- for this text's walks alone
set_option linter.unusedVariables false
set_option linter.unusedSimpArgs false

theorem op3 : Opens Try.prog 3 (Kd.int .i64) (fun x => (Lit.int .i64 x).wf = true) := opens_int Try.underlying3
theorem op9 : Opens Try.prog 9 Kd.string (fun x => x.size ≤ 140737488351232) := opens_string Try.underlying9
def ok23 (x : S23) : Prop := (Lit.int .i64 x.f0).wf = true ∧ x.f1.size ≤ 140737488351232
theorem op23 : Opens Try.prog 23 k23 ok23 := opens_struct (fun x : S23 => (x.f0, x.f1)) (fun b => ⟨b.1, b.2⟩) (fun _ => rfl) Try.underlying23 (by kernel_rfl) (fs_cons rfl (by kernel_rfl) op3 (fs_one rfl (by kernel_rfl) op9))
theorem op24 : Opens Try.prog 24 (Kd.slice 23 k23) (fun x => x.length ≤ maxLen ∧ x.length * 24 ≤ 140737488351232 ∧ ∀ x_ ∈ x, ok23 x_) := opens_slice Try.underlying24 (by kernel_rfl) (by kernel_rfl) op23
theorem op5 : Opens Try.prog 5 (Kd.int .u8) (fun x => (Lit.int .u8 x).wf = true) := opens_int Try.underlying5
theorem op45 : Opens Try.prog 45 (Kd.slice 5 (Kd.int .u8)) (fun x => x.length ≤ maxLen ∧ x.length * 1 ≤ 140737488351232 ∧ ∀ x_ ∈ x, (Lit.int .u8 x_).wf = true) := opens_slice Try.underlying45 (by kernel_rfl) (by kernel_rfl) op5
/-- The one pure statement of stencillaw24_FrameEnds. -/
def stencillaw24_FrameEnds.Pure : Prop := ∀ (l0 : List (S23)) (a1 : Int) (a2 : Int) (a3 : ByteArray) (l4 : List Int), (l0.length ≤ maxLen ∧ l0.length * 24 ≤ 140737488351232 ∧ ∀ x_ ∈ l0, ok23 x_) → ((Lit.int .i64 a1).wf = true) → ((Lit.int .i64 a2).wf = true) → (a3.size ≤ 140737488351232) → (l4.length ≤ maxLen ∧ l4.length * 1 ≤ 140737488351232 ∧ ∀ x_ ∈ l4, (Lit.int .u8 x_).wf = true) → stencillaw24_FrameEnds.f l0 a1 a2 a3 l4 = some true
end Go.Proofs.Ytkchnocliilapaa.Q
