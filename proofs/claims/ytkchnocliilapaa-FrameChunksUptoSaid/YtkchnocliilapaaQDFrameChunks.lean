/- The pure statement of FrameChunks, and how its arguments are opened. Made by this project's own program. -/
import Derived.Test.YtkchnocliilapaaHFrameChunks
import Derived.Test.YtkchnocliilapaaHOpenB
namespace Go.Proofs.Ytkchnocliilapaa.Q
open Go.RowKit Go.Proofs.YtkchnocliilapaaW.PrintWords Go.Proofs.YtkchnocliilapaaW.PrintLast Go.Proofs.YtkchnocliilapaaW.PrintMore
attribute [local go_sem] max2_int min2_int max_two min_two max_three min_three max_four min_four   -- for this text's walks alone
set_option linter.unusedVariables false
set_option linter.unusedSimpArgs false

theorem opB3 : OpensB Try.prog 3 (Kd.int .i64) (fun x => (Lit.int .i64 x).wf = true) (fun _ => 1) := opensB_int Try.underlying3
theorem opB9 : OpensB Try.prog 9 Kd.string (fun x => x.size ≤ 140737488351232) (fun x => (x.size + 1)) := opensB_string Try.underlying9
def ok23 (x : S23) : Prop := (Lit.int .i64 x.f0).wf = true ∧ x.f1.size ≤ 140737488351232
def bk23 (x : S23) : Nat := 1 + ((x.f1.size + 1)) + 1
theorem opB23 : OpensB Try.prog 23 k23 ok23 bk23 := opensB_struct (fun x : S23 => (x.f0, x.f1)) (fun b => ⟨b.1, b.2⟩) (fun _ => rfl) Try.underlying23 (by kernel_rfl) (fsB_cons rfl (by kernel_rfl) opB3 (fsB_one rfl (by kernel_rfl) opB9))
theorem opB24 : OpensB Try.prog 24 (Kd.slice 23 k23) (fun x => x.length ≤ maxLen ∧ x.length * 24 ≤ 140737488351232 ∧ ∀ x_ ∈ x, ok23 x_) (fun x => ((x.map fun x_ => bk23 x_).sum + 1)) := opensB_slice Try.underlying24 (by kernel_rfl) (by kernel_rfl) opB23
theorem opB53 : OpensB Try.prog 53 (Kd.slice 3 (Kd.int .i64)) (fun x => x.length ≤ maxLen ∧ x.length * 8 ≤ 140737488351232 ∧ ∀ x_ ∈ x, (Lit.int .i64 x_).wf = true) (fun x => ((x.map fun x_ => 1).sum + 1)) := opensB_slice Try.underlying53 (by kernel_rfl) (by kernel_rfl) opB3
/-- The one pure statement of stencillaw24_FrameChunks, where what is read is of bulk at most 1048576. -/
def stencillaw24_FrameChunks.Pure : Prop := ∀ (l0 : List (S23)) (l1 : List Int), (l0.length ≤ maxLen ∧ l0.length * 24 ≤ 140737488351232 ∧ ∀ x_ ∈ l0, ok23 x_) → (l1.length ≤ maxLen ∧ l1.length * 8 ≤ 140737488351232 ∧ ∀ x_ ∈ l1, (Lit.int .i64 x_).wf = true) → (((l0.map fun x_ => bk23 x_).sum + 1) + ((l1.map fun x_ => 1).sum + 1) ≤ 1048576) → stencillaw24_FrameChunks.f l0 l1 = some true
end Go.Proofs.Ytkchnocliilapaa.Q
