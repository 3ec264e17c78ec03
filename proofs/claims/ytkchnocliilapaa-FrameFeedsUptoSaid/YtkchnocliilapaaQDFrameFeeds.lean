/- The pure statement of FrameFeeds, and how its arguments are opened. Made by this project's own program. -/
import Derived.Test.YtkchnocliilapaaHFrameFeeds
import Derived.Test.YtkchnocliilapaaHOpenB
namespace Go.Proofs.Ytkchnocliilapaa.Q
open Go.RowKit Go.Proofs.YtkchnocliilapaaW.PrintWords Go.Proofs.YtkchnocliilapaaW.PrintLast Go.Proofs.YtkchnocliilapaaW.PrintMore
attribute [local go_sem] max2_int min2_int max_two min_two max_three min_three max_four min_four   -- for this text's walks alone
set_option linter.unusedVariables false
set_option linter.unusedSimpArgs false

theorem opB3 : OpensB Try.prog 3 (Kd.int .i64) (fun x => (Lit.int .i64 x).wf = true) (fun _ => 1) := opensB_int Try.underlying3
theorem opB5 : OpensB Try.prog 5 (Kd.int .u8) (fun x => (Lit.int .u8 x).wf = true) (fun _ => 1) := opensB_int Try.underlying5
theorem opB45 : OpensB Try.prog 45 (Kd.slice 5 (Kd.int .u8)) (fun x => x.length ≤ maxLen ∧ x.length * 1 ≤ 140737488351232 ∧ ∀ x_ ∈ x, (Lit.int .u8 x_).wf = true) (fun x => ((x.map fun x_ => 1).sum + 1)) := opensB_slice Try.underlying45 (by kernel_rfl) (by kernel_rfl) opB5
def ok47 (x : S47) : Prop := (Lit.int .i64 x.f0).wf = true ∧ (Lit.int .i64 x.f1).wf = true ∧ (Lit.int .i64 x.f2).wf = true ∧ (x.f3.length ≤ maxLen ∧ x.f3.length * 1 ≤ 140737488351232 ∧ ∀ x_ ∈ x.f3, (Lit.int .u8 x_).wf = true)
def bk47 (x : S47) : Nat := 1 + (1 + (1 + (((x.f3.map fun x_ => 1).sum + 1)))) + 1
theorem opB47 : OpensB Try.prog 47 k47 ok47 bk47 := opensB_struct (fun x : S47 => (x.f0, x.f1, x.f2, x.f3)) (fun b => ⟨b.1, b.2.1, b.2.2.1, b.2.2.2⟩) (fun _ => rfl) Try.underlying47 (by kernel_rfl) (fsB_cons rfl (by kernel_rfl) opB3 (fsB_cons rfl (by kernel_rfl) opB3 (fsB_cons rfl (by kernel_rfl) opB3 (fsB_one rfl (by kernel_rfl) opB45))))
theorem opB37 : OpensB Try.prog 37 (Kd.slice 47 k47) (fun x => x.length ≤ maxLen ∧ x.length * 48 ≤ 140737488351232 ∧ ∀ x_ ∈ x, ok47 x_) (fun x => ((x.map fun x_ => bk47 x_).sum + 1)) := opensB_slice Try.underlying37 (by kernel_rfl) (by kernel_rfl) opB47
/-- The one pure statement of stencillaw24_FrameFeeds, where what is read is of bulk at most 1048576. -/
def stencillaw24_FrameFeeds.Pure : Prop := ∀ (a0 : Int) (l1 : List (S47)), ((Lit.int .i64 a0).wf = true) → (l1.length ≤ maxLen ∧ l1.length * 48 ≤ 140737488351232 ∧ ∀ x_ ∈ l1, ok47 x_) → (1 + ((l1.map fun x_ => bk47 x_).sum + 1) ≤ 1048576) → stencillaw24_FrameFeeds.f a0 l1 = some true
end Go.Proofs.Ytkchnocliilapaa.Q
