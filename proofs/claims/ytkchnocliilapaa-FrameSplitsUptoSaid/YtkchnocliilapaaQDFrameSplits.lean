/- The pure statement of FrameSplits, and how its arguments are opened. Made by this project's own program. -/
import Derived.Test.YtkchnocliilapaaHFrameSplits
import Derived.Test.YtkchnocliilapaaHOpenB
namespace Go.Proofs.Ytkchnocliilapaa.Q
open Go.RowKit Go.Proofs.YtkchnocliilapaaW.PrintWords Go.Proofs.YtkchnocliilapaaW.PrintLast Go.Proofs.YtkchnocliilapaaW.PrintMore
attribute [local go_sem] max2_int min2_int max_two min_two max_three min_three max_four min_four   -- for this text's walks alone
set_option linter.unusedVariables false
set_option linter.unusedSimpArgs false

theorem opB3 : OpensB Try.prog 3 (Kd.int .i64) (fun x => (Lit.int .i64 x).wf = true) (fun _ => 1) := opensB_int Try.underlying3
theorem opB9 : OpensB Try.prog 9 Kd.string (fun x => x.size ≤ 140737488351232) (fun x => (x.size + 1)) := opensB_string Try.underlying9
def ok23 (x : S23) : Prop := (Lit.int .i64 x.f0).wf = true ∧ x.f1.size ≤ 140737488351232
def bk23 (x : S23) : Nat := 1 + ((x.f1.size + 1)) + 1
theorem opB23 : OpensB Try.prog 23 k23 ok23 bk23 := opensB_struct (fun x : S23 => (x.f0, x.f1)) (fun b => ⟨b.1, b.2⟩) (fun _ => rfl) Try.underlying23 (by kernel_rfl) (fsB_cons rfl (by kernel_rfl) opB3 (fsB_one rfl (by kernel_rfl) opB9))
/-- The one pure statement of stencillaw24_FrameSplits, where what is read is of bulk at most 1048576. -/
def stencillaw24_FrameSplits.Pure : Prop := ∀ (a0 : Int) (a1 : ByteArray) (a2_0 : Int) (a2_1 : ByteArray), ((Lit.int .i64 a0).wf = true) → (a1.size ≤ 140737488351232) → (ok23 (⟨a2_0, a2_1⟩ : S23)) → (1 + (a1.size + 1) + bk23 (⟨a2_0, a2_1⟩ : S23) ≤ 1048576) → stencillaw24_FrameSplits.f a0 a1 a2_0 a2_1 = some true
end Go.Proofs.Ytkchnocliilapaa.Q
