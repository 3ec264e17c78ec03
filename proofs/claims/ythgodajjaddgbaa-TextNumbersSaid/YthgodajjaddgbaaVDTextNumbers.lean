/- The pure statement of TextNumbers, and how its arguments are opened. Made by this project's own program. -/
import Derived.Test.YthgodajjaddgbaaHTextNumbers
import Derived.Test.YthgodajjaddgbaaHOpenV
namespace Go.Proofs.Ythgodajjaddgbaa.V
open Go.RowKit Go.Proofs.YthgodajjaddgbaaW.PrintWords Go.Proofs.YthgodajjaddgbaaW.PrintLast Go.Proofs.YthgodajjaddgbaaW.PrintMore
attribute [local go_sem] max2_int min2_int max_two min_two max_three min_three max_four min_four   -- for this text's walks alone
set_option linter.unusedVariables false
set_option linter.unusedSimpArgs false

theorem op3 : Opens Try.prog 3 (Kd.int .i64) (fun x => (Lit.int .i64 x).wf = true) := opens_int Try.underlying3
theorem op9 : Opens Try.prog 9 Kd.string (fun x => x.size ≤ 140737488351232) := opens_string Try.underlying9
/-- The one pure statement of stencillaw02_TextNumbers. -/
def stencillaw02_TextNumbers.Pure : Prop := ∀ (a0 : Int) (a1 : Int) (a2 : ByteArray), ((Lit.int .i64 a0).wf = true) → ((Lit.int .i64 a1).wf = true) → (a2.size ≤ 140737488351232) → stencillaw02_TextNumbers.f a0 a1 a2 = some true
end Go.Proofs.Ythgodajjaddgbaa.V
