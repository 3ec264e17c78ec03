/- The pure statement of TextPoints, and how its arguments are opened. Made by this project's own program. -/
import Derived.Test.YthgodajjaddgbaaHTextPoints
import Derived.Test.YthgodajjaddgbaaHOpenP
namespace Go.Proofs.Ythgodajjaddgbaa.P
open Go.RowKit Go.Proofs.YthgodajjaddgbaaW.PrintWords Go.Proofs.YthgodajjaddgbaaW.PrintLast Go.Proofs.YthgodajjaddgbaaW.PrintMore
attribute [local go_sem] max2_int min2_int max_two min_two max_three min_three max_four min_four   -- for this text's walks alone
set_option linter.unusedVariables false
set_option linter.unusedSimpArgs false

theorem op3 : Opens Try.prog 3 (Kd.int .i64) (fun x => (Lit.int .i64 x).wf = true) := opens_int Try.underlying3
/-- The one pure statement of stencillaw02_TextPoints. -/
def stencillaw02_TextPoints.Pure : Prop := ∀ (a0 : Int) (a1 : Int), ((Lit.int .i64 a0).wf = true) → ((Lit.int .i64 a1).wf = true) → stencillaw02_TextPoints.f a0 a1 = some true
end Go.Proofs.Ythgodajjaddgbaa.P
