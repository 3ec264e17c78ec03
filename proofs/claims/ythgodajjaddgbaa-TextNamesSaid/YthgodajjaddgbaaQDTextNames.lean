/- The pure statement of TextNames, and how its arguments are opened. Made by this project's own program. -/
import Derived.Test.YthgodajjaddgbaaHTextNames
import Derived.Test.YthgodajjaddgbaaHOpen
namespace Go.Proofs.Ythgodajjaddgbaa.Q
open Go.RowKit Go.Proofs.YthgodajjaddgbaaW.PrintWords Go.Proofs.YthgodajjaddgbaaW.PrintLast Go.Proofs.YthgodajjaddgbaaW.PrintMore
attribute [local go_sem] max2_int min2_int max_two min_two max_three min_three max_four min_four   -- for this text's walks alone
set_option linter.unusedVariables false
set_option linter.unusedSimpArgs false

theorem op9 : Opens Try.prog 9 Kd.string (fun x => x.size ≤ 140737488351232) := opens_string Try.underlying9
theorem op5 : Opens Try.prog 5 (Kd.int .u8) (fun x => (Lit.int .u8 x).wf = true) := opens_int Try.underlying5
/-- The one pure statement of stencillaw02_TextNames. -/
def stencillaw02_TextNames.Pure : Prop := ∀ (a0 : ByteArray) (a1 : Int) (a2 : ByteArray), (a0.size ≤ 140737488351232) → ((Lit.int .u8 a1).wf = true) → (a2.size ≤ 140737488351232) → stencillaw02_TextNames.f a0 a1 a2 = some true
end Go.Proofs.Ythgodajjaddgbaa.Q
