/- The pure statement of TextThere, and how its arguments are opened. Made by this project's own program. -/
import Derived.Test.YthgodajjaddgbaaHTextThere
import Derived.Test.YthgodajjaddgbaaHOpenV
namespace Go.Proofs.Ythgodajjaddgbaa.V
open Go.RowKit Go.Proofs.YthgodajjaddgbaaW.PrintWords Go.Proofs.YthgodajjaddgbaaW.PrintLast Go.Proofs.YthgodajjaddgbaaW.PrintMore
attribute [local go_sem] max2_int min2_int max_two min_two max_three min_three max_four min_four   -- for this text's walks alone
set_option linter.unusedVariables false
set_option linter.unusedSimpArgs false

theorem opB9 : OpensB Try.prog 9 Kd.string (fun x => x.size ≤ 140737488351232) (fun x => (x.size + 1)) := opensB_string Try.underlying9
/-- The one pure statement of stencillaw02_TextThere, where what is read is of bulk at most 1048576. -/
def stencillaw02_TextThere.Pure : Prop := ∀ (a0 : ByteArray), (a0.size ≤ 140737488351232) → ((a0.size + 1) ≤ 1048576) → stencillaw02_TextThere.f a0 = some true
end Go.Proofs.Ythgodajjaddgbaa.V
