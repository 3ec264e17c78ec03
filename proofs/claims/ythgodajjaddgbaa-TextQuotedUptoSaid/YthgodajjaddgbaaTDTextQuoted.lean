/- The pure statement of TextQuoted, and how its arguments are opened. Made by this project's own program. -/
import Derived.Test.YthgodajjaddgbaaHTextQuoted
import Derived.Test.YthgodajjaddgbaaHOpenT
namespace Go.Proofs.Ythgodajjaddgbaa.T
open Go.RowKit Go.Proofs.YthgodajjaddgbaaW.PrintWords Go.Proofs.YthgodajjaddgbaaW.PrintLast Go.Proofs.YthgodajjaddgbaaW.PrintMore
attribute [local go_sem] max2_int min2_int max_two min_two max_three min_three max_four min_four   -- for this text's walks alone
set_option linter.unusedVariables false
set_option linter.unusedSimpArgs false

theorem opB9 : OpensB Try.prog 9 Kd.string (fun x => x.size ≤ 140737488351232) (fun x => (x.size + 1)) := opensB_string Try.underlying9
theorem opB3 : OpensB Try.prog 3 (Kd.int .i64) (fun x => (Lit.int .i64 x).wf = true) (fun _ => 1) := opensB_int Try.underlying3
/-- The one pure statement of stencillaw02_TextQuoted, where what is read is of bulk at most 1048576. -/
def stencillaw02_TextQuoted.Pure : Prop := ∀ (a0 : ByteArray) (a1 : ByteArray) (a2 : Int), (a0.size ≤ 140737488351232) → (a1.size ≤ 140737488351232) → ((Lit.int .i64 a2).wf = true) → ((a0.size + 1) + (a1.size + 1) + 1 ≤ 1048576) → stencillaw02_TextQuoted.f a0 a1 a2 = some true
end Go.Proofs.Ythgodajjaddgbaa.T
