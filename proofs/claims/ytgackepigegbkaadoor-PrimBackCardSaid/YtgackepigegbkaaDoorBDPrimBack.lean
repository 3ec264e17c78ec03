/- The pure statement of PrimBack, and how its arguments are opened. Made by this project's own program. -/
import Derived.Test.YtgackepigegbkaaDoorHPrimBack
import Derived.Test.YtgackepigegbkaaDoorHOpenB
namespace Go.Proofs.YtgackepigegbkaaDoor.B
open Go.RowKit Go.Proofs.YtgackepigegbkaaDoorW.PrintWords Go.Proofs.YtgackepigegbkaaDoorW.PrintLast Go.Proofs.YtgackepigegbkaaDoorW.PrintMore
attribute [local go_sem] max2_int min2_int max_two min_two max_three min_three max_four min_four   -- for this text's walks alone
set_option linter.unusedVariables false
set_option linter.unusedSimpArgs false

theorem op22 : Opens Tryd.prog 22 (Kd.int .i64) (fun x => (Lit.int .i64 x).wf = true) := opens_int Tryd.underlying22
theorem op23 : Opens Tryd.prog 23 (Kd.int .u64) (fun x => (Lit.int .u64 x).wf = true) := opens_int Tryd.underlying23
theorem op3 : Opens Tryd.prog 3 (Kd.int .i64) (fun x => (Lit.int .i64 x).wf = true) := opens_int Tryd.underlying3
theorem op5 : Opens Tryd.prog 5 (Kd.int .u8) (fun x => (Lit.int .u8 x).wf = true) := opens_int Tryd.underlying5
/-- The one pure statement of stencillaw01_PrimBack. -/
def stencillaw01_PrimBack.Pure : Prop := ∀ (a0 : Int) (a1 : Int) (a2 : Int) (a3 : Int), ((Lit.int .i64 a0).wf = true) → ((Lit.int .u64 a1).wf = true) → ((Lit.int .i64 a2).wf = true) → ((Lit.int .u8 a3).wf = true) → stencillaw01_PrimBack.f a0 a1 a2 a3 = some true
end Go.Proofs.YtgackepigegbkaaDoor.B
