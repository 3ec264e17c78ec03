/- The pure statement of PrimWords, and how its arguments are opened. Made by this project's own program. -/
import Derived.Test.YtgackepigegbkaaDoorQx6
import Derived.Test.YtgackepigegbkaaDoorHOpen
namespace Go.Proofs.YtgackepigegbkaaDoor.Q
open Go.RowKit Go.Proofs.YtgackepigegbkaaDoorW.PrintWords Go.Proofs.YtgackepigegbkaaDoorW.PrintLast Go.Proofs.YtgackepigegbkaaDoorW.PrintMore
attribute [local go_sem] max2_int min2_int max_two min_two max_three min_three max_four min_four   -- for this text's walks alone
set_option linter.unusedVariables false
set_option linter.unusedSimpArgs false

theorem op22 : Opens Tryd.prog 22 (Kd.int .i64) (fun x => (Lit.int .i64 x).wf = true) := opens_int Tryd.underlying22
theorem op23 : Opens Tryd.prog 23 (Kd.int .u64) (fun x => (Lit.int .u64 x).wf = true) := opens_int Tryd.underlying23
end Go.Proofs.YtgackepigegbkaaDoor.Q
