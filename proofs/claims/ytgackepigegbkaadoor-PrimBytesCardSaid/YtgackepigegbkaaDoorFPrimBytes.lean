/- PrimBytes (layer 1): the card, closed by the walk by hand. -/
import Derived.Test.YtgackepigegbkaaDoorBRPrimBytes
import Derived.Test.YtgackepigegbkaaDoorHPrimBytes
namespace Go.Proofs.YtgackepigegbkaaDoor
theorem primBytes_holds : Rows.PrimBytesCardSaid := primBytes.over (fun l a1 a2 a3 a4 a5 a6 h => B.PrimBytes_pure l a1 a2 a3 a4 a5 a6 h.1.2.1 h.1.2.2 h.2.1 h.2.2.2.2.2.1)
#print axioms primBytes_holds
end Go.Proofs.YtgackepigegbkaaDoor
