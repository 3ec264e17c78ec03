/- PrimOrder's card holds: for every input the law returns true, and its arguments read as before. -/
import Derived.Test.YtgackepigegbkaaDoorQRPrimOrder
import Derived.Test.YtgackepigegbkaaDoorPurePrimOrder
namespace Go.Proofs.YtgackepigegbkaaDoor
theorem primOrder_holds : Rows.PrimOrderCardSaid := primOrder.over Pure.PrimOrder
#print axioms primOrder_holds
end Go.Proofs.YtgackepigegbkaaDoor
