/- PrimBack (layer 1): the card, closed by the walk by hand. -/
import Derived.Test.YtgackepigegbkaaDoorBRPrimBack
import Derived.Test.YtgackepigegbkaaDoorHPrimBack
namespace Go.Proofs.YtgackepigegbkaaDoor
theorem primBack_holds : Rows.PrimBackCardSaid := primBack.over B.PrimBack_pure
#print axioms primBack_holds
end Go.Proofs.YtgackepigegbkaaDoor
