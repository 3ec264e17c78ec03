/- PrimWords's card holds: for every input the law returns true, and its arguments read as before. -/
import Derived.Test.YtgackepigegbkaaDoorQRPrimWords
import Derived.Test.YtgackepigegbkaaDoorPurePrimWords
namespace Go.Proofs.YtgackepigegbkaaDoor
theorem primWords_holds : Rows.PrimWordsCardSaid := primWords.over Pure.PrimWords
#print axioms primWords_holds
end Go.Proofs.YtgackepigegbkaaDoor
