/- TextNumbers (layer 2): the row, closed by the walk by hand. -/
import Derived.Test.YthgodajjaddgbaaVRTextNumbers
import Derived.Test.YthgodajjaddgbaaHTextNumbers
namespace Go.Proofs.Ythgodajjaddgbaa
theorem textNumbers_holds : Rows.TextNumbersSaid := textNumbers.over V.TextNumbers_pure
#print axioms textNumbers_holds
end Go.Proofs.Ythgodajjaddgbaa
