/- The statement TextPoints of layer 2 (text): of each number the row of bytes that has it in its bits, in each of the lengths that can hold it, is taken by Check and Chars just as said; for arguments as the row bounds them. -/
import Derived.Test.YthgodajjaddgbaaPRTextPoints
import Derived.Test.YthgodajjaddgbaaHTextPoints
namespace Go.Proofs.Ythgodajjaddgbaa
theorem textPoints_holds : Rows.TextPointsSaid := textPoints.over P.TextPoints_pure
#print axioms textPoints_holds
end Go.Proofs.Ythgodajjaddgbaa
