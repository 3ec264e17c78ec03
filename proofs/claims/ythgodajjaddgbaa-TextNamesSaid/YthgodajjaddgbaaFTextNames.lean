/- The statement TextNames of layer 2 (text): the tables of names and blanks byte by byte, a symbol is an XML name, Trim takes just the blanks at the ends; for arguments as the row bounds them. -/
import Derived.Test.YthgodajjaddgbaaQRTextNames
import Derived.Test.YthgodajjaddgbaaHTextNames
namespace Go.Proofs.Ythgodajjaddgbaa
theorem textNames_holds : Rows.TextNamesSaid := textNames.over Q.TextNames_pure
#print axioms textNames_holds
end Go.Proofs.Ythgodajjaddgbaa
