/- TextThere holds where what is read is of bulk at most 1048576: Unescape of Escape gives back every text, whichever way it was escaped; what Escape writes holds none of the bytes that it stands for and is as long as the bytes make it. No other condition. -/
import Derived.Test.YthgodajjaddgbaaVRTextThere
import Derived.Test.YthgodajjaddgbaaHTextThere
namespace Go.Proofs.Ythgodajjaddgbaa
theorem textThere_holds : Rows.TextThereUptoSaid := textThere.over (fun a0 _ hb => V.TextThere_pure a0 (by omega))
#print axioms textThere_holds
end Go.Proofs.Ythgodajjaddgbaa
