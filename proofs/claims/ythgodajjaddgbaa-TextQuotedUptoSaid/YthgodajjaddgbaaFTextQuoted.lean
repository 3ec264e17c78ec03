/- TextQuoted holds where what is read is of bulk at most 1048576: what is quoted is read as it was whatever stands behind it and is printable, cut short it is refused at its end; what is written in hex is read again in either case, with a digit less it is refused. No other condition. -/
import Derived.Test.YthgodajjaddgbaaTRTextQuoted
import Derived.Test.YthgodajjaddgbaaHTextQuoted
namespace Go.Proofs.Ythgodajjaddgbaa
theorem textQuoted_holds : Rows.TextQuotedUptoSaid := textQuoted.over (fun a0 a1 a2 _ _ p2 hb => T.TextQuoted_pure a0 a1 a2 p2 (by omega) (by omega))
#print axioms textQuoted_holds
end Go.Proofs.Ythgodajjaddgbaa
