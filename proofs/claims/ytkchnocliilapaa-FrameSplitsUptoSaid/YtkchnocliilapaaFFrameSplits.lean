/- FrameSplits holds where what is read is of bulk at most 1048576: every Split and Wrap answers as the document says, and two answers share nothing. No other condition. -/
import Derived.Test.YtkchnocliilapaaQRFrameSplits
import Derived.Test.YtkchnocliilapaaHFrameSplits
namespace Go.Proofs.Ytkchnocliilapaa
theorem frameSplits_holds : Rows.FrameSplitsUptoSaid := frameSplits.over (fun a0 a1 p0 p1 _ _ _ hb => Q.FrameSplits_pure a0 a1 p0 p1 (by simp only [Q.bk23] at hb; omega))
#print axioms frameSplits_holds
end Go.Proofs.Ytkchnocliilapaa
