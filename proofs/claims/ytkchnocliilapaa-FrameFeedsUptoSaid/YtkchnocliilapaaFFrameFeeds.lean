/- Every Feed, Held and Need of two framers in turns is as the statement says, where what is read is of bulk at most 1048576. -/
import Derived.Test.YtkchnocliilapaaQRFrameFeeds
import Derived.Test.YtkchnocliilapaaHFeeds7
namespace Go.Proofs.Ytkchnocliilapaa
theorem frameFeeds_holds : Rows.FrameFeedsUptoSaid := frameFeeds.over (fun a0 l1 _ h1 h2 => Q.FrameFeeds_pure a0 l1 (Q.feeds_ok l1 (fun o ho => (h1.2.2 o ho).2.2.2.2.2) h2))
#print axioms frameFeeds_holds
end Go.Proofs.Ytkchnocliilapaa
