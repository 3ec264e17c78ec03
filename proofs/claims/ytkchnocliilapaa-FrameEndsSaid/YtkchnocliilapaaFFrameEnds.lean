/- The statement FrameEnds of layer 24 (frame): behind good frames a header that can not be refuses the stream at once, not before, and for good; for arguments as the row bounds them. -/
import Derived.Test.YtkchnocliilapaaQRFrameEnds
import Derived.Test.YtkchnocliilapaaHFrameEnds
namespace Go.Proofs.Ytkchnocliilapaa
theorem frameEnds_holds : Rows.FrameEndsSaid := frameEnds.over (fun l0 a1 a2 a3 l4 h0 h1 h2 h3 h4 => Q.FrameEnds_pure l0 a1 a2 a3 l4 h1 h2 h3 (by have := h4.2.1; omega))
#print axioms frameEnds_holds
end Go.Proofs.Ytkchnocliilapaa
