/- FrameChunks holds where what is read is of bulk at most 1048576: wrapped parcels come out of a stream as they went in, each as soon as it is whole, however the stream is cut, and a limit one too low refuses at the first that is too long. No other condition. -/
import Derived.Test.YtkchnocliilapaaQRFrameChunks
import Derived.Test.YtkchnocliilapaaHFrameChunks
namespace Go.Proofs.Ytkchnocliilapaa
theorem frameChunks_holds : Rows.FrameChunksUptoSaid := frameChunks.over (fun a0 a1 _ p1 hb => Q.FrameChunks_pure a0 a1 p1.2.2 (by omega))
#print axioms frameChunks_holds
end Go.Proofs.Ytkchnocliilapaa
