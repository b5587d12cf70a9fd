/- The plain law behind FrameTakes: any batch's bytes, the batch that any bytes begin with, and all that they begin with. Whatever the input (within what the statement's reading lets in), the printed form of the Go law comes to true. -/
import Derived.Test.YtnhmhdconmollaaEv04T
namespace Go.Proofs.Ytnhmhdconmollaa.Pure
/-- any batch's bytes, the batch that any bytes begin with, and all that they begin with -/
theorem FrameTakes : Go.Proofs.Ytnhmhdconmollaa.Print.thwartlaw04_FrameTakes.Pure := Go.Proofs.Ytnhmhdconmollaa.Thw.pureFrameTakes
end Go.Proofs.Ytnhmhdconmollaa.Pure
