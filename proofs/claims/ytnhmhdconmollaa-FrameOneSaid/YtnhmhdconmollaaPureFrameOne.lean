/- The plain law behind FrameOne: what is taken has just these bytes; with a bit of it turned, behind its length, it is not taken. Whatever the input (within what the statement's reading lets in), the printed form of the Go law comes to true. -/
import Derived.Test.YtnhmhdconmollaaEv04O
namespace Go.Proofs.Ytnhmhdconmollaa.Pure
/-- what is taken has just these bytes; with a bit of it turned, behind its length, it is not taken -/
theorem FrameOne : Go.Proofs.Ytnhmhdconmollaa.Print.thwartlaw04_FrameOne.Pure := Go.Proofs.Ytnhmhdconmollaa.Thw.pureFrameOne
end Go.Proofs.Ytnhmhdconmollaa.Pure
