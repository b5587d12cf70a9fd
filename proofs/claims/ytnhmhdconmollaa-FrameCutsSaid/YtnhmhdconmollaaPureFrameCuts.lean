/- The plain law behind FrameCuts: the stage's theorem: of batches' bytes that are cut anywhere, just those that are whole are told. Whatever the input (within what the statement's reading lets in), the printed form of the Go law comes to true. -/
import Derived.Test.YtnhmhdconmollaaEv04L
namespace Go.Proofs.Ytnhmhdconmollaa.Pure
/-- the stage's theorem: of batches' bytes that are cut anywhere, just those that are whole are told -/
theorem FrameCuts : Go.Proofs.Ytnhmhdconmollaa.Print.thwartlaw04_FrameCuts.Pure := Go.Proofs.Ytnhmhdconmollaa.Thw.pureFrameCuts
end Go.Proofs.Ytnhmhdconmollaa.Pure
