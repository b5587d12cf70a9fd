/- The plain law behind UploadWays: one goes on from state to state alone, and never back. Whatever the input (within what the statement's reading lets in), the printed form of the Go law comes to true. -/
import Derived.Test.YtcahpaoeailajaaEv14w
namespace Go.Proofs.Ytcahpaoeailajaa.Pure
/-- one goes on from state to state alone, and never back -/
theorem UploadWays : Go.Proofs.Ytcahpaoeailajaa.Print.thwartlaw14_UploadWays.Pure := Go.Proofs.Ytcahpaoeailajaa.Thw.pureUploadWays
end Go.Proofs.Ytcahpaoeailajaa.Pure
