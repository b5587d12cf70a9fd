/- The plain law behind UploadBound: the stage's theorem: one that fails so often is published within a bound. Whatever the input (within what the statement's reading lets in), the printed form of the Go law comes to true. -/
import Derived.Test.YtcahpaoeailajaaEv14
namespace Go.Proofs.Ytcahpaoeailajaa.Pure
/-- the stage's theorem: one that fails so often is published within a bound -/
theorem UploadBound : Go.Proofs.Ytcahpaoeailajaa.Print.thwartlaw14_UploadBound.Pure := Go.Proofs.Ytcahpaoeailajaa.Thw.pureUploadBound
end Go.Proofs.Ytcahpaoeailajaa.Pure
