/- The plain law behind UploadFirst: which of any is to go on first. Whatever the input (within what the statement's reading lets in), the printed form of the Go law comes to true. -/
import Derived.Test.YtcahpaoeailajaaEv14
namespace Go.Proofs.Ytcahpaoeailajaa.Pure
/-- which of any is to go on first -/
theorem UploadFirst : Go.Proofs.Ytcahpaoeailajaa.Print.thwartlaw14_UploadFirst.Pure := Go.Proofs.Ytcahpaoeailajaa.Thw.pureUploadFirst
end Go.Proofs.Ytcahpaoeailajaa.Pure
