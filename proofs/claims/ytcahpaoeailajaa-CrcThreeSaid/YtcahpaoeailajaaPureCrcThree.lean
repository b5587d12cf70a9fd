/- The plain law behind CrcThree: of three rows of a length, turned by one another, the check is the three checks, turned by one another. Whatever the input (within what the statement's reading lets in), the printed form of the Go law comes to true. -/
import Derived.Test.YtcahpaoeailajaaEv02T
namespace Go.Proofs.Ytcahpaoeailajaa.Pure
/-- of three rows of a length, turned by one another, the check is the three checks, turned by one another -/
theorem CrcThree : Go.Proofs.Ytcahpaoeailajaa.Print.thwartlaw02_CrcThree.Pure := Go.Proofs.Ytcahpaoeailajaa.Thw.pureCrcThree
end Go.Proofs.Ytcahpaoeailajaa.Pure
