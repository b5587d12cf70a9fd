/- The plain law behind CrcTells: the stage's theorem: with up to four bytes in a row turned it is not opened. Whatever the input (within what the statement's reading lets in), the printed form of the Go law comes to true. -/
import Derived.Test.YtcahpaoeailajaaEv02P
namespace Go.Proofs.Ytcahpaoeailajaa.Pure
/-- the stage's theorem: with up to four bytes in a row turned it is not opened -/
theorem CrcTells : Go.Proofs.Ytcahpaoeailajaa.Print.thwartlaw02_CrcTells.Pure := Go.Proofs.Ytcahpaoeailajaa.Thw.pureCrcTells
end Go.Proofs.Ytcahpaoeailajaa.Pure
