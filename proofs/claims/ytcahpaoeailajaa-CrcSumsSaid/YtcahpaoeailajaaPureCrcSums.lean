/- The plain law behind CrcSums: any bytes' check, on any one, sealed, and opened. Whatever the input (within what the statement's reading lets in), the printed form of the Go law comes to true. -/
import Derived.Test.YtcahpaoeailajaaEv02L
namespace Go.Proofs.Ytcahpaoeailajaa.Pure
/-- any bytes' check, on any one, sealed, and opened -/
theorem CrcSums : Go.Proofs.Ytcahpaoeailajaa.Print.thwartlaw02_CrcSums.Pure := Go.Proofs.Ytcahpaoeailajaa.Thw.pureCrcSums
end Go.Proofs.Ytcahpaoeailajaa.Pure
