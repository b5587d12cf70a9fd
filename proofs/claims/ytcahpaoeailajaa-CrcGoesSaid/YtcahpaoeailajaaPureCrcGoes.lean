/- The plain law behind CrcGoes: the stage's theorem: More goes on where Sum ended. Whatever the input (within what the statement's reading lets in), the printed form of the Go law comes to true. -/
import Derived.Test.YtcahpaoeailajaaEv02L
namespace Go.Proofs.Ytcahpaoeailajaa.Pure
/-- the stage's theorem: More goes on where Sum ended -/
theorem CrcGoes : Go.Proofs.Ytcahpaoeailajaa.Print.thwartlaw02_CrcGoes.Pure := Go.Proofs.Ytcahpaoeailajaa.Thw.pureCrcGoes
end Go.Proofs.Ytcahpaoeailajaa.Pure
