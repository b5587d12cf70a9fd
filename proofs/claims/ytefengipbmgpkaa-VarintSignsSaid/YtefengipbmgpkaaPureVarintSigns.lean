/- The plain law behind VarintSigns: numbers with a sign come back. Whatever the input (within what the statement's reading lets in), the printed form of the Go law comes to true. -/
import Derived.Test.YtefengipbmgpkaaEv01L
namespace Go.Proofs.Ytefengipbmgpkaa.Pure
/-- numbers with a sign come back -/
theorem VarintSigns : Go.Proofs.Ytefengipbmgpkaa.Print.thwartlaw01_VarintSigns.Pure := Go.Proofs.Ytefengipbmgpkaa.Thw.pureVarintSigns
end Go.Proofs.Ytefengipbmgpkaa.Pure
