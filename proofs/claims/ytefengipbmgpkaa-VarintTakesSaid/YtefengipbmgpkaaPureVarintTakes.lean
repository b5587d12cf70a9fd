/- The plain law behind VarintTakes: what any bytes begin with. Whatever the input (within what the statement's reading lets in), the printed form of the Go law comes to true. -/
import Derived.Test.YtefengipbmgpkaaEv01L
namespace Go.Proofs.Ytefengipbmgpkaa.Pure
/-- what any bytes begin with -/
theorem VarintTakes : Go.Proofs.Ytefengipbmgpkaa.Print.thwartlaw01_VarintTakes.Pure := Go.Proofs.Ytefengipbmgpkaa.Thw.pureVarintTakes
end Go.Proofs.Ytefengipbmgpkaa.Pure
