/- The plain law behind VarintOne: the stage's theorem: what is taken is laid in one way alone. Whatever the input (within what the statement's reading lets in), the printed form of the Go law comes to true. -/
import Derived.Test.YtefengipbmgpkaaEv01L
namespace Go.Proofs.Ytefengipbmgpkaa.Pure
/-- the stage's theorem: what is taken is laid in one way alone -/
theorem VarintOne : Go.Proofs.Ytefengipbmgpkaa.Print.thwartlaw01_VarintOne.Pure := Go.Proofs.Ytefengipbmgpkaa.Thw.pureVarintOne
end Go.Proofs.Ytefengipbmgpkaa.Pure
