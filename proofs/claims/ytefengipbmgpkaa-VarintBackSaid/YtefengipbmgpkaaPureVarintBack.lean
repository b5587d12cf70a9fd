/- The plain law behind VarintBack: the stage's theorem: what was put is taken, with whatever behind it. Whatever the input (within what the statement's reading lets in), the printed form of the Go law comes to true. -/
import Derived.Test.YtefengipbmgpkaaEv01L
namespace Go.Proofs.Ytefengipbmgpkaa.Pure
/-- the stage's theorem: what was put is taken, with whatever behind it -/
theorem VarintBack : Go.Proofs.Ytefengipbmgpkaa.Print.thwartlaw01_VarintBack.Pure := Go.Proofs.Ytefengipbmgpkaa.Thw.pureVarintBack
end Go.Proofs.Ytefengipbmgpkaa.Pure
