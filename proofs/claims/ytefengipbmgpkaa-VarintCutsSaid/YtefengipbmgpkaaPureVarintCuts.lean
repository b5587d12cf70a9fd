/- The plain law behind VarintCuts: a beginning of a number's bytes, or of a text's, is too short. Whatever the input (within what the statement's reading lets in), the printed form of the Go law comes to true. -/
import Derived.Test.YtefengipbmgpkaaEv01L
namespace Go.Proofs.Ytefengipbmgpkaa.Pure
/-- a beginning of a number's bytes, or of a text's, is too short -/
theorem VarintCuts : Go.Proofs.Ytefengipbmgpkaa.Print.thwartlaw01_VarintCuts.Pure := Go.Proofs.Ytefengipbmgpkaa.Thw.pureVarintCuts
end Go.Proofs.Ytefengipbmgpkaa.Pure
