/- The plain law behind VarintLays: any numbers, and any text, as bytes. Whatever the input (within what the statement's reading lets in), the printed form of the Go law comes to true. -/
import Derived.Test.YtefengipbmgpkaaEv01L
namespace Go.Proofs.Ytefengipbmgpkaa.Pure
/-- any numbers, and any text, as bytes -/
theorem VarintLays : Go.Proofs.Ytefengipbmgpkaa.Print.thwartlaw01_VarintLays.Pure := Go.Proofs.Ytefengipbmgpkaa.Thw.pureVarintLays
end Go.Proofs.Ytefengipbmgpkaa.Pure
