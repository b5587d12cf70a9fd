/- The plain law behind HashSums: any text's number, any number, mixed, and any place. Whatever the input (within what the statement's reading lets in), the printed form of the Go law comes to true. -/
import Derived.Test.YtefengipbmgpkaaEv09
namespace Go.Proofs.Ytefengipbmgpkaa.Pure
/-- any text's number, any number, mixed, and any place -/
theorem HashSums : Go.Proofs.Ytefengipbmgpkaa.Print.thwartlaw09_HashSums.Pure := Go.Proofs.Ytefengipbmgpkaa.Thw.pureHashSums
end Go.Proofs.Ytefengipbmgpkaa.Pure
