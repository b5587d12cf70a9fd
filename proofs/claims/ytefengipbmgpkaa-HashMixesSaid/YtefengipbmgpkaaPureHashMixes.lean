/- The plain law behind HashMixes: the stage's theorem: no two numbers are mixed to the same one. Whatever the input (within what the statement's reading lets in), the printed form of the Go law comes to true. -/
import Derived.Test.YtefengipbmgpkaaEv09
namespace Go.Proofs.Ytefengipbmgpkaa.Pure
/-- the stage's theorem: no two numbers are mixed to the same one -/
theorem HashMixes : Go.Proofs.Ytefengipbmgpkaa.Print.thwartlaw09_HashMixes.Pure := Go.Proofs.Ytefengipbmgpkaa.Thw.pureHashMixes
end Go.Proofs.Ytefengipbmgpkaa.Pure
