/- The plain law behind HashPlaces: the stage's theorem: a place among twice as many is the same place, or that many farther. Whatever the input (within what the statement's reading lets in), the printed form of the Go law comes to true. -/
import Derived.Test.YtefengipbmgpkaaEv09
namespace Go.Proofs.Ytefengipbmgpkaa.Pure
/-- the stage's theorem: a place among twice as many is the same place, or that many farther -/
theorem HashPlaces : Go.Proofs.Ytefengipbmgpkaa.Print.thwartlaw09_HashPlaces.Pure := Go.Proofs.Ytefengipbmgpkaa.Thw.pureHashPlaces
end Go.Proofs.Ytefengipbmgpkaa.Pure
