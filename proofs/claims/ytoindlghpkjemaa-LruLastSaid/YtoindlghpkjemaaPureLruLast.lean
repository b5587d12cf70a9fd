/- The plain law behind LruLast: the stage's theorem: just those are kept that were used last, as many as there is room for. Whatever the input (within what the statement's reading lets in), the printed form of the Go law comes to true. -/
import Derived.Test.YtoindlghpkjemaaEv11P
namespace Go.Proofs.Ytoindlghpkjemaa.Pure
/-- the stage's theorem: just those are kept that were used last, as many as there is room for -/
theorem LruLast : Go.Proofs.Ytoindlghpkjemaa.Print.thwartlaw11_LruLast.Pure := Go.Proofs.Ytoindlghpkjemaa.Thw.pureLruLast
end Go.Proofs.Ytoindlghpkjemaa.Pure
