/- The plain law behind MergeTwice: the stage's theorem: merged first, and then with newer ones, records come to the same as at once. Whatever the input (within what the statement's reading lets in), the printed form of the Go law comes to true. -/
import Derived.Test.YtlfhnpecfkhcpaaEv15N
namespace Go.Proofs.Ytlfhnpecfkhcpaa.Pure
/-- the stage's theorem: merged first, and then with newer ones, records come to the same as at once -/
theorem MergeTwice : Go.Proofs.Ytlfhnpecfkhcpaa.Print.thwartlaw15_MergeTwice.Pure := Go.Proofs.Ytlfhnpecfkhcpaa.Thw.pureMergeTwice
end Go.Proofs.Ytlfhnpecfkhcpaa.Pure
