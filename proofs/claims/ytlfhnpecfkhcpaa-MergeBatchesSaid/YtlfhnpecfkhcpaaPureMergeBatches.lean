/- The plain law behind MergeBatches: batches are the records, in order, as few as can be. Whatever the input (within what the statement's reading lets in), the printed form of the Go law comes to true. -/
import Derived.Test.YtlfhnpecfkhcpaaEv15M
namespace Go.Proofs.Ytlfhnpecfkhcpaa.Pure
/-- batches are the records, in order, as few as can be -/
theorem MergeBatches : Go.Proofs.Ytlfhnpecfkhcpaa.Print.thwartlaw15_MergeBatches.Pure := Go.Proofs.Ytlfhnpecfkhcpaa.Thw.pureMergeBatches
end Go.Proofs.Ytlfhnpecfkhcpaa.Pure
