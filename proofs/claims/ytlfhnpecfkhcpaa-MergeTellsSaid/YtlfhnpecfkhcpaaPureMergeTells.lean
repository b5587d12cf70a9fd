/- The plain law behind MergeTells: the newest records of any, those that stand, what is left of them, and their batches. Whatever the input (within what the statement's reading lets in), the printed form of the Go law comes to true. -/
import Derived.Test.YtlfhnpecfkhcpaaEv15Q
namespace Go.Proofs.Ytlfhnpecfkhcpaa.Pure
/-- the newest records of any, those that stand, what is left of them, and their batches -/
theorem MergeTells : Go.Proofs.Ytlfhnpecfkhcpaa.Print.thwartlaw15_MergeTells.Pure := Go.Proofs.Ytlfhnpecfkhcpaa.Thw.pureMergeTells
end Go.Proofs.Ytlfhnpecfkhcpaa.Pure
