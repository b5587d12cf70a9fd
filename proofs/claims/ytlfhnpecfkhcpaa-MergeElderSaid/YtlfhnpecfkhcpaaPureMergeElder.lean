/- The plain law behind MergeElder: the stage's theorem: with what is gone kept, what is merged comes to the same in front of elder ones. Whatever the input (within what the statement's reading lets in), the printed form of the Go law comes to true. -/
import Derived.Test.YtlfhnpecfkhcpaaEv15P
namespace Go.Proofs.Ytlfhnpecfkhcpaa.Pure
/-- the stage's theorem: with what is gone kept, what is merged comes to the same in front of elder ones -/
theorem MergeElder : Go.Proofs.Ytlfhnpecfkhcpaa.Print.thwartlaw15_MergeElder.Pure := Go.Proofs.Ytlfhnpecfkhcpaa.Thw.pureMergeElder
end Go.Proofs.Ytlfhnpecfkhcpaa.Pure
