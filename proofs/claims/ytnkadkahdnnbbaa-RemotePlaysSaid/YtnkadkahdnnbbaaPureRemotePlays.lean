/- The plain law behind RemotePlays: any calls, one by one, of any fates. Whatever the input (within what the statement's reading lets in), the printed form of the Go law comes to true. -/
import Derived.Test.YtnkadkahdnnbbaaEv07P2
namespace Go.Proofs.Ytnkadkahdnnbbaa.Pure
/-- any calls, one by one, of any fates -/
theorem RemotePlays : Go.Proofs.Ytnkadkahdnnbbaa.Print.thwartlaw07_RemotePlays.Pure := Go.Proofs.Ytnkadkahdnnbbaa.Thw.pureRemotePlays
end Go.Proofs.Ytnkadkahdnnbbaa.Pure
