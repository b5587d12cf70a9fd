/- The plain law behind RemoteAgain: the stage's theorem: put anew, a PutNew lays the first bytes that came through. Whatever the input (within what the statement's reading lets in), the printed form of the Go law comes to true. -/
import Derived.Test.YtoindlghpkjemaaEv07P
namespace Go.Proofs.Ytoindlghpkjemaa.Pure
/-- the stage's theorem: put anew, a PutNew lays the first bytes that came through -/
theorem RemoteAgain : Go.Proofs.Ytoindlghpkjemaa.Print.thwartlaw07_RemoteAgain.Pure := Go.Proofs.Ytoindlghpkjemaa.Thw.pureRemoteAgain
end Go.Proofs.Ytoindlghpkjemaa.Pure
