/- The plain law behind RemoteWhole: the stage's theorem: an object is always whole: what the last Put laid that was not lost. Whatever the input (within what the statement's reading lets in), the printed form of the Go law comes to true. -/
import Derived.Test.YtoindlghpkjemaaEv07P
namespace Go.Proofs.Ytoindlghpkjemaa.Pure
/-- the stage's theorem: an object is always whole: what the last Put laid that was not lost -/
theorem RemoteWhole : Go.Proofs.Ytoindlghpkjemaa.Print.thwartlaw07_RemoteWhole.Pure := Go.Proofs.Ytoindlghpkjemaa.Thw.pureRemoteWhole
end Go.Proofs.Ytoindlghpkjemaa.Pure
