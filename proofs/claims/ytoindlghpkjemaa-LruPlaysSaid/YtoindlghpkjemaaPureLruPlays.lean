/- The plain law behind LruPlays: any calls, one by one; all blocks behind each. Whatever the input (within what the statement's reading lets in), the printed form of the Go law comes to true. -/
import Derived.Test.YtoindlghpkjemaaEv11Q
namespace Go.Proofs.Ytoindlghpkjemaa.Pure
/-- any calls, one by one; all blocks behind each -/
theorem LruPlays : Go.Proofs.Ytoindlghpkjemaa.Print.thwartlaw11_LruPlays.Pure := Go.Proofs.Ytoindlghpkjemaa.Thw.pureLruPlays
end Go.Proofs.Ytoindlghpkjemaa.Pure
