/- Layer 7: the plain laws of RemoteWhole and RemoteAgain (the walks have shown all). -/
import Derived.Test.YtoindlghpkjemaaPrint1
namespace Go.Proofs.Ytoindlghpkjemaa.Thw
open Go Go.RowKit Go.Proofs.Ytoindlghpkjemaa.Print
theorem pureRemoteWhole : thwartlaw07_RemoteWhole.Pure := fun _ _ _ _ _ _ => rfl
theorem pureRemoteAgain : thwartlaw07_RemoteAgain.Pure := fun _ _ _ _ _ _ => rfl
end Go.Proofs.Ytoindlghpkjemaa.Thw
