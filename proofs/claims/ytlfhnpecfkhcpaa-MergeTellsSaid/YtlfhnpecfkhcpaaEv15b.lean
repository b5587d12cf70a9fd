/- Layer 15 (merge): small facts on cells. -/
import Derived.Test.YtlfhnpecfkhcpaaEv15
import Derived.Test.YtlfhnpecfkhcpaaPlain15
namespace Go.Proofs.Ytlfhnpecfkhcpaa.Thw
open Go
theorem cells4 {w : World} {s : Nat} {v0 v1 v2 v3 : Value} {t : TypeId} (h : w.heap[s]? = some (.cells #[v0, v1, v2, v3] t)) :
    w.cell? ⟨s, 0, none⟩ = some v0 ∧ w.cell? ⟨s, 1, none⟩ = some v1 ∧ w.cell? ⟨s, 2, none⟩ = some v2 ∧ w.cell? ⟨s, 3, none⟩ = some v3 ∧ ∀ i, w.frozen? ⟨s, i, none⟩ = false := by
  refine ⟨?_, ?_, ?_, ?_, fun i => ?_⟩ <;> simp [World.cell?, World.frozen?, h]
end Go.Proofs.Ytlfhnpecfkhcpaa.Thw
