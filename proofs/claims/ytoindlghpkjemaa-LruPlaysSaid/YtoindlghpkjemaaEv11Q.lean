/- Layer 11: the plain law of LruPlays (the walk has shown all). -/
import Derived.Test.YtoindlghpkjemaaPrint2
namespace Go.Proofs.Ytoindlghpkjemaa.Thw
open Go Go.RowKit Go.Proofs.Ytoindlghpkjemaa.Print
theorem pureLruPlays : thwartlaw11_LruPlays.Pure := by
  unfold thwartlaw11_LruPlays.Pure
  intro a0 l1 _ _ h
  unfold thwartlaw11_LruPlays.f
  rw [if_pos]
  intro o ho
  obtain ⟨_, h1, _⟩ := h.2 o ho
  exact ⟨h1.1, h1.2⟩
end Go.Proofs.Ytoindlghpkjemaa.Thw
