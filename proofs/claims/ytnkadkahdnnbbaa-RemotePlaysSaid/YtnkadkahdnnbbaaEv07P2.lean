/- Layer 7: the plain law of RemotePlays (the walk has shown all). -/
import Derived.Test.YtnkadkahdnnbbaaPrint7
namespace Go.Proofs.Ytnkadkahdnnbbaa.Thw
open Go Go.RowKit Go.Proofs.Ytnkadkahdnnbbaa.Print
theorem pureRemotePlays : thwartlaw07_RemotePlays.Pure := by
  unfold thwartlaw07_RemotePlays.Pure
  intro l0 _ h
  unfold thwartlaw07_RemotePlays.f
  rw [if_pos]
  intro o ho
  obtain ⟨_, _, _, h3, h4, _⟩ := h.2.2 o ho
  exact h4
end Go.Proofs.Ytnkadkahdnnbbaa.Thw
