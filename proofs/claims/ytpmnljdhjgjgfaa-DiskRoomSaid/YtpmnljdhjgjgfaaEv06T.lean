/- Layer 6: the plain law of DiskRoom (the walk has shown all). -/
import Derived.Test.YtpmnljdhjgjgfaaPrint7
namespace Go.Proofs.Ytpmnljdhjgjgfaa.Thw
open Go Go.RowKit Go.Proofs.Ytpmnljdhjgjgfaa.Print
theorem pureDiskRoom : thwartlaw06_DiskRoom.Pure := by
  unfold thwartlaw06_DiskRoom.Pure
  intro a0 l1 _ _ h
  unfold thwartlaw06_DiskRoom.f
  rw [if_pos]
  intro o ho
  obtain ⟨_, _, h2, h3, h4, _⟩ := h.2 o ho
  exact ⟨h2, h3, h4⟩
end Go.Proofs.Ytpmnljdhjgjgfaa.Thw
