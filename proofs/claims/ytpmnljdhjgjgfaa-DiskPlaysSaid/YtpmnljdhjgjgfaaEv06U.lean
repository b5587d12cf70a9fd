/- Layer 6: the plain law of DiskPlays (the walk has shown all). -/
import Derived.Test.YtpmnljdhjgjgfaaPrint9
namespace Go.Proofs.Ytpmnljdhjgjgfaa.Thw
open Go Go.RowKit Go.Proofs.Ytpmnljdhjgjgfaa.Print
theorem pureDiskPlays : thwartlaw06_DiskPlays.Pure := by
  unfold thwartlaw06_DiskPlays.Pure
  intro a0 l1 a2 a3 _ _ h _ _
  unfold thwartlaw06_DiskPlays.f
  rw [if_pos]
  intro o ho
  obtain ⟨_, h1, h2, h3, h4, _⟩ := h.2 o ho
  refine ⟨?_, h2, h3, h4⟩
  simp [Lit.wf, IntKind.min, IntKind.max, IntKind.bits, IntKind.signed] at h1
  omega
end Go.Proofs.Ytpmnljdhjgjgfaa.Thw
