/- Layer 6: the plain law of DiskSure (the walk has shown all). -/
import Derived.Test.YtpmnljdhjgjgfaaPrint7
namespace Go.Proofs.Ytpmnljdhjgjgfaa.Thw
open Go Go.RowKit Go.Proofs.Ytpmnljdhjgjgfaa.Print
theorem pureDiskSure : thwartlaw06_DiskSure.Pure := by
  unfold thwartlaw06_DiskSure.Pure
  intros
  rfl
end Go.Proofs.Ytpmnljdhjgjgfaa.Thw
