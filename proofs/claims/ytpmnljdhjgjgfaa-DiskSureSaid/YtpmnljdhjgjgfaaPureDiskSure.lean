/- The plain law behind DiskSure: the stage's theorem: what was made sure is there behind each crash, and what is left is a beginning of what was there. Whatever the input (within what the statement's reading lets in), the printed form of the Go law comes to true. -/
import Derived.Test.YtpmnljdhjgjgfaaEv06P
namespace Go.Proofs.Ytpmnljdhjgjgfaa.Pure
/-- the stage's theorem: what was made sure is there behind each crash, and what is left is a beginning of what was there -/
theorem DiskSure : Go.Proofs.Ytpmnljdhjgjgfaa.Print.thwartlaw06_DiskSure.Pure := Go.Proofs.Ytpmnljdhjgjgfaa.Thw.pureDiskSure
end Go.Proofs.Ytpmnljdhjgjgfaa.Pure
