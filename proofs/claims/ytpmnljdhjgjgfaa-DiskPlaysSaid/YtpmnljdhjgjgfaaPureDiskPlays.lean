/- The plain law behind DiskPlays: any calls, one by one; all files behind each. Whatever the input (within what the statement's reading lets in), the printed form of the Go law comes to true. -/
import Derived.Test.YtpmnljdhjgjgfaaEv06U
namespace Go.Proofs.Ytpmnljdhjgjgfaa.Pure
/-- any calls, one by one; all files behind each -/
theorem DiskPlays : Go.Proofs.Ytpmnljdhjgjgfaa.Print.thwartlaw06_DiskPlays.Pure := Go.Proofs.Ytpmnljdhjgjgfaa.Thw.pureDiskPlays
end Go.Proofs.Ytpmnljdhjgjgfaa.Pure
