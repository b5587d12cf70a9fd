/- The plain law behind DiskRoom: the files' bytes, and what is left, come to the room always. Whatever the input (within what the statement's reading lets in), the printed form of the Go law comes to true. -/
import Derived.Test.YtpmnljdhjgjgfaaEv06T
namespace Go.Proofs.Ytpmnljdhjgjgfaa.Pure
/-- the files' bytes, and what is left, come to the room always -/
theorem DiskRoom : Go.Proofs.Ytpmnljdhjgjgfaa.Print.thwartlaw06_DiskRoom.Pure := Go.Proofs.Ytpmnljdhjgjgfaa.Thw.pureDiskRoom
end Go.Proofs.Ytpmnljdhjgjgfaa.Pure
