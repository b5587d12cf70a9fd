/- The plain law behind RecordLists: any records' bytes, and the records of any bytes. Whatever the input (within what the statement's reading lets in), the printed form of the Go law comes to true. -/
import Derived.Test.YtnhmhdconmollaaEv03L
namespace Go.Proofs.Ytnhmhdconmollaa.Pure
/-- any records' bytes, and the records of any bytes -/
theorem RecordLists : Go.Proofs.Ytnhmhdconmollaa.Print.thwartlaw03_RecordLists.Pure := Go.Proofs.Ytnhmhdconmollaa.Thw.pureRecordLists
end Go.Proofs.Ytnhmhdconmollaa.Pure
