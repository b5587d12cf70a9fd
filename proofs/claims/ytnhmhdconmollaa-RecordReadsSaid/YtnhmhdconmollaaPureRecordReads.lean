/- The plain law behind RecordReads: any record's bytes, and the record that any bytes begin with. Whatever the input (within what the statement's reading lets in), the printed form of the Go law comes to true. -/
import Derived.Test.YtnhmhdconmollaaEv03L
namespace Go.Proofs.Ytnhmhdconmollaa.Pure
/-- any record's bytes, and the record that any bytes begin with -/
theorem RecordReads : Go.Proofs.Ytnhmhdconmollaa.Print.thwartlaw03_RecordReads.Pure := Go.Proofs.Ytnhmhdconmollaa.Thw.pureRecordReads
end Go.Proofs.Ytnhmhdconmollaa.Pure
