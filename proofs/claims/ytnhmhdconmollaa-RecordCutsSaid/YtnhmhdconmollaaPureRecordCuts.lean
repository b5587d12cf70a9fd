/- The plain law behind RecordCuts: the stage's theorem: a beginning of a record's bytes is too short. Whatever the input (within what the statement's reading lets in), the printed form of the Go law comes to true. -/
import Derived.Test.YtnhmhdconmollaaEv03L
namespace Go.Proofs.Ytnhmhdconmollaa.Pure
/-- the stage's theorem: a beginning of a record's bytes is too short -/
theorem RecordCuts : Go.Proofs.Ytnhmhdconmollaa.Print.thwartlaw03_RecordCuts.Pure := Go.Proofs.Ytnhmhdconmollaa.Thw.pureRecordCuts
end Go.Proofs.Ytnhmhdconmollaa.Pure
