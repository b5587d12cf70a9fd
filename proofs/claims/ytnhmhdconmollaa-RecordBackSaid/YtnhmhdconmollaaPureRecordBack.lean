/- The plain law behind RecordBack: the stage's theorem: records are read as they were, with whatever behind them. Whatever the input (within what the statement's reading lets in), the printed form of the Go law comes to true. -/
import Derived.Test.YtnhmhdconmollaaEv03L
namespace Go.Proofs.Ytnhmhdconmollaa.Pure
/-- the stage's theorem: records are read as they were, with whatever behind them -/
theorem RecordBack : Go.Proofs.Ytnhmhdconmollaa.Print.thwartlaw03_RecordBack.Pure := Go.Proofs.Ytnhmhdconmollaa.Thw.pureRecordBack
end Go.Proofs.Ytnhmhdconmollaa.Pure
