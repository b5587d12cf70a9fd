/- The plain law behind HintTells: the entries of any segment's bytes, and the record that any entry tells of. Whatever the input (within what the statement's reading lets in), the printed form of the Go law comes to true. -/
import Derived.Test.YtdjkkceamldmjaaMET
namespace Go.Proofs.Ytdjkkceamldmjaa.Pure
/-- the entries of any segment's bytes, and the record that any entry tells of -/
theorem HintTells : Go.Proofs.Ytdjkkceamldmjaa.Print.thwartlaw05_HintTells.Pure := Go.Proofs.Ytdjkkceamldmjaa.Thw.pureHintTells
end Go.Proofs.Ytdjkkceamldmjaa.Pure
