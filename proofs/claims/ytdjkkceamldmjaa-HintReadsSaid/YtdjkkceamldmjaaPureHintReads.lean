/- The plain law behind HintReads: any entries' bytes, and the entries of any bytes. Whatever the input (within what the statement's reading lets in), the printed form of the Go law comes to true. -/
import Derived.Test.YtdjkkceamldmjaaEv05R
namespace Go.Proofs.Ytdjkkceamldmjaa.Pure
/-- any entries' bytes, and the entries of any bytes -/
theorem HintReads : Go.Proofs.Ytdjkkceamldmjaa.Print.thwartlaw05_HintReads.Pure := Go.Proofs.Ytdjkkceamldmjaa.Thw.pureHintReads
end Go.Proofs.Ytdjkkceamldmjaa.Pure
