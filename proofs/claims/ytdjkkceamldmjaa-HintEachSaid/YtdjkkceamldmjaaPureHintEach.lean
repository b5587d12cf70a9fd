/- The plain law behind HintEach: the stage's theorem: each entry of a segment tells just of its record. Whatever the input (within what the statement's reading lets in), the printed form of the Go law comes to true. -/
import Derived.Test.YtdjkkceamldmjaaMEE
namespace Go.Proofs.Ytdjkkceamldmjaa.Pure
/-- the stage's theorem: each entry of a segment tells just of its record -/
theorem HintEach : Go.Proofs.Ytdjkkceamldmjaa.Print.thwartlaw05_HintEach.Pure := Go.Proofs.Ytdjkkceamldmjaa.Thw.pureHintEach
end Go.Proofs.Ytdjkkceamldmjaa.Pure
