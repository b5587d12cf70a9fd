/- The plain law behind HintBack: the stage's theorem: entries are read as they were. Whatever the input (within what the statement's reading lets in), the printed form of the Go law comes to true. -/
import Derived.Test.YtdjkkceamldmjaaEv05K
namespace Go.Proofs.Ytdjkkceamldmjaa.Pure
/-- the stage's theorem: entries are read as they were -/
theorem HintBack : Go.Proofs.Ytdjkkceamldmjaa.Print.thwartlaw05_HintBack.Pure := Go.Proofs.Ytdjkkceamldmjaa.Thw.pureHintBack
end Go.Proofs.Ytdjkkceamldmjaa.Pure
