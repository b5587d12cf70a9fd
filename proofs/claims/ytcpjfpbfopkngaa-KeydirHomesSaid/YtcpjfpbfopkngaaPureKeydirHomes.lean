/- The plain law behind KeydirHomes: no key stands farther behind its home than others stand. Whatever the input (within what the statement's reading lets in), the printed form of the Go law comes to true. -/
import Derived.Test.YtcpjfpbfopkngaaEv10P1
namespace Go.Proofs.Ytcpjfpbfopkngaa.Pure
/-- no key stands farther behind its home than others stand -/
theorem KeydirHomes : Go.Proofs.Ytcpjfpbfopkngaa.Print.thwartlaw10_KeydirHomes.Pure := Go.Proofs.Ytcpjfpbfopkngaa.Thw.pureKeydirHomes
end Go.Proofs.Ytcpjfpbfopkngaa.Pure
