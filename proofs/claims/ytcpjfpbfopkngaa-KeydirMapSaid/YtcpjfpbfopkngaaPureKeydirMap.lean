/- The plain law behind KeydirMap: the stage's theorem: it tells what was put last of each key, and not deleted since; half of its places are empty. Whatever the input (within what the statement's reading lets in), the printed form of the Go law comes to true. -/
import Derived.Test.YtcpjfpbfopkngaaEv10P2
namespace Go.Proofs.Ytcpjfpbfopkngaa.Pure
/-- the stage's theorem: it tells what was put last of each key, and not deleted since; half of its places are empty -/
theorem KeydirMap : Go.Proofs.Ytcpjfpbfopkngaa.Print.thwartlaw10_KeydirMap.Pure := Go.Proofs.Ytcpjfpbfopkngaa.Thw.pureKeydirMap
end Go.Proofs.Ytcpjfpbfopkngaa.Pure
