/- The plain law behind KeydirPlays: any calls, one by one; where each key stands behind each. Whatever the input (within what the statement's reading lets in), the printed form of the Go law comes to true. -/
import Derived.Test.YtcpjfpbfopkngaaEv10P3
namespace Go.Proofs.Ytcpjfpbfopkngaa.Pure
/-- any calls, one by one; where each key stands behind each -/
theorem KeydirPlays : Go.Proofs.Ytcpjfpbfopkngaa.Print.thwartlaw10_KeydirPlays.Pure := Go.Proofs.Ytcpjfpbfopkngaa.Thw.pureKeydirPlays
end Go.Proofs.Ytcpjfpbfopkngaa.Pure
