/- Layer 10: the plain law of KeydirPlays (the walk has shown all). -/
import Derived.Test.YtcpjfpbfopkngaaPrint1
namespace Go.Proofs.Ytcpjfpbfopkngaa.Thw
open Go Go.RowKit Go.Proofs.Ytcpjfpbfopkngaa.Print
theorem pureKeydirPlays : thwartlaw10_KeydirPlays.Pure := by
  unfold thwartlaw10_KeydirPlays.Pure
  intros
  rfl
end Go.Proofs.Ytcpjfpbfopkngaa.Thw
