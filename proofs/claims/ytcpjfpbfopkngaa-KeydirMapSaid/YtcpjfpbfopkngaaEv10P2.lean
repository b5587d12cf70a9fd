/- Layer 10: the plain law of KeydirMap (the walk has shown all). -/
import Derived.Test.YtcpjfpbfopkngaaPrint1
namespace Go.Proofs.Ytcpjfpbfopkngaa.Thw
open Go Go.RowKit Go.Proofs.Ytcpjfpbfopkngaa.Print
theorem pureKeydirMap : thwartlaw10_KeydirMap.Pure := by
  unfold thwartlaw10_KeydirMap.Pure
  intro l0 _ _
  rfl
end Go.Proofs.Ytcpjfpbfopkngaa.Thw
