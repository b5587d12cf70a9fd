/- Layer 10: the plain law of KeydirHomes (the walk has shown all). -/
import Derived.Test.YtcpjfpbfopkngaaPrint1
namespace Go.Proofs.Ytcpjfpbfopkngaa.Thw
open Go Go.RowKit Go.Proofs.Ytcpjfpbfopkngaa.Print
theorem pureKeydirHomes : thwartlaw10_KeydirHomes.Pure := by
  unfold thwartlaw10_KeydirHomes.Pure
  intro l0 _ _
  rfl
end Go.Proofs.Ytcpjfpbfopkngaa.Thw
