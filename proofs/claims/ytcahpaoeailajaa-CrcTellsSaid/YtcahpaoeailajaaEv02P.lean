/- Layer 2: the plain law of CrcTells (the walk has shown all). -/
import Derived.Test.YtcahpaoeailajaaPrint1
namespace Go.Proofs.Ytcahpaoeailajaa.Thw
open Go Go.RowKit Go.Proofs.Ytcahpaoeailajaa.Print
theorem pureCrcTells : thwartlaw02_CrcTells.Pure := by
  unfold thwartlaw02_CrcTells.Pure
  intro a0 a1 t0 t1 t2 t3 _ h1 g0 g1 g2 g3
  have k : ∀ x : Int, (Lit.int .u8 x).wf = true → 0 ≤ x ∧ x < 256 := fun x hx => by
    simp [Lit.wf, IntKind.min, IntKind.max, IntKind.bits, IntKind.signed] at hx
    omega
  have h2 : a1 ≤ 9223372036854775807 := by
    simp [Lit.wf, IntKind.min, IntKind.max, IntKind.bits, IntKind.signed] at h1
    omega
  unfold thwartlaw02_CrcTells.f
  rw [if_pos ⟨h2, k _ g0, k _ g1, k _ g2, k _ g3⟩]
end Go.Proofs.Ytcahpaoeailajaa.Thw
