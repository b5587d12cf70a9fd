/- Layer 11: the plain law of LruLast (the walk has shown all). -/
import Derived.Test.YtoindlghpkjemaaPrint1
namespace Go.Proofs.Ytoindlghpkjemaa.Thw
open Go Go.RowKit Go.Proofs.Ytoindlghpkjemaa.Print
theorem pureLruLast : thwartlaw11_LruLast.Pure := by
  unfold thwartlaw11_LruLast.Pure
  intro a0 l1 _ _ h
  unfold thwartlaw11_LruLast.f
  rw [if_pos]
  intro o ho
  obtain ⟨_, h1, _⟩ := h.2 o ho
  exact ⟨h1.1, h1.2⟩
end Go.Proofs.Ytoindlghpkjemaa.Thw
