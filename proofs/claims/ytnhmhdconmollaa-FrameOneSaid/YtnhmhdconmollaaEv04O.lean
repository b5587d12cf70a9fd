/- Layer 4: the statement FrameOne. -/
import Derived.Test.YtnhmhdconmollaaPrint9
import Derived.Test.YtnhmhdconmollaaPrint2
import Derived.Test.YtnhmhdconmollaaEv04
import Derived.Test.YtnhmhdconmollaaEv04B
namespace Go.Proofs.Ytnhmhdconmollaa.Thw
open Go Go.RowKit Go.Proofs.Ytnhmhdconmollaa.Print Go.Proofs.YtnhmhdconmollaaW.PrintWords Go.Proofs.YtnhmhdconmollaaW.PrintLast Go.Proofs.YtnhmhdconmollaaW.PrintMore
set_option linter.unusedVariables false
set_option linter.unusedSimpArgs false

theorem pureFrameOne : thwartlaw04_FrameOne.Pure := by
  intro l b at_ h1 h2 h3 h4
  obtain ⟨rs, rfl⟩ := wf_list4 h2.2
  rw [List.length_map] at h1
  apply Ev.rounds
  unfold thwartlaw04_FrameOne.f
  refine Ev.bind ev_awake04 ?_
  obtain ⟨t, ht, hl⟩ := ev_Light (rs.map RS) (by rw [List.length_map]; omega)
  refine Ev.bind ht ?_
  refine Ev.bind (ev_frameBytes rs) ?_
  refine ev_if_pos rfl ?_
  by_cases hc : t = true ∧ (frameS rs).2 = 0 ∧ b.size ≤ 300 ∧ 0 ≤ at_
  case neg => exact ev_if_neg hc (Ev.now _)
  refine ev_if_pos hc ?_
  obtain ⟨rfl, hf, hb, ha⟩ := hc
  obtain ⟨k1, k2, _⟩ := frameS_head hf
  have hs : (B (frameS rs).1).size = (frameS rs).1.length := B_size _
  refine ev_if_pos ⟨⟨show 8 ≤ (B (frameS rs).1).size by omega, show (B (frameS rs).1).size ≤ 8000 by omega⟩, (wf_i64 h4).2⟩ ?_
  refine Ev.bind (ev_frameTake (B (frameS rs).1 ++ b) (by rw [ByteArray.size_append]; omega)) ?_
  have e1 : takeF (L (B (frameS rs).1 ++ b)) = (rs, ((frameS rs).1.length : Int), 0) := by rw [L_append, L_B, takeF_frame _ _ hf]
  rw [e1]
  refine Ev.bind (ev_Same rs rs (by have := (fits_facts (frameS_ok hf).1).2; omega)) ?_
  refine Ev.bind (ev_frameTake (turnS (B (frameS rs).1) at_.toNat ++ b) (by rw [ByteArray.size_append, turnS_size]; omega)) ?_
  have e2 : takeF (L (turnS (B (frameS rs).1) at_.toNat ++ b)) = ([], 0, 4) := by
    obtain ⟨p1, p2⟩ := placeS_lt (frameS rs).1.length at_.toNat k1
    unfold turnS
    rw [L_append, L_B, L_B, hs]
    refine takeF_turn hf (L b) _ p1 p2 _ ?_
    rw [List.getD_eq_getElem?_getD, List.getElem?_eq_getElem p2]
    exact bit_ne _ _ (Nat.mod_lt _ (by omega))
  rw [e2]
  exact ev_if_pos ⟨rfl, by simp, by show ((frameS rs).1.length : Int) = ((B (frameS rs).1).size : Int); rw [hs], rfl⟩ (Ev.now _)
end Go.Proofs.Ytnhmhdconmollaa.Thw
