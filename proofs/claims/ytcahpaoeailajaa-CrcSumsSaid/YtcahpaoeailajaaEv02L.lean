/- Layer 2: the statements CrcSums and CrcGoes. -/
import Derived.Test.YtcahpaoeailajaaPrint3
import Derived.Test.YtcahpaoeailajaaEv02r
namespace Go.Proofs.Ytcahpaoeailajaa.Thw
open Go Go.RowKit Go.Proofs.Ytcahpaoeailajaa.Print Go.Proofs.YtcahpaoeailajaaW.PrintWords Go.Proofs.YtcahpaoeailajaaW.PrintLast Go.Proofs.YtcahpaoeailajaaW.PrintMore
set_option linter.unusedVariables false
set_option linter.unusedSimpArgs false
theorem wf_u32 {n : Int} (h : (Lit.int .u32 n).wf = true) : 0 ≤ n ∧ n < 4294967296 := by
  simp [Lit.wf, IntKind.min, IntKind.max, IntKind.bits, IntKind.signed] at h
  omega
theorem awake02 : thwartlaw02_awake.f = some true := by
  unfold thwartlaw02_awake.f
  rw [crc_Seal_S _ (by decide), Option.bind_some, crc_Open_S _ (by rw [B_size, sealS_length]; decide), L_B, openS_seal, Option.bind_some, crc_Sum_S _ (by decide), Option.bind_some,
    show ((sumS2 (L ⟨#[49, 50, 51, 52, 53, 54, 55, 56, 57]⟩) : Nat) : Int) = 3808858755 by decide +kernel, if_pos rfl, toList_L, L_B, if_pos (by decide)]
theorem pureCrcSums : thwartlaw02_CrcSums.Pure := by
  intro s b hs hb
  obtain ⟨s0, s1⟩ := wf_u32 hs
  obtain ⟨n, rfl⟩ := Int.eq_ofNat_of_zero_le s0
  apply Ev.rounds
  unfold thwartlaw02_CrcSums.f
  refine ev_bind_now awake02 ?_
  by_cases hz : (b.size : Int) > 2000
  · exact ev_if_pos hz (Ev.now _)
  refine ev_if_neg hz ?_
  refine ev_bind_now (crc_Open_S b (by omega)) ?_
  refine Ev.bind (ev_rOpen b (by omega)) ?_
  refine ev_yes ?_
  refine ev_bind_now (crc_Sum_S b (by omega)) ?_
  refine Ev.bind (ev_rSum2 b (by omega)) ?_
  refine ev_if_pos rfl ?_
  refine ev_bind_now (crc_More_S n b (by omega) (by omega)) ?_
  refine Ev.bind (ev_rMore n b (by omega) (by omega)) ?_
  refine ev_if_pos rfl ?_
  refine ev_bind_now (crc_Seal_S b (by omega)) ?_
  refine Ev.bind (ev_rSeal b (by omega)) ?_
  refine ev_if_pos rfl ?_
  refine ev_if_pos rfl ?_
  exact ev_some fun k => by rw [beq_self_eq_true]
theorem pureCrcGoes : thwartlaw02_CrcGoes.Pure := by
  intro a b ha hb
  apply Ev.rounds
  unfold thwartlaw02_CrcGoes.f
  refine ev_bind_now awake02 ?_
  have tr : ∀ c, c = true → Ev (fun k => thwartlaw02_CrcGoes.j0 k a b true c) true := by
    intro c hc
    subst hc
    refine Ev.step (f := fun k => some true) (fun k => ?_) (Ev.now _)
    simp only [thwartlaw02_CrcGoes.j0]
    rw [if_pos trivial]
  by_cases h1 : (a.size : Int) > 1000
  · exact ev_if_pos h1 (tr _ rfl)
  refine ev_if_neg h1 ?_
  by_cases h2 : (b.size : Int) > 1000
  · exact tr _ (decide_eq_true h2)
  rw [decide_eq_false h2]
  refine Ev.step (fun k => by simp only [thwartlaw02_CrcGoes.j0]; rw [if_neg (by decide)]) ?_
  refine ev_yes ?_
  refine ev_bind_now (crc_Sum_S a (by omega)) ?_
  refine ev_bind_now (crc_More_S _ b (sumS2_lt _) (by omega)) ?_
  refine ev_if_pos (by omega) ?_
  refine ev_bind_now (crc_Sum_S (a ++ b) (by rw [ByteArray.size_append]; omega)) ?_
  rw [moreS_goes, L_append]
  refine ev_if_pos rfl ?_
  refine ev_bind_now (crc_More_S _ ⟨#[]⟩ (sumS2_lt _) (by decide)) ?_
  rw [L_nil, moreS_nil]
  refine ev_if_pos rfl ?_
  refine ev_bind_now (crc_Sum_S ⟨#[]⟩ (by decide)) ?_
  rw [L_nil, sumS2_nil]
  exact Ev.now _
end Go.Proofs.Ytcahpaoeailajaa.Thw
