/- Layer 4: the statement FrameTakes. -/
import Derived.Test.YtnhmhdconmollaaPrint9
import Derived.Test.YtnhmhdconmollaaPrint2
import Derived.Test.YtnhmhdconmollaaEv04
namespace Go.Proofs.Ytnhmhdconmollaa.Thw
open Go Go.RowKit Go.Proofs.Ytnhmhdconmollaa.Print Go.Proofs.YtnhmhdconmollaaW.PrintWords Go.Proofs.YtnhmhdconmollaaW.PrintLast Go.Proofs.YtnhmhdconmollaaW.PrintMore
set_option linter.unusedVariables false
set_option linter.unusedSimpArgs false

theorem pureFrameTakes : thwartlaw04_FrameTakes.Pure := by
  intro l b h1 h2 h3
  obtain ⟨rs, rfl⟩ := wf_list4 h2.2
  apply Ev.rounds
  unfold thwartlaw04_FrameTakes.f
  refine Ev.bind ev_awake04 ?_
  obtain ⟨t, ht, hl⟩ := ev_Light (rs.map RS) (by omega)
  refine Ev.bind ht ?_
  have stop : Ev (fun k => thwartlaw04_FrameTakes.j0 k (rs.map RS) b true true) true :=
    Ev.step (fun k => by rw [thwartlaw04_FrameTakes.j0]) (ev_if_pos rfl (Ev.now _))
  cases t with
  | false => exact ev_bf stop
  | true =>
    refine ev_bt ?_
    by_cases hb : (b.size : Int) > 4000
    · rw [decide_eq_true hb]; exact stop
    rw [decide_eq_false hb]
    have hlb := L_length b
    refine Ev.step (fun k => by rw [thwartlaw04_FrameTakes.j0]) ?_
    refine ev_bf ?_
    refine Ev.bind (ev_frameBytes rs) ?_
    refine Ev.bind (ev_rframeBytes rs) ?_
    refine Ev.bind (ev_frameTake b (by omega)) ?_
    refine Ev.bind (ev_rframeTake b (by omega)) ?_
    refine Ev.bind (ev_Scan b (by omega)) ?_
    refine Ev.bind (ev_rScan b (by omega)) ?_
    obtain ⟨_, _, _, h16⟩ := takeF_range (L b)
    refine Ev.bind (ev_Same (takeF (L b)).1 (takeF (L b)).1 (by omega)) ?_
    obtain ⟨k1, k2, k3⟩ := scanR_len (L b).length (L b)
    refine Ev.bind (ev_Same4 (scanS (L b)).1 (scanS (L b)).1 (by unfold scanS; omega) (fun l hl => by have := k3 l hl; omega)) ?_
    refine ev_if_pos rfl ?_
    refine ev_if_pos rfl ?_
    refine ev_if_pos rfl ?_
    refine ev_if_pos (by simp) ?_
    refine ev_if_pos rfl ?_
    refine ev_if_pos rfl ?_
    refine ev_if_pos (by simp) ?_
    exact ev_some fun k => by rw [beq_self_eq_true]
end Go.Proofs.Ytnhmhdconmollaa.Thw
