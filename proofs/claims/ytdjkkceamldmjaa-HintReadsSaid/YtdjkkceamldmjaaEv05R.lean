/- Layer 5: the statement HintReads. -/
import Derived.Test.YtdjkkceamldmjaaPrint13
import Derived.Test.YtdjkkceamldmjaaEv05m
namespace Go.Proofs.Ytdjkkceamldmjaa.Thw
open Go Go.RowKit Go.Proofs.Ytdjkkceamldmjaa.Print Go.Proofs.YtdjkkceamldmjaaW.PrintWords Go.Proofs.YtdjkkceamldmjaaW.PrintLast Go.Proofs.YtdjkkceamldmjaaW.PrintMore
set_option linter.unusedVariables false
set_option linter.unusedSimpArgs false
theorem readE_len (b : Bs) : (readE b).1.length ≤ 2000 := by
  rcases readE_told b with ⟨_, h⟩ | h | h
  · exact (bytesE_ok (by rw [h])).1
  · rw [h]; simp
  · rw [h]; simp
theorem pureHintReads : thwartlaw05_HintReads.Pure := by
  intro l b h1 h2 h3
  obtain ⟨es, rfl⟩ := unESs l (fun x hx => (wf_u64 (h2.2 x hx).2.2.2.1).1)
  have hlen : (es.map ES).length = es.length := List.length_map _
  apply Ev.rounds
  unfold thwartlaw05_HintReads.f
  refine Ev.bind ev_awake05 ?_
  obtain ⟨t, ht, hl⟩ := ev_light5 (es.map ES)
  refine Ev.bind ht ?_
  have stop : Ev (fun k => thwartlaw05_HintReads.j0 k (es.map ES) b true true) true :=
    Ev.step (fun k => by rw [thwartlaw05_HintReads.j0]) (ev_if_pos rfl (Ev.now _))
  cases t with
  | false => exact ev_bf stop
  | true =>
    refine ev_bt ?_
    have hl := hl rfl
    by_cases hb : (b.size : Int) > 4000
    · rw [decide_eq_true hb]; exact stop
    rw [decide_eq_false hb]
    refine Ev.step (fun k => by rw [thwartlaw05_HintReads.j0]) ?_
    refine ev_bf ?_
    refine Ev.bind (ev_hBytes es (by omega)) ?_
    refine Ev.bind (ev_to es (by omega)) ?_
    refine Ev.bind (ev_dBytes es (by omega)) ?_
    refine Ev.bind (ev_hRead b (by omega)) ?_
    refine Ev.bind (ev_dRead b (by omega)) ?_
    have hr := readE_len (L b)
    refine Ev.bind (ev_to (readE (L b)).1 (by omega)) ?_
    refine Ev.bind (ev_Same5 (readE (L b)).1 (readE (L b)).1 (by omega)) ?_
    refine ev_if_pos rfl ?_
    refine ev_if_pos rfl ?_
    refine ev_if_pos rfl ?_
    refine ev_if_pos (by simp) ?_
    exact ev_some fun k => by rw [show (HR (readE (L b))).2 = (HD (readE (L b))).2 from rfl, beq_self_eq_true]
end Go.Proofs.Ytdjkkceamldmjaa.Thw
