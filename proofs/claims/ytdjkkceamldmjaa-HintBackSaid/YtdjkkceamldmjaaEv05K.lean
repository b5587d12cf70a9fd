/- Layer 5: the statement HintBack. -/
import Derived.Test.YtdjkkceamldmjaaPrint13
import Derived.Test.YtdjkkceamldmjaaEv05m
namespace Go.Proofs.Ytdjkkceamldmjaa.Thw
open Go Go.RowKit Go.Proofs.Ytdjkkceamldmjaa.Print Go.Proofs.YtdjkkceamldmjaaW.PrintWords Go.Proofs.YtdjkkceamldmjaaW.PrintLast Go.Proofs.YtdjkkceamldmjaaW.PrintMore
set_option linter.unusedVariables false
set_option linter.unusedSimpArgs false
theorem readE_len' (b : Bs) : (readE b).1.length ≤ 2000 := by
  rcases readE_told b with ⟨_, h⟩ | h | h
  · exact (bytesE_ok (by rw [h])).1
  · rw [h]; simp
  · rw [h]; simp
theorem bodyE_length : ∀ l : List Ent, allRight l = true → (bodyE l).length ≤ 80 * l.length
  | [], _ => by simp [bodyE]
  | e :: l, h => by
    unfold allRight at h
    rw [List.all_cons, Bool.and_eq_true] at h
    have := (oneE_length h.1).2
    have := bodyE_length l h.2
    rw [bodyE, List.length_append, List.length_cons]
    omega
theorem bytesE_length (l : List Ent) : (bytesE l).1.length ≤ 14 + 80 * l.length := by
  unfold bytesE
  split
  · split
    · rename_i h1 h2
      have := bodyE_length l h2
      have := putS_length l.length
      show (sealS _).length ≤ _
      rw [sealS_length, List.length_append]
      omega
    · simp
  · simp
theorem bytesE_err {l : List Ent} (h : (bytesE l).2 ≠ 0) : bytesE l = ([], 1) := by
  unfold bytesE at h ⊢
  split
  · rename_i h1
    rw [if_pos h1] at h
    split
    · rename_i h2; rw [if_pos h2] at h; exact absurd rfl h
    · rfl
  · rfl
theorem ev_back5 (b : ByteArray) (hb : b.size ≤ 4000) : Ev (fun k => thwartlaw05_HintBack.j1 k b true false) true := by
  refine Ev.step (fun k => by rw [thwartlaw05_HintBack.j1]) ?_
  refine ev_bf ?_
  refine Ev.bind (ev_hRead b (by omega)) ?_
  have hr := readE_len' (L b)
  refine Ev.bind (ev_hBytes (readE (L b)).1 (by omega)) ?_
  refine ev_if_pos rfl ?_
  rcases readE_told (L b) with ⟨k1, k2⟩ | k1 | k1
  · refine ev_if_pos k1 ?_
    rw [k2]
    refine ev_if_pos rfl ?_
    refine ev_some fun k => ?_
    show some ((B (L b)).toList == b.toList) = some true
    rw [B_L, beq_self_eq_true]
  · rw [k1]; exact ev_if_neg (by show ¬ (2 : Int) = 0; decide) (Ev.now _)
  · rw [k1]; exact ev_if_neg (by show ¬ (4 : Int) = 0; decide) (Ev.now _)
theorem pureHintBack : thwartlaw05_HintBack.Pure := by
  intro l b h1 h2 h3
  obtain ⟨es, rfl⟩ := unESs l (fun x hx => (wf_u64 (h2.2 x hx).2.2.2.1).1)
  have hlen : (es.map ES).length = es.length := List.length_map _
  apply Ev.rounds
  unfold thwartlaw05_HintBack.f
  refine Ev.bind ev_awake05 ?_
  obtain ⟨t, ht, hl⟩ := ev_light5 (es.map ES)
  refine Ev.bind ht ?_
  have stop : Ev (fun k => thwartlaw05_HintBack.j0 k (es.map ES) b true true) true :=
    Ev.step (fun k => by rw [thwartlaw05_HintBack.j0]) (ev_if_pos rfl (Ev.now _))
  cases t with
  | false => exact ev_bf stop
  | true =>
    refine ev_bt ?_
    have hl := hl rfl
    by_cases hb : (b.size : Int) > 4000
    · rw [decide_eq_true hb]; exact stop
    rw [decide_eq_false hb]
    refine Ev.step (fun k => by rw [thwartlaw05_HintBack.j0]) ?_
    refine ev_bf ?_
    refine Ev.bind (ev_hBytes es (by omega)) ?_
    have hz := bytesE_length es
    have he := ev_hRead (B (bytesE es).1) (by rw [B_size]; omega)
    rw [L_B] at he
    refine Ev.bind he ?_
    refine Ev.bind (ev_to es (by omega)) ?_
    have hr := readE_len' (bytesE es).1
    refine Ev.bind (ev_to (readE (bytesE es).1).1 (by omega)) ?_
    refine Ev.bind (ev_Same5 es (readE (bytesE es).1).1 (by omega)) ?_
    by_cases hok : (bytesE es).2 = 0
    · refine ev_if_pos hok ?_
      rw [readE_bytes es hok]
      refine ev_if_pos rfl ?_
      rw [show (!(decide (es = (es, (0 : Int)).1))) = false by simp]
      exact ev_back5 b (by omega)
    · refine ev_if_neg hok ?_
      exact ev_back5 b (by omega)
end Go.Proofs.Ytdjkkceamldmjaa.Thw
