/- Layer 5: the law's own to and light, the document's Same, awake. -/
import Derived.Test.YtdjkkceamldmjaaPrint11
import Derived.Test.YtdjkkceamldmjaaPrint9
import Derived.Test.YtdjkkceamldmjaaPrint13
import Derived.Test.YtdjkkceamldmjaaEv05b
import Derived.Test.YtdjkkceamldmjaaEv05r
namespace Go.Proofs.Ytdjkkceamldmjaa.Thw
open Go Go.RowKit Go.Proofs.Ytdjkkceamldmjaa.Print Go.Proofs.YtdjkkceamldmjaaW.PrintWords Go.Proofs.YtdjkkceamldmjaaW.PrintLast Go.Proofs.YtdjkkceamldmjaaW.PrintMore
set_option linter.unusedVariables false
set_option linter.unusedSimpArgs false

theorem ev_to_l (l : List Ent) (hn : l.length ≤ 1000000000000) : ∀ (d i : Nat), i + d = l.length →
    Ev (fun k => thwartlaw05_to.l0 k (l.map ES) ((l.take i).map EF) (i : Int)) (l.map EF) := by
  intro d
  induction d with
  | zero =>
    intro i hi
    refine Ev.step (fun k => by rw [thwartlaw05_to.l0]) ?_
    refine ev_if_neg (by rw [List.length_map]; omega) ?_
    rw [List.take_of_length_le (by omega)]
    exact Ev.now _
  | succ d ih =>
    intro i hi
    have hlt : i < l.length := by omega
    refine Ev.step (fun k => by rw [thwartlaw05_to.l0]) ?_
    refine ev_if_pos (by rw [List.length_map]; omega) ?_
    refine ev_if_pos (by omega) ?_
    refine ev_if_pos (by simp; omega) ?_
    simp only [rd_ES l i hlt]
    rw [wrap64_in (by omega) (by omega)]
    have := ih (i + 1) (by omega)
    rw [List.take_succ_eq_append_getElem hlt, List.map_append] at this
    exact this
theorem ev_to (l : List Ent) (hn : l.length ≤ 1000000000000) : Ev (fun k => thwartlaw05_to.f k (l.map ES)) (l.map EF) := by
  unfold thwartlaw05_to.f
  exact ev_to_l l hn l.length 0 (by omega)
theorem ev_light5_l (l : List SE) : ∀ (d i : Nat), i + d = l.length →
    ∃ r, Ev (fun k => thwartlaw05_light.l0 k l (i : Int)) r ∧ (r = true → l.length ≤ 40) := by
  have fin : ∀ (y : Int), Ev (fun k => thwartlaw05_light.j1 k l y false) (decide ((l.length : Int) ≤ 40)) := by
    intro y
    exact Ev.step (fun k => by rw [thwartlaw05_light.j1]) (ev_bf (Ev.now _))
  have ok : decide ((l.length : Int) ≤ 40) = true → l.length ≤ 40 := by intro h; have := of_decide_eq_true h; omega
  intro d
  induction d with
  | zero =>
    intro i hi
    exact ⟨_, Ev.step (fun k => by rw [thwartlaw05_light.l0]) (ev_if_neg (by omega) (fin _)), ok⟩
  | succ d ih =>
    intro i hi
    by_cases h : i < 50
    · by_cases hz : (((rd_T39 l (i : Int)).f0).size : Int) > 100
      · refine ⟨false, Ev.step (fun k => by rw [thwartlaw05_light.l0]) (ev_if_pos (by omega) ?_), fun h => by cases h⟩
        rw [decide_eq_true (by omega)]
        refine Ev.step (fun k => by rw [thwartlaw05_light.j1]) ?_
        refine ev_bt ?_
        refine ev_if_pos (by omega) ?_
        refine ev_if_pos (by omega) ?_
        exact ev_if_pos hz (Ev.now _)
      · obtain ⟨r, h1, h2⟩ := ih (i + 1) (by omega)
        refine ⟨r, Ev.step (fun k => by rw [thwartlaw05_light.l0]) (ev_if_pos (by omega) ?_), h2⟩
        rw [decide_eq_true (by omega)]
        refine Ev.step (fun k => by rw [thwartlaw05_light.j1]) ?_
        refine ev_bt ?_
        refine ev_if_pos (by omega) ?_
        refine ev_if_pos (by omega) ?_
        refine ev_if_neg hz ?_
        rw [wrap64_in (by omega) (by omega)]
        exact h1
    · refine ⟨_, Ev.step (fun k => by rw [thwartlaw05_light.l0]) (ev_if_pos (by omega) ?_), ok⟩
      rw [decide_eq_false (by omega)]
      exact fin _
theorem ev_light5 (l : List SE) : ∃ r, Ev (fun k => thwartlaw05_light.f k l) r ∧ (r = true → l.length ≤ 40) := by
  unfold thwartlaw05_light.f
  exact ev_light5_l l l.length 0 (by omega)
theorem same_ent (a b : Ent) : (!((((EF a).f0).toList) == (((EF b).f0).toList)) || (!(((EF a).f1) == ((EF b).f1)) || (!(((EF a).f2) == ((EF b).f2)) || (!(((EF a).f3) == ((EF b).f3)) || (!(((EF a).f4) == ((EF b).f4))))))) = !decide (a = b) := by
  obtain ⟨a1, a2, a3, a4, a5⟩ := a
  obtain ⟨b1, b2, b3, b4, b5⟩ := b
  simp only [EF, toList_L, L_B]
  rw [Bool.eq_iff_iff]
  simp only [Ent.mk.injEq, Bool.or_eq_true, Bool.not_eq_true', beq_eq_false_iff_ne, decide_eq_false_iff_not, ne_eq, Int.natCast_inj]
  constructor
  · rintro (h | h | h | h | h) ⟨e1, e2, e3, e4, e5⟩
    · exact h e1
    · exact h e2
    · exact h e3
    · exact h e4
    · exact h e5
  · intro h
    by_cases h1 : a1 = b1
    · by_cases h2 : a2 = b2
      · by_cases h3 : a3 = b3
        · by_cases h4 : a4 = b4
          · exact .inr (.inr (.inr (.inr fun h5 => h ⟨h1, h2, h3, h4, h5⟩)))
          · exact .inr (.inr (.inr (.inl h4)))
        · exact .inr (.inr (.inl h3))
      · exact .inr (.inl h2)
    · exact .inl h1
theorem ev_same5 (us vs : List Ent) (hl : us.length = vs.length) (hn : us.length ≤ 1000000000) : ∀ d i : Nat, i + d = us.length →
    Ev (fun k => thwartref05_Same.l0 k (us.map EF) (vs.map EF) (i : Int)) (decide (us.drop i = vs.drop i)) := by
  intro d
  induction d with
  | zero =>
    intro i hi
    refine Ev.step (fun k => by rw [thwartref05_Same.l0]) ?_
    refine ev_if_neg (by simp; omega) ?_
    rw [List.drop_eq_nil_of_le (by omega), List.drop_eq_nil_of_le (by omega)]
    exact ev_some fun k => by simp
  | succ d ih =>
    intro i hi
    have h1 : i < us.length := by omega
    have h2 : i < vs.length := by omega
    refine Ev.step (fun k => by rw [thwartref05_Same.l0]) ?_
    refine ev_if_pos (by simp; omega) ?_
    refine ev_if_pos (by omega) ?_
    refine ev_if_pos (by simp; omega) ?_
    simp only [rd_EF us i h1, rd_EF vs i h2, same_ent]
    rw [drop_at us i h1, drop_at vs i h2]
    by_cases he : us[i] = vs[i]
    · refine ev_if_neg (by simp [he]) ?_
      rw [wrap64_in (by omega) (by omega), he]
      have := ih (i + 1) (by omega)
      simp only [List.cons.injEq, true_and]
      exact this
    · refine ev_if_pos (by simp [he]) ?_
      exact ev_some fun k => by rw [decide_eq_false (fun h => he (List.cons.inj h).1)]
theorem ev_Same5 (us vs : List Ent) (hn : us.length ≤ 1000000000) : Ev (fun k => thwartref05_Same.f k (us.map EF) (vs.map EF)) (decide (us = vs)) := by
  unfold thwartref05_Same.f
  by_cases hl : us.length = vs.length
  · refine ev_if_pos (by simp [hl]) ?_
    have := ev_same5 us vs hl hn us.length 0 (by omega)
    simpa using this
  · refine ev_if_neg (by simp; omega) ?_
    refine ev_some fun k => ?_
    rw [decide_eq_false (fun h => hl (by rw [h]))]
theorem ev_awake05 : Ev (fun k => thwartlaw05_awake.f k) true := Ev.of (fun k => thwartlaw05_awake.mono k) (k := 20) (by decide +kernel)
end Go.Proofs.Ytdjkkceamldmjaa.Thw
