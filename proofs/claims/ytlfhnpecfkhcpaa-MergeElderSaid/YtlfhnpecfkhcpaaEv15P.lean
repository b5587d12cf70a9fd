/- Layer 15: the statement MergeElder. -/
import Derived.Test.YtlfhnpecfkhcpaaPrint4
import Derived.Test.YtlfhnpecfkhcpaaEv15K
import Derived.Sort.Walk0
namespace Go.Proofs.Ytlfhnpecfkhcpaa.Thw
open Go Go.RowKit Go.Maps Go.Proofs.Ytlfhnpecfkhcpaa.Print Go.Proofs.YtlfhnpecfkhcpaaW.PrintWords Go.Proofs.YtlfhnpecfkhcpaaW.PrintLast Go.Proofs.YtlfhnpecfkhcpaaW.PrintMore
set_option linter.unusedVariables false
set_option linter.unusedSimpArgs false
theorem rises_newest (l : List SR) : thwartlaw15_MergeElder.rises (newestL keyS numS l) = true := by
  have hp := newestL_sorted keyS numS l
  unfold thwartlaw15_MergeElder.rises
  rw [Bool.or_eq_true]
  right
  rw [List.all_eq_true]
  intro i hi
  have hi := List.mem_range.1 hi
  rw [rdS_at (by omega), rdS_at (by omega)]
  have h := List.pairwise_iff_getElem.1 hp i (i + 1) (by omega) (by omega) (by omega)
  unfold ltK at h
  rw [bytesLess_eq, Lib.toList_data, Lib.toList_data]
  simpa using h
theorem pureMergeElder : thwartlaw15_MergeElder.Pure := by
  intro elder l h1 _ h2 _
  apply Ev.rounds
  unfold thwartlaw15_MergeElder.f
  obtain ⟨one, e1, k1⟩ := ev_light l (by omega)
  obtain ⟨two, e2, k2⟩ := ev_light elder (by omega)
  refine Ev.bind ev_awake15 (Ev.bind e1 (Ev.bind e2 ?_))
  refine ev_if_pos rfl ?_
  by_cases hb : one = true ∧ two = true
  case neg => exact ev_if_neg hb (Ev.now _)
  refine ev_if_pos hb ?_
  have o1 := k1 hb.1
  have o2 := k2 hb.2
  refine ev_if_pos ⟨o2.1, o1.1⟩ ?_
  have g1 := big_two o1 o2 (newest_len l.flatten) (newest_mem l.flatten)
  have t0 := ev_merge l g1.2.2 true
  rw [if_pos rfl] at t0
  refine Ev.bind t0 ?_
  refine ev_if_pos (rises_newest _) ?_
  have b1 : Big ([] ++ elder ++ [newestL keyS numS l.flatten]) := by
    obtain ⟨a1, a2, a3⟩ := g1.1
    have f1 : ([] ++ elder ++ [newestL keyS numS l.flatten]).flatten = elder.flatten ++ newestL keyS numS l.flatten := by simp
    have f2 : ([newestL keyS numS l.flatten] ++ elder).flatten = newestL keyS numS l.flatten ++ elder.flatten := by simp
    rw [f2] at a2 a3
    refine ⟨by simp at a1 ⊢; omega, ?_, fun x hx => ?_⟩
    · rw [f1, List.length_append]
      rw [List.length_append] at a2
      omega
    · rw [f1] at hx
      exact a3 x (by rcases List.mem_append.1 hx with h | h <;> simp [h])
  have b2 : Big ([] ++ elder ++ l) := (big_two (m := []) o2 o1 (by simp) (by simp)).2.1
  have f1 : ([] ++ elder ++ [newestL keyS numS l.flatten]).flatten = elder.flatten ++ newestL keyS numS l.flatten := by simp
  have f3 : ([] ++ elder ++ l).flatten = elder.flatten ++ l.flatten := by simp
  have t3 := ev_live _ b1
  have t4 := ev_live _ b2
  have hbig := b2.2.1
  rw [f1, newestL_elder] at t3
  rw [f3] at t4 hbig
  have hlen : (newestL keyS numS (elder.flatten ++ l.flatten)).length ≤ 1000000 := by
    have h3 := newest_len (elder.flatten ++ l.flatten)
    omega
  refine Ev.bind t3 (Ev.bind t4 (Ev.bind (ev_same_self _ (Nat.le_trans (List.length_filter_le _ _) hlen)) ?_))
  exact ev_if_pos rfl (Ev.now _)
end Go.Proofs.Ytlfhnpecfkhcpaa.Thw
