/- Layer 15: the statement MergeBatches. -/
import Derived.Test.YtlfhnpecfkhcpaaPrint4
import Derived.Test.YtlfhnpecfkhcpaaPrint3
import Derived.Test.YtlfhnpecfkhcpaaPrint2
import Derived.Test.YtlfhnpecfkhcpaaEvA
namespace Go.Proofs.Ytlfhnpecfkhcpaa.Thw
open Go Go.RowKit Go.Proofs.Ytlfhnpecfkhcpaa.Print Go.Proofs.YtlfhnpecfkhcpaaW.PrintWords Go.Proofs.YtlfhnpecfkhcpaaW.PrintLast Go.Proofs.YtlfhnpecfkhcpaaW.PrintMore
set_option linter.unusedVariables false
set_option linter.unusedSimpArgs false
theorem ev_awake15 : Ev (fun k => thwartlaw15_awake.f k) true := Ev.of (fun k => thwartlaw15_awake.mono k) (k := 20) (by decide +kernel)
theorem ev_same_self (l : List (S36)) (hn : l.length ≤ 1000000) : Ev (fun k => thwartref03_Same.f k l l) true := by
  have : ∀ d i : Nat, i + d = l.length → Ev (fun k => thwartref03_Same.l0 k l l (i : Int)) true := by
    intro d
    induction d with
    | zero =>
      intro i hi
      refine Ev.step (fun k => by rw [thwartref03_Same.l0]) ?_
      exact ev_if_neg (by omega) (Ev.now _)
    | succ d ih =>
      intro i hi
      refine Ev.step (fun k => by rw [thwartref03_Same.l0]) ?_
      refine ev_if_pos (by omega) ?_
      refine ev_if_pos (by omega) ?_
      refine ev_if_pos (by omega) ?_
      refine ev_if_neg (by simp) ?_
      rw [wrap64_in (by omega) (by omega)]
      exact ih (i + 1) (by omega)
  unfold thwartref03_Same.f
  exact ev_if_pos rfl (this l.length 0 (by omega))
theorem flat_chunks (l : List (S36)) : ∀ i : Nat, ((List.range i).map (merge_Batches.chunk l)).flatten = l.take (16 * i)
  | 0 => by simp
  | i + 1 => by
    rw [List.range_succ, List.map_append, List.flatten_append, flat_chunks l i, show 16 * (i + 1) = 16 * i + 16 by omega, List.take_add]
    simp [merge_Batches.chunk]
theorem pureMergeBatches : thwartlaw15_MergeBatches.Pure := by
  intro l h1 h2
  apply Ev.rounds
  unfold thwartlaw15_MergeBatches.f
  refine Ev.bind ev_awake15 ?_
  by_cases hl : (l.length : Int) > 200
  · exact ev_if_pos hl (Ev.now _)
  refine ev_if_neg hl ?_
  refine ev_bind_now (a := (List.range ((l.length + 15) / 16)).map (merge_Batches.chunk l)) (by unfold merge_Batches.f; rw [if_pos (by omega)]) ?_
  obtain ⟨m, hm⟩ : ∃ m, (l.length + 15) / 16 = m := ⟨_, rfl⟩
  rw [hm]
  have hlen : ((List.range m).map (merge_Batches.chunk l)).length = m := by simp
  have hrd : ∀ i : Nat, i < m → rd_L4 ((List.range m).map (merge_Batches.chunk l)) (i : Int) = merge_Batches.chunk l i := by
    intro i hi
    unfold rd_L4
    rw [Int.toNat_natCast, List.getD_eq_getElem?_getD, List.getElem?_map, List.getElem?_range hi]
    rfl
  have hcl : ∀ i : Nat, (merge_Batches.chunk l i).length = min 16 (l.length - 16 * i) := fun i => by unfold merge_Batches.chunk; rw [List.length_take, List.length_drop]
  have : ∀ d i : Nat, i + d = m → Ev (fun k => thwartlaw15_MergeBatches.l0 k l true ((List.range m).map (merge_Batches.chunk l)) (l.take (16 * i)) (i : Int)) true := by
    intro d
    induction d with
    | zero =>
      intro i hi
      refine Ev.step (fun k => by rw [thwartlaw15_MergeBatches.l0]) ?_
      refine ev_if_neg (by omega) ?_
      rw [List.take_of_length_le (by omega)]
      refine Ev.bind (ev_same_self l (by omega)) ?_
      refine ev_if_pos rfl ?_
      refine ev_if_pos rfl ?_
      refine ev_some fun k => ?_
      rw [hlen, wrap64_in (n := (l.length : Int) + 15) (by omega) (by omega)]
      have e : Int.tdiv ((l.length : Int) + 15) 16 = (m : Int) := by rw [Int.tdiv_eq_ediv_of_nonneg (by omega)]; omega
      rw [e, wrap64_in (by omega) (by omega), beq_self_eq_true]
    | succ d ih =>
      intro i hi
      have hlt : i < m := by omega
      have hc := hcl i
      refine Ev.step (fun k => by rw [thwartlaw15_MergeBatches.l0]) ?_
      refine ev_if_pos (by omega) ?_
      refine ev_if_pos (by omega) ?_
      rw [hrd i hlt]
      refine ev_if_neg (by omega) ?_
      refine ev_if_neg (by omega) ?_
      refine ev_if_pos (by rw [List.length_take]; omega) ?_
      have e : l.take (16 * i) ++ merge_Batches.chunk l i = l.take (16 * (i + 1)) := by
        rw [show 16 * (i + 1) = 16 * i + 16 by omega, List.take_add]
        rfl
      rw [e, wrap64_in (by omega) (by omega)]
      exact ih (i + 1) (by omega)
  have h0 := this m 0 (by omega)
  rw [Nat.mul_zero, List.take_zero] at h0
  exact h0
end Go.Proofs.Ytlfhnpecfkhcpaa.Thw
