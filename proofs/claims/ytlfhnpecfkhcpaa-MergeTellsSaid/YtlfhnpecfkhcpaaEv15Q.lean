/- Layer 15: the statement MergeTells. -/
import Derived.Test.YtlfhnpecfkhcpaaPrint7
import Derived.Test.YtlfhnpecfkhcpaaPrint5
import Derived.Test.YtlfhnpecfkhcpaaPrint6
import Derived.Test.YtlfhnpecfkhcpaaEv15K
namespace Go.Proofs.Ytlfhnpecfkhcpaa.Thw
open Go Go.RowKit Go.Proofs.Ytlfhnpecfkhcpaa.Print Go.Proofs.YtlfhnpecfkhcpaaW.PrintWords Go.Proofs.YtlfhnpecfkhcpaaW.PrintLast Go.Proofs.YtlfhnpecfkhcpaaW.PrintMore
set_option linter.unusedVariables false
set_option linter.unusedSimpArgs false
theorem now_refNewest {ls : List (List SR)} (h : Big ls) : thwartref15_Newest.f ls = some (newestL keyS numS ls.flatten) := by
  unfold thwartref15_Newest.f
  rw [if_pos ⟨by have := h.1; omega, by have := h.2.1; omega⟩]
theorem ev_refLive {ls : List (List SR)} (h : Big ls) : Ev (fun k => thwartref15_Live.f k ls) ((newestL keyS numS ls.flatten).filter notGone) := by
  refine ev_bind_now (now_refNewest h) ?_
  have hl := newest_len ls.flatten
  have hb := h.2.1
  generalize newestL keyS numS ls.flatten = n at hl
  have : ∀ d i : Nat, i + d = n.length → Ev (fun k => thwartref15_Live.l0 k ((n.take i).filter notGone) n (i : Int)) (n.filter notGone) := by
    intro d
    induction d with
    | zero =>
      intro i hi
      refine Ev.step (fun k => by rw [thwartref15_Live.l0]) ?_
      refine ev_if_neg (by omega) ?_
      rw [List.take_of_length_le (by omega)]
      exact Ev.now _
    | succ d ih =>
      intro i hi
      have hlt : i < n.length := by omega
      have e : (n.take (i + 1)).filter notGone = (n.take i).filter notGone ++ (if notGone n[i] = true then [n[i]] else []) := by
        rw [List.take_succ_eq_append_getElem hlt, List.filter_append, List.filter_cons, List.filter_nil]
      refine Ev.step (fun k => by rw [thwartref15_Live.l0]) ?_
      refine ev_if_pos (by omega) ?_
      refine ev_if_pos (by omega) ?_
      have hs := ih (i + 1) (by omega)
      rw [e] at hs
      rw [rdS_at hlt, wrap64_in (by omega) (by omega)]
      cases hg : n[i].f3 with
      | true =>
        refine ev_bt ?_
        rw [if_neg (by unfold notGone; rw [hg]; decide), List.append_nil] at hs
        exact hs
      | false =>
        refine ev_bf ?_
        rw [if_pos (by unfold notGone; rw [hg]; rfl)] at hs
        have h2 : ((n.take i).filter notGone).length ≤ n.length := Nat.le_trans (List.length_filter_le _ _) (by rw [List.length_take]; omega)
        refine ev_if_pos (by omega) ?_
        have e3 : (⟨n[i].f0, n[i].f1, n[i].f2, false⟩ : SR) = n[i] := by
          have : ∀ y : SR, y.f3 = false → (⟨y.f0, y.f1, y.f2, false⟩ : SR) = y := fun y hy => by cases y; simp at hy; subst hy; rfl
          exact this _ hg
        rw [e3]
        exact hs
  have h0 := this n.length 0 (by omega)
  exact h0
theorem chunk_cut (l : List SR) (i : Nat) : (l.take (min (16 * i + 16) l.length)).drop (16 * i) = merge_Batches.chunk l i := by
  unfold merge_Batches.chunk
  rw [List.drop_take]
  by_cases h : 16 * i + 16 ≤ l.length
  · rw [Nat.min_eq_left h]
    congr 1
    omega
  · rw [Nat.min_eq_right (by omega), List.take_of_length_le (by rw [List.length_drop]; omega), List.take_of_length_le (by rw [List.length_drop]; omega)]
theorem ev_refBatches (l : List SR) (hn : l.length ≤ 100000) : Ev (fun k => thwartref15_Batches.f k l) ((List.range ((l.length + 15) / 16)).map (merge_Batches.chunk l)) := by
  obtain ⟨m, hm⟩ : ∃ m, (l.length + 15) / 16 = m := ⟨_, rfl⟩
  rw [hm]
  have : ∀ d i : Nat, i + d = m → Ev (fun k => thwartref15_Batches.l0 k l ((List.range i).map (merge_Batches.chunk l)) ((16 * i : Nat) : Int)) ((List.range m).map (merge_Batches.chunk l)) := by
    intro d
    induction d with
    | zero =>
      intro i hi
      obtain rfl : i = m := by omega
      refine Ev.step (fun k => by rw [thwartref15_Batches.l0]) ?_
      refine ev_if_neg (by omega) ?_
      exact Ev.now _
    | succ d ih =>
      intro i hi
      have hmn : mn (wrap64 (((16 * i : Nat) : Int) + 16)) (l.length : Int) = ((min (16 * i + 16) l.length : Nat) : Int) := by
        rw [wrap64_in (by omega) (by omega)]
        unfold mn
        split <;> omega
      refine Ev.step (fun k => by rw [thwartref15_Batches.l0]) ?_
      refine ev_if_pos (by omega) ?_
      refine ev_if_pos (by omega) ?_
      rw [hmn]
      refine ev_if_pos (by omega) ?_
      refine ev_if_pos (by omega) ?_
      refine ev_if_pos (by simp; omega) ?_
      rw [Int.toNat_natCast, Int.toNat_natCast, chunk_cut, wrap64_in (by omega) (by omega)]
      have hs := ih (i + 1) (by omega)
      rw [List.range_succ, List.map_append] at hs
      have e : ((16 * i : Nat) : Int) + 16 = ((16 * (i + 1) : Nat) : Int) := by omega
      rw [e]
      exact hs
  exact this m 0 (by omega)
theorem ev_same4_self (ls : List (List SR)) (h : ∀ l ∈ ls, l.length ≤ 1000000) (hn : ls.length ≤ 1000000) : Ev (fun k => thwartref04_Same.f k ls ls) true := by
  have : ∀ d i : Nat, i + d = ls.length → Ev (fun k => thwartref04_Same.l0 k ls ls (i : Int)) true := by
    intro d
    induction d with
    | zero =>
      intro i hi
      refine Ev.step (fun k => by rw [thwartref04_Same.l0]) ?_
      exact ev_if_neg (by omega) (Ev.now _)
    | succ d ih =>
      intro i hi
      have hlt : i < ls.length := by omega
      refine Ev.step (fun k => by rw [thwartref04_Same.l0]) ?_
      refine ev_if_pos (by omega) ?_
      refine ev_if_pos (by omega) ?_
      refine ev_if_pos (by omega) ?_
      rw [rdL_at hlt]
      refine Ev.bind (ev_same_self ls[i] (h _ (List.getElem_mem hlt))) ?_
      refine ev_bt ?_
      rw [wrap64_in (by omega) (by omega)]
      exact ih (i + 1) (by omega)
  unfold thwartref04_Same.f
  exact ev_if_pos rfl (this ls.length 0 (by omega))
theorem pureMergeTells : thwartlaw15_MergeTells.Pure := by
  intro l elder h1 _
  apply Ev.rounds
  unfold thwartlaw15_MergeTells.f
  obtain ⟨one, e1, k1⟩ := ev_light l (by omega)
  refine Ev.bind ev_awake15 (Ev.bind e1 ?_)
  cases one with
  | false => exact ev_bf (Ev.now _)
  | true =>
  have o1 := k1 rfl
  refine ev_bt ?_
  have hb : Big l := (big_two (m := []) o1 o1 (by simp) (by simp)).2.2
  have hr := now_refNewest hb
  have hl := ev_refLive hb
  have hlen : (newestL keyS numS l.flatten).length ≤ 1000000 := by have h3 := newest_len l.flatten; have := hb.2.1; omega
  have hlen2 : ((newestL keyS numS l.flatten).filter notGone).length ≤ 1000000 := Nat.le_trans (List.length_filter_le _ _) hlen
  refine Ev.bind hl ?_
  have hj : ∀ w : List SR, w = (if elder = true then newestL keyS numS l.flatten else (newestL keyS numS l.flatten).filter notGone) → Ev (fun k => thwartlaw15_MergeTells.j0 k l elder true w) true := by
    rintro w rfl
    refine Ev.step (fun k => by rw [thwartlaw15_MergeTells.j0]) ?_
    refine Ev.bind (ev_newest l hb) (ev_bind_now hr (Ev.bind (ev_same_self _ hlen) ?_))
    refine Ev.bind (ev_live l hb) (Ev.bind hl (Ev.bind (ev_same_self _ hlen2) ?_))
    refine Ev.bind (ev_merge l hb elder) (Ev.bind (ev_same_self _ (by split <;> assumption)) ?_)
    by_cases h0 : (l.length : Int) = 0
    · exact ev_if_pos h0 (ev_bt (ev_bt (ev_bt (ev_bt (Ev.now _)))))
    · refine ev_if_neg h0 (ev_if_pos (by omega) ?_)
      have hlt : 0 < l.length := by omega
      have hok := o1.2 l[0] (List.getElem_mem hlt)
      have e0 : rd_L4 l 0 = l[0] := rdL_at (i := 0) hlt
      rw [e0]
      refine ev_bind_now (a := (List.range ((l[0].length + 15) / 16)).map (merge_Batches.chunk l[0])) (by unfold merge_Batches.f; rw [if_pos (by have := hok.1; omega)]) ?_
      refine Ev.bind (ev_refBatches l[0] (by have := hok.1; omega)) ?_
      refine Ev.bind (ev_same4_self _ (fun c hc => ?_) (by simp; have := hok.1; omega)) ?_
      · obtain ⟨i, _, rfl⟩ := List.mem_map.1 hc
        unfold merge_Batches.chunk
        rw [List.length_take]
        omega
      · exact ev_bt (ev_bt (ev_bt (ev_bt (Ev.now _))))
  cases elder with
  | true => exact ev_bt (ev_bind_now hr (hj _ (if_pos rfl).symm))
  | false => exact ev_bf (hj _ (if_neg (by simp)).symm)
end Go.Proofs.Ytlfhnpecfkhcpaa.Thw
