/- Layer 3: the four statements. -/
import Derived.Test.YtnhmhdconmollaaPrint6
import Derived.Test.YtnhmhdconmollaaPrint7
import Derived.Test.YtnhmhdconmollaaPrint8
import Derived.Test.YtnhmhdconmollaaPrint9
import Derived.Test.YtnhmhdconmollaaEv03m
namespace Go.Proofs.Ytnhmhdconmollaa.Thw
open Go Go.RowKit Go.Proofs.Ytnhmhdconmollaa.Print Go.Proofs.YtnhmhdconmollaaW.PrintWords Go.Proofs.YtnhmhdconmollaaW.PrintLast Go.Proofs.YtnhmhdconmollaaW.PrintMore
set_option linter.unusedVariables false
set_option linter.unusedSimpArgs false

theorem ev_awake03 : Ev (fun k => thwartlaw03_awake.f k) true := by
  unfold thwartlaw03_awake.f
  have e1 := ev_Bytes ⟨3, [107], [], true⟩
  have e2 := ev_Read ⟨#[7, 1, 107, 122]⟩ (by decide)
  have e3 := ev_Right ⟨3, [107], [], true⟩
  rw [show bytesS ⟨3, [107], [], true⟩ = ([7, 1, 107], 0) by decide +kernel] at e1
  rw [show readS (L ⟨#[7, 1, 107, 122]⟩) = (⟨3, [107], [], true⟩, [122], 0) by decide +kernel] at e2
  rw [show rightS ⟨3, [107], [], true⟩ = true by decide +kernel] at e3
  refine Ev.bind e1 ?_
  refine Ev.bind e2 ?_
  refine ev_if_pos (by rw [toList_L, L_B]) ?_
  refine ev_if_pos rfl ?_
  refine ev_if_pos (by simp [RD, toList_L, L_B]) ?_
  refine ev_if_pos (by simp [RD, toList_L, L_B]) ?_
  refine ev_if_pos rfl ?_
  exact Ev.bind e3 (Ev.now _)
theorem eq_self4 (a : Int) (b c : ByteArray) (d : Bool) : (a == a && (b.toList == b.toList && (c.toList == c.toList && (d == d)))) = true := by simp
theorem pureRecordReads : thwartlaw03_RecordReads.Pure := by
  intro a b ha hb
  obtain ⟨r, rfl⟩ := unRS a (wf_u64 ha.1).1
  apply Ev.rounds
  unfold thwartlaw03_RecordReads.f
  refine Ev.bind ev_awake03 ?_
  have stop : Ev (fun k => thwartlaw03_RecordReads.j0 k b true true (RS r).f0 (RS r).f1 (RS r).f2 (RS r).f3) true :=
    Ev.step (fun k => by rw [thwartlaw03_RecordReads.j0]) (ev_if_pos rfl (Ev.now _))
  by_cases h1 : ((RS r).f1.size : Int) > 500
  · exact ev_if_pos h1 stop
  refine ev_if_neg h1 ?_
  by_cases h2 : ((RS r).f2.size : Int) > 500
  · exact ev_if_pos h2 stop
  refine ev_if_neg h2 ?_
  by_cases h3 : (b.size : Int) > 2000
  · rw [decide_eq_true h3]; exact stop
  rw [decide_eq_false h3]
  refine Ev.step (fun k => by rw [thwartlaw03_RecordReads.j0]) ?_
  refine ev_bf ?_
  refine Ev.bind (ev_Bytes r) ?_
  refine Ev.bind (ev_rBytes r) ?_
  refine Ev.bind (ev_Read b (by omega)) ?_
  refine Ev.bind (ev_rRead b (by omega)) ?_
  refine ev_if_pos rfl ?_
  refine ev_if_pos rfl ?_
  refine ev_if_pos rfl ?_
  refine ev_if_pos (eq_self4 _ _ _ _) ?_
  refine ev_if_pos rfl ?_
  refine ev_if_pos rfl ?_
  refine Ev.bind (ev_Right r) ?_
  refine ev_bind_now (rRight r) ?_
  exact ev_some fun k => by rw [beq_self_eq_true]
theorem pureRecordCuts : thwartlaw03_RecordCuts.Pure := by
  intro a c ha hc
  obtain ⟨r, rfl⟩ := unRS a (wf_u64 ha.1).1
  obtain ⟨c0, c1⟩ := wf_i64 hc
  apply Ev.rounds
  unfold thwartlaw03_RecordCuts.f
  refine Ev.bind ev_awake03 ?_
  refine Ev.bind (ev_Bytes r) ?_
  unfold bytesS
  cases hr : rightS r with
  | false =>
    rw [if_neg (by decide)]
    refine ev_if_neg (by decide) ?_
    refine Ev.step (fun k => by rw [thwartlaw03_RecordCuts.j0]) ?_
    refine ev_if_pos rfl ?_
    refine ev_if_pos rfl ?_
    refine ev_if_pos rfl ?_
    have := ev_Right r
    rw [hr] at this
    refine Ev.bind this ?_
    exact ev_bf (Ev.now _)
  | true =>
    rw [if_pos rfl]
    refine ev_if_pos rfl ?_
    by_cases hn : c < 0
    · refine ev_if_pos hn ?_
      refine Ev.step (fun k => by rw [thwartlaw03_RecordCuts.j0]) ?_
      refine ev_if_pos rfl ?_
      refine ev_if_pos rfl ?_
      refine ev_if_neg (by show ¬ (0 : Int) = 1; decide) ?_
      refine ev_if_pos rfl ?_
      exact ev_some fun k => by rw [decide_eq_true hn]
    refine ev_if_neg hn ?_
    have hp := recS_pos r
    have hz : (B (recS r)).size = (recS r).length := B_size _
    have hle := recS_length hr
    have hb : (((B (recS r)).size : Int) == 0) = false := by rw [hz]; exact beq_eq_false_iff_ne.mpr (by omega)
    show Ev (fun k => thwartlaw03_RecordCuts.j0 k c true (B (recS r)) 0 (((B (recS r)).size : Int) == 0) (r.seq : Int) (B r.key) (B r.val) r.gone) true
    rw [hb]
    refine Ev.step (fun k => by rw [thwartlaw03_RecordCuts.j0]) ?_
    refine ev_bf ?_
    refine ev_if_neg (by show ¬ ((B (recS r)).size : Int) = 0; omega) ?_
    obtain ⟨m, rfl⟩ := Int.eq_ofNat_of_zero_le (by omega : 0 ≤ c)
    have hm : Int.tmod (m : Int) ((B (recS r)).size : Int) = ((m % (recS r).length : Nat) : Int) := by
      rw [Int.tmod_eq_emod_of_nonneg (by omega), hz]; exact (Int.natCast_emod m _).symm
    have hlt := Nat.mod_lt m hp
    simp only [hm]
    refine ev_if_pos (by omega) ?_
    refine ev_if_pos (by omega) ?_
    rw [Int.toNat_natCast, extract_front, L_B]
    have he := ev_Read (B ((recS r).take (m % (recS r).length))) (by rw [B_size]; simp; omega)
    rw [L_B, readS_cut r hr _ hlt] at he
    refine Ev.bind he ?_
    refine ev_if_pos (by first | rfl | trivial) ?_
    refine ev_if_pos (by first | rfl | trivial) ?_
    refine ev_if_pos (by simp [RD, rec0, toList_L, L_B]) ?_
    exact ev_some fun k => by simp [RD, toList_L, L_B]
theorem wf_list {l : List SR} (h : ∀ e ∈ l, (Lit.int .u64 e.f0).wf = true ∧ e.f1.size ≤ 9223372036854775807 ∧ e.f2.size ≤ 9223372036854775807 ∧ True) : ∃ rs : List Rec, l = rs.map RS :=
  unRSs l (fun x hx => (wf_u64 (h x hx).1).1)
theorem pureRecordLists : thwartlaw03_RecordLists.Pure := by
  intro l b h1 h2 h3
  obtain ⟨rs, rfl⟩ := wf_list h2.2
  apply Ev.rounds
  unfold thwartlaw03_RecordLists.f
  refine Ev.bind ev_awake03 ?_
  obtain ⟨t, ht, hl⟩ := ev_Light (rs.map RS) (by omega)
  refine Ev.bind ht ?_
  have stop : Ev (fun k => thwartlaw03_RecordLists.j0 k (rs.map RS) b true true) true :=
    Ev.step (fun k => by rw [thwartlaw03_RecordLists.j0]) (ev_if_pos rfl (Ev.now _))
  cases t with
  | false => exact ev_bf stop
  | true =>
    refine ev_bt ?_
    have hl := hl rfl
    rw [List.length_map] at hl
    by_cases hb : (b.size : Int) > 4000
    · rw [decide_eq_true hb]; exact stop
    rw [decide_eq_false hb]
    refine Ev.step (fun k => by rw [thwartlaw03_RecordLists.j0]) ?_
    refine ev_bf ?_
    refine Ev.bind (ev_All rs (by omega)) ?_
    refine Ev.bind (ev_rAll rs (by omega)) ?_
    refine Ev.bind (ev_List b (by omega)) ?_
    refine Ev.bind (ev_rList b (by omega)) ?_
    have hlen : (listS (L b)).1.length ≤ 1000000000 := by
      have hl := L_length b
      rcases listS_told (L b) with ⟨_, _, h⟩ | h | h
      · omega
      · rw [h]; simp
      · rw [h]; simp
    refine Ev.bind (ev_Same _ _ hlen) ?_
    refine ev_if_pos rfl ?_
    refine ev_if_pos rfl ?_
    refine ev_if_pos rfl ?_
    refine ev_if_pos (by simp) ?_
    exact ev_some fun k => by rw [beq_self_eq_true]
theorem ev_back_end (rs : List Rec) (b rest : ByteArray) (e : Int) (i : Int) (hb : b.size ≤ 2000) : Ev (fun k => thwartlaw03_RecordBack.j3 k (rs.map RS) b rest true e i false) true := by
  refine Ev.step (fun k => by rw [thwartlaw03_RecordBack.j3]) ?_
  refine ev_bf ?_
  refine Ev.bind (ev_Read b (by omega)) ?_
  have hl := L_length b
  refine Ev.bind (ev_Bytes (readS (L b)).1) ?_
  refine ev_if_pos rfl ?_
  rcases readS_told (L b) with ⟨k1, k2, k3, k4⟩ | k1 | k1
  · refine ev_if_pos k1 ?_
    have hz := recS_length k2
    unfold bytesS
    rw [if_pos k2]
    refine ev_if_pos rfl ?_
    refine ev_if_pos (by show (B (recS (readS (L b)).1)).size + (B (readS (L b)).2.1).size ≤ _; rw [B_size, B_size]; omega) ?_
    refine ev_some fun k => ?_
    show some ((B (recS (readS (L b)).1) ++ B (readS (L b)).2.1).toList == b.toList) = _
    rw [← B_append, toList_L, L_B, k3, toList_L, beq_self_eq_true]
  · rw [k1]; exact ev_if_neg (by show ¬ (2 : Int) = 0; decide) (Ev.now _)
  · rw [k1]; exact ev_if_neg (by show ¬ (3 : Int) = 0; decide) (Ev.now _)
theorem ne_self4 (a : Int) (b c : ByteArray) (d : Bool) : (!(a == a) || (!(b.toList == b.toList) || (!(c.toList == c.toList) || (!(d == d))))) = false := by simp
theorem ev_back_loop (rs : List Rec) (b rest : ByteArray) (e : Int) (hb : b.size ≤ 2000) (hr : rest.size ≤ 500) (hn : rs.length ≤ 40) (hall : e = 0 → ∀ r ∈ rs, rightS r = true) :
    ∀ d i : Nat, i + d = rs.length → Ev (fun k => thwartlaw03_RecordBack.l0 k (rs.map RS) b rest true e (i : Int)) true := by
  intro d
  induction d with
  | zero =>
    intro i hi
    refine Ev.step (fun k => by rw [thwartlaw03_RecordBack.l0]) ?_
    refine ev_if_neg (by simp; omega) ?_
    exact ev_back_end rs b rest e _ hb
  | succ d ih =>
    intro i hi
    have hlt : i < rs.length := by omega
    refine Ev.step (fun k => by rw [thwartlaw03_RecordBack.l0]) ?_
    refine ev_if_pos (by simp; omega) ?_
    by_cases he : e = 0
    case neg =>
      rw [show (e == 0) = false by simpa using he]
      exact ev_back_end rs b rest e _ hb
    rw [show (e == 0) = true by simpa using he]
    refine Ev.step (fun k => by rw [thwartlaw03_RecordBack.j3]) ?_
    refine ev_bt ?_
    refine ev_if_pos (by omega) ?_
    refine ev_if_pos (by simp; omega) ?_
    simp only [rd_RS rs i hlt]
    have hri := hall he rs[i] (List.getElem_mem hlt)
    have hb' := ev_Bytes rs[i]
    unfold bytesS at hb'
    rw [if_pos hri] at hb'
    refine Ev.bind hb' ?_
    have hz := recS_length hri
    have hz2 : (B (recS rs[i])).size = (recS rs[i]).length := B_size _
    refine ev_if_pos (by show (B (recS rs[i])).size + rest.size ≤ _; omega) ?_
    have he2 := ev_Read (B (recS rs[i]) ++ rest) (by rw [ByteArray.size_append]; omega)
    rw [L_append, L_B, readS_rec _ _ hri] at he2
    refine Ev.bind he2 ?_
    refine ev_if_pos rfl ?_
    refine ev_if_pos rfl ?_
    refine ev_if_neg (by rw [Bool.not_eq_true]; exact ne_self4 _ _ _ _) ?_
    refine ev_if_pos (by show (B (L rest)).toList = _; rw [B_L]) ?_
    rw [wrap64_in (by omega) (by omega)]
    exact ih (i + 1) (by omega)
theorem pureRecordBack : thwartlaw03_RecordBack.Pure := by
  intro l b rest h1 h2 h3 h4
  obtain ⟨rs, rfl⟩ := wf_list h2.2
  apply Ev.rounds
  unfold thwartlaw03_RecordBack.f
  refine Ev.bind ev_awake03 ?_
  obtain ⟨t, ht, hl⟩ := ev_Light (rs.map RS) (by omega)
  refine Ev.bind ht ?_
  have stop : Ev (fun k => thwartlaw03_RecordBack.j0 k (rs.map RS) b rest true true) true :=
    Ev.step (fun k => by rw [thwartlaw03_RecordBack.j0]) (ev_if_pos rfl (Ev.now _))
  cases t with
  | false => exact ev_bf stop
  | true =>
    refine ev_bt ?_
    have hl := hl rfl
    rw [List.length_map] at hl
    by_cases hb : (b.size : Int) > 2000
    · exact ev_if_pos hb stop
    refine ev_if_neg hb ?_
    by_cases hr : (rest.size : Int) > 500
    · rw [decide_eq_true hr]; exact stop
    rw [decide_eq_false hr]
    refine Ev.step (fun k => by rw [thwartlaw03_RecordBack.j0]) ?_
    refine ev_bf ?_
    refine Ev.bind (ev_All rs (by omega)) ?_
    have hz := allS_length rs
    have he := ev_List (B (allS rs).1) (by rw [B_size]; omega)
    rw [L_B] at he
    refine Ev.bind he ?_
    refine Ev.bind (ev_Same rs _ (by omega)) ?_
    have go : ∀ e : Int, (e = 0 → ∀ r ∈ rs, rightS r = true) → Ev (fun k => thwartlaw03_RecordBack.j1 k (rs.map RS) b rest true e false) true := by
      intro e h
      refine Ev.step (fun k => by rw [thwartlaw03_RecordBack.j1]) ?_
      refine ev_bf ?_
      exact ev_back_loop rs b rest e (by omega) (by omega) hl h rs.length 0 (by omega)
    rcases allS_right rs with ⟨k1, k2⟩ | k1
    · refine ev_if_pos k1 ?_
      rw [listS_all rs k1]
      refine ev_if_pos rfl ?_
      rw [show (!(decide (rs = (rs, (0 : Int)).1))) = false by simp]
      exact go _ (fun _ => k2)
    · rw [k1]
      refine ev_if_neg (by show ¬ (1 : Int) = 0; decide) ?_
      exact go _ (fun h => absurd h (by decide))
end Go.Proofs.Ytnhmhdconmollaa.Thw
