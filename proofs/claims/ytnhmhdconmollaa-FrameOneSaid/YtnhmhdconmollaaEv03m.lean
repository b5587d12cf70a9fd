/- Layer 3, many records: All, List, and those of the references, Same, Light. -/
import Derived.Test.YtnhmhdconmollaaPrint3
import Derived.Test.YtnhmhdconmollaaPrint5
import Derived.Test.YtnhmhdconmollaaPrint6
import Derived.Test.YtnhmhdconmollaaPrint8
import Derived.Test.YtnhmhdconmollaaPrint2
import Derived.Test.YtnhmhdconmollaaEv03r
namespace Go.Proofs.Ytnhmhdconmollaa.Thw
open Go Go.RowKit Go.Proofs.Ytnhmhdconmollaa.Print Go.Proofs.YtnhmhdconmollaaW.PrintWords Go.Proofs.YtnhmhdconmollaaW.PrintLast Go.Proofs.YtnhmhdconmollaaW.PrintMore
set_option linter.unusedVariables false
set_option linter.unusedSimpArgs false

abbrev SR := S24
def RS (r : Rec) : SR := ⟨(r.seq : Int), B r.key, B r.val, r.gone⟩
theorem unRS (x : SR) (h : 0 ≤ x.f0) : ∃ r : Rec, x = RS r := by
  obtain ⟨a, b, c, d⟩ := x
  obtain ⟨n, rfl⟩ := Int.eq_ofNat_of_zero_le h
  exact ⟨⟨n, L b, L c, d⟩, by simp [RS, B_L]⟩
theorem unRSs : ∀ (l : List SR), (∀ x ∈ l, 0 ≤ x.f0) → ∃ rs : List Rec, l = rs.map RS
  | [], _ => ⟨[], rfl⟩
  | x :: l, h => by
    obtain ⟨r, hr⟩ := unRS x (h x (by simp))
    obtain ⟨rs, hs⟩ := unRSs l (fun y hy => h y (by simp [hy]))
    exact ⟨r :: rs, by rw [hr, hs]; rfl⟩
theorem rd_RS (rs : List Rec) (i : Nat) (h : i < rs.length) : rd_T24 (rs.map RS) (i : Int) = RS rs[i] := by
  unfold rd_T24
  simp [List.getD_eq_getElem?_getD, h]
/-! ### All -/
def finA (acc : ByteArray) (x : Bs × Int) : ByteArray × Int := if x.2 = 0 then (acc ++ B x.1, 0) else (⟨#[]⟩, x.2)
theorem finA_cons {acc : ByteArray} {r : Rec} {l : List Rec} (hr : rightS r = true) : finA acc (allS (r :: l)) = finA (acc ++ B (recS r)) (allS l) := by
  rw [allS, if_pos hr]
  unfold finA
  by_cases h : (allS l).2 = 0
  · rw [if_pos h, if_pos rfl, if_pos h, B_append]
    simp [ByteArray.append_assoc]
  · rw [if_neg h, if_neg h, if_neg h]
theorem finA_bad {acc : ByteArray} {r : Rec} {l : List Rec} (hr : rightS r = false) : finA acc (allS (r :: l)) = (⟨#[]⟩, 1) := by
  rw [allS, hr, if_neg (by decide)]
  rfl
theorem drop_cons {α : Type} (l : List α) (i : Nat) (h : i < l.length) : l.drop i = l[i] :: l.drop (i + 1) := List.drop_eq_getElem_cons h
theorem ev_all (rs : List Rec) (hn : rs.length ≤ 1000000000) : ∀ (d i : Nat) (acc : ByteArray), i + d = rs.length → acc.size ≤ 380 * i →
    Ev (fun k => record_All.l0 k acc (rs.map RS) (rs.length : Int) (i : Int)) (finA acc (allS (rs.drop i))) := by
  intro d
  induction d with
  | zero =>
    intro i acc hi ha
    refine Ev.step (fun k => by rw [record_All.l0]) ?_
    refine ev_if_neg (by omega) ?_
    rw [List.drop_eq_nil_of_le (by omega)]
    refine ev_some fun k => ?_
    simp [finA, allS, B_nil]
    exact L_inj (by rw [L_append]; simp [L])
  | succ d ih =>
    intro i acc hi ha
    have hlt : i < rs.length := by omega
    refine Ev.step (fun k => by rw [record_All.l0]) ?_
    refine ev_if_pos (by omega) ?_
    refine ev_if_pos (by omega) ?_
    refine ev_if_pos (by simp; omega) ?_
    simp only [rd_RS rs i hlt]
    refine Ev.bind (ev_Bytes rs[i]) ?_
    rw [drop_cons rs i hlt]
    unfold bytesS
    cases hr : rightS rs[i] with
    | false =>
      rw [finA_bad hr, if_neg (by decide)]
      exact ev_if_neg (by decide) (Ev.now _)
    | true =>
      rw [finA_cons hr, if_pos rfl]
      have hz : (B (recS rs[i])).size ≤ 380 := by rw [B_size]; exact recS_length hr
      refine ev_if_pos rfl ?_
      refine ev_if_pos (by show acc.size + (B (recS rs[i])).size ≤ _; omega) ?_
      rw [wrap64_in (by omega) (by omega)]
      exact ih (i + 1) _ (by omega) (by rw [ByteArray.size_append]; show acc.size + (B (recS rs[i])).size ≤ _; omega)
theorem ev_All (rs : List Rec) (hn : rs.length ≤ 1000000000) : Ev (fun k => record_All.f k (rs.map RS)) (B (allS rs).1, (allS rs).2) := by
  unfold record_All.f
  have := ev_all rs hn rs.length 0 ⟨#[]⟩ (by omega) (by decide)
  rw [List.drop_zero] at this
  rw [List.length_map]
  refine cast (congrArg (Ev _) ?_) this
  unfold finA
  rcases allS_right rs with ⟨h, _⟩ | h
  · rw [if_pos h, h]; exact congrArg (fun x => (x, (0 : Int))) (L_inj (by rw [L_append]; simp [L]))
  · rw [h]; rfl
theorem ev_rall (rs : List Rec) (hn : rs.length ≤ 1000000000) : ∀ (d i : Nat) (acc : ByteArray), i + d = rs.length → acc.size ≤ 380 * i →
    Ev (fun k => thwartref03_All.l0 k (rs.map RS) acc (i : Int)) (finA acc (allS (rs.drop i))) := by
  intro d
  induction d with
  | zero =>
    intro i acc hi ha
    refine Ev.step (fun k => by rw [thwartref03_All.l0]) ?_
    refine ev_if_neg (by simp; omega) ?_
    rw [List.drop_eq_nil_of_le (by omega)]
    refine ev_some fun k => ?_
    simp [finA, allS, B_nil]
    exact L_inj (by rw [L_append]; simp [L])
  | succ d ih =>
    intro i acc hi ha
    have hlt : i < rs.length := by omega
    refine Ev.step (fun k => by rw [thwartref03_All.l0]) ?_
    refine ev_if_pos (by simp; omega) ?_
    refine ev_if_pos (by omega) ?_
    simp only [rd_RS rs i hlt]
    refine Ev.bind (ev_rBytes rs[i]) ?_
    rw [drop_cons rs i hlt]
    unfold bytesS
    cases hr : rightS rs[i] with
    | false =>
      rw [finA_bad hr, if_neg (by decide)]
      exact ev_if_neg (by decide) (Ev.now _)
    | true =>
      rw [finA_cons hr, if_pos rfl]
      have hz : (B (recS rs[i])).size ≤ 380 := by rw [B_size]; exact recS_length hr
      refine ev_if_pos rfl ?_
      refine ev_if_pos (by show acc.size + (B (recS rs[i])).size ≤ _; omega) ?_
      rw [wrap64_in (by omega) (by omega)]
      exact ih (i + 1) _ (by omega) (by rw [ByteArray.size_append]; show acc.size + (B (recS rs[i])).size ≤ _; omega)
theorem ev_rAll (rs : List Rec) (hn : rs.length ≤ 1000000000) : Ev (fun k => thwartref03_All.f k (rs.map RS)) (B (allS rs).1, (allS rs).2) := by
  unfold thwartref03_All.f
  have := ev_rall rs hn rs.length 0 ⟨#[]⟩ (by omega) (by decide)
  rw [List.drop_zero] at this
  refine cast (congrArg (Ev _) ?_) this
  unfold finA
  rcases allS_right rs with ⟨h, _⟩ | h
  · rw [if_pos h, h]; exact congrArg (fun x => (x, (0 : Int))) (L_inj (by rw [L_append]; simp [L]))
  · rw [h]; rfl
/-! ### List -/
def finL (acc : List Rec) (x : List Rec × Int) : List SR × Int := if x.2 = 0 then ((acc ++ x.1).map RS, 0) else ([], x.2)
theorem finL_cons {acc : List Rec} {f : Nat} {b : Bs} (hb : b ≠ []) (h : (readS b).2.2 = 0) : finL acc (listR (f + 1) b) = finL (acc ++ [(readS b).1]) (listR f (readS b).2.1) := by
  rw [listR, if_neg hb, if_pos h]
  unfold finL
  by_cases h2 : (listR f (readS b).2.1).2 = 0
  · rw [if_pos h2, if_pos rfl, if_pos h2]; simp
  · rw [if_neg h2, if_neg h2, if_neg h2]
theorem finL_bad {acc : List Rec} {f : Nat} {b : Bs} (hb : b ≠ []) (h : (readS b).2.2 ≠ 0) : finL acc (listR (f + 1) b) = ([], (readS b).2.2) := by
  rw [listR, if_neg hb, if_neg h]
  unfold finL
  rw [if_neg h]
theorem readS_len (b : Bs) (h : (readS b).2.2 = 0) : (readS b).2.1.length < b.length := by
  rcases readS_told b with ⟨_, _, _, h4⟩ | h1 | h1
  · exact h4
  · rw [h1] at h; exact absurd h (by decide)
  · rw [h1] at h; exact absurd h (by decide)
theorem ev_list : ∀ (f : Nat) (b : Bs) (acc : List Rec), b.length ≤ f → acc.length + b.length ≤ 1000000000 →
    Ev (fun k => record_List.l0 k (B b) (acc.map RS)) (finL acc (listR f b)) := by
  intro f
  induction f with
  | zero =>
    intro b acc hb ha
    have : b = [] := List.length_eq_zero_iff.mp (by omega)
    subst this
    refine Ev.step (fun k => by rw [record_List.l0]) ?_
    refine ev_if_pos (by rw [toList_L, L_B]) ?_
    exact ev_some fun k => by simp [finL, listR]
  | succ f ih =>
    intro b acc hb ha
    refine Ev.step (fun k => by rw [record_List.l0]) ?_
    by_cases hn : b = []
    · subst hn
      refine ev_if_pos (by rw [toList_L, L_B]) ?_
      exact ev_some fun k => by simp [finL, listR]
    have hp : 0 < b.length := List.length_pos_iff.mpr hn
    refine ev_if_neg (by rw [toList_L, L_B]; exact hn) ?_
    have he := ev_Read (B b) (by rw [B_size]; omega)
    rw [L_B] at he
    refine Ev.bind he ?_
    by_cases h : (readS b).2.2 = 0
    · rw [finL_cons hn h]
      refine ev_if_pos h ?_
      refine ev_if_pos (by simp; omega) ?_
      have hlen := readS_len b h
      have := ih (readS b).2.1 (acc ++ [(readS b).1]) (by omega) (by simp; omega)
      rw [List.map_append] at this
      exact this
    · rw [finL_bad hn h]
      exact ev_if_neg h (Ev.now _)
theorem finL_start (b : Bs) : finL [] (listR b.length b) = ((listS b).1.map RS, (listS b).2) := by
  unfold finL listS
  rcases listS_told b with ⟨h, _⟩ | h | h <;> unfold listS at h <;> rw [h] <;> rfl
theorem ev_List (b : ByteArray) (hb : b.size ≤ 1000000000) : Ev (fun k => record_List.f k b) ((listS (L b)).1.map RS, (listS (L b)).2) := by
  unfold record_List.f
  have hl := L_length b
  have := ev_list (L b).length (L b) [] (Nat.le_refl _) (by simp; omega)
  rw [finL_start, B_L] at this
  exact this
theorem ev_rlist : ∀ (f : Nat) (b : Bs) (acc : List Rec), b.length ≤ f → acc.length + b.length ≤ 1000000000 →
    Ev (fun k => thwartref03_List.l0 k (B b) (acc.map RS)) (finL acc (listR f b)) := by
  intro f
  induction f with
  | zero =>
    intro b acc hb ha
    have : b = [] := List.length_eq_zero_iff.mp (by omega)
    subst this
    refine Ev.step (fun k => by rw [thwartref03_List.l0]) ?_
    refine ev_if_neg (by rw [B_size]; decide) ?_
    exact ev_some fun k => by simp [finL, listR]
  | succ f ih =>
    intro b acc hb ha
    refine Ev.step (fun k => by rw [thwartref03_List.l0]) ?_
    by_cases hn : b = []
    · subst hn
      refine ev_if_neg (by rw [B_size]; decide) ?_
      exact ev_some fun k => by simp [finL, listR]
    have hp : 0 < b.length := List.length_pos_iff.mpr hn
    refine ev_if_pos (by rw [B_size]; omega) ?_
    have he := ev_rRead (B b) (by rw [B_size]; omega)
    rw [L_B] at he
    refine Ev.bind he ?_
    by_cases h : (readS b).2.2 = 0
    · rw [finL_cons hn h]
      refine ev_if_pos h ?_
      refine ev_if_pos (by simp; omega) ?_
      have hlen := readS_len b h
      have := ih (readS b).2.1 (acc ++ [(readS b).1]) (by omega) (by simp; omega)
      rw [List.map_append] at this
      exact this
    · rw [finL_bad hn h]
      exact ev_if_neg h (Ev.now _)
theorem ev_rList (b : ByteArray) (hb : b.size ≤ 1000000000) : Ev (fun k => thwartref03_List.f k b) ((listS (L b)).1.map RS, (listS (L b)).2) := by
  unfold thwartref03_List.f
  have hl := L_length b
  have := ev_rlist (L b).length (L b) [] (Nat.le_refl _) (by simp; omega)
  rw [finL_start, B_L] at this
  exact this
/-! ### Same -/
theorem same_one (a b : Rec) : (!((RS a).f0 == (RS b).f0) || (!(((RS a).f1).toList == ((RS b).f1).toList) || (!(((RS a).f2).toList == ((RS b).f2).toList) || (!((RS a).f3 == (RS b).f3))))) = !decide (a = b) := by
  obtain ⟨a1, a2, a3, a4⟩ := a
  obtain ⟨b1, b2, b3, b4⟩ := b
  simp only [RS, toList_L, L_B]
  rw [Bool.eq_iff_iff]
  simp only [Rec.mk.injEq, Bool.or_eq_true, Bool.not_eq_true', beq_eq_false_iff_ne, decide_eq_false_iff_not, ne_eq, Int.natCast_inj]
  constructor
  · rintro (h | h | h | h) ⟨e1, e2, e3, e4⟩
    · exact h e1
    · exact h e2
    · exact h e3
    · exact h e4
  · intro h
    by_cases h1 : a1 = b1
    · by_cases h2 : a2 = b2
      · by_cases h3 : a3 = b3
        · exact .inr (.inr (.inr fun h4 => h ⟨h1, h2, h3, h4⟩))
        · exact .inr (.inr (.inl h3))
      · exact .inr (.inl h2)
    · exact .inl h1
theorem ev_same (us vs : List Rec) (hl : us.length = vs.length) (hn : us.length ≤ 1000000000) : ∀ d i : Nat, i + d = us.length →
    Ev (fun k => thwartref03_Same.l0 k (us.map RS) (vs.map RS) (i : Int)) (decide (us.drop i = vs.drop i)) := by
  intro d
  induction d with
  | zero =>
    intro i hi
    refine Ev.step (fun k => by rw [thwartref03_Same.l0]) ?_
    refine ev_if_neg (by simp; omega) ?_
    rw [List.drop_eq_nil_of_le (by omega), List.drop_eq_nil_of_le (by omega)]
    exact ev_some fun k => by simp
  | succ d ih =>
    intro i hi
    have h1 : i < us.length := by omega
    have h2 : i < vs.length := by omega
    refine Ev.step (fun k => by rw [thwartref03_Same.l0]) ?_
    refine ev_if_pos (by simp; omega) ?_
    refine ev_if_pos (by omega) ?_
    refine ev_if_pos (by simp; omega) ?_
    simp only [rd_RS us i h1, rd_RS vs i h2, same_one]
    rw [drop_cons us i h1, drop_cons vs i h2]
    by_cases he : us[i] = vs[i]
    · refine ev_if_neg (by simp [he]) ?_
      rw [wrap64_in (by omega) (by omega), he]
      have := ih (i + 1) (by omega)
      simp only [List.cons.injEq, true_and]
      exact this
    · refine ev_if_pos (by simp [he]) ?_
      exact ev_some fun k => by rw [decide_eq_false (fun h => he (List.cons.inj h).1)]
theorem ev_Same (us vs : List Rec) (hn : us.length ≤ 1000000000) : Ev (fun k => thwartref03_Same.f k (us.map RS) (vs.map RS)) (decide (us = vs)) := by
  unfold thwartref03_Same.f
  by_cases hl : us.length = vs.length
  · refine ev_if_pos (by simp [hl]) ?_
    have := ev_same us vs hl hn us.length 0 (by omega)
    simpa using this
  · refine ev_if_neg (by simp; omega) ?_
    refine ev_some fun k => ?_
    rw [decide_eq_false (fun h => hl (by rw [h]))]
/-! ### Light -/
theorem ev_light (l : List SR) : ∀ (d i : Nat) (x : Int), i + d = l.length →
    ∃ r, Ev (fun k => thwartref03_Light.l0 k l x (i : Int)) r ∧ (r = true → l.length ≤ 40) := by
  have fin : ∀ (x : Int), ∃ r, Ev (fun _ => if (l.length : Int) ≤ 40 then some (decide (x < 4000)) else some false) r ∧ (r = true → l.length ≤ 40) := by
    intro x
    by_cases h : (l.length : Int) ≤ 40
    · exact ⟨_, ev_if_pos h (Ev.now _), fun _ => by omega⟩
    · exact ⟨_, ev_if_neg h (Ev.now _), fun h => by cases h⟩
  intro d
  induction d with
  | zero =>
    intro i x hi
    obtain ⟨r, h1, h2⟩ := fin x
    exact ⟨r, Ev.step (fun k => by rw [thwartref03_Light.l0]) (ev_if_neg (by omega) h1), h2⟩
  | succ d ih =>
    intro i x hi
    by_cases h : i < 100
    · obtain ⟨r, h1, h2⟩ := ih (i + 1) (wrap64 ((wrap64 (x + (mn (((rd_T24 l (i : Int)).f1).size : Int) 10000))) + (mn (((rd_T24 l (i : Int)).f2).size : Int) 10000))) (by omega)
      refine ⟨r, Ev.step (fun k => by rw [thwartref03_Light.l0]) (ev_if_pos (by omega) (ev_if_pos (by omega) (ev_if_pos (by omega) ?_))), h2⟩
      rw [wrap64_in (n := (i : Int) + 1) (by omega) (by omega)]
      exact h1
    · obtain ⟨r, h1, h2⟩ := fin x
      exact ⟨r, Ev.step (fun k => by rw [thwartref03_Light.l0]) (ev_if_pos (by omega) (ev_if_neg (by omega) h1)), h2⟩
theorem ev_Light (l : List SR) (hn : l.length ≤ 4000000000000) : ∃ r, Ev (fun k => thwartref03_Light.f k l) r ∧ (r = true → l.length ≤ 40) :=
  ev_light l l.length 0 0 (by omega)
theorem ev_LightAny (l : List SR) : ∃ r, Ev (fun k => thwartref03_Light.f k l) r ∧ (r = true → l.length ≤ 40) :=
  ev_light l l.length 0 0 (by omega)
end Go.Proofs.Ytnhmhdconmollaa.Thw
