/- Layer 4: the statement FrameCuts. -/
import Derived.Test.YtnhmhdconmollaaPrint10
import Derived.Test.YtnhmhdconmollaaPrint9
import Derived.Test.YtnhmhdconmollaaEv04
namespace Go.Proofs.Ytnhmhdconmollaa.Thw
open Go Go.RowKit Go.Proofs.Ytnhmhdconmollaa.Print Go.Proofs.YtnhmhdconmollaaW.PrintWords Go.Proofs.YtnhmhdconmollaaW.PrintLast Go.Proofs.YtnhmhdconmollaaW.PrintMore
set_option linter.unusedVariables false
set_option linter.unusedSimpArgs false

/-! ### Cuts -/
theorem ev_light4 (ls : List (List SR)) (hn : ls.length ≤ 1000000000000000) : ∀ (d i : Nat) (x : Int), i + d = ls.length →
    ∃ r, Ev (fun k => thwartref04_Light.l0 k ls x (i : Int)) r ∧ (r = true → ls.length ≤ 20) := by
  have fin : ∀ (x y : Int), ∃ r, Ev (fun k => thwartref04_Light.j1 k ls x y false) r ∧ (r = true → ls.length ≤ 20) := by
    intro x y
    by_cases h : (ls.length : Int) ≤ 20
    · exact ⟨_, Ev.step (fun k => by rw [thwartref04_Light.j1]) (ev_bf (ev_if_pos h (Ev.now _))), fun _ => by omega⟩
    · exact ⟨_, Ev.step (fun k => by rw [thwartref04_Light.j1]) (ev_bf (ev_if_neg h (Ev.now _))), fun h => by cases h⟩
  intro d
  induction d with
  | zero =>
    intro i x hi
    obtain ⟨r, h1, h2⟩ := fin x i
    exact ⟨r, Ev.step (fun k => by rw [thwartref04_Light.l0]) (ev_if_neg (by omega) h1), h2⟩
  | succ d ih =>
    intro i x hi
    by_cases h : i < 30
    · obtain ⟨r, h1, h2⟩ := ih (i + 1) (wrap64 (x + ((rd_L6 ls (i : Int)).length : Int))) (by omega)
      obtain ⟨t, ht, _⟩ := ev_LightAny (rd_L6 ls (i : Int))
      cases t with
      | false =>
        refine ⟨false, Ev.step (fun k => by rw [thwartref04_Light.l0]) (ev_if_pos (by omega) ?_), fun h => by cases h⟩
        rw [decide_eq_true (by omega)]
        refine Ev.step (fun k => by rw [thwartref04_Light.j1]) ?_
        refine ev_bt ?_
        refine ev_if_pos (by omega) ?_
        refine ev_if_pos (by omega) ?_
        refine Ev.bind ht ?_
        exact ev_bf (Ev.now _)
      | true =>
        refine ⟨r, Ev.step (fun k => by rw [thwartref04_Light.l0]) (ev_if_pos (by omega) ?_), h2⟩
        rw [decide_eq_true (by omega)]
        refine Ev.step (fun k => by rw [thwartref04_Light.j1]) ?_
        refine ev_bt ?_
        refine ev_if_pos (by omega) ?_
        refine ev_if_pos (by omega) ?_
        refine Ev.bind ht ?_
        refine ev_bt ?_
        rw [wrap64_in (n := (i : Int) + 1) (by omega) (by omega)]
        exact h1
    · obtain ⟨r, h1, h2⟩ := fin x i
      refine ⟨r, Ev.step (fun k => by rw [thwartref04_Light.l0]) (ev_if_pos (by omega) ?_), h2⟩
      rw [decide_eq_false (by omega)]
      exact h1
/-- The bytes of the first j batches. -/
def cat (ls : List (List Rec)) (j : Nat) : Bs := framesS (ls.take j)
theorem cat_succ (ls : List (List Rec)) (j : Nat) (h : j < ls.length) : cat ls (j + 1) = cat ls j ++ (frameS ls[j]).1 := by
  unfold cat framesS
  rw [List.take_succ_eq_append_getElem h, List.map_append, List.flatten_append]
  simp only [List.map_cons, List.map_nil, List.flatten_cons, List.flatten_nil, List.append_nil]
theorem cat_all (ls : List (List Rec)) : cat ls ls.length = framesS ls := by unfold cat; rw [List.take_length]
theorem cat_split (ls : List (List Rec)) (j : Nat) : framesS ls = cat ls j ++ framesS (ls.drop j) := by
  unfold cat framesS
  rw [← List.flatten_append, ← List.map_append, List.take_append_drop]
def endsL (ls : List (List Rec)) (i : Nat) : List Int := (List.range i).map (fun j => ((cat ls (j + 1)).length : Int)) ++ List.replicate (ls.length - i) 0
theorem endsL_len (ls : List (List Rec)) (i : Nat) (h : i ≤ ls.length) : (endsL ls i).length = ls.length := by simp [endsL]; omega
theorem endsL_set (ls : List (List Rec)) (i : Nat) (h : i < ls.length) : (endsL ls i).set i ((cat ls (i + 1)).length : Int) = endsL ls (i + 1) := by
  apply List.ext_getElem?
  intro j
  unfold endsL
  rw [List.getElem?_set]
  by_cases hj : i = j
  · subst hj
    rw [if_pos rfl, if_pos (by simp; omega), List.getElem?_append_left (by simp), List.getElem?_map, List.getElem?_range (by omega)]
    rfl
  · rw [if_neg hj]
    rcases Nat.lt_or_ge j i with h1 | h1
    · rw [List.getElem?_append_left (by simp; omega), List.getElem?_append_left (by simp; omega), List.getElem?_map, List.getElem?_map, List.getElem?_range (by omega), List.getElem?_range (by omega)]
    · rw [List.getElem?_append_right (by simp; omega), List.getElem?_append_right (by simp; omega), List.getElem?_replicate, List.getElem?_replicate]
      simp only [List.length_map, List.length_range]
      congr 1
      simp; omega
theorem endsL_rd (ls : List (List Rec)) (j : Nat) (h : j < ls.length) : rd (endsL ls ls.length) (j : Int) = ((cat ls (j + 1)).length : Int) := by
  unfold rd endsL
  simp [List.getD_eq_getElem?_getD, List.getElem?_range h, h]
theorem cat_le (ls : List (List Rec)) (hok : ∀ l ∈ ls, (frameS l).2 = 0) : ∀ j, j ≤ ls.length → (cat ls j).length ≤ 7100 * j
  | 0, _ => by simp [cat, framesS]
  | j + 1, h => by
    rw [cat_succ ls j (by omega), List.length_append]
    have := cat_le ls hok j (by omega)
    have := frameS_length (hok ls[j] (List.getElem_mem _))
    omega
/-- The end: that many whole, and the cut in the next. -/
theorem ev_cut_end (ls : List (List Rec)) (hn : ls.length ≤ 20) (hok : ∀ l ∈ ls, (frameS l).2 = 0) (c m : Nat) (hm : m ≤ ls.length) (hc : c ≤ (framesS ls).length)
    (hlo : (cat ls m).length ≤ c) (hhi : ∀ h : m < ls.length, c < (cat ls (m + 1)).length) :
    Ev (fun k => thwartlaw04_FrameCuts.j3 k (RSS ls) true (B (framesS ls)) (endsL ls ls.length) (c : Int) (m : Int)) true := by
  have hcat := cat_le ls hok ls.length (Nat.le_refl _)
  rw [cat_all] at hcat
  have hsz : (B (framesS ls)).size = (framesS ls).length := B_size _
  have hel := endsL_len ls ls.length (Nat.le_refl _)
  have hrl : (RSS ls).length = ls.length := List.length_map _
  -- what is scanned
  have hs : scanS ((framesS ls).take c) = (ls.take m, (cat ls m).length) := by
    have e : (framesS ls).take c = cat ls m ++ (framesS (ls.drop m)).take (c - (cat ls m).length) := by
      rw [cat_split ls m, List.take_append, List.take_of_length_le hlo]
    have ht : (takeF ((framesS (ls.drop m)).take (c - (cat ls m).length))).2.2 ≠ 0 := by
      by_cases h : m < ls.length
      · have hh := hhi h
        rw [cat_succ ls m h, List.length_append] at hh
        have hf := hok ls[m] (List.getElem_mem h)
        have e2 : framesS (ls.drop m) = (frameS ls[m]).1 ++ framesS (ls.drop (m + 1)) := by
          rw [drop_cons ls m h]
          unfold framesS
          rw [List.map_cons, List.flatten_cons]
        rw [e2, take_front _ _ _ (by omega), takeF_cut _ _ hf (by omega)]
        decide
      · rw [List.drop_eq_nil_of_le (by omega)]
        have : (framesS ([] : List (List Rec))).take (c - (cat ls m).length) = [] := by simp [framesS]
        rw [this]
        decide +kernel
    have := scanR_frames (ls.take m) ((framesS (ls.drop m)).take (c - (cat ls m).length)) ((framesS ls).take c).length (fun l hl => hok l (List.mem_of_mem_take hl)) ht (by
      show (cat ls m ++ _).length ≤ _
      rw [← e]; exact Nat.le_refl _)
    unfold scanS
    rw [e] at this ⊢
    exact this
  refine Ev.step (fun k => by rw [thwartlaw04_FrameCuts.j3]) ?_
  refine ev_if_pos (by omega) ?_
  refine ev_if_pos (by omega) ?_
  rw [Int.toNat_natCast, extract_front, L_B]
  have he := ev_Scan (B ((framesS ls).take c)) (by rw [B_size]; simp; omega)
  unfold SC at he
  rw [L_B, hs] at he
  refine Ev.bind he ?_
  refine ev_if_pos (by show (((RSS (ls.take m)).length : Nat) : Int) = (m : Int); unfold RSS; simp; omega) ?_
  have hsame : ∀ n : Int, 0 ≤ n → n = (m : Int) → Ev (fun k => (thwartref04_Same.f k (RSS (ls.take m)) ((RSS ls).take n.toNat)).bind fun t => if true = true then some t else none) true := by
    intro n h0 hnm
    subst hnm
    have e : (RSS ls).take ((m : Int)).toNat = RSS (ls.take m) := by rw [Int.toNat_natCast]; unfold RSS; rw [List.map_take]
    rw [e]
    refine Ev.bind (ev_Same4 _ _ (by simp; omega) (fun l hl => ?_)) ?_
    · have := (fits_facts (frameS_ok (hok l (List.mem_of_mem_take hl))).1).2
      omega
    · refine ev_some fun k => ?_
      simp
  by_cases h0 : 0 < m
  · refine ev_if_pos (by omega) ?_
    have hw : wrap64 ((m : Int) - 1) = ((m - 1 : Nat) : Int) := by rw [wrap64_in (by omega) (by omega)]; omega
    rw [hw]
    refine ev_if_pos (by omega) ?_
    refine ev_if_pos (by omega) ?_
    rw [endsL_rd ls (m - 1) (by omega), show m - 1 + 1 = m by omega]
    refine ev_if_pos rfl ?_
    refine ev_if_neg (by omega) ?_
    refine ev_if_pos (by omega) ?_
    refine ev_if_pos (by omega) ?_
    exact hsame _ (by omega) rfl
  · refine ev_if_neg (by omega) ?_
    have hm0 : m = 0 := by omega
    refine ev_if_pos (by omega) ?_
    refine ev_if_pos (by show ((cat ls m).length : Int) = 0; rw [hm0]; simp [cat, framesS]) ?_
    refine ev_if_pos (by omega) ?_
    refine ev_if_pos (by omega) ?_
    exact hsame _ (by omega) rfl
theorem ev_cut_whole (ls : List (List Rec)) (hn : ls.length ≤ 20) (hok : ∀ l ∈ ls, (frameS l).2 = 0) (c : Nat) (hc : c ≤ (framesS ls).length) : ∀ d m : Nat, m + d = ls.length → (cat ls m).length ≤ c →
    Ev (fun k => thwartlaw04_FrameCuts.l1 k (RSS ls) true (B (framesS ls)) (endsL ls ls.length) (c : Int) (m : Int)) true := by
  have hel := endsL_len ls ls.length (Nat.le_refl _)
  have hrl : (RSS ls).length = ls.length := List.length_map _
  intro d
  induction d with
  | zero =>
    intro m hm hlo
    refine Ev.step (fun k => by rw [thwartlaw04_FrameCuts.l1]) ?_
    refine ev_if_neg (by omega) ?_
    exact ev_cut_end ls hn hok c m (by omega) hc hlo (fun h => by omega)
  | succ d ih =>
    intro m hm hlo
    refine Ev.step (fun k => by rw [thwartlaw04_FrameCuts.l1]) ?_
    refine ev_if_pos (by omega) ?_
    refine ev_if_pos (by omega) ?_
    refine ev_if_pos (by omega) ?_
    rw [endsL_rd ls m (by omega)]
    by_cases h : (cat ls (m + 1)).length ≤ c
    · refine ev_if_pos (by omega) ?_
      rw [wrap64_in (by omega) (by omega)]
      exact ih (m + 1) (by omega) h
    · refine ev_if_neg (by omega) ?_
      exact ev_cut_end ls hn hok c m (by omega) hc hlo (fun _ => by omega)
theorem ev_cut_loop (ls : List (List Rec)) (hn : ls.length ≤ 20) (x : Nat) (hx : x ≤ 9223372036854775807) : ∀ d i : Nat, i + d = ls.length → (∀ j (h : j < ls.length), j < i → (frameS ls[j]).2 = 0) →
    Ev (fun k => thwartlaw04_FrameCuts.l0 k (RSS ls) (x : Int) true (B (cat ls i)) (endsL ls i) (i : Int)) true := by
  have hrl : (RSS ls).length = ls.length := List.length_map _
  intro d
  induction d with
  | zero =>
    intro i hi hok
    obtain rfl : i = ls.length := by omega
    have hok' : ∀ l ∈ ls, (frameS l).2 = 0 := by
      intro l hl
      obtain ⟨j, hj, rfl⟩ := List.getElem_of_mem hl
      exact hok j hj hj
    have hcat := cat_le ls hok' ls.length (Nat.le_refl _)
    rw [cat_all] at hcat ⊢
    refine Ev.step (fun k => by rw [thwartlaw04_FrameCuts.l0]) ?_
    refine ev_if_neg (by omega) ?_
    have hw : wrap64 (((B (framesS ls)).size : Int) + 1) = (((framesS ls).length + 1 : Nat) : Int) := by rw [B_size, wrap64_in (by omega) (by omega)]; omega
    simp only [hw]
    refine ev_if_neg (by omega) ?_
    have hm : Int.tmod (x : Int) (((framesS ls).length + 1 : Nat) : Int) = ((x % ((framesS ls).length + 1) : Nat) : Int) := by
      rw [Int.tmod_eq_emod_of_nonneg (by omega)]; exact (Int.natCast_emod x _).symm
    rw [hm]
    have hlt := Nat.mod_lt x (show 0 < (framesS ls).length + 1 by omega)
    exact ev_cut_whole ls hn hok' _ (by omega) ls.length 0 (by omega) (by simp [cat, framesS])
  | succ d ih =>
    intro i hi hok
    have hlt : i < ls.length := by omega
    refine Ev.step (fun k => by rw [thwartlaw04_FrameCuts.l0]) ?_
    refine ev_if_pos (by omega) ?_
    refine ev_if_pos (by omega) ?_
    rw [rd_RSS ls i hlt]
    refine Ev.bind (ev_frameBytes ls[i]) ?_
    by_cases h : (frameS ls[i]).2 = 0
    · refine ev_if_pos h ?_
      have hfl := frameS_length h
      have hcl : (cat ls i).length ≤ 7100 * i := by
        have := cat_le (ls.take i) (by
          intro l hl
          obtain ⟨j, hj, rfl⟩ := List.getElem_of_mem hl
          rw [List.length_take] at hj
          rw [List.getElem_take]
          exact hok j (by omega) (by omega)) i (by simp; omega)
        unfold cat at this ⊢
        rwa [List.take_take, Nat.min_self] at this
      have e : B (cat ls i) ++ B (frameS ls[i]).1 = B (cat ls (i + 1)) := by rw [cat_succ ls i hlt, B_append]
      refine ev_if_pos (by show (B (cat ls i)).size + (B (frameS ls[i]).1).size ≤ _; rw [B_size, B_size]; omega) ?_
      refine ev_if_pos (by rw [endsL_len ls i (by omega)]; omega) ?_
      show Ev (fun k => thwartlaw04_FrameCuts.l0 k (RSS ls) (x : Int) true (B (cat ls i) ++ B (frameS ls[i]).1) ((endsL ls i).set ((i : Int)).toNat (((B (cat ls i) ++ B (frameS ls[i]).1).size : Nat) : Int)) (wrap64 ((i : Int) + 1))) true
      rw [e, B_size, Int.toNat_natCast, endsL_set ls i hlt, wrap64_in (by omega) (by omega)]
      refine ih (i + 1) (by omega) (fun j hj hji => ?_)
      rcases Nat.lt_or_ge j i with h1 | h1
      · exact hok j hj h1
      · obtain rfl : j = i := by omega
        exact h
    · refine ev_if_neg h ?_
      rw [frameS_bad h]
      refine ev_bt ?_
      refine ev_if_pos (by rw [toList_L, L_B]) ?_
      exact ev_some fun k => rfl
theorem pureFrameCuts : thwartlaw04_FrameCuts.Pure := by
  intro l x h1 h2 h3
  obtain ⟨ls, rfl⟩ := wf_lists l h2.2
  obtain ⟨x0, x1⟩ := wf_i64 h3
  have hrl : (RSS ls).length = ls.length := List.length_map _
  apply Ev.rounds
  unfold thwartlaw04_FrameCuts.f
  refine Ev.bind ev_awake04 ?_
  obtain ⟨t, ht, hl⟩ := ev_light4 (RSS ls) (by omega) (RSS ls).length 0 0 (by omega)
  have ht' : Ev (fun k => thwartref04_Light.f k (RSS ls)) t := by unfold thwartref04_Light.f; exact ht
  refine Ev.bind ht' ?_
  have stop : Ev (fun k => thwartlaw04_FrameCuts.j0 k (RSS ls) x true true) true :=
    Ev.step (fun k => by rw [thwartlaw04_FrameCuts.j0]) (ev_if_pos rfl (Ev.now _))
  cases t with
  | false => exact ev_bf stop
  | true =>
    refine ev_bt ?_
    have hl := hl rfl
    by_cases hx : x < 0
    · rw [decide_eq_true hx]; exact stop
    rw [decide_eq_false hx]
    obtain ⟨c, rfl⟩ := Int.eq_ofNat_of_zero_le (by omega : 0 ≤ x)
    refine Ev.step (fun k => by rw [thwartlaw04_FrameCuts.j0]) ?_
    refine ev_bf ?_
    refine ev_if_pos (by omega) ?_
    refine ev_if_pos (by omega) ?_
    have := ev_cut_loop ls (by omega) c (by omega) ls.length 0 (by omega) (fun j h h0 => by omega)
    have e1 : B (cat ls 0) = ⟨#[]⟩ := by simp [cat, framesS, B_nil]
    have e2 : endsL ls 0 = List.replicate (((RSS ls).length : Int)).toNat 0 := by simp [endsL, hrl]
    rw [e1, e2] at this
    exact this
end Go.Proofs.Ytnhmhdconmollaa.Thw
