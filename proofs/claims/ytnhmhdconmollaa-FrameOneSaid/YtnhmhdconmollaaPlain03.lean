/- Layer 3 (record) in plain words: a record's bytes, the record that bytes begin with, many of them. No program in sight. -/
import Derived.Test.YtnhmhdconmollaaPlain01
namespace Go.Proofs.Ytnhmhdconmollaa.Thw
open Go
set_option linter.unusedVariables false

structure Rec where
  seq : Nat
  key : Bs
  val : Bs
  gone : Bool
deriving DecidableEq
def rec0 : Rec := ⟨0, [], [], false⟩
def rightS (r : Rec) : Bool := decide (1 ≤ r.seq) && decide (r.seq ≤ 1099511627776) && decide (1 ≤ r.key.length) && decide (r.key.length ≤ 40) && decide (r.val.length ≤ 300) && (!(r.gone && decide (r.val ≠ [])))
def recS (r : Rec) : Bs := if r.gone = true then putS (2 * r.seq + 1) ++ textS r.key else putS (2 * r.seq) ++ textS r.key ++ textS r.val
def bytesS (r : Rec) : Bs × Int := if rightS r = true then (recS r, 0) else ([], 1)
def readS (b : Bs) : Rec × Bs × Int :=
  if (takeS b).2.2 = 0 then
    (if (ofTextS (takeS b).2.1).2.2 = 0 then
      (if (takeS b).1 % 2 = 1 then
        (if rightS ⟨(takeS b).1 / 2, (ofTextS (takeS b).2.1).1, [], true⟩ = true then (⟨(takeS b).1 / 2, (ofTextS (takeS b).2.1).1, [], true⟩, (ofTextS (takeS b).2.1).2.1, 0) else (rec0, [], 2))
      else
        (if (ofTextS (ofTextS (takeS b).2.1).2.1).2.2 = 0 then
          (if rightS ⟨(takeS b).1 / 2, (ofTextS (takeS b).2.1).1, (ofTextS (ofTextS (takeS b).2.1).2.1).1, false⟩ = true then (⟨(takeS b).1 / 2, (ofTextS (takeS b).2.1).1, (ofTextS (ofTextS (takeS b).2.1).2.1).1, false⟩, (ofTextS (ofTextS (takeS b).2.1).2.1).2.1, 0) else (rec0, [], 2))
        else (rec0, [], (ofTextS (ofTextS (takeS b).2.1).2.1).2.2)))
    else (rec0, [], (ofTextS (takeS b).2.1).2.2))
  else (rec0, [], (takeS b).2.2)
def allS : List Rec → Bs × Int
  | [] => ([], 0)
  | r :: l => if rightS r = true then (if (allS l).2 = 0 then (recS r ++ (allS l).1, 0) else ([], (allS l).2)) else ([], 1)
def listR : Nat → Bs → List Rec × Int
  | 0, _ => ([], 0)
  | f + 1, b => if b = [] then ([], 0) else
    if (readS b).2.2 = 0 then (if (listR f (readS b).2.1).2 = 0 then ((readS b).1 :: (listR f (readS b).2.1).1, 0) else ([], (listR f (readS b).2.1).2)) else ([], (readS b).2.2)
def listS (b : Bs) : List Rec × Int := listR b.length b

theorem right_facts {r : Rec} (h : rightS r = true) : 1 ≤ r.seq ∧ r.seq ≤ 1099511627776 ∧ 1 ≤ r.key.length ∧ r.key.length ≤ 40 ∧ r.val.length ≤ 300 ∧ (r.gone = true → r.val = []) := by
  unfold rightS at h
  simp only [Bool.and_eq_true, decide_eq_true_eq, Bool.not_eq_true', Bool.and_eq_false_iff, decide_eq_false_iff_not] at h
  obtain ⟨⟨⟨⟨⟨h1, h2⟩, h3⟩, h4⟩, h5⟩, h6⟩ := h
  refine ⟨h1, h2, h3, h4, h5, fun hg => ?_⟩
  rcases h6 with h6 | h6
  · rw [hg] at h6; cases h6
  · exact Classical.not_not.mp h6
theorem textS_length (s : Bs) : (textS s).length ≤ 10 + s.length := by
  unfold textS
  have := putS_length s.length
  simp; omega
theorem recS_length {r : Rec} (h : rightS r = true) : (recS r).length ≤ 380 := by
  obtain ⟨h1, h2, h3, h4, h5, h6⟩ := right_facts h
  unfold recS
  have a := textS_length r.key
  have b := textS_length r.val
  have c := putS_length (2 * r.seq + 1)
  have d := putS_length (2 * r.seq)
  split <;> simp <;> omega
theorem recS_pos (r : Rec) : 0 < (recS r).length := by
  unfold recS
  have c := putS_pos (2 * r.seq + 1)
  have d := putS_pos (2 * r.seq)
  split <;> simp <;> omega
theorem recS_ne (r : Rec) : recS r ≠ [] := fun h => by have := recS_pos r; rw [h] at this; simp at this
theorem rec_eta (r : Rec) (hg : r.gone = true) (hv : r.val = []) : (⟨r.seq, r.key, [], true⟩ : Rec) = r := by cases r; simp at hg hv; subst hg hv; rfl
theorem rec_eta' (r : Rec) (hg : r.gone = false) : (⟨r.seq, r.key, r.val, false⟩ : Rec) = r := by cases r; simp at hg; subst hg; rfl
theorem readS_rec (r : Rec) (rest : Bs) (h : rightS r = true) : readS (recS r ++ rest) = (r, rest, 0) := by
  obtain ⟨h1, h2, h3, h4, h5, h6⟩ := right_facts h
  unfold recS
  cases hg : r.gone with
  | true =>
    have hv := h6 hg
    rw [if_pos rfl, List.append_assoc]
    unfold readS
    rw [takeS_put _ (by omega)]
    simp only []
    rw [ofTextS_text _ _ (by omega)]
    simp only []
    rw [if_pos trivial, if_pos trivial, if_pos (by omega), show (2 * r.seq + 1) / 2 = r.seq by omega, rec_eta r hg hv, if_pos h]
  | false =>
    rw [if_neg (by decide), List.append_assoc, List.append_assoc]
    unfold readS
    rw [takeS_put _ (by omega)]
    simp only []
    rw [ofTextS_text _ _ (by omega)]
    simp only []
    rw [ofTextS_text _ _ (by omega)]
    simp only []
    rw [if_pos trivial, if_pos trivial, if_neg (by omega), if_pos trivial, show (2 * r.seq) / 2 = r.seq by omega, rec_eta' r hg, if_pos h]
/-- What Read tells of any bytes. -/
def ReadTold (b : Bs) (x : Rec × Bs × Int) : Prop :=
  (x.2.2 = 0 ∧ rightS x.1 = true ∧ recS x.1 ++ x.2.1 = b ∧ x.2.1.length < b.length) ∨ (x = (rec0, [], 2) ∨ x = (rec0, [], 3))
theorem readS_told (b : Bs) : ReadTold b (readS b) := by
  unfold readS
  rcases takeS_told b with ⟨h1, h2, h3, h4, h5⟩ | h1 | h1
  · rw [if_pos h1]
    generalize hT : takeS b = T at *
    obtain ⟨n, b1, e1⟩ := T
    simp only [] at h1 h2 h3 h4 h5 ⊢
    rcases ofTextS_told b1 with ⟨k1, k2, k3⟩ | k1 | k1
    · rw [if_pos k1]
      generalize hO : ofTextS b1 = O at *
      obtain ⟨key, b2, e2⟩ := O
      simp only [] at k1 k2 k3 ⊢
      by_cases hn : n % 2 = 1
      · rw [if_pos hn]
        split
        · rename_i hr
          refine .inl ⟨rfl, hr, ?_, ?_⟩
          · simp only [recS, if_true]
            rw [show 2 * (n / 2) + 1 = n by omega, List.append_assoc, k2, h2]
          · show b2.length < b.length; omega
        · exact .inr (.inl rfl)
      · rw [if_neg hn]
        rcases ofTextS_told b2 with ⟨m1, m2, m3⟩ | m1 | m1
        · rw [if_pos m1]
          split
          · rename_i hr
            refine .inl ⟨rfl, hr, ?_, ?_⟩
            · simp only [recS]
              rw [if_neg (by decide), show 2 * (n / 2) = n by omega, List.append_assoc, List.append_assoc, m2, k2, h2]
            · show (ofTextS b2).2.1.length < b.length; omega
          · exact .inr (.inl rfl)
        · rw [m1]; exact .inr (.inl rfl)
        · rw [m1]; exact .inr (.inr rfl)
    · rw [k1]; exact .inr (.inl rfl)
    · rw [k1]; exact .inr (.inr rfl)
  · rw [h1]; exact .inr (.inl rfl)
  · rw [h1]; exact .inr (.inr rfl)
theorem take_front (a b : Bs) (c : Nat) (h : c < a.length) : (a ++ b).take c = a.take c := List.take_append_of_le_length (by omega)
theorem take_behind (a b : Bs) (c : Nat) (h : a.length ≤ c) : (a ++ b).take c = a ++ b.take (c - a.length) := by rw [List.take_append, List.take_of_length_le h]
theorem readS_cut (r : Rec) (h : rightS r = true) (c : Nat) (hc : c < (recS r).length) : readS ((recS r).take c) = (rec0, [], 3) := by
  obtain ⟨h1, h2, h3, h4, h5, h6⟩ := right_facts h
  have key : ∀ (n : Nat) (t : Bs), n < 18446744073709551616 → c < (putS n).length → readS ((putS n ++ t).take c) = (rec0, [], 3) := by
    intro n t hn hc
    rw [take_front _ _ _ hc]
    unfold readS
    rw [takeS_cut n hn c hc]
    rfl
  unfold recS at hc ⊢
  cases hg : r.gone with
  | true =>
    rw [hg, if_pos rfl] at hc
    rw [if_pos rfl]
    rcases Nat.lt_or_ge c (putS (2 * r.seq + 1)).length with hp | hp
    · exact key _ _ (by omega) hp
    · rw [take_behind _ _ _ hp]
      rw [List.length_append] at hc
      unfold readS
      rw [takeS_put _ (by omega)]
      simp only []
      rw [ofTextS_cut _ (by omega) _ (by omega)]
      rfl
  | false =>
    rw [hg, if_neg (by decide)] at hc
    rw [if_neg (by decide), List.append_assoc]
    rcases Nat.lt_or_ge c (putS (2 * r.seq)).length with hp | hp
    · exact key _ _ (by omega) hp
    · rw [take_behind _ _ _ hp]
      rw [List.length_append, List.length_append] at hc
      unfold readS
      rw [takeS_put _ (by omega)]
      simp only []
      rcases Nat.lt_or_ge (c - (putS (2 * r.seq)).length) (textS r.key).length with hq | hq
      · rw [take_front _ _ _ hq, ofTextS_cut _ (by omega) _ hq]
        rfl
      · rw [take_behind _ _ _ hq, ofTextS_text _ _ (by omega)]
        simp only []
        rw [ofTextS_cut _ (by omega) _ (by omega), if_pos trivial, if_pos trivial, if_neg (by omega)]
        rfl
/-- Many, one behind the other. -/
theorem allS_right : ∀ l : List Rec, (allS l).2 = 0 ∧ (∀ r ∈ l, rightS r = true) ∨ allS l = ([], 1)
  | [] => .inl ⟨rfl, by simp⟩
  | r :: l => by
    unfold allS
    cases hr : rightS r with
    | false => exact .inr rfl
    | true =>
      rw [if_pos rfl]
      rcases allS_right l with ⟨h1, h2⟩ | h1
      · rw [if_pos h1]
        refine .inl ⟨rfl, fun x hx => ?_⟩
        rcases List.mem_cons.mp hx with rfl | hx
        · exact hr
        · exact h2 x hx
      · rw [h1]; exact .inr rfl
theorem allS_cons {r : Rec} {l : List Rec} (h : (allS (r :: l)).2 = 0) : rightS r = true ∧ (allS l).2 = 0 ∧ allS (r :: l) = (recS r ++ (allS l).1, 0) := by
  rcases allS_right (r :: l) with ⟨h1, h2⟩ | h1
  · have hr := h2 r (by simp)
    rcases allS_right l with ⟨h3, h4⟩ | h3
    · exact ⟨hr, h3, by rw [allS, if_pos hr, if_pos h3]⟩
    · rw [allS, if_pos hr, h3, if_neg (by decide)] at h; exact absurd h (by decide)
  · rw [h1] at h; exact absurd h (by decide)
theorem allS_length : ∀ l : List Rec, (allS l).1.length ≤ 380 * l.length
  | [] => by simp [allS]
  | r :: l => by
    rw [allS]
    have := allS_length l
    split
    · rename_i hr
      have := recS_length hr
      split <;> simp <;> omega
    · simp
theorem listR_all : ∀ (l : List Rec) (f : Nat), (allS l).2 = 0 → (allS l).1.length ≤ f → listR f (allS l).1 = (l, 0)
  | [], 0, _, _ => rfl
  | [], f + 1, _, _ => rfl
  | r :: l, f, h, hf => by
    obtain ⟨hr, hl, he⟩ := allS_cons h
    rw [he] at hf ⊢
    have hp := recS_pos r
    simp only [List.length_append] at hf ⊢
    match f, hf with
    | 0, hf => omega
    | f + 1, hf =>
      rw [listR, if_neg (fun e => recS_ne r (List.append_eq_nil_iff.mp e).1), readS_rec r _ hr]
      simp only []
      rw [listR_all l f hl (by omega)]
      rfl
theorem listS_all (l : List Rec) (h : (allS l).2 = 0) : listS (allS l).1 = (l, 0) := listR_all l _ h (Nat.le_refl _)
theorem listR_told : ∀ (f : Nat) (b : Bs), b.length ≤ f → ((listR f b).2 = 0 ∧ allS (listR f b).1 = (b, 0) ∧ (listR f b).1.length ≤ b.length) ∨ (listR f b = ([], 2) ∨ listR f b = ([], 3))
  | 0, b, h => by
    have : b = [] := List.length_eq_zero_iff.mp (by omega)
    subst this
    exact .inl ⟨rfl, rfl, by simp [listR]⟩
  | f + 1, b, h => by
    rw [listR]
    by_cases hb : b = []
    · subst hb; exact .inl ⟨rfl, rfl, by simp⟩
    rw [if_neg hb]
    rcases readS_told b with ⟨h1, h2, h3, h4⟩ | h1 | h1
    · rw [if_pos h1]
      rcases listR_told f (readS b).2.1 (by omega) with ⟨k1, k2, k3⟩ | k1 | k1
      · rw [if_pos k1]
        refine .inl ⟨rfl, ?_, by simp only [List.length_cons]; omega⟩
        rw [allS, if_pos h2, k2, if_pos rfl]
        simp only []
        rw [h3]
      · rw [k1]; exact .inr (.inl rfl)
      · rw [k1]; exact .inr (.inr rfl)
    · rw [h1]; exact .inr (.inl rfl)
    · rw [h1]; exact .inr (.inr rfl)
theorem listS_told (b : Bs) : ((listS b).2 = 0 ∧ allS (listS b).1 = (b, 0) ∧ (listS b).1.length ≤ b.length) ∨ (listS b = ([], 2) ∨ listS b = ([], 3)) := listR_told b.length b (Nat.le_refl _)
end Go.Proofs.Ytnhmhdconmollaa.Thw
