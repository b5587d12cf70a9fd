/- Layer 2 (crc) in plain words: a sealed text of which up to four bytes are turned one by one. No program in sight. -/
import Derived.Test.YtcahpaoeailajaaPlain02T
namespace Go.Proofs.Ytcahpaoeailajaa.Thw
open Go
set_option linter.unusedVariables false
set_option linter.unusedSimpArgs false
/-- The turns of the first i places that lie within. -/
def turns (t : Bs) (n p i : Nat) : Bs := t.take (min i (n - p))
/-- The sealed text when the first i places have been gone through. -/
def stepC (b t : Bs) (p i : Nat) : Bs := le4 (sumS2 b) ++ turnAt b p (turns t b.length p i)
def anyT' (t : Bs) (n p i : Nat) : Bool := (turns t n p i).any (· != 0)
theorem turns_len (t : Bs) (n p i : Nat) (ht : t.length = 4) (hi : i ≤ 4) (hp : p < n) : (turns t n p i).length = min i (n - p) := by
  unfold turns
  rw [List.length_take]
  omega
theorem stepC_length (b t : Bs) (p i : Nat) (ht : t.length = 4) (hi : i ≤ 4) (hp : p < b.length) : (stepC b t p i).length = b.length + 4 := by
  unfold stepC
  rw [List.length_append, le4_length, turnAt_length]
  · omega
  · rw [turns_len t _ p i ht hi hp]; omega
theorem turnAt_nil (b : Bs) (p : Nat) (hp : p ≤ b.length) : turnAt b p [] = b := by
  unfold turnAt
  rw [List.append_nil]
  apply List.ext_getElem?
  intro j
  rw [List.getElem?_zipWith]
  have hr : (List.replicate p (0 : UInt8) ++ List.replicate (b.length - p - ([] : Bs).length) 0) = List.replicate b.length 0 := by
    rw [List.replicate_append_replicate]
    congr 1
    simp; omega
  rw [hr]
  by_cases h : j < b.length
  · simp [List.getElem?_eq_getElem h, h]
  · rw [List.getElem?_eq_none (by omega)]
theorem stepC_zero (b t : Bs) (p : Nat) (hp : p < b.length) : stepC b t p 0 = sealS b := by
  unfold stepC turns sealS
  rw [Nat.zero_min, List.take_zero, turnAt_nil _ _ (by omega)]
theorem turns_stay (t : Bs) (n p i : Nat) (h : n ≤ p + i) : turns t n p (i + 1) = turns t n p i := by
  unfold turns
  congr 1
  omega
theorem turns_more (t : Bs) (n p i : Nat) (h : p + i < n) (hi : i < t.length) : turns t n p (i + 1) = turns t n p i ++ [t[i]] := by
  unfold turns
  rw [show min (i + 1) (n - p) = i + 1 by omega, show min i (n - p) = i by omega, List.take_succ_eq_append_getElem hi]
theorem anyT_more (t : Bs) (n p i : Nat) (h : p + i < n) (hi : i < t.length) : anyT' t n p (i + 1) = (anyT' t n p i || t[i] != 0) := by
  unfold anyT'
  rw [turns_more t n p i h hi, List.any_append]
  simp
/-- One byte of a row of turns. -/
theorem turnAt_get (b : Bs) (p : Nat) (t : Bs) (h : p + t.length ≤ b.length) (j : Nat) (hj : j < b.length) : (turnAt b p t)[j]? = some (b[j] ^^^ (if p ≤ j ∧ j < p + t.length then t.getD (j - p) 0 else 0)) := by
  unfold turnAt
  rw [List.getElem?_zipWith, List.getElem?_eq_getElem hj]
  have hm : (List.replicate p (0 : UInt8) ++ t ++ List.replicate (b.length - p - t.length) 0)[j]? = some (if p ≤ j ∧ j < p + t.length then t.getD (j - p) 0 else 0) := by
    rcases Nat.lt_or_ge j p with h1 | h1
    · rw [List.append_assoc, List.getElem?_append_left (by simpa using h1), if_neg (by omega)]
      simp [h1]
    · rcases Nat.lt_or_ge j (p + t.length) with h2 | h2
      · rw [if_pos ⟨h1, h2⟩, List.getElem?_append_left (by simp; omega), List.getElem?_append_right (by simpa using h1)]
        have h3 : j - p < t.length := by omega
        simp [List.getD_eq_getElem?_getD, h3]
      · rw [if_neg (by omega), List.getElem?_append_right (by simp; omega)]
        have h3 : j - (p + t.length) < b.length - p - t.length := by omega
        simp [h3]
  rw [hm]
theorem stepC_next (b t : Bs) (p i : Nat) (ht : t.length = 4) (hi : i < 4) (hp : p < b.length) (h : p + i < b.length) :
    ∃ x : UInt8, (stepC b t p i)[4 + p + i]? = some x ∧ stepC b t p (i + 1) = (stepC b t p i).set (4 + p + i) (x ^^^ t[i]) := by
  have hl1 : (turns t b.length p i).length = i := by rw [turns_len t _ p i ht (by omega) hp]; omega
  have hl2 : (turns t b.length p (i + 1)).length = i + 1 := by rw [turns_len t _ p (i + 1) ht (by omega) hp]; omega
  have e4 : ∀ (X : Bs) j, (le4 (sumS2 b) ++ X)[4 + j]? = X[j]? := fun X j => by
    rw [List.getElem?_append_right (by rw [le4_length]; omega), le4_length]
    congr 1; omega
  have hg := turnAt_get b p (turns t b.length p i) (by omega) (p + i) h
  rw [hl1, if_neg (by omega)] at hg
  have hx : (stepC b t p i)[4 + p + i]? = some (b[p + i] ^^^ 0) := by
    show (le4 (sumS2 b) ++ turnAt b p (turns t b.length p i))[4 + p + i]? = _
    rw [Nat.add_assoc, e4]; exact hg
  refine ⟨_, hx, ?_⟩
  apply List.ext_getElem?
  intro j
  rw [List.getElem?_set]
  have hlen := stepC_length b t p i ht (by omega) hp
  by_cases hj : 4 + p + i = j
  · subst hj
    rw [if_pos rfl, if_pos (by omega)]
    show (le4 (sumS2 b) ++ turnAt b p (turns t b.length p (i + 1)))[4 + p + i]? = _
    rw [Nat.add_assoc, e4, turnAt_get b p _ (by omega) (p + i) h, hl2, if_pos (by omega)]
    have : (turns t b.length p (i + 1)).getD (p + i - p) 0 = t[i] := by
      rw [turns_more t _ p i h (by omega), show p + i - p = i by omega, List.getD_eq_getElem?_getD, List.getElem?_append_right (by omega), hl1]
      simp
    rw [this]
    simp
  · rw [if_neg hj]
    show (le4 (sumS2 b) ++ turnAt b p (turns t b.length p (i + 1)))[j]? = (le4 (sumS2 b) ++ turnAt b p (turns t b.length p i))[j]?
    rcases Nat.lt_or_ge j 4 with h1 | h1
    · rw [List.getElem?_append_left (by rw [le4_length]; exact h1), List.getElem?_append_left (by rw [le4_length]; exact h1)]
    · obtain ⟨q, rfl⟩ : ∃ q, j = 4 + q := ⟨j - 4, by omega⟩
      rw [e4, e4]
      rcases Nat.lt_or_ge q b.length with h2 | h2
      · rw [turnAt_get b p _ (by omega) q h2, turnAt_get b p _ (by omega) q h2, hl1, hl2, turns_more t _ p i h (by omega)]
        by_cases h3 : p ≤ q ∧ q < p + i
        · rw [if_pos h3, if_pos (by omega), List.getD_eq_getElem?_getD, List.getD_eq_getElem?_getD, List.getElem?_append_left (by omega)]
        · rw [if_neg h3, if_neg (by omega)]
      · rw [List.getElem?_eq_none (by rw [turnAt_length _ _ _ (by omega)]; omega), List.getElem?_eq_none (by rw [turnAt_length _ _ _ (by omega)]; omega)]
theorem stepC_end (b t : Bs) (p : Nat) (ht : t.length = 4) (hp : p < b.length) : (openS (stepC b t p 4)).2 = !anyT' t b.length p 4 := by
  unfold stepC
  have hl := turns_len t b.length p 4 ht (Nat.le_refl _) hp
  rw [open_turn b p _ (by omega) (by omega)]
  unfold anyT'
  induction turns t b.length p 4 with
  | nil => rfl
  | cons a l ih =>
    simp only [List.all_cons, List.any_cons, ih, Bool.not_or]
    congr 1
    cases h : (a == 0) <;> simp_all
end Go.Proofs.Ytcahpaoeailajaa.Thw
