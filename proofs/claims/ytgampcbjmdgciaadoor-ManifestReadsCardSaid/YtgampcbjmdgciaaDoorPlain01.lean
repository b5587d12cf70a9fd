/- Layer 1 (varint) in plain words: a number's bytes, the number that bytes begin with, texts with their length ahead. No program in sight. -/
import Derived.Test.YtgampcbjmdgciaaDoorPlainA
namespace Go.Proofs.YtgampcbjmdgciaaDoor.Thw
open Go
set_option linter.unusedVariables false

/-- A number's bytes: up to 'k' more may follow the first. -/
def putB : Nat → Nat → Bs
  | 0, n => [UInt8.ofNat n]
  | k + 1, n => if n < 128 then [UInt8.ofNat n] else UInt8.ofNat (n % 128 + 128) :: putB k (n / 128)
def putS (n : Nat) : Bs := putB 9 n
/-- The number that bytes begin with: at place i, with what was gathered. -/
def takeR (b : Bs) : Nat → Nat → Nat → Nat × Bs × Int
  | 0, _, _ => (0, [], 2)
  | f + 1, i, acc =>
    if i = b.length then (0, [], 3)
    else if 128 ≤ (b.getD i 0).toNat then takeR b f (i + 1) ((acc + (b.getD i 0).toNat % 128 * 128 ^ i) % 18446744073709551616)
    else if putS ((acc + (b.getD i 0).toNat % 128 * 128 ^ i) % 18446744073709551616) = b.take (i + 1) then ((acc + (b.getD i 0).toNat % 128 * 128 ^ i) % 18446744073709551616, b.drop (i + 1), 0)
    else (0, [], 2)
def takeS (b : Bs) : Nat × Bs × Int := takeR b 10 0 0
def textS (s : Bs) : Bs := putS s.length ++ s
def ofTextS (b : Bs) : Bs × Bs × Int :=
  if (takeS b).2.2 = 0 then (if (takeS b).1 > (takeS b).2.1.length then ([], [], 3) else ((takeS b).2.1.take (takeS b).1, (takeS b).2.1.drop (takeS b).1, 0)) else ([], [], (takeS b).2.2)

theorem putB_length : ∀ (k n : Nat), (putB k n).length ≤ k + 1
  | 0, _ => by simp [putB]
  | k + 1, n => by
    rw [putB]
    split
    · simp
    · have := putB_length k (n / 128)
      rw [List.length_cons]; omega
theorem putB_len_le : ∀ (k n : Nat), (putB k n).length ≤ n + 1
  | 0, _ => by simp [putB]
  | k + 1, n => by
    rw [putB]
    split
    · simp
    · have := putB_len_le k (n / 128)
      rw [List.length_cons]; omega
theorem putB_pos : ∀ (k n : Nat), 0 < (putB k n).length
  | 0, _ => by simp [putB]
  | k + 1, n => by
    rw [putB]
    split <;> simp
theorem putS_length (n : Nat) : (putS n).length ≤ 10 := putB_length 9 n
theorem putS_pos (n : Nat) : 0 < (putS n).length := putB_pos 9 n
theorem ofNat_toNat (n : Nat) (h : n < 256) : (UInt8.ofNat n).toNat = n := by simp; omega
theorem pow_128_9 : (128 : Nat) ^ 9 = 9223372036854775808 := by decide

/-- Where a number's bytes stand: behind i of them are those of n / 128^i. -/
theorem putB_drop (n : Nat) : ∀ (i k : Nat), (∀ j, j < i → 128 ≤ n / 128 ^ j) → (putB (k + i) n).drop i = putB k (n / 128 ^ i)
  | 0, k, _ => by simp
  | i + 1, k, h => by
    have h1 := putB_drop n i (k + 1) (fun j hj => h j (by omega))
    have h2 := h i (by omega)
    rw [show k + (i + 1) = (k + 1) + i by omega, ← List.drop_drop, h1, putB, if_neg (by omega), List.drop_succ_cons, List.drop_zero, Nat.div_div_eq_div_mul, Nat.pow_succ]
theorem acc_next (n i : Nat) : n % 128 ^ i + n / 128 ^ i % 128 * 128 ^ i = n % 128 ^ (i + 1) := by
  rw [Nat.pow_succ, Nat.mod_mul, Nat.mul_comm]
theorem mod_small (n i : Nat) (hn : n < 18446744073709551616) : n % 128 ^ (i + 1) % 18446744073709551616 = n % 128 ^ (i + 1) :=
  Nat.mod_eq_of_lt (Nat.lt_of_le_of_lt (Nat.mod_le _ _) hn)
theorem getD_append_left (a b : Bs) (i : Nat) (h : i < a.length) : (a ++ b).getD i 0 = a.getD i 0 := by
  simp [List.getD_eq_getElem?_getD, List.getElem?_append_left h]
theorem getD_of_drop (a : Bs) (i : Nat) (x : UInt8) (r : Bs) (h : a.drop i = x :: r) : a.getD i 0 = x ∧ i < a.length := by
  have hl : i < a.length := by
    rcases Nat.lt_or_ge i a.length with h1 | h1
    · exact h1
    · rw [List.drop_of_length_le h1] at h; cases h
  rw [List.drop_eq_getElem_cons hl] at h
  injection h with h1 h2
  exact ⟨by simp [List.getD_eq_getElem?_getD, List.getElem?_eq_getElem hl, h1], hl⟩
theorem length_of_drop (a : Bs) (i : Nat) (x : UInt8) (h : a.drop i = [x]) : a.length = i + 1 := by
  have := congrArg List.length h
  simp at this
  omega

/-- At place i of a number's bytes, and whatever behind them, Take tells the number. -/
theorem takeR_put (n : Nat) (hn : n < 18446744073709551616) (rest : Bs) : ∀ (k i : Nat), i + k = 9 → (∀ j, j < i → 128 ≤ n / 128 ^ j) →
    takeR (putS n ++ rest) (k + 1) i (n % 128 ^ i) = (n, rest, 0)
  | k, i, e, h => by
    have hd : (putS n).drop i = putB k (n / 128 ^ i) := by
      have := putB_drop n i k h
      rw [show k + i = 9 by omega] at this
      exact this
    by_cases hs : n / 128 ^ i < 128
    · have hd2 : (putS n).drop i = [UInt8.ofNat (n / 128 ^ i)] := by rw [hd]; cases k <;> simp [putB, hs]
      obtain ⟨g1, g2⟩ := getD_of_drop _ _ _ _ hd2
      have hl := length_of_drop _ _ _ hd2
      have hmod : n % 128 ^ (i + 1) = n := by
        apply Nat.mod_eq_of_lt
        rw [Nat.pow_succ, Nat.mul_comm]
        exact (Nat.div_lt_iff_lt_mul (Nat.pow_pos (by omega))).1 hs
      rw [takeR, if_neg (by rw [List.length_append]; omega), getD_append_left _ _ _ g2, g1, ofNat_toNat _ (by omega), if_neg (by omega), acc_next, mod_small n i hn, hmod,
        if_pos (by rw [← hl, List.take_append_of_le_length (Nat.le_refl _), List.take_length]), ← hl, List.drop_left]
    · cases k with
      | zero =>
        exfalso
        have e9 : i = 9 := by omega
        subst e9
        rw [pow_128_9] at hs
        omega
      | succ k =>
        have hd2 : (putS n).drop i = UInt8.ofNat (n / 128 ^ i % 128 + 128) :: putB k (n / 128 ^ i / 128) := by rw [hd, putB, if_neg hs]
        obtain ⟨g1, g2⟩ := getD_of_drop _ _ _ _ hd2
        rw [takeR, if_neg (by rw [List.length_append]; omega), getD_append_left _ _ _ g2, g1, ofNat_toNat _ (by omega), if_pos (by omega),
          show (n / 128 ^ i % 128 + 128) % 128 = n / 128 ^ i % 128 by omega, acc_next, mod_small n i hn]
        refine takeR_put n hn rest k (i + 1) (by omega) (fun j hj => ?_)
        rcases Nat.lt_or_ge j i with h1 | h1
        · exact h j h1
        · obtain rfl : j = i := by omega
          omega
theorem takeS_put (n : Nat) (hn : n < 18446744073709551616) (rest : Bs) : takeS (putS n ++ rest) = (n, rest, 0) := by
  have := takeR_put n hn rest 9 0 (by omega) (by omega)
  rwa [Nat.pow_zero, Nat.mod_one] at this
theorem takeS_putS (n : Nat) (hn : n < 18446744073709551616) : takeS (putS n) = (n, [], 0) := by
  have := takeS_put n hn []
  rwa [List.append_nil] at this
theorem getD_take (a : Bs) (i j : Nat) (h : i < j) : (a.take j).getD i 0 = a.getD i 0 := by
  simp [List.getD_eq_getElem?_getD, h]
/-- A beginning of a number's bytes is too short. -/
theorem takeR_cut (n : Nat) (hn : n < 18446744073709551616) (c : Nat) (hc : c < (putS n).length) : ∀ (d i : Nat), i + d = c → (∀ j, j < i → 128 ≤ n / 128 ^ j) → ∀ acc,
    takeR ((putS n).take c) (10 - i) i acc = (0, [], 3)
  | 0, i, e, h, acc => by
    have hl := putS_length n
    rw [show 10 - i = (9 - i) + 1 by omega, takeR, if_pos (by rw [List.length_take]; omega)]
  | d + 1, i, e, h, acc => by
    have hl := putS_length n
    have hd : (putS n).drop i = putB (9 - i) (n / 128 ^ i) := by
      have := putB_drop n i (9 - i) h
      rw [show 9 - i + i = 9 by omega] at this
      exact this
    have hs : ¬ n / 128 ^ i < 128 := by
      intro hs
      have hd2 : (putS n).drop i = [UInt8.ofNat (n / 128 ^ i)] := by rw [hd]; cases (9 - i) <;> simp [putB, hs]
      have := length_of_drop _ _ _ hd2
      omega
    obtain ⟨k, hk⟩ : ∃ k, 9 - i = k + 1 := ⟨9 - i - 1, by omega⟩
    have hd2 : (putS n).drop i = UInt8.ofNat (n / 128 ^ i % 128 + 128) :: putB k (n / 128 ^ i / 128) := by rw [hd, hk, putB, if_neg hs]
    obtain ⟨g1, g2⟩ := getD_of_drop _ _ _ _ hd2
    rw [show 10 - i = (9 - i) + 1 by omega, takeR, if_neg (by rw [List.length_take]; omega), getD_take _ _ _ (by omega), g1, ofNat_toNat _ (by omega), if_pos (by omega), show 9 - i = 10 - (i + 1) by omega]
    refine takeR_cut n hn c hc d (i + 1) (by omega) (fun j hj => ?_) _
    rcases Nat.lt_or_ge j i with h1 | h1
    · exact h j h1
    · obtain rfl : j = i := by omega
      omega
theorem takeS_cut (n : Nat) (hn : n < 18446744073709551616) (c : Nat) (hc : c < (putS n).length) : takeS ((putS n).take c) = (0, [], 3) :=
  takeR_cut n hn c hc c 0 (by omega) (by omega) 0
/-- What is told of any bytes: a number's own bytes ahead, or an error beside nothing. -/
def TakeTold (b : Bs) (r : Nat × Bs × Int) : Prop :=
  (r.2.2 = 0 ∧ putS r.1 ++ r.2.1 = b ∧ r.1 < 18446744073709551616 ∧ b.length ≤ r.2.1.length + 10 ∧ r.2.1.length < b.length) ∨ (r = (0, [], 2) ∨ r = (0, [], 3))
theorem takeR_told (b : Bs) : ∀ (f i acc : Nat), i + f = 10 → i ≤ b.length → TakeTold b (takeR b f i acc)
  | 0, i, acc, _, _ => .inr (.inl rfl)
  | f + 1, i, acc, e, h => by
    rw [takeR]
    by_cases h1 : i = b.length
    · rw [if_pos h1]; exact .inr (.inr rfl)
    rw [if_neg h1]
    split
    · exact takeR_told b f (i + 1) _ (by omega) (by omega)
    · split
      · rename_i h3
        refine .inl ⟨rfl, by rw [h3, List.take_append_drop], Nat.mod_lt _ (by omega), ?_, ?_⟩
        · simp only [List.length_drop]; omega
        · simp only [List.length_drop]; omega
      · exact .inr (.inl rfl)
theorem takeS_told (b : Bs) : TakeTold b (takeS b) := takeR_told b 10 0 0 rfl (Nat.zero_le _)

theorem ofTextS_text (s rest : Bs) (h : s.length < 18446744073709551616) : ofTextS (textS s ++ rest) = (s, rest, 0) := by
  unfold ofTextS textS
  rw [List.append_assoc, takeS_put _ h]
  simp
theorem ofTextS_cut (s : Bs) (h : s.length < 18446744073709551616) (c : Nat) (hc : c < (textS s).length) : ofTextS ((textS s).take c) = ([], [], 3) := by
  unfold textS at hc ⊢
  rw [List.length_append] at hc
  rcases Nat.lt_or_ge c (putS s.length).length with h1 | h1
  · rw [List.take_append_of_le_length (by omega)]
    unfold ofTextS
    rw [takeS_cut _ h c h1]
    simp
  · rw [List.take_append, List.take_of_length_le h1]
    unfold ofTextS
    rw [takeS_put _ h]
    simp
    omega
/-- What OfText tells of any bytes. -/
def OfTextTold (b : Bs) (r : Bs × Bs × Int) : Prop :=
  (r.2.2 = 0 ∧ textS r.1 ++ r.2.1 = b ∧ r.2.1.length < b.length) ∨ (r = ([], [], 2) ∨ r = ([], [], 3))
theorem ofTextS_told (b : Bs) : OfTextTold b (ofTextS b) := by
  unfold ofTextS
  rcases takeS_told b with ⟨h1, h2, h3, h4, h5⟩ | h1 | h1
  · rw [if_pos h1]
    split
    · exact .inr (.inr rfl)
    · rename_i h6
      refine .inl ⟨rfl, ?_, ?_⟩
      · simp only [textS, List.length_take, List.append_assoc, List.take_append_drop]
        rw [Nat.min_eq_left (by omega)]
        exact h2
      · simp only [List.length_drop]; omega
  · rw [h1]; exact .inr (.inl rfl)
  · rw [h1]; exact .inr (.inr rfl)
end Go.Proofs.YtgampcbjmdgciaaDoor.Thw
