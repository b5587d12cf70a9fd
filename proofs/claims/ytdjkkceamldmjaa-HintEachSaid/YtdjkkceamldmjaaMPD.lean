/- Several texts of mine in one (PlainA, Plain01, Plain02, Plain03, Plain04, Plain05, Plain05O). -/
import Derived.Lib.Strings
import Derived.Lib.IndexBytes
import Derived.Laws.BitsAllLaws
import Derived.Laws.Bits64
/-! ## Plain words for all layers: strings as lists of bytes; whole numbers and their bits. No program in sight. -/
namespace Go.Proofs.Ytdjkkceamldmjaa.Thw
open Go

abbrev Bs := List UInt8
/-- A string's bytes. -/
def L (s : ByteArray) : Bs := s.data.toList
/-- Bytes as a string. -/
def B (l : Bs) : ByteArray := ⟨l.toArray⟩
theorem L_B (l : Bs) : L (B l) = l := by simp [L, B]
theorem B_L (s : ByteArray) : B (L s) = s := by simp [L, B]
theorem L_inj {a b : ByteArray} (h : L a = L b) : a = b := by rw [← B_L a, h, B_L]
theorem L_iff {a b : ByteArray} : L a = L b ↔ a = b := ⟨L_inj, fun h => by rw [h]⟩
theorem toList_L (s : ByteArray) : s.toList = L s := Lib.toList_data s
theorem L_append (a b : ByteArray) : L (a ++ b) = L a ++ L b := by simp [L]
theorem L_length (s : ByteArray) : (L s).length = s.size := (Lib.size_eq s).symm
theorem B_size (l : Bs) : (B l).size = l.length := by rw [← L_length, L_B]
theorem B_append (a b : Bs) : B (a ++ b) = B a ++ B b := L_inj (by rw [L_append, L_B, L_B, L_B])
theorem L_extract (s : ByteArray) (a b : Nat) : L (s.extract a b) = ((L s).drop a).take (b - a) := Lib.extract_data s a b
theorem L_extract_end (s : ByteArray) (a : Nat) : L (s.extract a s.size) = (L s).drop a := Lib.extract_to_end s a
theorem L_extract_front (s : ByteArray) (b : Nat) : L (s.extract 0 b) = (L s).take b := by rw [L_extract]; simp
theorem extract_end (s : ByteArray) (a : Nat) : s.extract a s.size = B ((L s).drop a) := L_inj (by rw [L_extract_end, L_B])
theorem extract_front (s : ByteArray) (b : Nat) : s.extract 0 b = B ((L s).take b) := L_inj (by rw [L_extract_front, L_B])
theorem L_nil : L ⟨#[]⟩ = [] := rfl
theorem B_nil : B [] = ⟨#[]⟩ := rfl
theorem B_inj {a b : Bs} (h : B a = B b) : a = b := by rw [← L_B a, h, L_B]

theorem xor_shift_inj (X Y : Nat) (hX : X < 18446744073709551616) (hY : Y < 18446744073709551616) (h : X ^^^ X / 8589934592 = Y ^^^ Y / 8589934592) : X = Y := by
  have e : ∀ n : Nat, n / 8589934592 = n >>> 33 := fun n => by rw [Nat.shiftRight_eq_div_pow]
  have back : ∀ n : Nat, n < 18446744073709551616 → (n ^^^ n >>> 33) ^^^ (n ^^^ n >>> 33) >>> 33 = n := by
    intro n hn
    have z : n >>> 33 >>> 33 = 0 := by
      rw [← Nat.shiftRight_add, Nat.shiftRight_eq_div_pow]
      exact Nat.div_eq_of_lt (by omega)
    rw [Nat.shiftRight_xor_distrib, z, Nat.xor_zero, Nat.xor_assoc, Nat.xor_self, Nat.xor_zero]
  rw [e, e] at h
  rw [← back X hX, h, back Y hY]
theorem mul_odd_inj (C D X Y : Nat) (hC : C * D % 18446744073709551616 = 1) (hX : X < 18446744073709551616) (hY : Y < 18446744073709551616)
    (h : X * C % 18446744073709551616 = Y * C % 18446744073709551616) : X = Y := by
  have back : ∀ n : Nat, n < 18446744073709551616 → (n * C % 18446744073709551616) * D % 18446744073709551616 = n := by
    intro n hn
    rw [Nat.mod_mul_mod, Nat.mul_assoc, Nat.mul_mod, hC, Nat.mul_one, Nat.mod_mod, Nat.mod_eq_of_lt hn]
  rw [← back X hX, h, back Y hY]
theorem pow_of_and (n : Nat) (h : n &&& (n - 1) = 0) (h0 : 0 < n) : n = 2 ^ n.log2 := by
  have h1 : 2 ^ n.log2 ≤ n := Nat.log2_self_le (by omega)
  have h2 : n < 2 ^ (n.log2 + 1) := Nat.lt_log2_self
  rcases Nat.eq_or_lt_of_le h1 with h3 | h3
  · exact h3.symm
  · exfalso
    have t1 : n.testBit n.log2 = true := Nat.testBit_of_two_pow_le_and_two_pow_add_one_gt h1 h2
    have t2 : (n - 1).testBit n.log2 = true := Nat.testBit_of_two_pow_le_and_two_pow_add_one_gt (by omega) (by omega)
    have t3 : (n &&& (n - 1)).testBit n.log2 = true := by rw [Nat.testBit_and, t1, t2]; rfl
    rw [h] at t3
    simp at t3
theorem and_of_pow (j : Nat) : 2 ^ j &&& (2 ^ j - 1) = 0 := by
  rw [Nat.and_two_pow_sub_one_eq_mod]
  exact Nat.mod_self _
end Go.Proofs.Ytdjkkceamldmjaa.Thw
/-! ## Layer 1 (varint) in plain words: a number's bytes, the number that bytes begin with, texts with their length ahead. No program in sight. -/
namespace Go.Proofs.Ytdjkkceamldmjaa.Thw
open Go
set_option linter.unusedVariables false

/-- A number's bytes: up to 'k' more may follow the first. -/
def putB : Nat → Nat → Bs
  | 0, n => [UInt8.ofNat n]
  | k + 1, n => if n < 128 then [UInt8.ofNat n] else UInt8.ofNat (n % 128 + 128) :: putB k (n / 128)
def putS (n : Nat) : Bs := putB 9 n
/-- The number that bytes begin with: at place i, with what was gathered. -/
def takeR (b : Bs) : Nat → Nat → Nat → Nat × Bs × Int
  | 0, _, _ => (0, [], 2)
  | f + 1, i, acc =>
    if i = b.length then (0, [], 3)
    else if 128 ≤ (b.getD i 0).toNat then takeR b f (i + 1) ((acc + (b.getD i 0).toNat % 128 * 128 ^ i) % 18446744073709551616)
    else if putS ((acc + (b.getD i 0).toNat % 128 * 128 ^ i) % 18446744073709551616) = b.take (i + 1) then ((acc + (b.getD i 0).toNat % 128 * 128 ^ i) % 18446744073709551616, b.drop (i + 1), 0)
    else (0, [], 2)
def takeS (b : Bs) : Nat × Bs × Int := takeR b 10 0 0
def textS (s : Bs) : Bs := putS s.length ++ s
def ofTextS (b : Bs) : Bs × Bs × Int :=
  if (takeS b).2.2 = 0 then (if (takeS b).1 > (takeS b).2.1.length then ([], [], 3) else ((takeS b).2.1.take (takeS b).1, (takeS b).2.1.drop (takeS b).1, 0)) else ([], [], (takeS b).2.2)

theorem putB_length : ∀ (k n : Nat), (putB k n).length ≤ k + 1
  | 0, _ => by simp [putB]
  | k + 1, n => by
    rw [putB]
    split
    · simp
    · have := putB_length k (n / 128)
      rw [List.length_cons]; omega
theorem putB_len_le : ∀ (k n : Nat), (putB k n).length ≤ n + 1
  | 0, _ => by simp [putB]
  | k + 1, n => by
    rw [putB]
    split
    · simp
    · have := putB_len_le k (n / 128)
      rw [List.length_cons]; omega
theorem putB_pos : ∀ (k n : Nat), 0 < (putB k n).length
  | 0, _ => by simp [putB]
  | k + 1, n => by
    rw [putB]
    split <;> simp
theorem putS_length (n : Nat) : (putS n).length ≤ 10 := putB_length 9 n
theorem putS_pos (n : Nat) : 0 < (putS n).length := putB_pos 9 n
theorem ofNat_toNat (n : Nat) (h : n < 256) : (UInt8.ofNat n).toNat = n := by simp; omega
theorem pow_128_9 : (128 : Nat) ^ 9 = 9223372036854775808 := by decide

/-- Where a number's bytes stand: behind i of them are those of n / 128^i. -/
theorem putB_drop (n : Nat) : ∀ (i k : Nat), (∀ j, j < i → 128 ≤ n / 128 ^ j) → (putB (k + i) n).drop i = putB k (n / 128 ^ i)
  | 0, k, _ => by simp
  | i + 1, k, h => by
    have h1 := putB_drop n i (k + 1) (fun j hj => h j (by omega))
    have h2 := h i (by omega)
    rw [show k + (i + 1) = (k + 1) + i by omega, ← List.drop_drop, h1, putB, if_neg (by omega), List.drop_succ_cons, List.drop_zero, Nat.div_div_eq_div_mul, Nat.pow_succ]
theorem acc_next (n i : Nat) : n % 128 ^ i + n / 128 ^ i % 128 * 128 ^ i = n % 128 ^ (i + 1) := by
  rw [Nat.pow_succ, Nat.mod_mul, Nat.mul_comm]
theorem mod_small (n i : Nat) (hn : n < 18446744073709551616) : n % 128 ^ (i + 1) % 18446744073709551616 = n % 128 ^ (i + 1) :=
  Nat.mod_eq_of_lt (Nat.lt_of_le_of_lt (Nat.mod_le _ _) hn)
theorem getD_append_left (a b : Bs) (i : Nat) (h : i < a.length) : (a ++ b).getD i 0 = a.getD i 0 := by
  simp [List.getD_eq_getElem?_getD, List.getElem?_append_left h]
theorem getD_of_drop (a : Bs) (i : Nat) (x : UInt8) (r : Bs) (h : a.drop i = x :: r) : a.getD i 0 = x ∧ i < a.length := by
  have hl : i < a.length := by
    rcases Nat.lt_or_ge i a.length with h1 | h1
    · exact h1
    · rw [List.drop_of_length_le h1] at h; cases h
  rw [List.drop_eq_getElem_cons hl] at h
  injection h with h1 h2
  exact ⟨by simp [List.getD_eq_getElem?_getD, List.getElem?_eq_getElem hl, h1], hl⟩
theorem length_of_drop (a : Bs) (i : Nat) (x : UInt8) (h : a.drop i = [x]) : a.length = i + 1 := by
  have := congrArg List.length h
  simp at this
  omega

/-- At place i of a number's bytes, and whatever behind them, Take tells the number. -/
theorem takeR_put (n : Nat) (hn : n < 18446744073709551616) (rest : Bs) : ∀ (k i : Nat), i + k = 9 → (∀ j, j < i → 128 ≤ n / 128 ^ j) →
    takeR (putS n ++ rest) (k + 1) i (n % 128 ^ i) = (n, rest, 0)
  | k, i, e, h => by
    have hd : (putS n).drop i = putB k (n / 128 ^ i) := by
      have := putB_drop n i k h
      rw [show k + i = 9 by omega] at this
      exact this
    by_cases hs : n / 128 ^ i < 128
    · have hd2 : (putS n).drop i = [UInt8.ofNat (n / 128 ^ i)] := by rw [hd]; cases k <;> simp [putB, hs]
      obtain ⟨g1, g2⟩ := getD_of_drop _ _ _ _ hd2
      have hl := length_of_drop _ _ _ hd2
      have hmod : n % 128 ^ (i + 1) = n := by
        apply Nat.mod_eq_of_lt
        rw [Nat.pow_succ, Nat.mul_comm]
        exact (Nat.div_lt_iff_lt_mul (Nat.pow_pos (by omega))).1 hs
      rw [takeR, if_neg (by rw [List.length_append]; omega), getD_append_left _ _ _ g2, g1, ofNat_toNat _ (by omega), if_neg (by omega), acc_next, mod_small n i hn, hmod,
        if_pos (by rw [← hl, List.take_append_of_le_length (Nat.le_refl _), List.take_length]), ← hl, List.drop_left]
    · cases k with
      | zero =>
        exfalso
        have e9 : i = 9 := by omega
        subst e9
        rw [pow_128_9] at hs
        omega
      | succ k =>
        have hd2 : (putS n).drop i = UInt8.ofNat (n / 128 ^ i % 128 + 128) :: putB k (n / 128 ^ i / 128) := by rw [hd, putB, if_neg hs]
        obtain ⟨g1, g2⟩ := getD_of_drop _ _ _ _ hd2
        rw [takeR, if_neg (by rw [List.length_append]; omega), getD_append_left _ _ _ g2, g1, ofNat_toNat _ (by omega), if_pos (by omega),
          show (n / 128 ^ i % 128 + 128) % 128 = n / 128 ^ i % 128 by omega, acc_next, mod_small n i hn]
        refine takeR_put n hn rest k (i + 1) (by omega) (fun j hj => ?_)
        rcases Nat.lt_or_ge j i with h1 | h1
        · exact h j h1
        · obtain rfl : j = i := by omega
          omega
theorem takeS_put (n : Nat) (hn : n < 18446744073709551616) (rest : Bs) : takeS (putS n ++ rest) = (n, rest, 0) := by
  have := takeR_put n hn rest 9 0 (by omega) (by omega)
  rwa [Nat.pow_zero, Nat.mod_one] at this
theorem takeS_putS (n : Nat) (hn : n < 18446744073709551616) : takeS (putS n) = (n, [], 0) := by
  have := takeS_put n hn []
  rwa [List.append_nil] at this
theorem getD_take (a : Bs) (i j : Nat) (h : i < j) : (a.take j).getD i 0 = a.getD i 0 := by
  simp [List.getD_eq_getElem?_getD, h]
/-- A beginning of a number's bytes is too short. -/
theorem takeR_cut (n : Nat) (hn : n < 18446744073709551616) (c : Nat) (hc : c < (putS n).length) : ∀ (d i : Nat), i + d = c → (∀ j, j < i → 128 ≤ n / 128 ^ j) → ∀ acc,
    takeR ((putS n).take c) (10 - i) i acc = (0, [], 3)
  | 0, i, e, h, acc => by
    have hl := putS_length n
    rw [show 10 - i = (9 - i) + 1 by omega, takeR, if_pos (by rw [List.length_take]; omega)]
  | d + 1, i, e, h, acc => by
    have hl := putS_length n
    have hd : (putS n).drop i = putB (9 - i) (n / 128 ^ i) := by
      have := putB_drop n i (9 - i) h
      rw [show 9 - i + i = 9 by omega] at this
      exact this
    have hs : ¬ n / 128 ^ i < 128 := by
      intro hs
      have hd2 : (putS n).drop i = [UInt8.ofNat (n / 128 ^ i)] := by rw [hd]; cases (9 - i) <;> simp [putB, hs]
      have := length_of_drop _ _ _ hd2
      omega
    obtain ⟨k, hk⟩ : ∃ k, 9 - i = k + 1 := ⟨9 - i - 1, by omega⟩
    have hd2 : (putS n).drop i = UInt8.ofNat (n / 128 ^ i % 128 + 128) :: putB k (n / 128 ^ i / 128) := by rw [hd, hk, putB, if_neg hs]
    obtain ⟨g1, g2⟩ := getD_of_drop _ _ _ _ hd2
    rw [show 10 - i = (9 - i) + 1 by omega, takeR, if_neg (by rw [List.length_take]; omega), getD_take _ _ _ (by omega), g1, ofNat_toNat _ (by omega), if_pos (by omega), show 9 - i = 10 - (i + 1) by omega]
    refine takeR_cut n hn c hc d (i + 1) (by omega) (fun j hj => ?_) _
    rcases Nat.lt_or_ge j i with h1 | h1
    · exact h j h1
    · obtain rfl : j = i := by omega
      omega
theorem takeS_cut (n : Nat) (hn : n < 18446744073709551616) (c : Nat) (hc : c < (putS n).length) : takeS ((putS n).take c) = (0, [], 3) :=
  takeR_cut n hn c hc c 0 (by omega) (by omega) 0
/-- What is told of any bytes: a number's own bytes ahead, or an error beside nothing. -/
def TakeTold (b : Bs) (r : Nat × Bs × Int) : Prop :=
  (r.2.2 = 0 ∧ putS r.1 ++ r.2.1 = b ∧ r.1 < 18446744073709551616 ∧ b.length ≤ r.2.1.length + 10 ∧ r.2.1.length < b.length) ∨ (r = (0, [], 2) ∨ r = (0, [], 3))
theorem takeR_told (b : Bs) : ∀ (f i acc : Nat), i + f = 10 → i ≤ b.length → TakeTold b (takeR b f i acc)
  | 0, i, acc, _, _ => .inr (.inl rfl)
  | f + 1, i, acc, e, h => by
    rw [takeR]
    by_cases h1 : i = b.length
    · rw [if_pos h1]; exact .inr (.inr rfl)
    rw [if_neg h1]
    split
    · exact takeR_told b f (i + 1) _ (by omega) (by omega)
    · split
      · rename_i h3
        refine .inl ⟨rfl, by rw [h3, List.take_append_drop], Nat.mod_lt _ (by omega), ?_, ?_⟩
        · simp only [List.length_drop]; omega
        · simp only [List.length_drop]; omega
      · exact .inr (.inl rfl)
theorem takeS_told (b : Bs) : TakeTold b (takeS b) := takeR_told b 10 0 0 rfl (Nat.zero_le _)

theorem ofTextS_text (s rest : Bs) (h : s.length < 18446744073709551616) : ofTextS (textS s ++ rest) = (s, rest, 0) := by
  unfold ofTextS textS
  rw [List.append_assoc, takeS_put _ h]
  simp
theorem ofTextS_cut (s : Bs) (h : s.length < 18446744073709551616) (c : Nat) (hc : c < (textS s).length) : ofTextS ((textS s).take c) = ([], [], 3) := by
  unfold textS at hc ⊢
  rw [List.length_append] at hc
  rcases Nat.lt_or_ge c (putS s.length).length with h1 | h1
  · rw [List.take_append_of_le_length (by omega)]
    unfold ofTextS
    rw [takeS_cut _ h c h1]
    simp
  · rw [List.take_append, List.take_of_length_le h1]
    unfold ofTextS
    rw [takeS_put _ h]
    simp
    omega
/-- What OfText tells of any bytes. -/
def OfTextTold (b : Bs) (r : Bs × Bs × Int) : Prop :=
  (r.2.2 = 0 ∧ textS r.1 ++ r.2.1 = b ∧ r.2.1.length < b.length) ∨ (r = ([], [], 2) ∨ r = ([], [], 3))
theorem ofTextS_told (b : Bs) : OfTextTold b (ofTextS b) := by
  unfold ofTextS
  rcases takeS_told b with ⟨h1, h2, h3, h4, h5⟩ | h1 | h1
  · rw [if_pos h1]
    split
    · exact .inr (.inr rfl)
    · rename_i h6
      refine .inl ⟨rfl, ?_, ?_⟩
      · simp only [textS, List.length_take, List.append_assoc, List.take_append_drop]
        rw [Nat.min_eq_left (by omega)]
        exact h2
      · simp only [List.length_drop]; omega
  · rw [h1]; exact .inr (.inl rfl)
  · rw [h1]; exact .inr (.inr rfl)
end Go.Proofs.Ytdjkkceamldmjaa.Thw
/-! ## Layer 2 (crc) in plain words: one step, eight steps, a table, checks of bytes; what a check tells of. No program in sight. -/
namespace Go.Proofs.Ytdjkkceamldmjaa.Thw
open Go
set_option linter.unusedVariables false

def polyN : Nat := 2197175160
def stepN (c : Nat) : Nat := (c / 2) ^^^ (if c % 2 = 1 then polyN else 0)
def stepsN : Nat → Nat → Nat
  | 0, c => c
  | n + 1, c => stepN (stepsN n c)
def byteN (c x : Nat) : Nat := stepsN 8 (c ^^^ x)
def moreN (l : Bs) (c : Nat) : Nat := l.foldl (fun c b => byteN c b.toNat) c
def ones : Nat := 4294967295
def moreS (sum : Nat) (l : Bs) : Nat := ones ^^^ moreN l (ones ^^^ sum)
def sumS2 (l : Bs) : Nat := moreS 0 l
def le4 (n : Nat) : Bs := [UInt8.ofNat (n % 256), UInt8.ofNat (n / 256 % 256), UInt8.ofNat (n / 65536 % 256), UInt8.ofNat (n / 16777216 % 256)]
def sealS (l : Bs) : Bs := le4 (sumS2 l) ++ l
def openS (l : Bs) : Bs × Bool := if l.length < 4 then ([], false) else if (sealS (l.drop 4)).take 4 = l.take 4 then (l.drop 4, true) else ([], false)

theorem half_xor (a b : Nat) : (a ^^^ b) / 2 = (a / 2) ^^^ (b / 2) := by
  have e : ∀ n : Nat, n / 2 = n >>> 1 := fun n => by rw [Nat.shiftRight_eq_div_pow]
  rw [e, e, e, Nat.shiftRight_xor_distrib]
theorem odd_xor (a b : Nat) : (a ^^^ b) % 2 = (a % 2 + b % 2) % 2 := by
  have h := Nat.testBit_xor a b 0
  simp only [Nat.testBit_zero] at h
  rcases Nat.mod_two_eq_zero_or_one a with h1 | h1 <;> rcases Nat.mod_two_eq_zero_or_one b with h2 | h2 <;> rcases Nat.mod_two_eq_zero_or_one (a ^^^ b) with h3 | h3 <;> simp_all
theorem xor_swap (a b c d : Nat) : (a ^^^ b) ^^^ (c ^^^ d) = (a ^^^ c) ^^^ (b ^^^ d) := by
  rw [Nat.xor_assoc, Nat.xor_assoc, ← Nat.xor_assoc b c d, Nat.xor_comm b c, Nat.xor_assoc c b d]
theorem stepN_xor (a b : Nat) : stepN (a ^^^ b) = stepN a ^^^ stepN b := by
  unfold stepN
  rw [half_xor, odd_xor, xor_swap]
  congr 1
  rcases Nat.mod_two_eq_zero_or_one a with h1 | h1 <;> rcases Nat.mod_two_eq_zero_or_one b with h2 | h2 <;> simp [h1, h2]
theorem stepsN_xor (a b : Nat) : ∀ n, stepsN n (a ^^^ b) = stepsN n a ^^^ stepsN n b
  | 0 => rfl
  | n + 1 => by rw [stepsN, stepsN, stepsN, stepsN_xor a b n, stepN_xor]
theorem stepN_double (y : Nat) : stepN (2 * y) = y := by
  unfold stepN
  rw [if_neg (by omega), Nat.xor_zero]; omega
theorem stepsN_pow : ∀ (n y : Nat), stepsN n (2 ^ n * y) = y
  | 0, y => by simp [stepsN]
  | n + 1, y => by
    have := stepsN_pow n (2 * y)
    rw [stepsN, show 2 ^ (n + 1) * y = 2 ^ n * (2 * y) by rw [Nat.pow_succ, Nat.mul_assoc], this, stepN_double]
theorem stepsN_zero : ∀ n, stepsN n 0 = 0
  | 0 => rfl
  | n + 1 => by rw [stepsN, stepsN_zero n]; rfl
theorem stepN_lt (c : Nat) (h : c < 4294967296) : stepN c < 4294967296 := by
  unfold stepN
  refine Nat.xor_lt_two_pow (n := 32) (by omega) ?_
  split
  · unfold polyN; omega
  · omega
theorem stepsN_lt (c : Nat) (h : c < 4294967296) : ∀ n, stepsN n c < 4294967296
  | 0 => h
  | n + 1 => stepN_lt _ (stepsN_lt c h n)
theorem byteN_lt (c x : Nat) (h : c < 4294967296) (hx : x < 256) : byteN c x < 4294967296 :=
  stepsN_lt _ (Nat.xor_lt_two_pow (n := 32) (by omega) (by omega)) 8
theorem moreN_cons (b : UInt8) (l : Bs) (c : Nat) : moreN (b :: l) c = moreN l (byteN c b.toNat) := List.foldl_cons ..
theorem moreN_nil (c : Nat) : moreN [] c = c := rfl
theorem moreN_append (a b : Bs) (c : Nat) : moreN (a ++ b) c = moreN b (moreN a c) := List.foldl_append ..
theorem moreN_lt : ∀ (l : Bs) (c : Nat), c < 4294967296 → moreN l c < 4294967296
  | [], _, h => h
  | b :: l, c, h => by rw [moreN_cons]; exact moreN_lt l _ (byteN_lt c _ h b.toNat_lt)
theorem ones_lt : ones < 4294967296 := by unfold ones; omega
theorem moreS_lt (s : Nat) (l : Bs) (h : s < 4294967296) : moreS s l < 4294967296 :=
  Nat.xor_lt_two_pow (n := 32) ones_lt (moreN_lt l _ (Nat.xor_lt_two_pow (n := 32) ones_lt (by simpa using h)))
theorem ones_ones (a : Nat) : ones ^^^ (ones ^^^ a) = a := by rw [← Nat.xor_assoc, Nat.xor_self, Nat.zero_xor]
/-- A table's entry, and the higher bytes: eight steps at once. -/
theorem byteN_table (c x : Nat) (hx : x < 256) : byteN c x = stepsN 8 ((c % 256) ^^^ x) ^^^ (c / 256) := by
  have e1 : c = (c % 256) ^^^ (2 ^ 8 * (c / 256)) := by
    have h : 2 ^ 8 * (c / 256) + c % 256 = 2 ^ 8 * (c / 256) ||| c % 256 := Nat.two_pow_add_eq_or_of_lt (Nat.mod_lt _ (by omega)) _
    have h2 : (c % 256) &&& (2 ^ 8 * (c / 256)) = 0 := by
      apply Nat.eq_of_testBit_eq
      intro i
      rw [Nat.testBit_and, Nat.zero_testBit]
      rcases Nat.lt_or_ge i 8 with hi | hi
      · rw [Nat.testBit_two_pow_mul]
        simp [show ¬ 8 ≤ i by omega]
      · rw [Nat.testBit_lt_two_pow (x := c % 256) (Nat.lt_of_lt_of_le (Nat.mod_lt _ (by omega)) (Nat.pow_le_pow_right (n := 2) (by omega) hi))]
        rfl
    have h3 : (c % 256) ^^^ (2 ^ 8 * (c / 256)) = (c % 256) ||| (2 ^ 8 * (c / 256)) := by
      apply Nat.eq_of_testBit_eq
      intro i
      have := congrArg (fun n => Nat.testBit n i) h2
      simp only [Nat.testBit_and, Nat.zero_testBit] at this
      rw [Nat.testBit_xor, Nat.testBit_or]
      cases h4 : (c % 256).testBit i <;> cases h5 : (2 ^ 8 * (c / 256)).testBit i <;> simp_all
    rw [h3, Nat.or_comm, ← h]
    have := Nat.div_add_mod c 256
    omega
  unfold byteN
  conv => lhs; rw [e1]
  rw [Nat.xor_assoc, Nat.xor_comm (2 ^ 8 * (c / 256)) x, ← Nat.xor_assoc, stepsN_xor, stepsN_pow]
/-- Checks of bytes that are turned by one another. -/
theorem byteN_xor (a b x y : Nat) : byteN (a ^^^ b) (x ^^^ y) = byteN a x ^^^ byteN b y := by unfold byteN; rw [xor_swap, stepsN_xor]
theorem toNat_xor (a b : UInt8) : (a ^^^ b).toNat = a.toNat ^^^ b.toNat := UInt8.toNat_xor a b
theorem moreN_xor : ∀ (a b : Bs) (c d : Nat), a.length = b.length → moreN (List.zipWith (· ^^^ ·) a b) (c ^^^ d) = moreN a c ^^^ moreN b d
  | [], [], _, _, _ => rfl
  | x :: a, y :: b, c, d, h => by
    rw [List.zipWith_cons_cons, moreN_cons, moreN_cons, moreN_cons, toNat_xor, byteN_xor, moreN_xor a b _ _ (by simpa using h)]
/-- A step loses nothing. -/
theorem stepN_inj (a b : Nat) (ha : a < 4294967296) (hb : b < 4294967296) (h : stepN a = stepN b) : a = b := by
  have top : ∀ c : Nat, c < 4294967296 → (stepN c).testBit 31 = decide (c % 2 = 1) := by
    intro c hc
    unfold stepN
    rw [Nat.testBit_xor, Nat.testBit_lt_two_pow (x := c / 2) (i := 31) (by omega)]
    rcases Nat.mod_two_eq_zero_or_one c with h1 | h1
    · simp [h1]
    · simp [h1]; decide
  have h1 : decide (a % 2 = 1) = decide (b % 2 = 1) := by rw [← top a ha, ← top b hb, h]
  have h2 : a % 2 = b % 2 := by
    rcases Nat.mod_two_eq_zero_or_one a with h3 | h3 <;> rcases Nat.mod_two_eq_zero_or_one b with h4 | h4 <;> simp_all
  have h3 : a / 2 = b / 2 := by
    unfold stepN at h
    rw [h2] at h
    have := congrArg (· ^^^ (if b % 2 = 1 then polyN else 0)) h
    simpa [Nat.xor_assoc, Nat.xor_self] using this
  omega
theorem stepsN_inj (a b : Nat) (ha : a < 4294967296) (hb : b < 4294967296) : ∀ n, stepsN n a = stepsN n b → a = b
  | 0, h => h
  | n + 1, h => stepsN_inj a b ha hb n (stepN_inj _ _ (stepsN_lt a ha n) (stepsN_lt b hb n) h)
theorem moreN_inj : ∀ (l : Bs) (c d : Nat), c < 4294967296 → d < 4294967296 → moreN l c = moreN l d → c = d
  | [], _, _, _, _, h => h
  | b :: l, c, d, hc, hd, h => by
    rw [moreN_cons, moreN_cons] at h
    have h1 := moreN_inj l _ _ (byteN_lt c _ hc b.toNat_lt) (byteN_lt d _ hd b.toNat_lt) h
    have h2 := stepsN_inj _ _ (Nat.xor_lt_two_pow (n := 32) (by simpa using hc) (by have := b.toNat_lt; omega)) (Nat.xor_lt_two_pow (n := 32) (by simpa using hd) (by have := b.toNat_lt; omega)) 8 h1
    have h3 := congrArg (· ^^^ b.toNat) h2
    simpa [Nat.xor_assoc, Nat.xor_self] using h3
theorem moreS_goes (a b : Bs) : moreS (sumS2 a) b = sumS2 (a ++ b) := by
  unfold sumS2 moreS
  rw [ones_ones, Nat.xor_zero, moreN_append]
theorem moreS_nil (s : Nat) : moreS s [] = s := by unfold moreS; rw [moreN_nil, ones_ones]
theorem sumS2_lt (l : Bs) : sumS2 l < 4294967296 := moreS_lt 0 l (by omega)
theorem sumS2_nil : sumS2 [] = 0 := moreS_nil 0
theorem le4_length (n : Nat) : (le4 n).length = 4 := rfl
theorem sealS_length (l : Bs) : (sealS l).length = l.length + 4 := by unfold sealS; rw [List.length_append, le4_length]; omega
theorem sealS_take (l : Bs) : (sealS l).take 4 = le4 (sumS2 l) := by unfold sealS; rw [← le4_length (sumS2 l), List.take_left]
theorem sealS_drop (l : Bs) : (sealS l).drop 4 = l := by unfold sealS; rw [← le4_length (sumS2 l), List.drop_left]
theorem openS_seal (l : Bs) : openS (sealS l) = (l, true) := by
  unfold openS
  rw [if_neg (by rw [sealS_length]; omega), sealS_drop, if_pos rfl]
theorem le4_inj (a b : Nat) (ha : a < 4294967296) (hb : b < 4294967296) (h : le4 a = le4 b) : a = b := by
  unfold le4 at h
  simp only [List.cons.injEq, and_true] at h
  obtain ⟨h0, h1, h2, h3⟩ := h
  have k : ∀ x y : Nat, UInt8.ofNat (x % 256) = UInt8.ofNat (y % 256) → x % 256 = y % 256 := by
    intro x y e
    have := congrArg UInt8.toNat e
    simpa using this
  have := k _ _ h0; have := k _ _ h1; have := k _ _ h2; have := k _ _ h3
  omega
/-- What is opened has just these bytes. -/
theorem openS_told (l : Bs) : (∃ s, openS l = (s, true) ∧ sealS s = l) ∨ openS l = ([], false) := by
  unfold openS
  by_cases h1 : l.length < 4
  · rw [if_pos h1]; exact .inr rfl
  rw [if_neg h1]
  by_cases h2 : (sealS (l.drop 4)).take 4 = l.take 4
  · rw [if_pos h2]
    refine .inl ⟨_, rfl, ?_⟩
    rw [sealS_take] at h2
    conv => rhs; rw [← List.take_append_drop 4 l, ← h2]
    rfl
  · rw [if_neg h2]; exact .inr rfl
end Go.Proofs.Ytdjkkceamldmjaa.Thw
/-! ## Layer 3 (record) in plain words: a record's bytes, the record that bytes begin with, many of them. No program in sight. -/
namespace Go.Proofs.Ytdjkkceamldmjaa.Thw
open Go
set_option linter.unusedVariables false

structure Rec where
  seq : Nat
  key : Bs
  val : Bs
  gone : Bool
deriving DecidableEq
def rec0 : Rec := ⟨0, [], [], false⟩
def rightS (r : Rec) : Bool := decide (1 ≤ r.seq) && decide (r.seq ≤ 1099511627776) && decide (1 ≤ r.key.length) && decide (r.key.length ≤ 40) && decide (r.val.length ≤ 300) && (!(r.gone && decide (r.val ≠ [])))
def recS (r : Rec) : Bs := if r.gone = true then putS (2 * r.seq + 1) ++ textS r.key else putS (2 * r.seq) ++ textS r.key ++ textS r.val
def bytesS (r : Rec) : Bs × Int := if rightS r = true then (recS r, 0) else ([], 1)
def readS (b : Bs) : Rec × Bs × Int :=
  if (takeS b).2.2 = 0 then
    (if (ofTextS (takeS b).2.1).2.2 = 0 then
      (if (takeS b).1 % 2 = 1 then
        (if rightS ⟨(takeS b).1 / 2, (ofTextS (takeS b).2.1).1, [], true⟩ = true then (⟨(takeS b).1 / 2, (ofTextS (takeS b).2.1).1, [], true⟩, (ofTextS (takeS b).2.1).2.1, 0) else (rec0, [], 2))
      else
        (if (ofTextS (ofTextS (takeS b).2.1).2.1).2.2 = 0 then
          (if rightS ⟨(takeS b).1 / 2, (ofTextS (takeS b).2.1).1, (ofTextS (ofTextS (takeS b).2.1).2.1).1, false⟩ = true then (⟨(takeS b).1 / 2, (ofTextS (takeS b).2.1).1, (ofTextS (ofTextS (takeS b).2.1).2.1).1, false⟩, (ofTextS (ofTextS (takeS b).2.1).2.1).2.1, 0) else (rec0, [], 2))
        else (rec0, [], (ofTextS (ofTextS (takeS b).2.1).2.1).2.2)))
    else (rec0, [], (ofTextS (takeS b).2.1).2.2))
  else (rec0, [], (takeS b).2.2)
def allS : List Rec → Bs × Int
  | [] => ([], 0)
  | r :: l => if rightS r = true then (if (allS l).2 = 0 then (recS r ++ (allS l).1, 0) else ([], (allS l).2)) else ([], 1)
def listR : Nat → Bs → List Rec × Int
  | 0, _ => ([], 0)
  | f + 1, b => if b = [] then ([], 0) else
    if (readS b).2.2 = 0 then (if (listR f (readS b).2.1).2 = 0 then ((readS b).1 :: (listR f (readS b).2.1).1, 0) else ([], (listR f (readS b).2.1).2)) else ([], (readS b).2.2)
def listS (b : Bs) : List Rec × Int := listR b.length b

theorem right_facts {r : Rec} (h : rightS r = true) : 1 ≤ r.seq ∧ r.seq ≤ 1099511627776 ∧ 1 ≤ r.key.length ∧ r.key.length ≤ 40 ∧ r.val.length ≤ 300 ∧ (r.gone = true → r.val = []) := by
  unfold rightS at h
  simp only [Bool.and_eq_true, decide_eq_true_eq, Bool.not_eq_true', Bool.and_eq_false_iff, decide_eq_false_iff_not] at h
  obtain ⟨⟨⟨⟨⟨h1, h2⟩, h3⟩, h4⟩, h5⟩, h6⟩ := h
  refine ⟨h1, h2, h3, h4, h5, fun hg => ?_⟩
  rcases h6 with h6 | h6
  · rw [hg] at h6; cases h6
  · exact Classical.not_not.mp h6
theorem textS_length (s : Bs) : (textS s).length ≤ 10 + s.length := by
  unfold textS
  have := putS_length s.length
  simp; omega
theorem recS_length {r : Rec} (h : rightS r = true) : (recS r).length ≤ 380 := by
  obtain ⟨h1, h2, h3, h4, h5, h6⟩ := right_facts h
  unfold recS
  have a := textS_length r.key
  have b := textS_length r.val
  have c := putS_length (2 * r.seq + 1)
  have d := putS_length (2 * r.seq)
  split <;> simp <;> omega
theorem recS_pos (r : Rec) : 0 < (recS r).length := by
  unfold recS
  have c := putS_pos (2 * r.seq + 1)
  have d := putS_pos (2 * r.seq)
  split <;> simp <;> omega
theorem recS_ne (r : Rec) : recS r ≠ [] := fun h => by have := recS_pos r; rw [h] at this; simp at this
theorem rec_eta (r : Rec) (hg : r.gone = true) (hv : r.val = []) : (⟨r.seq, r.key, [], true⟩ : Rec) = r := by cases r; simp at hg hv; subst hg hv; rfl
theorem rec_eta' (r : Rec) (hg : r.gone = false) : (⟨r.seq, r.key, r.val, false⟩ : Rec) = r := by cases r; simp at hg; subst hg; rfl
theorem readS_rec (r : Rec) (rest : Bs) (h : rightS r = true) : readS (recS r ++ rest) = (r, rest, 0) := by
  obtain ⟨h1, h2, h3, h4, h5, h6⟩ := right_facts h
  unfold recS
  cases hg : r.gone with
  | true =>
    have hv := h6 hg
    rw [if_pos rfl, List.append_assoc]
    unfold readS
    rw [takeS_put _ (by omega)]
    simp only []
    rw [ofTextS_text _ _ (by omega)]
    simp only []
    rw [if_pos trivial, if_pos trivial, if_pos (by omega), show (2 * r.seq + 1) / 2 = r.seq by omega, rec_eta r hg hv, if_pos h]
  | false =>
    rw [if_neg (by decide), List.append_assoc, List.append_assoc]
    unfold readS
    rw [takeS_put _ (by omega)]
    simp only []
    rw [ofTextS_text _ _ (by omega)]
    simp only []
    rw [ofTextS_text _ _ (by omega)]
    simp only []
    rw [if_pos trivial, if_pos trivial, if_neg (by omega), if_pos trivial, show (2 * r.seq) / 2 = r.seq by omega, rec_eta' r hg, if_pos h]
/-- What Read tells of any bytes. -/
def ReadTold (b : Bs) (x : Rec × Bs × Int) : Prop :=
  (x.2.2 = 0 ∧ rightS x.1 = true ∧ recS x.1 ++ x.2.1 = b ∧ x.2.1.length < b.length) ∨ (x = (rec0, [], 2) ∨ x = (rec0, [], 3))
theorem readS_told (b : Bs) : ReadTold b (readS b) := by
  unfold readS
  rcases takeS_told b with ⟨h1, h2, h3, h4, h5⟩ | h1 | h1
  · rw [if_pos h1]
    generalize hT : takeS b = T at *
    obtain ⟨n, b1, e1⟩ := T
    simp only [] at h1 h2 h3 h4 h5 ⊢
    rcases ofTextS_told b1 with ⟨k1, k2, k3⟩ | k1 | k1
    · rw [if_pos k1]
      generalize hO : ofTextS b1 = O at *
      obtain ⟨key, b2, e2⟩ := O
      simp only [] at k1 k2 k3 ⊢
      by_cases hn : n % 2 = 1
      · rw [if_pos hn]
        split
        · rename_i hr
          refine .inl ⟨rfl, hr, ?_, ?_⟩
          · simp only [recS, if_true]
            rw [show 2 * (n / 2) + 1 = n by omega, List.append_assoc, k2, h2]
          · show b2.length < b.length; omega
        · exact .inr (.inl rfl)
      · rw [if_neg hn]
        rcases ofTextS_told b2 with ⟨m1, m2, m3⟩ | m1 | m1
        · rw [if_pos m1]
          split
          · rename_i hr
            refine .inl ⟨rfl, hr, ?_, ?_⟩
            · simp only [recS]
              rw [if_neg (by decide), show 2 * (n / 2) = n by omega, List.append_assoc, List.append_assoc, m2, k2, h2]
            · show (ofTextS b2).2.1.length < b.length; omega
          · exact .inr (.inl rfl)
        · rw [m1]; exact .inr (.inl rfl)
        · rw [m1]; exact .inr (.inr rfl)
    · rw [k1]; exact .inr (.inl rfl)
    · rw [k1]; exact .inr (.inr rfl)
  · rw [h1]; exact .inr (.inl rfl)
  · rw [h1]; exact .inr (.inr rfl)
theorem take_front (a b : Bs) (c : Nat) (h : c < a.length) : (a ++ b).take c = a.take c := List.take_append_of_le_length (by omega)
theorem take_behind (a b : Bs) (c : Nat) (h : a.length ≤ c) : (a ++ b).take c = a ++ b.take (c - a.length) := by rw [List.take_append, List.take_of_length_le h]
theorem readS_cut (r : Rec) (h : rightS r = true) (c : Nat) (hc : c < (recS r).length) : readS ((recS r).take c) = (rec0, [], 3) := by
  obtain ⟨h1, h2, h3, h4, h5, h6⟩ := right_facts h
  have key : ∀ (n : Nat) (t : Bs), n < 18446744073709551616 → c < (putS n).length → readS ((putS n ++ t).take c) = (rec0, [], 3) := by
    intro n t hn hc
    rw [take_front _ _ _ hc]
    unfold readS
    rw [takeS_cut n hn c hc]
    rfl
  unfold recS at hc ⊢
  cases hg : r.gone with
  | true =>
    rw [hg, if_pos rfl] at hc
    rw [if_pos rfl]
    rcases Nat.lt_or_ge c (putS (2 * r.seq + 1)).length with hp | hp
    · exact key _ _ (by omega) hp
    · rw [take_behind _ _ _ hp]
      rw [List.length_append] at hc
      unfold readS
      rw [takeS_put _ (by omega)]
      simp only []
      rw [ofTextS_cut _ (by omega) _ (by omega)]
      rfl
  | false =>
    rw [hg, if_neg (by decide)] at hc
    rw [if_neg (by decide), List.append_assoc]
    rcases Nat.lt_or_ge c (putS (2 * r.seq)).length with hp | hp
    · exact key _ _ (by omega) hp
    · rw [take_behind _ _ _ hp]
      rw [List.length_append, List.length_append] at hc
      unfold readS
      rw [takeS_put _ (by omega)]
      simp only []
      rcases Nat.lt_or_ge (c - (putS (2 * r.seq)).length) (textS r.key).length with hq | hq
      · rw [take_front _ _ _ hq, ofTextS_cut _ (by omega) _ hq]
        rfl
      · rw [take_behind _ _ _ hq, ofTextS_text _ _ (by omega)]
        simp only []
        rw [ofTextS_cut _ (by omega) _ (by omega), if_pos trivial, if_pos trivial, if_neg (by omega)]
        rfl
/-- Many, one behind the other. -/
theorem allS_right : ∀ l : List Rec, (allS l).2 = 0 ∧ (∀ r ∈ l, rightS r = true) ∨ allS l = ([], 1)
  | [] => .inl ⟨rfl, by simp⟩
  | r :: l => by
    unfold allS
    cases hr : rightS r with
    | false => exact .inr rfl
    | true =>
      rw [if_pos rfl]
      rcases allS_right l with ⟨h1, h2⟩ | h1
      · rw [if_pos h1]
        refine .inl ⟨rfl, fun x hx => ?_⟩
        rcases List.mem_cons.mp hx with rfl | hx
        · exact hr
        · exact h2 x hx
      · rw [h1]; exact .inr rfl
theorem allS_cons {r : Rec} {l : List Rec} (h : (allS (r :: l)).2 = 0) : rightS r = true ∧ (allS l).2 = 0 ∧ allS (r :: l) = (recS r ++ (allS l).1, 0) := by
  rcases allS_right (r :: l) with ⟨h1, h2⟩ | h1
  · have hr := h2 r (by simp)
    rcases allS_right l with ⟨h3, h4⟩ | h3
    · exact ⟨hr, h3, by rw [allS, if_pos hr, if_pos h3]⟩
    · rw [allS, if_pos hr, h3, if_neg (by decide)] at h; exact absurd h (by decide)
  · rw [h1] at h; exact absurd h (by decide)
theorem allS_length : ∀ l : List Rec, (allS l).1.length ≤ 380 * l.length
  | [] => by simp [allS]
  | r :: l => by
    rw [allS]
    have := allS_length l
    split
    · rename_i hr
      have := recS_length hr
      split <;> simp <;> omega
    · simp
theorem listR_all : ∀ (l : List Rec) (f : Nat), (allS l).2 = 0 → (allS l).1.length ≤ f → listR f (allS l).1 = (l, 0)
  | [], 0, _, _ => rfl
  | [], f + 1, _, _ => rfl
  | r :: l, f, h, hf => by
    obtain ⟨hr, hl, he⟩ := allS_cons h
    rw [he] at hf ⊢
    have hp := recS_pos r
    simp only [List.length_append] at hf ⊢
    match f, hf with
    | 0, hf => omega
    | f + 1, hf =>
      rw [listR, if_neg (fun e => recS_ne r (List.append_eq_nil_iff.mp e).1), readS_rec r _ hr]
      simp only []
      rw [listR_all l f hl (by omega)]
      rfl
theorem listS_all (l : List Rec) (h : (allS l).2 = 0) : listS (allS l).1 = (l, 0) := listR_all l _ h (Nat.le_refl _)
theorem listR_told : ∀ (f : Nat) (b : Bs), b.length ≤ f → ((listR f b).2 = 0 ∧ allS (listR f b).1 = (b, 0) ∧ (listR f b).1.length ≤ b.length) ∨ (listR f b = ([], 2) ∨ listR f b = ([], 3))
  | 0, b, h => by
    have : b = [] := List.length_eq_zero_iff.mp (by omega)
    subst this
    exact .inl ⟨rfl, rfl, by simp [listR]⟩
  | f + 1, b, h => by
    rw [listR]
    by_cases hb : b = []
    · subst hb; exact .inl ⟨rfl, rfl, by simp⟩
    rw [if_neg hb]
    rcases readS_told b with ⟨h1, h2, h3, h4⟩ | h1 | h1
    · rw [if_pos h1]
      rcases listR_told f (readS b).2.1 (by omega) with ⟨k1, k2, k3⟩ | k1 | k1
      · rw [if_pos k1]
        refine .inl ⟨rfl, ?_, by simp only [List.length_cons]; omega⟩
        rw [allS, if_pos h2, k2, if_pos rfl]
        simp only []
        rw [h3]
      · rw [k1]; exact .inr (.inl rfl)
      · rw [k1]; exact .inr (.inr rfl)
    · rw [h1]; exact .inr (.inl rfl)
    · rw [h1]; exact .inr (.inr rfl)
theorem listS_told (b : Bs) : ((listS b).2 = 0 ∧ allS (listS b).1 = (b, 0) ∧ (listS b).1.length ≤ b.length) ∨ (listS b = ([], 2) ∨ listS b = ([], 3)) := listR_told b.length b (Nat.le_refl _)
end Go.Proofs.Ytdjkkceamldmjaa.Thw
/-! ## Layer 4 (frame) in plain words: a batch's bytes, the batch that bytes begin with, all of them. No program in sight. -/
namespace Go.Proofs.Ytdjkkceamldmjaa.Thw
open Go
set_option linter.unusedVariables false

def fitsS (l : List Rec) : Bool := decide (1 ≤ l.length) && decide (l.length ≤ 16)
def frameS (l : List Rec) : Bs × Int := if fitsS l = true then (if (allS l).2 = 0 then (textS (sealS (allS l).1), 0) else ([], (allS l).2)) else ([], 1)
def takeF (b : Bs) : List Rec × Int × Int :=
  if (ofTextS b).2.2 = 0 then
    (if (openS (ofTextS b).1).2 = true then
      (if (listS (openS (ofTextS b).1).1).2 = 0 then
        (if fitsS (listS (openS (ofTextS b).1).1).1 = true then ((listS (openS (ofTextS b).1).1).1, (b.length : Int) - ((ofTextS b).2.1.length : Int), 0) else ([], 0, 2))
      else ([], 0, 2))
    else ([], 0, 4))
  else ([], 0, (ofTextS b).2.2)
def scanR : Nat → Bs → List (List Rec) × Nat
  | 0, _ => ([], 0)
  | f + 1, b => if (takeF b).2.2 = 0 then ((takeF b).1 :: (scanR f (b.drop (takeF b).2.1.toNat)).1, (takeF b).2.1.toNat + (scanR f (b.drop (takeF b).2.1.toNat)).2) else ([], 0)
def scanS (b : Bs) : List (List Rec) × Nat := scanR b.length b

theorem fits_facts {l : List Rec} (h : fitsS l = true) : 1 ≤ l.length ∧ l.length ≤ 16 := by
  unfold fitsS at h
  simpa using h
theorem frameS_ok {l : List Rec} (h : (frameS l).2 = 0) : fitsS l = true ∧ (allS l).2 = 0 ∧ frameS l = (textS (sealS (allS l).1), 0) := by
  unfold frameS at h ⊢
  cases hf : fitsS l with
  | false => rw [hf, if_neg (by decide)] at h; exact absurd h (by decide)
  | true =>
    rw [hf, if_pos rfl] at h
    by_cases ha : (allS l).2 = 0
    · exact ⟨rfl, ha, by rw [if_pos rfl, if_pos ha]⟩
    · rw [if_neg ha] at h; exact absurd h ha
theorem frameS_bad {l : List Rec} (h : (frameS l).2 ≠ 0) : frameS l = ([], 1) := by
  unfold frameS at h ⊢
  cases hf : fitsS l with
  | false => rfl
  | true =>
    rw [hf, if_pos rfl] at h
    rw [if_pos rfl]
    rcases allS_right l with ⟨h1, _⟩ | h1
    · rw [if_pos h1] at h; exact absurd rfl h
    · rw [h1, if_neg (by decide)]
theorem seal_len {l : List Rec} (h : fitsS l = true) : (sealS (allS l).1).length ≤ 7000 := by
  have h1 := allS_length l
  have h2 := fits_facts h
  rw [sealS_length]
  omega
theorem takeF_frame (l : List Rec) (rest : Bs) (h : (frameS l).2 = 0) : takeF ((frameS l).1 ++ rest) = (l, ((frameS l).1.length : Int), 0) := by
  obtain ⟨h1, h2, h3⟩ := frameS_ok h
  have hz := seal_len h1
  rw [h3]
  unfold takeF
  rw [ofTextS_text _ _ (by omega), openS_seal, listS_all l h2]
  simp only [if_true, h1]
  simp
theorem takeF_cut (l : List Rec) (c : Nat) (h : (frameS l).2 = 0) (hc : c < (frameS l).1.length) : takeF ((frameS l).1.take c) = ([], 0, 3) := by
  obtain ⟨h1, h2, h3⟩ := frameS_ok h
  have hz := seal_len h1
  rw [h3] at hc ⊢
  unfold takeF
  rw [ofTextS_cut _ (by omega) _ hc]
  rfl
theorem frameS_length {l : List Rec} (h : (frameS l).2 = 0) : 0 < (frameS l).1.length ∧ (frameS l).1.length ≤ 7100 := by
  obtain ⟨h1, h2, h3⟩ := frameS_ok h
  have hz := seal_len h1
  have ht := textS_length (sealS (allS l).1)
  rw [h3]
  refine ⟨?_, by show (textS _).length ≤ _; omega⟩
  show 0 < (textS _).length
  unfold textS
  have := putS_pos (sealS (allS l).1).length
  simp; omega
/-- What Take tells of any bytes. -/
def FrameTold (b : Bs) (x : List Rec × Int × Int) : Prop :=
  (x.2.2 = 0 ∧ (frameS x.1).2 = 0 ∧ ∃ rest, (frameS x.1).1 ++ rest = b ∧ x.2.1 = ((frameS x.1).1.length : Int)) ∨ (x.1 = [] ∧ x.2.1 = 0 ∧ x.2.2 ≠ 0)
theorem takeF_told (b : Bs) : FrameTold b (takeF b) := by
  unfold takeF
  rcases ofTextS_told b with ⟨h1, h2, h3⟩ | h1 | h1
  · rw [if_pos h1]
    generalize hO : ofTextS b = O at *
    obtain ⟨t, rest, e⟩ := O
    simp only [] at h1 h2 h3 ⊢
    rcases openS_told t with ⟨s, k1, k2⟩ | k1
    · rw [k1]
      simp only [if_true]
      rcases listS_told s with ⟨m1, m2, m3⟩ | m1 | m1
      · rw [if_pos m1]
        cases hf : fitsS (listS s).1 with
        | false => exact .inr ⟨rfl, rfl, show (2 : Int) ≠ 0 by decide⟩
        | true =>
          have hfr : frameS (listS s).1 = (textS t, 0) := by
            unfold frameS
            rw [hf, if_pos rfl, m2, if_pos rfl]
            show (textS (sealS s), (0 : Int)) = _
            rw [k2]
          refine .inl ⟨rfl, ?_, rest, ?_, ?_⟩
          · show (frameS (listS s).1).2 = 0
            rw [hfr]
          · show (frameS (listS s).1).1 ++ rest = b
            rw [hfr]; exact h2
          · show (b.length : Int) - (rest.length : Int) = ((frameS (listS s).1).1.length : Int)
            rw [hfr, ← h2]
            simp
      · rw [m1]; exact .inr ⟨rfl, rfl, show (2 : Int) ≠ 0 by decide⟩
      · rw [m1]; exact .inr ⟨rfl, rfl, show (2 : Int) ≠ 0 by decide⟩
    · rw [k1]; exact .inr ⟨rfl, rfl, show (4 : Int) ≠ 0 by decide⟩
  · rw [h1]; exact .inr ⟨rfl, rfl, show (2 : Int) ≠ 0 by decide⟩
  · rw [h1]; exact .inr ⟨rfl, rfl, show (3 : Int) ≠ 0 by decide⟩
theorem takeF_range (b : Bs) : 0 ≤ (takeF b).2.1 ∧ (takeF b).2.1 ≤ b.length ∧ ((takeF b).2.2 = 0 → 0 < (takeF b).2.1) ∧ (takeF b).1.length ≤ 16 := by
  rcases takeF_told b with ⟨h1, h2, rest, h3, h4⟩ | ⟨h1, h2, h3⟩
  · obtain ⟨k1, k2⟩ := frameS_length h2
    have : ((frameS (takeF b).1).1 ++ rest).length = b.length := by rw [h3]
    rw [List.length_append] at this
    exact ⟨by omega, by omega, fun _ => by omega, (fits_facts (frameS_ok h2).1).2⟩
  · exact ⟨by omega, by omega, fun h => absurd h h3, by rw [h1]; simp⟩
def framesS (ls : List (List Rec)) : Bs := (ls.map fun l => (frameS l).1).flatten
theorem scanR_frames : ∀ (ls : List (List Rec)) (tail : Bs) (f : Nat), (∀ l ∈ ls, (frameS l).2 = 0) → (takeF tail).2.2 ≠ 0 → (framesS ls ++ tail).length ≤ f →
    scanR f (framesS ls ++ tail) = (ls, (framesS ls).length)
  | [], tail, 0, _, _, _ => rfl
  | [], tail, f + 1, _, ht, _ => by
    show scanR (f + 1) tail = _
    rw [scanR, if_neg ht]
    rfl
  | l :: ls, tail, f, h, ht, hf => by
    have hl := h l (by simp)
    obtain ⟨h1, h2⟩ := frameS_length hl
    have e : framesS (l :: ls) ++ tail = (frameS l).1 ++ (framesS ls ++ tail) := by simp [framesS]
    rw [e] at hf ⊢
    rw [List.length_append] at hf
    match f, hf with
    | 0, hf => omega
    | f + 1, hf =>
      rw [scanR, takeF_frame l _ hl]
      simp only [if_true, Int.toNat_natCast, List.drop_left]
      rw [scanR_frames ls tail f (fun x hx => h x (by simp [hx])) ht (by omega)]
      simp [framesS]
theorem scanR_len : ∀ (f : Nat) (b : Bs), (scanR f b).1.length ≤ b.length ∧ (scanR f b).2 ≤ b.length ∧ ∀ l ∈ (scanR f b).1, l.length ≤ 16
  | 0, b => by simp [scanR]
  | f + 1, b => by
    rw [scanR]
    obtain ⟨h1, h2, h3, h4⟩ := takeF_range b
    by_cases h : (takeF b).2.2 = 0
    · rw [if_pos h]
      have h3 := h3 h
      obtain ⟨k1, k2, k3⟩ := scanR_len f (b.drop (takeF b).2.1.toNat)
      rw [List.length_drop] at k1 k2
      refine ⟨by simp only [List.length_cons]; omega, by show _ + _ ≤ _; omega, fun l hl => ?_⟩
      rcases List.mem_cons.mp hl with rfl | hl
      · exact h4
      · exact k3 l hl
    · rw [if_neg h]; simp
end Go.Proofs.Ytdjkkceamldmjaa.Thw
/-! ## Layer 5 (hint) in plain words: entries' bytes, the entries of bytes. No program in sight. -/
namespace Go.Proofs.Ytdjkkceamldmjaa.Thw
open Go
set_option linter.unusedVariables false

structure Ent where
  key : Bs
  off : Int
  len : Int
  seq : Nat
  gone : Bool
deriving DecidableEq
def rightE (e : Ent) : Bool := decide (1 ≤ e.key.length ∧ e.key.length ≤ 40 ∧ 0 ≤ e.off ∧ e.off ≤ 1048576 ∧ 1 ≤ e.len ∧ e.len ≤ 400 ∧ 1 ≤ e.seq ∧ e.seq ≤ 1099511627776)
def flagN (g : Bool) : Nat := if g = true then 1 else 0
def oneE (e : Ent) : Bs := textS e.key ++ putS e.off.toNat ++ putS (2 * e.len.toNat + flagN e.gone) ++ putS e.seq
def bodyE : List Ent → Bs
  | [] => []
  | e :: l => oneE e ++ bodyE l
def allRight (l : List Ent) : Bool := l.all rightE
def bytesE (l : List Ent) : Bs × Int := if l.length ≤ 2000 then (if allRight l = true then (sealS (putS l.length ++ bodyE l), 0) else ([], 1)) else ([], 1)
/-- The entry that bytes begin with, what is behind it, and whether all of it could be taken. -/
def rawE (s : Bs) : (Bs × Nat × Nat × Nat) × Bs × Bool :=
  let t := ofTextS s
  let a := takeS t.2.1
  let b := takeS a.2.1
  let c := takeS b.2.1
  ((t.1, a.1, b.1, c.1), c.2.1, decide (t.2.2 = 0 ∧ a.2.2 = 0 ∧ b.2.2 = 0 ∧ c.2.2 = 0))
def entE (x : Bs × Nat × Nat × Nat) : Ent := ⟨x.1, (min x.2.1 1048577 : Nat), (min (x.2.2.1 / 2) 401 : Nat), x.2.2.2, decide (x.2.2.1 % 2 = 1)⟩
def entR (x : Bs × Nat × Nat × Nat) : Ent := ⟨x.1, (x.2.1 : Int), (x.2.2.1 / 2 : Nat), x.2.2.2, decide (x.2.2.1 % 2 = 1)⟩
/-- Read's loop: the entries, or none if it is no such text. -/
def entsR : Nat → Bs → Option (List Ent)
  | 0, s => if s = [] then some [] else none
  | f + 1, s => if s = [] then some [] else
    if (rawE s).2.2 = true ∧ rightE (entE (rawE s).1) = true then (entsR f (rawE s).2.1).bind fun l => some (entE (rawE s).1 :: l) else none
def readE (b : Bs) : List Ent × Int :=
  if (openS b).2 = true then
    (if (takeS (openS b).1).2.2 = 0 then
      (match entsR (takeS (openS b).1).2.1.length (takeS (openS b).1).2.1 with
       | some l => if l.length ≤ 2000 ∧ l.length = (takeS (openS b).1).1 then (l, 0) else ([], 2)
       | none => ([], 2))
    else ([], 2))
  else ([], 4)

theorem rightE_facts {e : Ent} (h : rightE e = true) : 1 ≤ e.key.length ∧ e.key.length ≤ 40 ∧ 0 ≤ e.off ∧ e.off ≤ 1048576 ∧ 1 ≤ e.len ∧ e.len ≤ 400 ∧ 1 ≤ e.seq ∧ e.seq ≤ 1099511627776 := of_decide_eq_true h
theorem flagN_le (g : Bool) : flagN g ≤ 1 := by unfold flagN; split <;> omega
theorem oneE_length {e : Ent} (h : rightE e = true) : 4 ≤ (oneE e).length ∧ (oneE e).length ≤ 80 := by
  obtain ⟨h1, h2, h3, h4, h5, h6, h7, h8⟩ := rightE_facts h
  unfold oneE
  have a := textS_length e.key
  have a' : 0 < (textS e.key).length := by unfold textS; have := putS_pos e.key.length; simp; omega
  have b := putS_length e.off.toNat
  have b' := putS_pos e.off.toNat
  have c := putS_length (2 * e.len.toNat + flagN e.gone)
  have c' := putS_pos (2 * e.len.toNat + flagN e.gone)
  have d := putS_length e.seq
  have d' := putS_pos e.seq
  simp; omega
theorem rawE_one (e : Ent) (rest : Bs) (h : rightE e = true) : rawE (oneE e ++ rest) = ((e.key, e.off.toNat, 2 * e.len.toNat + flagN e.gone, e.seq), rest, true) := by
  obtain ⟨h1, h2, h3, h4, h5, h6, h7, h8⟩ := rightE_facts h
  have hg := flagN_le e.gone
  unfold rawE oneE
  simp only [List.append_assoc]
  rw [ofTextS_text _ _ (by omega)]
  simp only []
  rw [takeS_put _ (by omega)]
  simp only []
  rw [takeS_put _ (by omega)]
  simp only []
  rw [takeS_put _ (by omega)]
  simp
theorem entE_one (e : Ent) (h : rightE e = true) : entE (e.key, e.off.toNat, 2 * e.len.toNat + flagN e.gone, e.seq) = e := by
  obtain ⟨h1, h2, h3, h4, h5, h6, h7, h8⟩ := rightE_facts h
  obtain ⟨key, off, len, seq, gone⟩ := e
  unfold entE flagN
  simp only [] at h3 h4 h5 h6 ⊢
  cases gone
  · simp only [Ent.mk.injEq, true_and]
    refine ⟨by omega, by simp; omega, by simp⟩
  · simp only [Ent.mk.injEq, true_and]
    refine ⟨by omega, by simp; omega, by first | (simp; done) | (simp; omega)⟩
theorem entR_one (e : Ent) (h : rightE e = true) : entR (e.key, e.off.toNat, 2 * e.len.toNat + flagN e.gone, e.seq) = e := by
  obtain ⟨h1, h2, h3, h4, h5, h6, h7, h8⟩ := rightE_facts h
  obtain ⟨key, off, len, seq, gone⟩ := e
  unfold entR flagN
  simp only [] at h3 h4 h5 h6 ⊢
  cases gone
  · simp only [Ent.mk.injEq, true_and]
    refine ⟨by omega, by simp; omega, by simp⟩
  · simp only [Ent.mk.injEq, true_and]
    refine ⟨by omega, by simp; omega, by first | (simp; done) | (simp; omega)⟩
/-- What is taken for an entry that may be has just that entry's bytes. -/
theorem rawE_told (s : Bs) (h : (rawE s).2.2 = true) (hr : rightE (entE (rawE s).1) = true) : oneE (entE (rawE s).1) ++ (rawE s).2.1 = s ∧ (rawE s).2.1.length < s.length := by
  unfold rawE at h hr ⊢
  simp only [decide_eq_true_eq] at h hr ⊢
  obtain ⟨e1, e2, e3, e4⟩ := h
  have t1 := ofTextS_told s
  generalize ofTextS s = T at *
  obtain ⟨key, r1, x1⟩ := T
  simp only [] at e1 e2 e3 e4 hr ⊢
  have t2 := takeS_told r1
  generalize takeS r1 = A at *
  obtain ⟨a, r2, x2⟩ := A
  simp only [] at e2 e3 e4 hr ⊢
  have t3 := takeS_told r2
  generalize takeS r2 = B at *
  obtain ⟨b, r3, x3⟩ := B
  simp only [] at e3 e4 hr ⊢
  have t4 := takeS_told r3
  generalize takeS r3 = C at *
  obtain ⟨c, r4, x4⟩ := C
  simp only [] at e4 hr ⊢
  subst e1 e2 e3 e4
  obtain ⟨_, p1, p2⟩ : (0 : Int) = 0 ∧ textS key ++ r1 = s ∧ r1.length < s.length := by
    rcases t1 with h | h | h
    · exact h
    · injection h with _ h; injection h with _ h; exact absurd h (by decide)
    · injection h with _ h; injection h with _ h; exact absurd h (by decide)
  obtain ⟨_, q1, _, _, q2⟩ : (0 : Int) = 0 ∧ putS a ++ r2 = r1 ∧ a < 18446744073709551616 ∧ r1.length ≤ r2.length + 10 ∧ r2.length < r1.length := by
    rcases t2 with h | h | h
    · exact h
    · injection h with _ h; injection h with _ h; exact absurd h (by decide)
    · injection h with _ h; injection h with _ h; exact absurd h (by decide)
  obtain ⟨_, u1, _, _, u2⟩ : (0 : Int) = 0 ∧ putS b ++ r3 = r2 ∧ b < 18446744073709551616 ∧ r2.length ≤ r3.length + 10 ∧ r3.length < r2.length := by
    rcases t3 with h | h | h
    · exact h
    · injection h with _ h; injection h with _ h; exact absurd h (by decide)
    · injection h with _ h; injection h with _ h; exact absurd h (by decide)
  obtain ⟨_, v1, _, _, v2⟩ : (0 : Int) = 0 ∧ putS c ++ r4 = r3 ∧ c < 18446744073709551616 ∧ r3.length ≤ r4.length + 10 ∧ r4.length < r3.length := by
    rcases t4 with h | h | h
    · exact h
    · injection h with _ h; injection h with _ h; exact absurd h (by decide)
    · injection h with _ h; injection h with _ h; exact absurd h (by decide)
  obtain ⟨h1, h2, h3, h4, h5, h6, h7, h8⟩ := rightE_facts hr
  unfold entE at h3 h4 h5 h6
  simp only [] at h3 h4 h5 h6
  have ea : (((min a 1048577 : Nat) : Int)).toNat = a := by omega
  have eb : 2 * (((min (b / 2) 401 : Nat) : Int)).toNat + flagN (decide (b % 2 = 1)) = b := by
    unfold flagN
    by_cases hb : b % 2 = 1
    · rw [decide_eq_true hb, if_pos rfl]; omega
    · rw [decide_eq_false hb, if_neg (by decide)]; omega
  refine ⟨?_, by omega⟩
  unfold oneE entE
  simp only []
  rw [ea, eb, List.append_assoc, List.append_assoc, List.append_assoc, v1, u1, q1, p1]
theorem entsR_body : ∀ (l : List Ent) (f : Nat), allRight l = true → (bodyE l).length ≤ f → entsR f (bodyE l) = some l
  | [], 0, _, _ => rfl
  | [], f + 1, _, _ => rfl
  | e :: l, f, h, hf => by
    unfold allRight at h
    rw [List.all_cons, Bool.and_eq_true] at h
    obtain ⟨h1, h2⟩ := h
    obtain ⟨z1, z2⟩ := oneE_length h1
    rw [bodyE, List.length_append] at hf
    match f, hf with
    | 0, hf => omega
    | g + 1, hf =>
      have hne : ¬ (oneE e ++ bodyE l = []) := fun x => by have := congrArg List.length x; rw [List.length_append, List.length_nil] at this; omega
      rw [bodyE, entsR, if_neg hne, rawE_one e _ h1]
      simp only []
      rw [entE_one e h1, if_pos ⟨trivial, h1⟩, entsR_body l g h2 (by omega)]
      rfl
theorem entsR_told : ∀ (f : Nat) (s : Bs) (l : List Ent), s.length ≤ f → entsR f s = some l → bodyE l = s ∧ allRight l = true
  | 0, s, l, hf, h => by
    obtain rfl : s = [] := List.length_eq_zero_iff.mp (by omega)
    cases h; exact ⟨rfl, rfl⟩
  | f + 1, s, l, hf, h => by
    rw [entsR] at h
    by_cases hs : s = []
    · subst hs; rw [if_pos rfl] at h; cases h; exact ⟨rfl, rfl⟩
    rw [if_neg hs] at h
    by_cases hr : (rawE s).2.2 = true ∧ rightE (entE (rawE s).1) = true
    · rw [if_pos hr] at h
      obtain ⟨m, hm, h⟩ := Option.bind_eq_some_iff.mp h
      cases h
      obtain ⟨k1, k2⟩ := rawE_told s hr.1 hr.2
      obtain ⟨k3, k4⟩ := entsR_told f _ m (by omega) hm
      refine ⟨by rw [bodyE, k3, k1], ?_⟩
      unfold allRight at k4 ⊢
      rw [List.all_cons, hr.2, k4]
      rfl
    · rw [if_neg hr] at h; cases h
theorem bytesE_ok {l : List Ent} (h : (bytesE l).2 = 0) : l.length ≤ 2000 ∧ allRight l = true ∧ bytesE l = (sealS (putS l.length ++ bodyE l), 0) := by
  unfold bytesE at h ⊢
  by_cases h1 : l.length ≤ 2000
  · rw [if_pos h1] at h ⊢
    cases h2 : allRight l with
    | true => exact ⟨h1, rfl, rfl⟩
    | false => rw [h2, if_neg (by decide)] at h; exact absurd h (by decide)
  · rw [if_neg h1] at h; exact absurd h (by decide)
theorem readE_bytes (l : List Ent) (h : (bytesE l).2 = 0) : readE (bytesE l).1 = (l, 0) := by
  obtain ⟨h1, h2, h3⟩ := bytesE_ok h
  rw [h3]
  unfold readE
  rw [openS_seal]
  simp only [if_true]
  rw [takeS_put _ (by omega)]
  simp only [if_true]
  rw [entsR_body l _ h2 (Nat.le_refl _)]
  simp only []
  rw [if_pos ⟨h1, trivial⟩]
theorem readE_told (b : Bs) : ((readE b).2 = 0 ∧ bytesE (readE b).1 = (b, 0)) ∨ readE b = ([], 2) ∨ readE b = ([], 4) := by
  unfold readE
  rcases openS_told b with ⟨s, h1, h2⟩ | h1
  · rw [h1]
    simp only [if_true]
    rcases takeS_told s with ⟨k1, k2, k3, k4, k5⟩ | k1 | k1
    · rw [if_pos k1]
      generalize takeS s = T at *
      obtain ⟨n, r, e⟩ := T
      simp only [] at k1 k2 k3 k4 k5 ⊢
      cases hl : entsR r.length r with
      | none => exact .inr (.inl rfl)
      | some l =>
        simp only []
        by_cases hn : l.length ≤ 2000 ∧ l.length = n
        · rw [if_pos hn]
          obtain ⟨m1, m2⟩ := entsR_told _ r l (Nat.le_refl _) hl
          refine .inl ⟨rfl, ?_⟩
          unfold bytesE
          rw [if_pos hn.1, if_pos m2, hn.2, m1, k2, h2]
        · rw [if_neg hn]; exact .inr (.inl rfl)
    · rw [k1]; exact .inr (.inl rfl)
    · rw [k1]; exact .inr (.inl rfl)
  · rw [h1]; exact .inr (.inr rfl)
/-- The document's way: taken loosely, and then the bytes must be these. -/
def looseR : Nat → Bs → Option (List Ent)
  | 0, s => if s = [] then some [] else none
  | f + 1, s => if s = [] then some [] else
    if (rawE s).2.2 = true ∧ (rawE s).1.2.1 ≤ 1048576 ∧ (rawE s).1.2.2.1 ≤ 1000 then (looseR f (rawE s).2.1).bind fun l => some (entR (rawE s).1 :: l) else none
def readD (b : Bs) : List Ent × Int :=
  if (openS b).2 = true then
    (if (takeS (openS b).1).2.2 = 0 then
      (match looseR (takeS (openS b).1).2.1.length (takeS (openS b).1).2.1 with
       | some l => if bytesE l = (b, 0) then (l, 0) else ([], 2)
       | none => ([], 2))
    else ([], 2))
  else ([], 4)
theorem looseR_body : ∀ (l : List Ent) (f : Nat), allRight l = true → (bodyE l).length ≤ f → looseR f (bodyE l) = some l
  | [], 0, _, _ => rfl
  | [], f + 1, _, _ => rfl
  | e :: l, f, h, hf => by
    unfold allRight at h
    rw [List.all_cons, Bool.and_eq_true] at h
    obtain ⟨h1, h2⟩ := h
    obtain ⟨z1, z2⟩ := oneE_length h1
    obtain ⟨_, _, h3, h4, h5, h6, _, _⟩ := rightE_facts h1
    have hg := flagN_le e.gone
    rw [bodyE, List.length_append] at hf
    match f, hf with
    | 0, hf => omega
    | g + 1, hf =>
      have hne : ¬ (oneE e ++ bodyE l = []) := fun x => by have := congrArg List.length x; rw [List.length_append, List.length_nil] at this; omega
      rw [bodyE, looseR, if_neg hne, rawE_one e _ h1]
      simp only []
      rw [entR_one e h1, if_pos ⟨trivial, by omega, by omega⟩, looseR_body l g h2 (by omega)]
      rfl
theorem readD_readE (b : Bs) : readD b = readE b := by
  rcases readE_told b with ⟨h1, h2⟩ | h1
  · -- what Read tells has these bytes: the document finds the same
    have hok : (bytesE (readE b).1).2 = 0 := by rw [h2]
    obtain ⟨k1, k2, k3⟩ := bytesE_ok hok
    rw [h2] at k3
    have hb : b = sealS (putS (readE b).1.length ++ bodyE (readE b).1) := congrArg Prod.fst k3
    unfold readD
    have ho : openS b = (putS (readE b).1.length ++ bodyE (readE b).1, true) := by
      conv => lhs; rw [hb]
      rw [openS_seal]
    rw [ho]
    simp only [if_true]
    rw [takeS_put _ (by omega)]
    simp only [if_true]
    rw [looseR_body _ _ k2 (Nat.le_refl _)]
    simp only []
    rw [if_pos h2]
    exact Prod.ext rfl h1.symm
  · -- Read tells an error: so does the document
    unfold readD
    have h1' := h1
    unfold readE at h1
    by_cases ho : (openS b).2 = true
    · rw [if_pos ho] at h1 ⊢
      by_cases ht : (takeS (openS b).1).2.2 = 0
      · rw [if_pos ht]
        have e2 : readE b = ([], 2) := by
          rcases h1' with h | h
          · exact h
          · exfalso
            unfold readE at h
            rw [if_pos ho, if_pos ht] at h
            revert h
            split
            · split
              · intro h; injection h with _ h; exact absurd h (by decide)
              · intro h; injection h with _ h; exact absurd h (by decide)
            · intro h; injection h with _ h; exact absurd h (by decide)
        rw [e2]
        split
        · rename_i l hl
          by_cases hb : bytesE l = (b, 0)
          · exfalso
            have := readE_bytes l (by rw [hb])
            rw [hb] at this
            simp only [] at this
            rw [e2] at this
            injection this with _ h
            exact absurd h (by decide)
          · rw [if_neg hb]
        · rfl
      · rw [if_neg ht] at h1 ⊢
        unfold readE
        rw [if_pos ho, if_neg ht]
    · rw [if_neg ho]
      unfold readE
      rw [if_neg ho]
end Go.Proofs.Ytdjkkceamldmjaa.Thw
/-! ## Layer 5 (hint) in plain words: the entries of a segment's bytes, the record that an entry tells of. No program in sight. -/
namespace Go.Proofs.Ytdjkkceamldmjaa.Thw
open Go
set_option linter.unusedVariables false
def batchE : Nat → List Rec → List Ent
  | _, [] => []
  | off, r :: l => ⟨r.key, (off : Int), ((recS r).length : Int), r.seq, r.gone⟩ :: batchE (off + (recS r).length) l
def ofL : Nat → List (List Rec) → List Ent
  | _, [] => []
  | at_, l :: ls => batchE (at_ + (frameS l).1.length - (allS l).1.length) l ++ ofL (at_ + (frameS l).1.length) ls
def atX (x : Rec × Bs × Int) (e : Ent) : Rec × Int := if x.2.2 = 0 ∧ x.2.1 = [] ∧ e.key = x.1.key ∧ e.seq = x.1.seq ∧ e.gone = x.1.gone then (x.1, 0) else (rec0, 2)
def atE (b : Bs) (e : Ent) : Rec × Int := if rightE e = true ∧ e.off + e.len ≤ (b.length : Int) then atX (readS ((b.drop e.off.toNat).take e.len.toNat)) e else (rec0, 1)
theorem batchE_length : ∀ (l : List Rec) (off : Nat), (batchE off l).length = l.length
  | [], _ => rfl
  | r :: l, off => by rw [batchE, List.length_cons, batchE_length l, List.length_cons]
theorem ofL_length : ∀ (ls : List (List Rec)) (at_ : Nat), (ofL at_ ls).length = ls.flatten.length
  | [], _ => rfl
  | l :: ls, at_ => by rw [ofL, List.length_append, batchE_length, ofL_length ls, List.flatten_cons, List.length_append]
theorem ofL_append : ∀ (ls ms : List (List Rec)) (at_ : Nat), ofL at_ (ls ++ ms) = ofL at_ ls ++ ofL (at_ + (framesS ls).length) ms
  | [], ms, at_ => by simp [ofL, framesS]
  | l :: ls, ms, at_ => by
    rw [List.cons_append, ofL, ofL, ofL_append ls ms, List.append_assoc]
    simp [framesS, Nat.add_assoc]
/-- A batch's bytes end with its records'. -/
theorem frameS_end {l : List Rec} (h : (frameS l).2 = 0) : ∃ hd, (frameS l).1 = hd ++ (allS l).1 := by
  obtain ⟨h1, h2, h3⟩ := frameS_ok h
  rw [h3]
  exact ⟨putS (sealS (allS l).1).length ++ le4 (sumS2 (allS l).1), by show textS _ = _; unfold textS sealS; rw [List.append_assoc]⟩
theorem frameS_all_le {l : List Rec} (h : (frameS l).2 = 0) : (allS l).1.length ≤ (frameS l).1.length := by
  obtain ⟨hd, e⟩ := frameS_end h
  rw [e, List.length_append]; omega
def eachOk (b : Bs) : List Ent → List Rec → Prop
  | [], [] => True
  | e :: E, r :: R => atE b e = (r, 0) ∧ eachOk b E R
  | _, _ => False
theorem eachOk_append (b : Bs) : ∀ (E : List Ent) (R : List Rec) (E2 : List Ent) (R2 : List Rec), eachOk b E R → eachOk b E2 R2 → eachOk b (E ++ E2) (R ++ R2)
  | [], [], _, _, _, h => h
  | e :: E, r :: R, E2, R2, h, h2 => ⟨h.1, eachOk_append b E R E2 R2 h.2 h2⟩
  | [], _ :: _, _, _, h, _ => h.elim
  | _ :: _, [], _, _, h, _ => h.elim
theorem eachOk_get (b : Bs) : ∀ (E : List Ent) (R : List Rec), eachOk b E R → ∀ i (h : i < E.length) (h' : i < R.length), atE b E[i] = (R[i], 0)
  | [], [], _, i, h, _ => absurd h (by simp)
  | e :: E, r :: R, hh, 0, _, _ => hh.1
  | e :: E, r :: R, hh, i + 1, h, h' => eachOk_get b E R hh.2 i (by simpa using h) (by simpa using h')
  | [], _ :: _, h, _, _, _ => h.elim
  | _ :: _, [], h, _, _, _ => h.elim
theorem atE_rec (pre post : Bs) (r : Rec) (h : rightS r = true) (hs : pre.length ≤ 1048576) : atE (pre ++ recS r ++ post) ⟨r.key, (pre.length : Int), ((recS r).length : Int), r.seq, r.gone⟩ = (r, 0) := by
  obtain ⟨h1, h2, h3, h4, h5, h6⟩ := right_facts h
  have hl := recS_length h
  have hp := recS_pos r
  unfold atE
  have hr : rightE ⟨r.key, (pre.length : Int), ((recS r).length : Int), r.seq, r.gone⟩ = true := by
    unfold rightE
    refine decide_eq_true ?_
    simp only []
    omega
  rw [if_pos ⟨hr, by simp only [List.length_append]; omega⟩]
  have e : ((pre ++ recS r ++ post).drop ((pre.length : Int)).toNat).take (((recS r).length : Int)).toNat = recS r := by
    rw [Int.toNat_natCast, Int.toNat_natCast, List.append_assoc, List.drop_left, List.take_left]
  simp only [e]
  have hrd := readS_rec r [] h
  rw [List.append_nil] at hrd
  rw [hrd]
  unfold atX
  rw [if_pos ⟨rfl, rfl, rfl, rfl, rfl⟩]
theorem each_batch : ∀ (l : List Rec) (pre post : Bs), (allS l).2 = 0 → pre.length + (allS l).1.length ≤ 1048576 → eachOk (pre ++ (allS l).1 ++ post) (batchE pre.length l) l
  | [], _, _, _, _ => trivial
  | r :: l, pre, post, h, hs => by
    obtain ⟨k1, k2, k3⟩ := allS_cons h
    rw [k3] at hs ⊢
    simp only [List.length_append] at hs
    simp only []
    have e : pre ++ (recS r ++ (allS l).1) ++ post = pre ++ recS r ++ ((allS l).1 ++ post) := by simp
    have e2 : pre ++ (recS r ++ (allS l).1) ++ post = (pre ++ recS r) ++ (allS l).1 ++ post := by simp
    rw [batchE]
    refine ⟨by rw [e]; exact atE_rec pre _ r k1 (by omega), ?_⟩
    rw [e2, show pre.length + (recS r).length = (pre ++ recS r).length by rw [List.length_append]]
    exact each_batch l (pre ++ recS r) post k2 (by rw [List.length_append]; omega)
theorem each_all : ∀ (ls : List (List Rec)) (pre post : Bs), (∀ l ∈ ls, (frameS l).2 = 0) → pre.length + (framesS ls).length ≤ 1048576 → eachOk (pre ++ framesS ls ++ post) (ofL pre.length ls) ls.flatten
  | [], _, _, _, _ => trivial
  | l :: ls, pre, post, h, hs => by
    have hl := h l (by simp)
    obtain ⟨hd, e⟩ := frameS_end hl
    obtain ⟨f1, f2, f3⟩ := frameS_ok hl
    have ef : framesS (l :: ls) = (frameS l).1 ++ framesS ls := by simp [framesS]
    rw [ef] at hs ⊢
    rw [List.length_append] at hs
    rw [ofL, List.flatten_cons]
    refine eachOk_append _ _ _ _ _ ?_ ?_
    · rw [show pre ++ ((frameS l).1 ++ framesS ls) ++ post = (pre ++ hd) ++ (allS l).1 ++ (framesS ls ++ post) by rw [e]; simp,
        show pre.length + (frameS l).1.length - (allS l).1.length = (pre ++ hd).length by rw [e]; simp only [List.length_append]; omega]
      refine each_batch l _ _ f2 ?_
      rw [e] at hs
      simp only [List.length_append] at hs ⊢
      omega
    · rw [show pre ++ ((frameS l).1 ++ framesS ls) ++ post = (pre ++ (frameS l).1) ++ framesS ls ++ post by simp, show pre.length + (frameS l).1.length = (pre ++ (frameS l).1).length by rw [List.length_append]]
      exact each_all ls _ post (fun x hx => h x (by simp [hx])) (by rw [List.length_append]; omega)
/-- The entries lie one behind the other. -/
def chainE : Int → List Ent → Prop
  | _, [] => True
  | lo, e :: E => lo ≤ e.off ∧ chainE (e.off + e.len) E
theorem chainE_mono : ∀ (E : List Ent) (a b : Int), a ≤ b → chainE b E → chainE a E
  | [], _, _, _, _ => trivial
  | e :: E, a, b, h, hc => ⟨Int.le_trans h hc.1, hc.2⟩
theorem chain_batch : ∀ (l : List Rec) (off : Nat) (lo : Int) (E : List Ent), (allS l).2 = 0 → lo ≤ off → chainE ((off : Int) + ((allS l).1.length : Int)) E → chainE lo (batchE off l ++ E)
  | [], off, lo, E, _, h, hc => chainE_mono E lo _ (by show lo ≤ (off : Int) + ((([] : Bs).length : Nat) : Int); simp; omega) hc
  | r :: l, off, lo, E, h0, h, hc => by
    obtain ⟨k1, k2, k3⟩ := allS_cons h0
    rw [k3, List.length_append] at hc
    rw [batchE, List.cons_append]
    refine ⟨h, ?_⟩
    refine chain_batch l (off + (recS r).length) _ E k2 (by simp only []; omega) (chainE_mono E _ _ (by omega) hc)
theorem chain_all : ∀ (ls : List (List Rec)) (at_ : Nat) (lo : Int), (∀ l ∈ ls, (frameS l).2 = 0) → lo ≤ at_ → chainE lo (ofL at_ ls)
  | [], _, _, _, _ => trivial
  | l :: ls, at_, lo, h, hlo => by
    have hl := h l (by simp)
    obtain ⟨f1, f2, f3⟩ := frameS_ok hl
    have hle := frameS_all_le hl
    rw [ofL]
    refine chain_batch l _ lo _ f2 (by omega) ?_
    exact chain_all ls _ _ (fun x hx => h x (by simp [hx])) (by omega)
theorem chainE_get : ∀ (E : List Ent) (lo : Int), chainE lo E → ∀ i (h : i + 1 < E.length), (E[i]'(by omega)).off + (E[i]'(by omega)).len ≤ (E[i + 1]).off
  | [], _, _, i, h => absurd h (by simp)
  | [e], _, _, i, h => absurd h (by simp)
  | e :: f :: E, lo, hc, 0, _ => hc.2.1
  | e :: f :: E, lo, hc, i + 1, h => chainE_get (f :: E) _ hc.2 i (by simpa using h)
theorem atE_right {b : Bs} {e : Ent} {r : Rec} (h : atE b e = (r, 0)) : rightE e = true := by
  unfold atE at h
  by_cases h1 : rightE e = true ∧ e.off + e.len ≤ (b.length : Int)
  · exact h1.1
  · rw [if_neg h1] at h; cases h
theorem allS_drop : ∀ (l : List Rec) (j : Nat), (allS l).2 = 0 → (allS (l.drop j)).2 = 0 ∧ (allS (l.drop j)).1.length ≤ (allS l).1.length
  | l, 0, h => ⟨h, Nat.le_refl _⟩
  | [], j + 1, h => ⟨h, Nat.le_refl _⟩
  | r :: l, j + 1, h => by
    obtain ⟨k1, k2, k3⟩ := allS_cons h
    obtain ⟨a, b⟩ := allS_drop l j k2
    rw [k3]
    refine ⟨a, ?_⟩
    show (allS (l.drop j)).1.length ≤ (recS r ++ (allS l).1).length
    rw [List.length_append]
    omega
theorem allS_step (l : List Rec) (j : Nat) (hj : j < l.length) (h : (allS l).2 = 0) : rightS l[j] = true ∧ (allS (l.drop j)).1 = recS l[j] ++ (allS (l.drop (j + 1))).1 := by
  have h1 := (allS_drop l j h).1
  rw [List.drop_eq_getElem_cons hj] at h1 ⊢
  obtain ⟨k1, k2, k3⟩ := allS_cons h1
  rw [k3]
  exact ⟨k1, rfl⟩
theorem batchE_step (l : List Rec) (j off : Nat) (hj : j < l.length) : batchE off (l.drop j) = ⟨l[j].key, (off : Int), ((recS l[j]).length : Int), l[j].seq, l[j].gone⟩ :: batchE (off + (recS l[j]).length) (l.drop (j + 1)) := by
  rw [List.drop_eq_getElem_cons hj, batchE]
/-- What a scan tells are batches. -/
theorem scanR_ok : ∀ (f : Nat) (b : Bs), ∀ l ∈ (scanR f b).1, (frameS l).2 = 0
  | 0, b, l, h => absurd h (by simp [scanR])
  | f + 1, b, l, h => by
    rw [scanR] at h
    by_cases h2 : (takeF b).2.2 = 0
    · rw [if_pos h2] at h
      rcases takeF_told b with ⟨_, t, _⟩ | ⟨_, _, t⟩
      · rcases List.mem_cons.mp h with rfl | h
        · exact t
        · exact scanR_ok f _ l h
      · exact absurd h2 t
    · rw [if_neg h2] at h; exact absurd h (by simp)
theorem takeF_len {b : Bs} (h : (takeF b).2.2 = 0) : (takeF b).2.1 = ((frameS (takeF b).1).1.length : Int) ∧ (frameS (takeF b).1).2 = 0 := by
  rcases takeF_told b with ⟨_, t, _, _, e⟩ | ⟨_, _, t⟩
  · exact ⟨e, t⟩
  · exact absurd h t
theorem scanR_size : ∀ (f : Nat) (b : Bs), (scanR f b).2 = (framesS (scanR f b).1).length
  | 0, b => by simp [scanR, framesS]
  | f + 1, b => by
    rw [scanR]
    by_cases h2 : (takeF b).2.2 = 0
    · rw [if_pos h2]
      obtain ⟨e, _⟩ := takeF_len h2
      have := scanR_size f (b.drop (takeF b).2.1.toNat)
      simp only [framesS, List.map_cons, List.flatten_cons, List.length_append] at this ⊢
      omega
    · rw [if_neg h2]; simp [framesS]
end Go.Proofs.Ytdjkkceamldmjaa.Thw
