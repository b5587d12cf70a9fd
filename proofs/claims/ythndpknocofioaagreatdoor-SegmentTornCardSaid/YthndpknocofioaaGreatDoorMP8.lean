/- Several texts of mine in one (PlainA, Plain01, Plain02, Plain03, Plain04, Plain05, Plain05O, Plain12, Plain08). -/
import Derived.Lib.Strings
import Derived.Lib.IndexBytes
import Derived.Laws.BitsAllLaws
import Derived.Laws.Bits64
import Derived.Lib.ItoaNum
import Derived.Lib.AtoiTie
import Derived.Lib.Repeat
/-! ## Plain words for all layers: strings as lists of bytes; whole numbers and their bits. No program in sight. -/
namespace Go.Proofs.YthndpknocofioaaGreatDoor.Thw
open Go

abbrev Bs := List UInt8
/-- A string's bytes. -/
def L (s : ByteArray) : Bs := s.data.toList
/-- Bytes as a string. -/
def B (l : Bs) : ByteArray := ⟨l.toArray⟩
theorem L_B (l : Bs) : L (B l) = l := by simp [L, B]
theorem B_L (s : ByteArray) : B (L s) = s := by simp [L, B]
theorem L_inj {a b : ByteArray} (h : L a = L b) : a = b := by rw [← B_L a, h, B_L]
theorem toList_L (s : ByteArray) : s.toList = L s := Lib.toList_data s
theorem L_append (a b : ByteArray) : L (a ++ b) = L a ++ L b := by simp [L]
theorem L_length (s : ByteArray) : (L s).length = s.size := (Lib.size_eq s).symm
theorem B_size (l : Bs) : (B l).size = l.length := by rw [← L_length, L_B]
theorem B_append (a b : Bs) : B (a ++ b) = B a ++ B b := L_inj (by rw [L_append, L_B, L_B, L_B])
theorem L_extract (s : ByteArray) (a b : Nat) : L (s.extract a b) = ((L s).drop a).take (b - a) := Lib.extract_data s a b
theorem L_extract_end (s : ByteArray) (a : Nat) : L (s.extract a s.size) = (L s).drop a := Lib.extract_to_end s a
theorem L_extract_front (s : ByteArray) (b : Nat) : L (s.extract 0 b) = (L s).take b := by rw [L_extract]; simp
theorem extract_end (s : ByteArray) (a : Nat) : s.extract a s.size = B ((L s).drop a) := L_inj (by rw [L_extract_end, L_B])
theorem extract_front (s : ByteArray) (b : Nat) : s.extract 0 b = B ((L s).take b) := L_inj (by rw [L_extract_front, L_B])
theorem B_nil : B [] = ⟨#[]⟩ := rfl
end Go.Proofs.YthndpknocofioaaGreatDoor.Thw
/-! ## Layer 1 (varint) in plain words: a number's bytes, the number that bytes begin with, texts with their length ahead. No program in sight. -/
namespace Go.Proofs.YthndpknocofioaaGreatDoor.Thw
open Go
set_option linter.unusedVariables false

/-- A number's bytes: up to 'k' more may follow the first. -/
def putB : Nat → Nat → Bs
  | 0, n => [UInt8.ofNat n]
  | k + 1, n => if n < 128 then [UInt8.ofNat n] else UInt8.ofNat (n % 128 + 128) :: putB k (n / 128)
def putS (n : Nat) : Bs := putB 9 n
/-- The number that bytes begin with: at place i, with what was gathered. -/
def takeR (b : Bs) : Nat → Nat → Nat → Nat × Bs × Int
  | 0, _, _ => (0, [], 2)
  | f + 1, i, acc =>
    if i = b.length then (0, [], 3)
    else if 128 ≤ (b.getD i 0).toNat then takeR b f (i + 1) ((acc + (b.getD i 0).toNat % 128 * 128 ^ i) % 18446744073709551616)
    else if putS ((acc + (b.getD i 0).toNat % 128 * 128 ^ i) % 18446744073709551616) = b.take (i + 1) then ((acc + (b.getD i 0).toNat % 128 * 128 ^ i) % 18446744073709551616, b.drop (i + 1), 0)
    else (0, [], 2)
def takeS (b : Bs) : Nat × Bs × Int := takeR b 10 0 0
def textS (s : Bs) : Bs := putS s.length ++ s
def ofTextS (b : Bs) : Bs × Bs × Int :=
  if (takeS b).2.2 = 0 then (if (takeS b).1 > (takeS b).2.1.length then ([], [], 3) else ((takeS b).2.1.take (takeS b).1, (takeS b).2.1.drop (takeS b).1, 0)) else ([], [], (takeS b).2.2)

theorem putB_length : ∀ (k n : Nat), (putB k n).length ≤ k + 1
  | 0, _ => by simp [putB]
  | k + 1, n => by
    rw [putB]
    split
    · simp
    · have := putB_length k (n / 128)
      rw [List.length_cons]; omega
theorem putB_pos : ∀ (k n : Nat), 0 < (putB k n).length
  | 0, _ => by simp [putB]
  | k + 1, n => by
    rw [putB]
    split <;> simp
theorem putS_length (n : Nat) : (putS n).length ≤ 10 := putB_length 9 n
theorem putS_pos (n : Nat) : 0 < (putS n).length := putB_pos 9 n
theorem ofNat_toNat (n : Nat) (h : n < 256) : (UInt8.ofNat n).toNat = n := by simp; omega
theorem pow_128_9 : (128 : Nat) ^ 9 = 9223372036854775808 := by decide

/-- Where a number's bytes stand: behind i of them are those of n / 128^i. -/
theorem putB_drop (n : Nat) : ∀ (i k : Nat), (∀ j, j < i → 128 ≤ n / 128 ^ j) → (putB (k + i) n).drop i = putB k (n / 128 ^ i)
  | 0, k, _ => by simp
  | i + 1, k, h => by
    have h1 := putB_drop n i (k + 1) (fun j hj => h j (by omega))
    have h2 := h i (by omega)
    rw [show k + (i + 1) = (k + 1) + i by omega, ← List.drop_drop, h1, putB, if_neg (by omega), List.drop_succ_cons, List.drop_zero, Nat.div_div_eq_div_mul, Nat.pow_succ]
theorem acc_next (n i : Nat) : n % 128 ^ i + n / 128 ^ i % 128 * 128 ^ i = n % 128 ^ (i + 1) := by
  rw [Nat.pow_succ, Nat.mod_mul, Nat.mul_comm]
theorem mod_small (n i : Nat) (hn : n < 18446744073709551616) : n % 128 ^ (i + 1) % 18446744073709551616 = n % 128 ^ (i + 1) :=
  Nat.mod_eq_of_lt (Nat.lt_of_le_of_lt (Nat.mod_le _ _) hn)
theorem getD_append_left (a b : Bs) (i : Nat) (h : i < a.length) : (a ++ b).getD i 0 = a.getD i 0 := by
  simp [List.getD_eq_getElem?_getD, List.getElem?_append_left h]
theorem getD_of_drop (a : Bs) (i : Nat) (x : UInt8) (r : Bs) (h : a.drop i = x :: r) : a.getD i 0 = x ∧ i < a.length := by
  have hl : i < a.length := by
    rcases Nat.lt_or_ge i a.length with h1 | h1
    · exact h1
    · rw [List.drop_of_length_le h1] at h; cases h
  rw [List.drop_eq_getElem_cons hl] at h
  injection h with h1 h2
  exact ⟨by simp [List.getD_eq_getElem?_getD, List.getElem?_eq_getElem hl, h1], hl⟩
theorem length_of_drop (a : Bs) (i : Nat) (x : UInt8) (h : a.drop i = [x]) : a.length = i + 1 := by
  have := congrArg List.length h
  simp at this
  omega

/-- At place i of a number's bytes, and whatever behind them, Take tells the number. -/
theorem takeR_put (n : Nat) (hn : n < 18446744073709551616) (rest : Bs) : ∀ (k i : Nat), i + k = 9 → (∀ j, j < i → 128 ≤ n / 128 ^ j) →
    takeR (putS n ++ rest) (k + 1) i (n % 128 ^ i) = (n, rest, 0)
  | k, i, e, h => by
    have hd : (putS n).drop i = putB k (n / 128 ^ i) := by
      have := putB_drop n i k h
      rw [show k + i = 9 by omega] at this
      exact this
    by_cases hs : n / 128 ^ i < 128
    · have hd2 : (putS n).drop i = [UInt8.ofNat (n / 128 ^ i)] := by rw [hd]; cases k <;> simp [putB, hs]
      obtain ⟨g1, g2⟩ := getD_of_drop _ _ _ _ hd2
      have hl := length_of_drop _ _ _ hd2
      have hmod : n % 128 ^ (i + 1) = n := by
        apply Nat.mod_eq_of_lt
        rw [Nat.pow_succ, Nat.mul_comm]
        exact (Nat.div_lt_iff_lt_mul (Nat.pow_pos (by omega))).1 hs
      rw [takeR, if_neg (by rw [List.length_append]; omega), getD_append_left _ _ _ g2, g1, ofNat_toNat _ (by omega), if_neg (by omega), acc_next, mod_small n i hn, hmod,
        if_pos (by rw [← hl, List.take_append_of_le_length (Nat.le_refl _), List.take_length]), ← hl, List.drop_left]
    · cases k with
      | zero =>
        exfalso
        have e9 : i = 9 := by omega
        subst e9
        rw [pow_128_9] at hs
        omega
      | succ k =>
        have hd2 : (putS n).drop i = UInt8.ofNat (n / 128 ^ i % 128 + 128) :: putB k (n / 128 ^ i / 128) := by rw [hd, putB, if_neg hs]
        obtain ⟨g1, g2⟩ := getD_of_drop _ _ _ _ hd2
        rw [takeR, if_neg (by rw [List.length_append]; omega), getD_append_left _ _ _ g2, g1, ofNat_toNat _ (by omega), if_pos (by omega),
          show (n / 128 ^ i % 128 + 128) % 128 = n / 128 ^ i % 128 by omega, acc_next, mod_small n i hn]
        refine takeR_put n hn rest k (i + 1) (by omega) (fun j hj => ?_)
        rcases Nat.lt_or_ge j i with h1 | h1
        · exact h j h1
        · obtain rfl : j = i := by omega
          omega
theorem takeS_put (n : Nat) (hn : n < 18446744073709551616) (rest : Bs) : takeS (putS n ++ rest) = (n, rest, 0) := by
  have := takeR_put n hn rest 9 0 (by omega) (by omega)
  rwa [Nat.pow_zero, Nat.mod_one] at this
theorem getD_take (a : Bs) (i j : Nat) (h : i < j) : (a.take j).getD i 0 = a.getD i 0 := by
  simp [List.getD_eq_getElem?_getD, h]
/-- A beginning of a number's bytes is too short. -/
theorem takeR_cut (n : Nat) (hn : n < 18446744073709551616) (c : Nat) (hc : c < (putS n).length) : ∀ (d i : Nat), i + d = c → (∀ j, j < i → 128 ≤ n / 128 ^ j) → ∀ acc,
    takeR ((putS n).take c) (10 - i) i acc = (0, [], 3)
  | 0, i, e, h, acc => by
    have hl := putS_length n
    rw [show 10 - i = (9 - i) + 1 by omega, takeR, if_pos (by rw [List.length_take]; omega)]
  | d + 1, i, e, h, acc => by
    have hl := putS_length n
    have hd : (putS n).drop i = putB (9 - i) (n / 128 ^ i) := by
      have := putB_drop n i (9 - i) h
      rw [show 9 - i + i = 9 by omega] at this
      exact this
    have hs : ¬ n / 128 ^ i < 128 := by
      intro hs
      have hd2 : (putS n).drop i = [UInt8.ofNat (n / 128 ^ i)] := by rw [hd]; cases (9 - i) <;> simp [putB, hs]
      have := length_of_drop _ _ _ hd2
      omega
    obtain ⟨k, hk⟩ : ∃ k, 9 - i = k + 1 := ⟨9 - i - 1, by omega⟩
    have hd2 : (putS n).drop i = UInt8.ofNat (n / 128 ^ i % 128 + 128) :: putB k (n / 128 ^ i / 128) := by rw [hd, hk, putB, if_neg hs]
    obtain ⟨g1, g2⟩ := getD_of_drop _ _ _ _ hd2
    rw [show 10 - i = (9 - i) + 1 by omega, takeR, if_neg (by rw [List.length_take]; omega), getD_take _ _ _ (by omega), g1, ofNat_toNat _ (by omega), if_pos (by omega), show 9 - i = 10 - (i + 1) by omega]
    refine takeR_cut n hn c hc d (i + 1) (by omega) (fun j hj => ?_) _
    rcases Nat.lt_or_ge j i with h1 | h1
    · exact h j h1
    · obtain rfl : j = i := by omega
      omega
theorem takeS_cut (n : Nat) (hn : n < 18446744073709551616) (c : Nat) (hc : c < (putS n).length) : takeS ((putS n).take c) = (0, [], 3) :=
  takeR_cut n hn c hc c 0 (by omega) (by omega) 0
/-- What is told of any bytes: a number's own bytes ahead, or an error beside nothing. -/
def TakeTold (b : Bs) (r : Nat × Bs × Int) : Prop :=
  (r.2.2 = 0 ∧ putS r.1 ++ r.2.1 = b ∧ r.1 < 18446744073709551616 ∧ b.length ≤ r.2.1.length + 10 ∧ r.2.1.length < b.length) ∨ (r = (0, [], 2) ∨ r = (0, [], 3))
theorem takeR_told (b : Bs) : ∀ (f i acc : Nat), i + f = 10 → i ≤ b.length → TakeTold b (takeR b f i acc)
  | 0, i, acc, _, _ => .inr (.inl rfl)
  | f + 1, i, acc, e, h => by
    rw [takeR]
    by_cases h1 : i = b.length
    · rw [if_pos h1]; exact .inr (.inr rfl)
    rw [if_neg h1]
    split
    · exact takeR_told b f (i + 1) _ (by omega) (by omega)
    · split
      · rename_i h3
        refine .inl ⟨rfl, by rw [h3, List.take_append_drop], Nat.mod_lt _ (by omega), ?_, ?_⟩
        · simp only [List.length_drop]; omega
        · simp only [List.length_drop]; omega
      · exact .inr (.inl rfl)
theorem takeS_told (b : Bs) : TakeTold b (takeS b) := takeR_told b 10 0 0 rfl (Nat.zero_le _)

theorem ofTextS_text (s rest : Bs) (h : s.length < 18446744073709551616) : ofTextS (textS s ++ rest) = (s, rest, 0) := by
  unfold ofTextS textS
  rw [List.append_assoc, takeS_put _ h]
  simp
theorem ofTextS_cut (s : Bs) (h : s.length < 18446744073709551616) (c : Nat) (hc : c < (textS s).length) : ofTextS ((textS s).take c) = ([], [], 3) := by
  unfold textS at hc ⊢
  rw [List.length_append] at hc
  rcases Nat.lt_or_ge c (putS s.length).length with h1 | h1
  · rw [List.take_append_of_le_length (by omega)]
    unfold ofTextS
    rw [takeS_cut _ h c h1]
    simp
  · rw [List.take_append, List.take_of_length_le h1]
    unfold ofTextS
    rw [takeS_put _ h]
    simp
    omega
/-- What OfText tells of any bytes. -/
def OfTextTold (b : Bs) (r : Bs × Bs × Int) : Prop :=
  (r.2.2 = 0 ∧ textS r.1 ++ r.2.1 = b ∧ r.2.1.length < b.length) ∨ (r = ([], [], 2) ∨ r = ([], [], 3))
theorem ofTextS_told (b : Bs) : OfTextTold b (ofTextS b) := by
  unfold ofTextS
  rcases takeS_told b with ⟨h1, h2, h3, h4, h5⟩ | h1 | h1
  · rw [if_pos h1]
    split
    · exact .inr (.inr rfl)
    · rename_i h6
      refine .inl ⟨rfl, ?_, ?_⟩
      · simp only [textS, List.length_take, List.append_assoc, List.take_append_drop]
        rw [Nat.min_eq_left (by omega)]
        exact h2
      · simp only [List.length_drop]; omega
  · rw [h1]; exact .inr (.inl rfl)
  · rw [h1]; exact .inr (.inr rfl)
end Go.Proofs.YthndpknocofioaaGreatDoor.Thw
/-! ## Layer 2 (crc) in plain words: one step, eight steps, a table, checks of bytes; what a check tells of. No program in sight. -/
namespace Go.Proofs.YthndpknocofioaaGreatDoor.Thw
open Go
set_option linter.unusedVariables false

def polyN : Nat := 2197175160
def stepN (c : Nat) : Nat := (c / 2) ^^^ (if c % 2 = 1 then polyN else 0)
def stepsN : Nat → Nat → Nat
  | 0, c => c
  | n + 1, c => stepN (stepsN n c)
def byteN (c x : Nat) : Nat := stepsN 8 (c ^^^ x)
def moreN (l : Bs) (c : Nat) : Nat := l.foldl (fun c b => byteN c b.toNat) c
def ones : Nat := 4294967295
def moreS (sum : Nat) (l : Bs) : Nat := ones ^^^ moreN l (ones ^^^ sum)
def sumS2 (l : Bs) : Nat := moreS 0 l
def le4 (n : Nat) : Bs := [UInt8.ofNat (n % 256), UInt8.ofNat (n / 256 % 256), UInt8.ofNat (n / 65536 % 256), UInt8.ofNat (n / 16777216 % 256)]
def sealS (l : Bs) : Bs := le4 (sumS2 l) ++ l
def openS (l : Bs) : Bs × Bool := if l.length < 4 then ([], false) else if (sealS (l.drop 4)).take 4 = l.take 4 then (l.drop 4, true) else ([], false)

theorem half_xor (a b : Nat) : (a ^^^ b) / 2 = (a / 2) ^^^ (b / 2) := by
  have e : ∀ n : Nat, n / 2 = n >>> 1 := fun n => by rw [Nat.shiftRight_eq_div_pow]
  rw [e, e, e, Nat.shiftRight_xor_distrib]
theorem odd_xor (a b : Nat) : (a ^^^ b) % 2 = (a % 2 + b % 2) % 2 := by
  have h := Nat.testBit_xor a b 0
  simp only [Nat.testBit_zero] at h
  rcases Nat.mod_two_eq_zero_or_one a with h1 | h1 <;> rcases Nat.mod_two_eq_zero_or_one b with h2 | h2 <;> rcases Nat.mod_two_eq_zero_or_one (a ^^^ b) with h3 | h3 <;> simp_all
theorem xor_swap (a b c d : Nat) : (a ^^^ b) ^^^ (c ^^^ d) = (a ^^^ c) ^^^ (b ^^^ d) := by
  rw [Nat.xor_assoc, Nat.xor_assoc, ← Nat.xor_assoc b c d, Nat.xor_comm b c, Nat.xor_assoc c b d]
theorem stepN_xor (a b : Nat) : stepN (a ^^^ b) = stepN a ^^^ stepN b := by
  unfold stepN
  rw [half_xor, odd_xor, xor_swap]
  congr 1
  rcases Nat.mod_two_eq_zero_or_one a with h1 | h1 <;> rcases Nat.mod_two_eq_zero_or_one b with h2 | h2 <;> simp [h1, h2]
theorem stepsN_xor (a b : Nat) : ∀ n, stepsN n (a ^^^ b) = stepsN n a ^^^ stepsN n b
  | 0 => rfl
  | n + 1 => by rw [stepsN, stepsN, stepsN, stepsN_xor a b n, stepN_xor]
theorem stepN_double (y : Nat) : stepN (2 * y) = y := by
  unfold stepN
  rw [if_neg (by omega), Nat.xor_zero]; omega
theorem stepsN_pow : ∀ (n y : Nat), stepsN n (2 ^ n * y) = y
  | 0, y => by simp [stepsN]
  | n + 1, y => by
    have := stepsN_pow n (2 * y)
    rw [stepsN, show 2 ^ (n + 1) * y = 2 ^ n * (2 * y) by rw [Nat.pow_succ, Nat.mul_assoc], this, stepN_double]
theorem stepN_lt (c : Nat) (h : c < 4294967296) : stepN c < 4294967296 := by
  unfold stepN
  refine Nat.xor_lt_two_pow (n := 32) (by omega) ?_
  split
  · unfold polyN; omega
  · omega
theorem stepsN_lt (c : Nat) (h : c < 4294967296) : ∀ n, stepsN n c < 4294967296
  | 0 => h
  | n + 1 => stepN_lt _ (stepsN_lt c h n)
theorem byteN_lt (c x : Nat) (h : c < 4294967296) (hx : x < 256) : byteN c x < 4294967296 :=
  stepsN_lt _ (Nat.xor_lt_two_pow (n := 32) (by omega) (by omega)) 8
theorem moreN_cons (b : UInt8) (l : Bs) (c : Nat) : moreN (b :: l) c = moreN l (byteN c b.toNat) := List.foldl_cons ..
theorem moreN_lt : ∀ (l : Bs) (c : Nat), c < 4294967296 → moreN l c < 4294967296
  | [], _, h => h
  | b :: l, c, h => by rw [moreN_cons]; exact moreN_lt l _ (byteN_lt c _ h b.toNat_lt)
theorem ones_lt : ones < 4294967296 := by unfold ones; omega
/-- A table's entry, and the higher bytes: eight steps at once. -/
theorem byteN_table (c x : Nat) (hx : x < 256) : byteN c x = stepsN 8 ((c % 256) ^^^ x) ^^^ (c / 256) := by
  have e1 : c = (c % 256) ^^^ (2 ^ 8 * (c / 256)) := by
    have h : 2 ^ 8 * (c / 256) + c % 256 = 2 ^ 8 * (c / 256) ||| c % 256 := Nat.two_pow_add_eq_or_of_lt (Nat.mod_lt _ (by omega)) _
    have h2 : (c % 256) &&& (2 ^ 8 * (c / 256)) = 0 := by
      apply Nat.eq_of_testBit_eq
      intro i
      rw [Nat.testBit_and, Nat.zero_testBit]
      rcases Nat.lt_or_ge i 8 with hi | hi
      · rw [Nat.testBit_two_pow_mul]
        simp [show ¬ 8 ≤ i by omega]
      · rw [Nat.testBit_lt_two_pow (x := c % 256) (Nat.lt_of_lt_of_le (Nat.mod_lt _ (by omega)) (Nat.pow_le_pow_right (n := 2) (by omega) hi))]
        rfl
    have h3 : (c % 256) ^^^ (2 ^ 8 * (c / 256)) = (c % 256) ||| (2 ^ 8 * (c / 256)) := by
      apply Nat.eq_of_testBit_eq
      intro i
      have := congrArg (fun n => Nat.testBit n i) h2
      simp only [Nat.testBit_and, Nat.zero_testBit] at this
      rw [Nat.testBit_xor, Nat.testBit_or]
      cases h4 : (c % 256).testBit i <;> cases h5 : (2 ^ 8 * (c / 256)).testBit i <;> simp_all
    rw [h3, Nat.or_comm, ← h]
    have := Nat.div_add_mod c 256
    omega
  unfold byteN
  conv => lhs; rw [e1]
  rw [Nat.xor_assoc, Nat.xor_comm (2 ^ 8 * (c / 256)) x, ← Nat.xor_assoc, stepsN_xor, stepsN_pow]
theorem le4_length (n : Nat) : (le4 n).length = 4 := rfl
theorem sealS_length (l : Bs) : (sealS l).length = l.length + 4 := by unfold sealS; rw [List.length_append, le4_length]; omega
theorem sealS_take (l : Bs) : (sealS l).take 4 = le4 (sumS2 l) := by unfold sealS; rw [← le4_length (sumS2 l), List.take_left]
theorem sealS_drop (l : Bs) : (sealS l).drop 4 = l := by unfold sealS; rw [← le4_length (sumS2 l), List.drop_left]
theorem openS_seal (l : Bs) : openS (sealS l) = (l, true) := by
  unfold openS
  rw [if_neg (by rw [sealS_length]; omega), sealS_drop, if_pos rfl]
/-- What is opened has just these bytes. -/
theorem openS_told (l : Bs) : (∃ s, openS l = (s, true) ∧ sealS s = l) ∨ openS l = ([], false) := by
  unfold openS
  by_cases h1 : l.length < 4
  · rw [if_pos h1]; exact .inr rfl
  rw [if_neg h1]
  by_cases h2 : (sealS (l.drop 4)).take 4 = l.take 4
  · rw [if_pos h2]
    refine .inl ⟨_, rfl, ?_⟩
    rw [sealS_take] at h2
    conv => rhs; rw [← List.take_append_drop 4 l, ← h2]
    rfl
  · rw [if_neg h2]; exact .inr rfl
end Go.Proofs.YthndpknocofioaaGreatDoor.Thw
/-! ## Layer 3 (record) in plain words: a record's bytes, the record that bytes begin with, many of them. No program in sight. -/
namespace Go.Proofs.YthndpknocofioaaGreatDoor.Thw
open Go
set_option linter.unusedVariables false

structure Rec where
  seq : Nat
  key : Bs
  val : Bs
  gone : Bool
deriving DecidableEq
def rec0 : Rec := ⟨0, [], [], false⟩
def rightS (r : Rec) : Bool := decide (1 ≤ r.seq) && decide (r.seq ≤ 1099511627776) && decide (1 ≤ r.key.length) && decide (r.key.length ≤ 40) && decide (r.val.length ≤ 300) && (!(r.gone && decide (r.val ≠ [])))
def recS (r : Rec) : Bs := if r.gone = true then putS (2 * r.seq + 1) ++ textS r.key else putS (2 * r.seq) ++ textS r.key ++ textS r.val
def bytesS (r : Rec) : Bs × Int := if rightS r = true then (recS r, 0) else ([], 1)
def readS (b : Bs) : Rec × Bs × Int :=
  if (takeS b).2.2 = 0 then
    (if (ofTextS (takeS b).2.1).2.2 = 0 then
      (if (takeS b).1 % 2 = 1 then
        (if rightS ⟨(takeS b).1 / 2, (ofTextS (takeS b).2.1).1, [], true⟩ = true then (⟨(takeS b).1 / 2, (ofTextS (takeS b).2.1).1, [], true⟩, (ofTextS (takeS b).2.1).2.1, 0) else (rec0, [], 2))
      else
        (if (ofTextS (ofTextS (takeS b).2.1).2.1).2.2 = 0 then
          (if rightS ⟨(takeS b).1 / 2, (ofTextS (takeS b).2.1).1, (ofTextS (ofTextS (takeS b).2.1).2.1).1, false⟩ = true then (⟨(takeS b).1 / 2, (ofTextS (takeS b).2.1).1, (ofTextS (ofTextS (takeS b).2.1).2.1).1, false⟩, (ofTextS (ofTextS (takeS b).2.1).2.1).2.1, 0) else (rec0, [], 2))
        else (rec0, [], (ofTextS (ofTextS (takeS b).2.1).2.1).2.2)))
    else (rec0, [], (ofTextS (takeS b).2.1).2.2))
  else (rec0, [], (takeS b).2.2)
def allS : List Rec → Bs × Int
  | [] => ([], 0)
  | r :: l => if rightS r = true then (if (allS l).2 = 0 then (recS r ++ (allS l).1, 0) else ([], (allS l).2)) else ([], 1)
def listR : Nat → Bs → List Rec × Int
  | 0, _ => ([], 0)
  | f + 1, b => if b = [] then ([], 0) else
    if (readS b).2.2 = 0 then (if (listR f (readS b).2.1).2 = 0 then ((readS b).1 :: (listR f (readS b).2.1).1, 0) else ([], (listR f (readS b).2.1).2)) else ([], (readS b).2.2)
def listS (b : Bs) : List Rec × Int := listR b.length b

theorem right_facts {r : Rec} (h : rightS r = true) : 1 ≤ r.seq ∧ r.seq ≤ 1099511627776 ∧ 1 ≤ r.key.length ∧ r.key.length ≤ 40 ∧ r.val.length ≤ 300 ∧ (r.gone = true → r.val = []) := by
  unfold rightS at h
  simp only [Bool.and_eq_true, decide_eq_true_eq, Bool.not_eq_true', Bool.and_eq_false_iff, decide_eq_false_iff_not] at h
  obtain ⟨⟨⟨⟨⟨h1, h2⟩, h3⟩, h4⟩, h5⟩, h6⟩ := h
  refine ⟨h1, h2, h3, h4, h5, fun hg => ?_⟩
  rcases h6 with h6 | h6
  · rw [hg] at h6; cases h6
  · exact Classical.not_not.mp h6
theorem textS_length (s : Bs) : (textS s).length ≤ 10 + s.length := by
  unfold textS
  have := putS_length s.length
  simp; omega
theorem recS_length {r : Rec} (h : rightS r = true) : (recS r).length ≤ 380 := by
  obtain ⟨h1, h2, h3, h4, h5, h6⟩ := right_facts h
  unfold recS
  have a := textS_length r.key
  have b := textS_length r.val
  have c := putS_length (2 * r.seq + 1)
  have d := putS_length (2 * r.seq)
  split <;> simp <;> omega
theorem recS_pos (r : Rec) : 0 < (recS r).length := by
  unfold recS
  have c := putS_pos (2 * r.seq + 1)
  have d := putS_pos (2 * r.seq)
  split <;> simp <;> omega
theorem recS_ne (r : Rec) : recS r ≠ [] := fun h => by have := recS_pos r; rw [h] at this; simp at this
theorem rec_eta (r : Rec) (hg : r.gone = true) (hv : r.val = []) : (⟨r.seq, r.key, [], true⟩ : Rec) = r := by cases r; simp at hg hv; subst hg hv; rfl
theorem rec_eta' (r : Rec) (hg : r.gone = false) : (⟨r.seq, r.key, r.val, false⟩ : Rec) = r := by cases r; simp at hg; subst hg; rfl
theorem readS_rec (r : Rec) (rest : Bs) (h : rightS r = true) : readS (recS r ++ rest) = (r, rest, 0) := by
  obtain ⟨h1, h2, h3, h4, h5, h6⟩ := right_facts h
  unfold recS
  cases hg : r.gone with
  | true =>
    have hv := h6 hg
    rw [if_pos rfl, List.append_assoc]
    unfold readS
    rw [takeS_put _ (by omega)]
    simp only []
    rw [ofTextS_text _ _ (by omega)]
    simp only []
    rw [if_pos trivial, if_pos trivial, if_pos (by omega), show (2 * r.seq + 1) / 2 = r.seq by omega, rec_eta r hg hv, if_pos h]
  | false =>
    rw [if_neg (by decide), List.append_assoc, List.append_assoc]
    unfold readS
    rw [takeS_put _ (by omega)]
    simp only []
    rw [ofTextS_text _ _ (by omega)]
    simp only []
    rw [ofTextS_text _ _ (by omega)]
    simp only []
    rw [if_pos trivial, if_pos trivial, if_neg (by omega), if_pos trivial, show (2 * r.seq) / 2 = r.seq by omega, rec_eta' r hg, if_pos h]
/-- What Read tells of any bytes. -/
def ReadTold (b : Bs) (x : Rec × Bs × Int) : Prop :=
  (x.2.2 = 0 ∧ rightS x.1 = true ∧ recS x.1 ++ x.2.1 = b ∧ x.2.1.length < b.length) ∨ (x = (rec0, [], 2) ∨ x = (rec0, [], 3))
theorem readS_told (b : Bs) : ReadTold b (readS b) := by
  unfold readS
  rcases takeS_told b with ⟨h1, h2, h3, h4, h5⟩ | h1 | h1
  · rw [if_pos h1]
    generalize hT : takeS b = T at *
    obtain ⟨n, b1, e1⟩ := T
    simp only [] at h1 h2 h3 h4 h5 ⊢
    rcases ofTextS_told b1 with ⟨k1, k2, k3⟩ | k1 | k1
    · rw [if_pos k1]
      generalize hO : ofTextS b1 = O at *
      obtain ⟨key, b2, e2⟩ := O
      simp only [] at k1 k2 k3 ⊢
      by_cases hn : n % 2 = 1
      · rw [if_pos hn]
        split
        · rename_i hr
          refine .inl ⟨rfl, hr, ?_, ?_⟩
          · simp only [recS, if_true]
            rw [show 2 * (n / 2) + 1 = n by omega, List.append_assoc, k2, h2]
          · show b2.length < b.length; omega
        · exact .inr (.inl rfl)
      · rw [if_neg hn]
        rcases ofTextS_told b2 with ⟨m1, m2, m3⟩ | m1 | m1
        · rw [if_pos m1]
          split
          · rename_i hr
            refine .inl ⟨rfl, hr, ?_, ?_⟩
            · simp only [recS]
              rw [if_neg (by decide), show 2 * (n / 2) = n by omega, List.append_assoc, List.append_assoc, m2, k2, h2]
            · show (ofTextS b2).2.1.length < b.length; omega
          · exact .inr (.inl rfl)
        · rw [m1]; exact .inr (.inl rfl)
        · rw [m1]; exact .inr (.inr rfl)
    · rw [k1]; exact .inr (.inl rfl)
    · rw [k1]; exact .inr (.inr rfl)
  · rw [h1]; exact .inr (.inl rfl)
  · rw [h1]; exact .inr (.inr rfl)
theorem take_front (a b : Bs) (c : Nat) (h : c < a.length) : (a ++ b).take c = a.take c := List.take_append_of_le_length (by omega)
theorem take_behind (a b : Bs) (c : Nat) (h : a.length ≤ c) : (a ++ b).take c = a ++ b.take (c - a.length) := by rw [List.take_append, List.take_of_length_le h]
/-- Many, one behind the other. -/
theorem allS_right : ∀ l : List Rec, (allS l).2 = 0 ∧ (∀ r ∈ l, rightS r = true) ∨ allS l = ([], 1)
  | [] => .inl ⟨rfl, by simp⟩
  | r :: l => by
    unfold allS
    cases hr : rightS r with
    | false => exact .inr rfl
    | true =>
      rw [if_pos rfl]
      rcases allS_right l with ⟨h1, h2⟩ | h1
      · rw [if_pos h1]
        refine .inl ⟨rfl, fun x hx => ?_⟩
        rcases List.mem_cons.mp hx with rfl | hx
        · exact hr
        · exact h2 x hx
      · rw [h1]; exact .inr rfl
theorem allS_cons {r : Rec} {l : List Rec} (h : (allS (r :: l)).2 = 0) : rightS r = true ∧ (allS l).2 = 0 ∧ allS (r :: l) = (recS r ++ (allS l).1, 0) := by
  rcases allS_right (r :: l) with ⟨h1, h2⟩ | h1
  · have hr := h2 r (by simp)
    rcases allS_right l with ⟨h3, h4⟩ | h3
    · exact ⟨hr, h3, by rw [allS, if_pos hr, if_pos h3]⟩
    · rw [allS, if_pos hr, h3, if_neg (by decide)] at h; exact absurd h (by decide)
  · rw [h1] at h; exact absurd h (by decide)
theorem allS_length : ∀ l : List Rec, (allS l).1.length ≤ 380 * l.length
  | [] => by simp [allS]
  | r :: l => by
    rw [allS]
    have := allS_length l
    split
    · rename_i hr
      have := recS_length hr
      split <;> simp <;> omega
    · simp
theorem listR_all : ∀ (l : List Rec) (f : Nat), (allS l).2 = 0 → (allS l).1.length ≤ f → listR f (allS l).1 = (l, 0)
  | [], 0, _, _ => rfl
  | [], f + 1, _, _ => rfl
  | r :: l, f, h, hf => by
    obtain ⟨hr, hl, he⟩ := allS_cons h
    rw [he] at hf ⊢
    have hp := recS_pos r
    simp only [List.length_append] at hf ⊢
    match f, hf with
    | 0, hf => omega
    | f + 1, hf =>
      rw [listR, if_neg (fun e => recS_ne r (List.append_eq_nil_iff.mp e).1), readS_rec r _ hr]
      simp only []
      rw [listR_all l f hl (by omega)]
      rfl
theorem listS_all (l : List Rec) (h : (allS l).2 = 0) : listS (allS l).1 = (l, 0) := listR_all l _ h (Nat.le_refl _)
theorem listR_told : ∀ (f : Nat) (b : Bs), b.length ≤ f → ((listR f b).2 = 0 ∧ allS (listR f b).1 = (b, 0) ∧ (listR f b).1.length ≤ b.length) ∨ (listR f b = ([], 2) ∨ listR f b = ([], 3))
  | 0, b, h => by
    have : b = [] := List.length_eq_zero_iff.mp (by omega)
    subst this
    exact .inl ⟨rfl, rfl, by simp [listR]⟩
  | f + 1, b, h => by
    rw [listR]
    by_cases hb : b = []
    · subst hb; exact .inl ⟨rfl, rfl, by simp⟩
    rw [if_neg hb]
    rcases readS_told b with ⟨h1, h2, h3, h4⟩ | h1 | h1
    · rw [if_pos h1]
      rcases listR_told f (readS b).2.1 (by omega) with ⟨k1, k2, k3⟩ | k1 | k1
      · rw [if_pos k1]
        refine .inl ⟨rfl, ?_, by simp only [List.length_cons]; omega⟩
        rw [allS, if_pos h2, k2, if_pos rfl]
        simp only []
        rw [h3]
      · rw [k1]; exact .inr (.inl rfl)
      · rw [k1]; exact .inr (.inr rfl)
    · rw [h1]; exact .inr (.inl rfl)
    · rw [h1]; exact .inr (.inr rfl)
theorem listS_told (b : Bs) : ((listS b).2 = 0 ∧ allS (listS b).1 = (b, 0) ∧ (listS b).1.length ≤ b.length) ∨ (listS b = ([], 2) ∨ listS b = ([], 3)) := listR_told b.length b (Nat.le_refl _)
end Go.Proofs.YthndpknocofioaaGreatDoor.Thw
/-! ## Layer 4 (frame) in plain words: a batch's bytes, the batch that bytes begin with, all of them. No program in sight. -/
namespace Go.Proofs.YthndpknocofioaaGreatDoor.Thw
open Go
set_option linter.unusedVariables false

def fitsS (l : List Rec) : Bool := decide (1 ≤ l.length) && decide (l.length ≤ 16)
def frameS (l : List Rec) : Bs × Int := if fitsS l = true then (if (allS l).2 = 0 then (textS (sealS (allS l).1), 0) else ([], (allS l).2)) else ([], 1)
def takeF (b : Bs) : List Rec × Int × Int :=
  if (ofTextS b).2.2 = 0 then
    (if (openS (ofTextS b).1).2 = true then
      (if (listS (openS (ofTextS b).1).1).2 = 0 then
        (if fitsS (listS (openS (ofTextS b).1).1).1 = true then ((listS (openS (ofTextS b).1).1).1, (b.length : Int) - ((ofTextS b).2.1.length : Int), 0) else ([], 0, 2))
      else ([], 0, 2))
    else ([], 0, 4))
  else ([], 0, (ofTextS b).2.2)
def scanR : Nat → Bs → List (List Rec) × Nat
  | 0, _ => ([], 0)
  | f + 1, b => if (takeF b).2.2 = 0 then ((takeF b).1 :: (scanR f (b.drop (takeF b).2.1.toNat)).1, (takeF b).2.1.toNat + (scanR f (b.drop (takeF b).2.1.toNat)).2) else ([], 0)
def scanS (b : Bs) : List (List Rec) × Nat := scanR b.length b

theorem fits_facts {l : List Rec} (h : fitsS l = true) : 1 ≤ l.length ∧ l.length ≤ 16 := by
  unfold fitsS at h
  simpa using h
theorem frameS_ok {l : List Rec} (h : (frameS l).2 = 0) : fitsS l = true ∧ (allS l).2 = 0 ∧ frameS l = (textS (sealS (allS l).1), 0) := by
  unfold frameS at h ⊢
  cases hf : fitsS l with
  | false => rw [hf, if_neg (by decide)] at h; exact absurd h (by decide)
  | true =>
    rw [hf, if_pos rfl] at h
    by_cases ha : (allS l).2 = 0
    · exact ⟨rfl, ha, by rw [if_pos rfl, if_pos ha]⟩
    · rw [if_neg ha] at h; exact absurd h ha
theorem frameS_bad {l : List Rec} (h : (frameS l).2 ≠ 0) : frameS l = ([], 1) := by
  unfold frameS at h ⊢
  cases hf : fitsS l with
  | false => rfl
  | true =>
    rw [hf, if_pos rfl] at h
    rw [if_pos rfl]
    rcases allS_right l with ⟨h1, _⟩ | h1
    · rw [if_pos h1] at h; exact absurd rfl h
    · rw [h1, if_neg (by decide)]
theorem seal_len {l : List Rec} (h : fitsS l = true) : (sealS (allS l).1).length ≤ 7000 := by
  have h1 := allS_length l
  have h2 := fits_facts h
  rw [sealS_length]
  omega
theorem takeF_frame (l : List Rec) (rest : Bs) (h : (frameS l).2 = 0) : takeF ((frameS l).1 ++ rest) = (l, ((frameS l).1.length : Int), 0) := by
  obtain ⟨h1, h2, h3⟩ := frameS_ok h
  have hz := seal_len h1
  rw [h3]
  unfold takeF
  rw [ofTextS_text _ _ (by omega), openS_seal, listS_all l h2]
  simp only [if_true, h1]
  simp
theorem takeF_cut (l : List Rec) (c : Nat) (h : (frameS l).2 = 0) (hc : c < (frameS l).1.length) : takeF ((frameS l).1.take c) = ([], 0, 3) := by
  obtain ⟨h1, h2, h3⟩ := frameS_ok h
  have hz := seal_len h1
  rw [h3] at hc ⊢
  unfold takeF
  rw [ofTextS_cut _ (by omega) _ hc]
  rfl
theorem frameS_length {l : List Rec} (h : (frameS l).2 = 0) : 0 < (frameS l).1.length ∧ (frameS l).1.length ≤ 7100 := by
  obtain ⟨h1, h2, h3⟩ := frameS_ok h
  have hz := seal_len h1
  have ht := textS_length (sealS (allS l).1)
  rw [h3]
  refine ⟨?_, by show (textS _).length ≤ _; omega⟩
  show 0 < (textS _).length
  unfold textS
  have := putS_pos (sealS (allS l).1).length
  simp; omega
/-- What Take tells of any bytes. -/
def FrameTold (b : Bs) (x : List Rec × Int × Int) : Prop :=
  (x.2.2 = 0 ∧ (frameS x.1).2 = 0 ∧ ∃ rest, (frameS x.1).1 ++ rest = b ∧ x.2.1 = ((frameS x.1).1.length : Int)) ∨ (x.1 = [] ∧ x.2.1 = 0 ∧ x.2.2 ≠ 0)
theorem takeF_told (b : Bs) : FrameTold b (takeF b) := by
  unfold takeF
  rcases ofTextS_told b with ⟨h1, h2, h3⟩ | h1 | h1
  · rw [if_pos h1]
    generalize hO : ofTextS b = O at *
    obtain ⟨t, rest, e⟩ := O
    simp only [] at h1 h2 h3 ⊢
    rcases openS_told t with ⟨s, k1, k2⟩ | k1
    · rw [k1]
      simp only [if_true]
      rcases listS_told s with ⟨m1, m2, m3⟩ | m1 | m1
      · rw [if_pos m1]
        cases hf : fitsS (listS s).1 with
        | false => exact .inr ⟨rfl, rfl, show (2 : Int) ≠ 0 by decide⟩
        | true =>
          have hfr : frameS (listS s).1 = (textS t, 0) := by
            unfold frameS
            rw [hf, if_pos rfl, m2, if_pos rfl]
            show (textS (sealS s), (0 : Int)) = _
            rw [k2]
          refine .inl ⟨rfl, ?_, rest, ?_, ?_⟩
          · show (frameS (listS s).1).2 = 0
            rw [hfr]
          · show (frameS (listS s).1).1 ++ rest = b
            rw [hfr]; exact h2
          · show (b.length : Int) - (rest.length : Int) = ((frameS (listS s).1).1.length : Int)
            rw [hfr, ← h2]
            simp
      · rw [m1]; exact .inr ⟨rfl, rfl, show (2 : Int) ≠ 0 by decide⟩
      · rw [m1]; exact .inr ⟨rfl, rfl, show (2 : Int) ≠ 0 by decide⟩
    · rw [k1]; exact .inr ⟨rfl, rfl, show (4 : Int) ≠ 0 by decide⟩
  · rw [h1]; exact .inr ⟨rfl, rfl, show (2 : Int) ≠ 0 by decide⟩
  · rw [h1]; exact .inr ⟨rfl, rfl, show (3 : Int) ≠ 0 by decide⟩
theorem takeF_range (b : Bs) : 0 ≤ (takeF b).2.1 ∧ (takeF b).2.1 ≤ b.length ∧ ((takeF b).2.2 = 0 → 0 < (takeF b).2.1) ∧ (takeF b).1.length ≤ 16 := by
  rcases takeF_told b with ⟨h1, h2, rest, h3, h4⟩ | ⟨h1, h2, h3⟩
  · obtain ⟨k1, k2⟩ := frameS_length h2
    have : ((frameS (takeF b).1).1 ++ rest).length = b.length := by rw [h3]
    rw [List.length_append] at this
    exact ⟨by omega, by omega, fun _ => by omega, (fits_facts (frameS_ok h2).1).2⟩
  · exact ⟨by omega, by omega, fun h => absurd h h3, by rw [h1]; simp⟩
def framesS (ls : List (List Rec)) : Bs := (ls.map fun l => (frameS l).1).flatten
theorem scanR_frames : ∀ (ls : List (List Rec)) (tail : Bs) (f : Nat), (∀ l ∈ ls, (frameS l).2 = 0) → (takeF tail).2.2 ≠ 0 → (framesS ls ++ tail).length ≤ f →
    scanR f (framesS ls ++ tail) = (ls, (framesS ls).length)
  | [], tail, 0, _, _, _ => rfl
  | [], tail, f + 1, _, ht, _ => by
    show scanR (f + 1) tail = _
    rw [scanR, if_neg ht]
    rfl
  | l :: ls, tail, f, h, ht, hf => by
    have hl := h l (by simp)
    obtain ⟨h1, h2⟩ := frameS_length hl
    have e : framesS (l :: ls) ++ tail = (frameS l).1 ++ (framesS ls ++ tail) := by simp [framesS]
    rw [e] at hf ⊢
    rw [List.length_append] at hf
    match f, hf with
    | 0, hf => omega
    | f + 1, hf =>
      rw [scanR, takeF_frame l _ hl]
      simp only [if_true, Int.toNat_natCast, List.drop_left]
      rw [scanR_frames ls tail f (fun x hx => h x (by simp [hx])) ht (by omega)]
      simp [framesS]
theorem scanR_len : ∀ (f : Nat) (b : Bs), (scanR f b).1.length ≤ b.length ∧ (scanR f b).2 ≤ b.length ∧ ∀ l ∈ (scanR f b).1, l.length ≤ 16
  | 0, b => by simp [scanR]
  | f + 1, b => by
    rw [scanR]
    obtain ⟨h1, h2, h3, h4⟩ := takeF_range b
    by_cases h : (takeF b).2.2 = 0
    · rw [if_pos h]
      have h3 := h3 h
      obtain ⟨k1, k2, k3⟩ := scanR_len f (b.drop (takeF b).2.1.toNat)
      rw [List.length_drop] at k1 k2
      refine ⟨by simp only [List.length_cons]; omega, by show _ + _ ≤ _; omega, fun l hl => ?_⟩
      rcases List.mem_cons.mp hl with rfl | hl
      · exact h4
      · exact k3 l hl
    · rw [if_neg h]; simp
end Go.Proofs.YthndpknocofioaaGreatDoor.Thw
/-! ## Layer 5 (hint) in plain words: entries' bytes, the entries of bytes. No program in sight. -/
namespace Go.Proofs.YthndpknocofioaaGreatDoor.Thw
open Go
set_option linter.unusedVariables false

structure Ent where
  key : Bs
  off : Int
  len : Int
  seq : Nat
  gone : Bool
deriving DecidableEq
def rightE (e : Ent) : Bool := decide (1 ≤ e.key.length ∧ e.key.length ≤ 40 ∧ 0 ≤ e.off ∧ e.off ≤ 1048576 ∧ 1 ≤ e.len ∧ e.len ≤ 400 ∧ 1 ≤ e.seq ∧ e.seq ≤ 1099511627776)
def flagN (g : Bool) : Nat := if g = true then 1 else 0
def oneE (e : Ent) : Bs := textS e.key ++ putS e.off.toNat ++ putS (2 * e.len.toNat + flagN e.gone) ++ putS e.seq
def bodyE : List Ent → Bs
  | [] => []
  | e :: l => oneE e ++ bodyE l
def allRight (l : List Ent) : Bool := l.all rightE
def bytesE (l : List Ent) : Bs × Int := if l.length ≤ 2000 then (if allRight l = true then (sealS (putS l.length ++ bodyE l), 0) else ([], 1)) else ([], 1)
/-- The entry that bytes begin with, what is behind it, and whether all of it could be taken. -/
def rawE (s : Bs) : (Bs × Nat × Nat × Nat) × Bs × Bool :=
  let t := ofTextS s
  let a := takeS t.2.1
  let b := takeS a.2.1
  let c := takeS b.2.1
  ((t.1, a.1, b.1, c.1), c.2.1, decide (t.2.2 = 0 ∧ a.2.2 = 0 ∧ b.2.2 = 0 ∧ c.2.2 = 0))
def entE (x : Bs × Nat × Nat × Nat) : Ent := ⟨x.1, (min x.2.1 1048577 : Nat), (min (x.2.2.1 / 2) 401 : Nat), x.2.2.2, decide (x.2.2.1 % 2 = 1)⟩
/-- Read's loop: the entries, or none if it is no such text. -/
def entsR : Nat → Bs → Option (List Ent)
  | 0, s => if s = [] then some [] else none
  | f + 1, s => if s = [] then some [] else
    if (rawE s).2.2 = true ∧ rightE (entE (rawE s).1) = true then (entsR f (rawE s).2.1).bind fun l => some (entE (rawE s).1 :: l) else none
def readE (b : Bs) : List Ent × Int :=
  if (openS b).2 = true then
    (if (takeS (openS b).1).2.2 = 0 then
      (match entsR (takeS (openS b).1).2.1.length (takeS (openS b).1).2.1 with
       | some l => if l.length ≤ 2000 ∧ l.length = (takeS (openS b).1).1 then (l, 0) else ([], 2)
       | none => ([], 2))
    else ([], 2))
  else ([], 4)

theorem rightE_facts {e : Ent} (h : rightE e = true) : 1 ≤ e.key.length ∧ e.key.length ≤ 40 ∧ 0 ≤ e.off ∧ e.off ≤ 1048576 ∧ 1 ≤ e.len ∧ e.len ≤ 400 ∧ 1 ≤ e.seq ∧ e.seq ≤ 1099511627776 := of_decide_eq_true h
theorem flagN_le (g : Bool) : flagN g ≤ 1 := by unfold flagN; split <;> omega
theorem oneE_length {e : Ent} (h : rightE e = true) : 4 ≤ (oneE e).length ∧ (oneE e).length ≤ 80 := by
  obtain ⟨h1, h2, h3, h4, h5, h6, h7, h8⟩ := rightE_facts h
  unfold oneE
  have a := textS_length e.key
  have a' : 0 < (textS e.key).length := by unfold textS; have := putS_pos e.key.length; simp; omega
  have b := putS_length e.off.toNat
  have b' := putS_pos e.off.toNat
  have c := putS_length (2 * e.len.toNat + flagN e.gone)
  have c' := putS_pos (2 * e.len.toNat + flagN e.gone)
  have d := putS_length e.seq
  have d' := putS_pos e.seq
  simp; omega
theorem rawE_one (e : Ent) (rest : Bs) (h : rightE e = true) : rawE (oneE e ++ rest) = ((e.key, e.off.toNat, 2 * e.len.toNat + flagN e.gone, e.seq), rest, true) := by
  obtain ⟨h1, h2, h3, h4, h5, h6, h7, h8⟩ := rightE_facts h
  have hg := flagN_le e.gone
  unfold rawE oneE
  simp only [List.append_assoc]
  rw [ofTextS_text _ _ (by omega)]
  simp only []
  rw [takeS_put _ (by omega)]
  simp only []
  rw [takeS_put _ (by omega)]
  simp only []
  rw [takeS_put _ (by omega)]
  simp
theorem entE_one (e : Ent) (h : rightE e = true) : entE (e.key, e.off.toNat, 2 * e.len.toNat + flagN e.gone, e.seq) = e := by
  obtain ⟨h1, h2, h3, h4, h5, h6, h7, h8⟩ := rightE_facts h
  obtain ⟨key, off, len, seq, gone⟩ := e
  unfold entE flagN
  simp only [] at h3 h4 h5 h6 ⊢
  cases gone
  · simp only [Ent.mk.injEq, true_and]
    refine ⟨by omega, by simp; omega, by simp⟩
  · simp only [Ent.mk.injEq, true_and]
    refine ⟨by omega, by simp; omega, by first | (simp; done) | (simp; omega)⟩
/-- What is taken for an entry that may be has just that entry's bytes. -/
theorem rawE_told (s : Bs) (h : (rawE s).2.2 = true) (hr : rightE (entE (rawE s).1) = true) : oneE (entE (rawE s).1) ++ (rawE s).2.1 = s ∧ (rawE s).2.1.length < s.length := by
  unfold rawE at h hr ⊢
  simp only [decide_eq_true_eq] at h hr ⊢
  obtain ⟨e1, e2, e3, e4⟩ := h
  have t1 := ofTextS_told s
  generalize ofTextS s = T at *
  obtain ⟨key, r1, x1⟩ := T
  simp only [] at e1 e2 e3 e4 hr ⊢
  have t2 := takeS_told r1
  generalize takeS r1 = A at *
  obtain ⟨a, r2, x2⟩ := A
  simp only [] at e2 e3 e4 hr ⊢
  have t3 := takeS_told r2
  generalize takeS r2 = B at *
  obtain ⟨b, r3, x3⟩ := B
  simp only [] at e3 e4 hr ⊢
  have t4 := takeS_told r3
  generalize takeS r3 = C at *
  obtain ⟨c, r4, x4⟩ := C
  simp only [] at e4 hr ⊢
  subst e1 e2 e3 e4
  obtain ⟨_, p1, p2⟩ : (0 : Int) = 0 ∧ textS key ++ r1 = s ∧ r1.length < s.length := by
    rcases t1 with h | h | h
    · exact h
    · injection h with _ h; injection h with _ h; exact absurd h (by decide)
    · injection h with _ h; injection h with _ h; exact absurd h (by decide)
  obtain ⟨_, q1, _, _, q2⟩ : (0 : Int) = 0 ∧ putS a ++ r2 = r1 ∧ a < 18446744073709551616 ∧ r1.length ≤ r2.length + 10 ∧ r2.length < r1.length := by
    rcases t2 with h | h | h
    · exact h
    · injection h with _ h; injection h with _ h; exact absurd h (by decide)
    · injection h with _ h; injection h with _ h; exact absurd h (by decide)
  obtain ⟨_, u1, _, _, u2⟩ : (0 : Int) = 0 ∧ putS b ++ r3 = r2 ∧ b < 18446744073709551616 ∧ r2.length ≤ r3.length + 10 ∧ r3.length < r2.length := by
    rcases t3 with h | h | h
    · exact h
    · injection h with _ h; injection h with _ h; exact absurd h (by decide)
    · injection h with _ h; injection h with _ h; exact absurd h (by decide)
  obtain ⟨_, v1, _, _, v2⟩ : (0 : Int) = 0 ∧ putS c ++ r4 = r3 ∧ c < 18446744073709551616 ∧ r3.length ≤ r4.length + 10 ∧ r4.length < r3.length := by
    rcases t4 with h | h | h
    · exact h
    · injection h with _ h; injection h with _ h; exact absurd h (by decide)
    · injection h with _ h; injection h with _ h; exact absurd h (by decide)
  obtain ⟨h1, h2, h3, h4, h5, h6, h7, h8⟩ := rightE_facts hr
  unfold entE at h3 h4 h5 h6
  simp only [] at h3 h4 h5 h6
  have ea : (((min a 1048577 : Nat) : Int)).toNat = a := by omega
  have eb : 2 * (((min (b / 2) 401 : Nat) : Int)).toNat + flagN (decide (b % 2 = 1)) = b := by
    unfold flagN
    by_cases hb : b % 2 = 1
    · rw [decide_eq_true hb, if_pos rfl]; omega
    · rw [decide_eq_false hb, if_neg (by decide)]; omega
  refine ⟨?_, by omega⟩
  unfold oneE entE
  simp only []
  rw [ea, eb, List.append_assoc, List.append_assoc, List.append_assoc, v1, u1, q1, p1]
theorem entsR_body : ∀ (l : List Ent) (f : Nat), allRight l = true → (bodyE l).length ≤ f → entsR f (bodyE l) = some l
  | [], 0, _, _ => rfl
  | [], f + 1, _, _ => rfl
  | e :: l, f, h, hf => by
    unfold allRight at h
    rw [List.all_cons, Bool.and_eq_true] at h
    obtain ⟨h1, h2⟩ := h
    obtain ⟨z1, z2⟩ := oneE_length h1
    rw [bodyE, List.length_append] at hf
    match f, hf with
    | 0, hf => omega
    | g + 1, hf =>
      have hne : ¬ (oneE e ++ bodyE l = []) := fun x => by have := congrArg List.length x; rw [List.length_append, List.length_nil] at this; omega
      rw [bodyE, entsR, if_neg hne, rawE_one e _ h1]
      simp only []
      rw [entE_one e h1, if_pos ⟨trivial, h1⟩, entsR_body l g h2 (by omega)]
      rfl
theorem bytesE_ok {l : List Ent} (h : (bytesE l).2 = 0) : l.length ≤ 2000 ∧ allRight l = true ∧ bytesE l = (sealS (putS l.length ++ bodyE l), 0) := by
  unfold bytesE at h ⊢
  by_cases h1 : l.length ≤ 2000
  · rw [if_pos h1] at h ⊢
    cases h2 : allRight l with
    | true => exact ⟨h1, rfl, rfl⟩
    | false => rw [h2, if_neg (by decide)] at h; exact absurd h (by decide)
  · rw [if_neg h1] at h; exact absurd h (by decide)
theorem readE_bytes (l : List Ent) (h : (bytesE l).2 = 0) : readE (bytesE l).1 = (l, 0) := by
  obtain ⟨h1, h2, h3⟩ := bytesE_ok h
  rw [h3]
  unfold readE
  rw [openS_seal]
  simp only [if_true]
  rw [takeS_put _ (by omega)]
  simp only [if_true]
  rw [entsR_body l _ h2 (Nat.le_refl _)]
  simp only []
  rw [if_pos ⟨h1, trivial⟩]
end Go.Proofs.YthndpknocofioaaGreatDoor.Thw
/-! ## Layer 5 (hint) in plain words: the entries of a segment's bytes, the record that an entry tells of. No program in sight. -/
namespace Go.Proofs.YthndpknocofioaaGreatDoor.Thw
open Go
set_option linter.unusedVariables false
def batchE : Nat → List Rec → List Ent
  | _, [] => []
  | off, r :: l => ⟨r.key, (off : Int), ((recS r).length : Int), r.seq, r.gone⟩ :: batchE (off + (recS r).length) l
def ofL : Nat → List (List Rec) → List Ent
  | _, [] => []
  | at_, l :: ls => batchE (at_ + (frameS l).1.length - (allS l).1.length) l ++ ofL (at_ + (frameS l).1.length) ls
def atX (x : Rec × Bs × Int) (e : Ent) : Rec × Int := if x.2.2 = 0 ∧ x.2.1 = [] ∧ e.key = x.1.key ∧ e.seq = x.1.seq ∧ e.gone = x.1.gone then (x.1, 0) else (rec0, 2)
def atE (b : Bs) (e : Ent) : Rec × Int := if rightE e = true ∧ e.off + e.len ≤ (b.length : Int) then atX (readS ((b.drop e.off.toNat).take e.len.toNat)) e else (rec0, 1)
theorem batchE_length : ∀ (l : List Rec) (off : Nat), (batchE off l).length = l.length
  | [], _ => rfl
  | r :: l, off => by rw [batchE, List.length_cons, batchE_length l, List.length_cons]
theorem ofL_length : ∀ (ls : List (List Rec)) (at_ : Nat), (ofL at_ ls).length = ls.flatten.length
  | [], _ => rfl
  | l :: ls, at_ => by rw [ofL, List.length_append, batchE_length, ofL_length ls, List.flatten_cons, List.length_append]
theorem ofL_append : ∀ (ls ms : List (List Rec)) (at_ : Nat), ofL at_ (ls ++ ms) = ofL at_ ls ++ ofL (at_ + (framesS ls).length) ms
  | [], ms, at_ => by simp [ofL, framesS]
  | l :: ls, ms, at_ => by
    rw [List.cons_append, ofL, ofL, ofL_append ls ms, List.append_assoc]
    simp [framesS, Nat.add_assoc]
/-- A batch's bytes end with its records'. -/
theorem frameS_end {l : List Rec} (h : (frameS l).2 = 0) : ∃ hd, (frameS l).1 = hd ++ (allS l).1 := by
  obtain ⟨h1, h2, h3⟩ := frameS_ok h
  rw [h3]
  exact ⟨putS (sealS (allS l).1).length ++ le4 (sumS2 (allS l).1), by show textS _ = _; unfold textS sealS; rw [List.append_assoc]⟩
theorem frameS_all_le {l : List Rec} (h : (frameS l).2 = 0) : (allS l).1.length ≤ (frameS l).1.length := by
  obtain ⟨hd, e⟩ := frameS_end h
  rw [e, List.length_append]; omega
def eachOk (b : Bs) : List Ent → List Rec → Prop
  | [], [] => True
  | e :: E, r :: R => atE b e = (r, 0) ∧ eachOk b E R
  | _, _ => False
theorem eachOk_append (b : Bs) : ∀ (E : List Ent) (R : List Rec) (E2 : List Ent) (R2 : List Rec), eachOk b E R → eachOk b E2 R2 → eachOk b (E ++ E2) (R ++ R2)
  | [], [], _, _, _, h => h
  | e :: E, r :: R, E2, R2, h, h2 => ⟨h.1, eachOk_append b E R E2 R2 h.2 h2⟩
  | [], _ :: _, _, _, h, _ => h.elim
  | _ :: _, [], _, _, h, _ => h.elim
theorem eachOk_get (b : Bs) : ∀ (E : List Ent) (R : List Rec), eachOk b E R → ∀ i (h : i < E.length) (h' : i < R.length), atE b E[i] = (R[i], 0)
  | [], [], _, i, h, _ => absurd h (by simp)
  | e :: E, r :: R, hh, 0, _, _ => hh.1
  | e :: E, r :: R, hh, i + 1, h, h' => eachOk_get b E R hh.2 i (by simpa using h) (by simpa using h')
  | [], _ :: _, h, _, _, _ => h.elim
  | _ :: _, [], h, _, _, _ => h.elim
theorem atE_rec (pre post : Bs) (r : Rec) (h : rightS r = true) (hs : pre.length ≤ 1048576) : atE (pre ++ recS r ++ post) ⟨r.key, (pre.length : Int), ((recS r).length : Int), r.seq, r.gone⟩ = (r, 0) := by
  obtain ⟨h1, h2, h3, h4, h5, h6⟩ := right_facts h
  have hl := recS_length h
  have hp := recS_pos r
  unfold atE
  have hr : rightE ⟨r.key, (pre.length : Int), ((recS r).length : Int), r.seq, r.gone⟩ = true := by
    unfold rightE
    refine decide_eq_true ?_
    simp only []
    omega
  rw [if_pos ⟨hr, by simp only [List.length_append]; omega⟩]
  have e : ((pre ++ recS r ++ post).drop ((pre.length : Int)).toNat).take (((recS r).length : Int)).toNat = recS r := by
    rw [Int.toNat_natCast, Int.toNat_natCast, List.append_assoc, List.drop_left, List.take_left]
  simp only [e]
  have hrd := readS_rec r [] h
  rw [List.append_nil] at hrd
  rw [hrd]
  unfold atX
  rw [if_pos ⟨rfl, rfl, rfl, rfl, rfl⟩]
theorem each_batch : ∀ (l : List Rec) (pre post : Bs), (allS l).2 = 0 → pre.length + (allS l).1.length ≤ 1048576 → eachOk (pre ++ (allS l).1 ++ post) (batchE pre.length l) l
  | [], _, _, _, _ => trivial
  | r :: l, pre, post, h, hs => by
    obtain ⟨k1, k2, k3⟩ := allS_cons h
    rw [k3] at hs ⊢
    simp only [List.length_append] at hs
    simp only []
    have e : pre ++ (recS r ++ (allS l).1) ++ post = pre ++ recS r ++ ((allS l).1 ++ post) := by simp
    have e2 : pre ++ (recS r ++ (allS l).1) ++ post = (pre ++ recS r) ++ (allS l).1 ++ post := by simp
    rw [batchE]
    refine ⟨by rw [e]; exact atE_rec pre _ r k1 (by omega), ?_⟩
    rw [e2, show pre.length + (recS r).length = (pre ++ recS r).length by rw [List.length_append]]
    exact each_batch l (pre ++ recS r) post k2 (by rw [List.length_append]; omega)
theorem each_all : ∀ (ls : List (List Rec)) (pre post : Bs), (∀ l ∈ ls, (frameS l).2 = 0) → pre.length + (framesS ls).length ≤ 1048576 → eachOk (pre ++ framesS ls ++ post) (ofL pre.length ls) ls.flatten
  | [], _, _, _, _ => trivial
  | l :: ls, pre, post, h, hs => by
    have hl := h l (by simp)
    obtain ⟨hd, e⟩ := frameS_end hl
    obtain ⟨f1, f2, f3⟩ := frameS_ok hl
    have ef : framesS (l :: ls) = (frameS l).1 ++ framesS ls := by simp [framesS]
    rw [ef] at hs ⊢
    rw [List.length_append] at hs
    rw [ofL, List.flatten_cons]
    refine eachOk_append _ _ _ _ _ ?_ ?_
    · rw [show pre ++ ((frameS l).1 ++ framesS ls) ++ post = (pre ++ hd) ++ (allS l).1 ++ (framesS ls ++ post) by rw [e]; simp,
        show pre.length + (frameS l).1.length - (allS l).1.length = (pre ++ hd).length by rw [e]; simp only [List.length_append]; omega]
      refine each_batch l _ _ f2 ?_
      rw [e] at hs
      simp only [List.length_append] at hs ⊢
      omega
    · rw [show pre ++ ((frameS l).1 ++ framesS ls) ++ post = (pre ++ (frameS l).1) ++ framesS ls ++ post by simp, show pre.length + (frameS l).1.length = (pre ++ (frameS l).1).length by rw [List.length_append]]
      exact each_all ls _ post (fun x hx => h x (by simp [hx])) (by rw [List.length_append]; omega)
theorem atE_right {b : Bs} {e : Ent} {r : Rec} (h : atE b e = (r, 0)) : rightE e = true := by
  unfold atE at h
  by_cases h1 : rightE e = true ∧ e.off + e.len ≤ (b.length : Int)
  · exact h1.1
  · rw [if_neg h1] at h; cases h
theorem allS_drop : ∀ (l : List Rec) (j : Nat), (allS l).2 = 0 → (allS (l.drop j)).2 = 0 ∧ (allS (l.drop j)).1.length ≤ (allS l).1.length
  | l, 0, h => ⟨h, Nat.le_refl _⟩
  | [], j + 1, h => ⟨h, Nat.le_refl _⟩
  | r :: l, j + 1, h => by
    obtain ⟨k1, k2, k3⟩ := allS_cons h
    obtain ⟨a, b⟩ := allS_drop l j k2
    rw [k3]
    refine ⟨a, ?_⟩
    show (allS (l.drop j)).1.length ≤ (recS r ++ (allS l).1).length
    rw [List.length_append]
    omega
theorem allS_step (l : List Rec) (j : Nat) (hj : j < l.length) (h : (allS l).2 = 0) : rightS l[j] = true ∧ (allS (l.drop j)).1 = recS l[j] ++ (allS (l.drop (j + 1))).1 := by
  have h1 := (allS_drop l j h).1
  rw [List.drop_eq_getElem_cons hj] at h1 ⊢
  obtain ⟨k1, k2, k3⟩ := allS_cons h1
  rw [k3]
  exact ⟨k1, rfl⟩
theorem batchE_step (l : List Rec) (j off : Nat) (hj : j < l.length) : batchE off (l.drop j) = ⟨l[j].key, (off : Int), ((recS l[j]).length : Int), l[j].seq, l[j].gone⟩ :: batchE (off + (recS l[j]).length) (l.drop (j + 1)) := by
  rw [List.drop_eq_getElem_cons hj, batchE]
theorem takeF_len {b : Bs} (h : (takeF b).2.2 = 0) : (takeF b).2.1 = ((frameS (takeF b).1).1.length : Int) ∧ (frameS (takeF b).1).2 = 0 := by
  rcases takeF_told b with ⟨_, t, _, _, e⟩ | ⟨_, _, t⟩
  · exact ⟨e, t⟩
  · exact absurd h t
end Go.Proofs.YthndpknocofioaaGreatDoor.Thw
/-! ## Layer 12 (manifest) in plain words: numbers of six digits. No program in sight. -/
namespace Go.Proofs.YthndpknocofioaaGreatDoor.Thw
set_option linter.unusedVariables false
/-- The last k decimal digits of n (n below 10^k). -/
def digs : Nat → Nat → List UInt8
  | 0, _ => []
  | k + 1, n => UInt8.ofNat (48 + n / 10 ^ k) :: digs k (n % 10 ^ k)
def six (n : Nat) : List UInt8 := digs 6 n
theorem digs_length : ∀ k n, (digs k n).length = k
  | 0, _ => rfl
  | k + 1, n => by rw [digs, List.length_cons, digs_length k]
theorem pow_pos10 (k : Nat) : 0 < 10 ^ k := Nat.pow_pos (by decide)
theorem digs_zero : ∀ k, digs k 0 = Go.Lib.repeatL [48] k
  | 0 => rfl
  | k + 1 => by
    rw [digs, Nat.zero_div, Nat.zero_mod, digs_zero k]
    rfl
theorem digs_snoc : ∀ k n, n < 10 ^ (k + 1) → digs (k + 1) n = digs k (n / 10) ++ [UInt8.ofNat (48 + n % 10)]
  | 0, n, h => by
    have h' : n < 10 := by simpa using h
    simp only [digs, Nat.pow_zero, Nat.div_one, List.nil_append]
    rw [Nat.mod_eq_of_lt h']
  | k + 1, n, h => by
    have hp := pow_pos10 k
    rw [digs, digs_snoc k (n % 10 ^ (k + 1)) (Nat.mod_lt _ (pow_pos10 _)), digs, List.cons_append]
    congr 1
    · congr 1
      rw [Nat.pow_succ', Nat.div_div_eq_div_mul]
    · congr 2
      · rw [Nat.pow_succ', Nat.mod_mul_right_div_self]
      · rw [Nat.pow_succ', Nat.mod_mul_right_mod]
theorem nDigits_ten {u : Nat} (h : ¬ u < 10) : Go.Lib.nDigits u = Go.Lib.nDigits (u / 10) + 1 := by rw [Go.Lib.nDigits, dif_neg h]
theorem nDigits_one {u : Nat} (h : u < 10) : Go.Lib.nDigits u = 1 := by rw [Go.Lib.nDigits, dif_pos h]
theorem digs_pad : ∀ k u, u < 10 ^ (k + 1) → Go.Lib.nDigits u ≤ k + 1 ∧ Go.Lib.repeatL [48] (k + 1 - Go.Lib.nDigits u) ++ Go.Lib.decDigits u = digs (k + 1) u
  | 0, u, h => by
    have h' : u < 10 := by simpa using h
    rw [nDigits_one h', Go.Lib.decDigits_one h', digs_snoc 0 u h, Nat.mod_eq_of_lt h']
    exact ⟨Nat.le_refl _, rfl⟩
  | k + 1, u, h => by
    by_cases h10 : u < 10
    · rw [nDigits_one h10, Go.Lib.decDigits_one h10, digs_snoc (k + 1) u h, Nat.mod_eq_of_lt h10, Nat.div_eq_of_lt h10, digs_zero]
      exact ⟨by omega, rfl⟩
    · have h2 : u / 10 < 10 ^ (k + 1) := by
        rw [Nat.pow_succ'] at h
        exact Nat.div_lt_of_lt_mul h
      obtain ⟨h3, h4⟩ := digs_pad k (u / 10) h2
      rw [nDigits_ten h10, Go.Lib.decDigits, dif_neg h10, digs_snoc (k + 1) u h, ← h4]
      refine ⟨by omega, ?_⟩
      rw [show k + 1 + 1 - (Go.Lib.nDigits (u / 10) + 1) = k + 1 - Go.Lib.nDigits (u / 10) by omega, List.append_assoc]
theorem digit_nat {d : Nat} (h : d < 10) : (UInt8.ofNat (48 + d)).toNat = 48 + d := by
  rw [UInt8.toNat_ofNat']
  omega
theorem digitVal_digit {d : Nat} (h : d < 10) : Go.Lib.digitVal (UInt8.ofNat (48 + d)) = some d := by
  have hd := digit_nat h
  unfold Go.Lib.digitVal
  rw [hd, if_pos ⟨by omega, by omega⟩]
  congr 1
  omega
theorem digs_from : ∀ k acc n, n < 10 ^ k → Go.Lib.decFrom acc (digs k n) = some (acc * 10 ^ k + n)
  | 0, acc, n, h => by
    have : n = 0 := by simpa using h
    subst this
    simp [digs, Go.Lib.decFrom]
  | k + 1, acc, n, h => by
    have hq : n / 10 ^ k < 10 := by
      rw [Nat.pow_succ] at h
      exact Nat.div_lt_of_lt_mul h
    have hd := digit_nat hq
    rw [digs, Go.Lib.decFrom]
    rw [digitVal_digit hq]
    show Go.Lib.decFrom (acc * 10 + n / 10 ^ k) (digs k (n % 10 ^ k)) = _
    rw [digs_from k _ _ (Nat.mod_lt _ (pow_pos10 k))]
    congr 1
    have h2 := Nat.div_add_mod n (10 ^ k)
    have h3 : (acc * 10 + n / 10 ^ k) * 10 ^ k = acc * 10 ^ (k + 1) + 10 ^ k * (n / 10 ^ k) := by
      rw [Nat.add_mul, Nat.pow_succ, Nat.mul_assoc, Nat.mul_comm 10 (10 ^ k), Nat.mul_comm (n / 10 ^ k)]
    rw [h3]
    omega
theorem digs_lt : ∀ k n m, n < 10 ^ k → m < 10 ^ k → (digs k n < digs k m ↔ n < m)
  | 0, n, m, hn, hm => by
    have h1 : n = 0 := by simpa using hn
    have h2 : m = 0 := by simpa using hm
    subst h1 h2
    simp [digs]
  | k + 1, n, m, hn, hm => by
    have hq : n / 10 ^ k < 10 := by rw [Nat.pow_succ] at hn; exact Nat.div_lt_of_lt_mul hn
    have hr : m / 10 ^ k < 10 := by rw [Nat.pow_succ] at hm; exact Nat.div_lt_of_lt_mul hm
    rw [digs, digs, List.cons_lt_cons_iff, digs_lt k _ _ (Nat.mod_lt _ (pow_pos10 k)) (Nat.mod_lt _ (pow_pos10 k))]
    have e1 : UInt8.ofNat (48 + n / 10 ^ k) < UInt8.ofNat (48 + m / 10 ^ k) ↔ n / 10 ^ k < m / 10 ^ k := by
      rw [UInt8.lt_iff_toNat_lt, digit_nat hq, digit_nat hr]
      omega
    have e2 : UInt8.ofNat (48 + n / 10 ^ k) = UInt8.ofNat (48 + m / 10 ^ k) ↔ n / 10 ^ k = m / 10 ^ k := by
      rw [← UInt8.toNat_inj, digit_nat hq, digit_nat hr]
      omega
    rw [e1, e2]
    have h1 := Nat.div_add_mod n (10 ^ k)
    have h2 := Nat.div_add_mod m (10 ^ k)
    have h3 := Nat.mod_lt n (pow_pos10 k)
    have h4 := Nat.mod_lt m (pow_pos10 k)
    generalize n / 10 ^ k = a at *
    generalize m / 10 ^ k = b at *
    generalize n % 10 ^ k = c at *
    generalize m % 10 ^ k = d at *
    generalize 10 ^ k = t at *
    constructor
    · rintro (h | ⟨rfl, h⟩)
      · have : t * (a + 1) ≤ t * b := Nat.mul_le_mul_left _ h
        rw [Nat.mul_add, Nat.mul_one] at this
        omega
      · omega
    · intro h
      rcases Nat.lt_trichotomy a b with h5 | h5 | h5
      · exact Or.inl h5
      · subst h5
        exact Or.inr ⟨rfl, by omega⟩
      · have : t * (b + 1) ≤ t * a := Nat.mul_le_mul_left _ h5
        rw [Nat.mul_add, Nat.mul_one] at this
        omega
theorem six_length (n : Nat) : (six n).length = 6 := digs_length 6 n
theorem six_inj {n m : Nat} (hn : n ≤ 999999) (hm : m ≤ 999999) (h : six n = six m) : n = m := by
  have h1 := digs_from 6 0 n (by omega)
  have h2 := digs_from 6 0 m (by omega)
  unfold six at h
  rw [h, h2] at h1
  injection h1 with h1
  omega
theorem six_atoi {n : Nat} (hn : n ≤ 999999) : Go.Lib.atoiAll (six n) = .ok (n : Int) := by
  have hq : n / 10 ^ 5 < 10 := by omega
  have hd := digit_nat hq
  rw [Go.Lib.atoiAll_short _ (by rw [six_length]; decide)]
  have h1 : Go.Lib.decFrom 0 (six n) = some n := by
    have := digs_from 6 0 n (by omega)
    unfold six
    rw [this]
    simp
  have h2 : Go.Lib.atoi (six n) = some (n : Int) := by
    have e : six n = UInt8.ofNat (48 + n / 10 ^ 5) :: digs 5 (n % 10 ^ 5) := rfl
    rw [e] at h1 ⊢
    have n1 : (UInt8.ofNat (48 + n / 10 ^ 5) == 45) = false := by
      rw [beq_eq_false_iff_ne]
      intro h
      have := congrArg UInt8.toNat h
      rw [hd] at this
      simp at this
      omega
    have n2 : (UInt8.ofNat (48 + n / 10 ^ 5) == 43) = false := by
      rw [beq_eq_false_iff_ne]
      intro h
      have := congrArg UInt8.toNat h
      rw [hd] at this
      simp at this
      omega
    simp only [Go.Lib.atoi, n1, n2, Bool.false_eq_true, if_false]
    unfold Go.Lib.decNat
    simp only [List.isEmpty_cons, Bool.false_eq_true, if_false]
    rw [h1]
    rfl
  rw [h2]
  rfl
/-- A number's name, behind a letter. -/
def nameL (c : UInt8) (n from_ : Int) : List UInt8 := if n < from_ ∨ 999999 < n then [] else c :: six n.toNat
/-- The version that a name tells. -/
def IsV (s : List UInt8) (n : Nat) : Prop := 1 ≤ n ∧ n ≤ 999999 ∧ s = 109 :: six n
theorem IsV.uniq {s : List UInt8} {n m : Nat} (h : IsV s n) (h' : IsV s m) : n = m := by
  have := h.2.2.symm.trans h'.2.2
  injection this with _ this
  exact six_inj h.2.1 h'.2.1 this
end Go.Proofs.YthndpknocofioaaGreatDoor.Thw
/-! ## Layer 8 (segment) in plain words: batches' bytes that are cut, entries that are moved, hints of entries. No program in sight. -/
namespace Go.Proofs.YthndpknocofioaaGreatDoor.Thw
open Go
set_option linter.unusedVariables false
set_option linter.unusedSimpArgs false
def ofP (b : Bs) : List Ent × Nat := (ofL 0 (scanS b).1, (scanS b).2)
def shiftE (k : Int) (e : Ent) : Ent := { e with off := e.off + k }
theorem shift_batch : ∀ (l : List Rec) (off k : Nat), (batchE off l).map (shiftE k) = batchE (off + k) l
  | [], _, _ => rfl
  | r :: l, off, k => by
    rw [batchE, batchE, List.map_cons, shift_batch l _ k, show off + (recS r).length + k = off + k + (recS r).length by omega]
    simp [shiftE]
theorem shift_of : ∀ (ls : List (List Rec)) (a k : Nat), (∀ l ∈ ls, (frameS l).2 = 0) → (ofL a ls).map (shiftE k) = ofL (a + k) ls
  | [], _, _, _ => rfl
  | l :: ls, a, k, h => by
    have hl := frameS_all_le (h l (by simp))
    rw [ofL, ofL, List.map_append, shift_batch, shift_of ls _ k (fun x hx => h x (by simp [hx]))]
    rw [show a + (frameS l).1.length - (allS l).1.length + k = a + k + (frameS l).1.length - (allS l).1.length by omega, show a + (frameS l).1.length + k = a + k + (frameS l).1.length by omega]
theorem framesS_append (ls ms : List (List Rec)) : framesS (ls ++ ms) = framesS ls ++ framesS ms := by simp [framesS]
theorem framesS_one (l : List Rec) : framesS [l] = (frameS l).1 := by simp [framesS]
theorem takeF_nil : (takeF []).2.2 ≠ 0 := by decide
theorem scanS_frames (ls : List (List Rec)) (h : ∀ l ∈ ls, (frameS l).2 = 0) : scanS (framesS ls) = (ls, (framesS ls).length) := by
  have := scanR_frames ls [] (framesS ls).length h takeF_nil (by simp)
  rwa [List.append_nil] at this
theorem ofP_frames (ls : List (List Rec)) (h : ∀ l ∈ ls, (frameS l).2 = 0) : ofP (framesS ls) = (ofL 0 ls, (framesS ls).length) := by
  unfold ofP; rw [scanS_frames ls h]
/-- How many batches are whole in so many bytes. -/
def wholeS : List (List Rec) → Nat → Nat
  | [], _ => 0
  | l :: ls, n => if (frameS l).1.length ≤ n then wholeS ls (n - (frameS l).1.length) + 1 else 0
theorem wholeS_le : ∀ (ls : List (List Rec)) (n : Nat), wholeS ls n ≤ ls.length
  | [], _ => Nat.le_refl _
  | l :: ls, n => by
    rw [wholeS]
    split
    · have := wholeS_le ls (n - (frameS l).1.length); simp; omega
    · simp
theorem wholeS_fits : ∀ (ls : List (List Rec)) (n : Nat), (framesS (ls.take (wholeS ls n))).length ≤ n
  | [], n => by simp [wholeS, framesS]
  | l :: ls, n => by
    rw [wholeS]
    split
    · have := wholeS_fits ls (n - (frameS l).1.length)
      rw [List.take_succ_cons]
      simp only [framesS, List.map_cons, List.flatten_cons, List.length_append] at this ⊢
      omega
    · simp [framesS]
theorem wholeS_next : ∀ (ls : List (List Rec)) (n j : Nat), j < ls.length → (j < wholeS ls n ↔ (framesS (ls.take (j + 1))).length ≤ n)
  | [], _, _, h => by simp at h
  | l :: ls, n, 0, h => by
    rw [wholeS]
    have e : (framesS ((l :: ls).take (0 + 1))).length = (frameS l).1.length := by simp [framesS]
    rw [e]
    split
    · rename_i h1; simp [h1]
    · rename_i h1; simp [h1]
  | l :: ls, n, j + 1, h => by
    rw [wholeS]
    have e : (framesS ((l :: ls).take (j + 1 + 1))).length = (frameS l).1.length + (framesS (ls.take (j + 1))).length := by simp [framesS]
    rw [e]
    have ih := wholeS_next ls (n - (frameS l).1.length) j (by simpa using h)
    split
    · rename_i h1
      rw [show (j + 1 < wholeS ls (n - (frameS l).1.length) + 1 ↔ j < wholeS ls (n - (frameS l).1.length)) from by omega, ih]
      omega
    · rename_i h1
      constructor
      · intro h; omega
      · intro h; omega
theorem cut_frames : ∀ (ls : List (List Rec)) (n : Nat), (∀ l ∈ ls, (frameS l).2 = 0) → ∃ tail, (framesS ls).take n = framesS (ls.take (wholeS ls n)) ++ tail ∧ (takeF tail).2.2 ≠ 0
  | [], n, _ => ⟨[], by simp [framesS, wholeS], takeF_nil⟩
  | l :: ls, n, h => by
    have hl := h l (by simp)
    have e : framesS (l :: ls) = (frameS l).1 ++ framesS ls := by simp [framesS]
    rw [wholeS, e]
    split
    · rename_i h1
      obtain ⟨tail, h2, h3⟩ := cut_frames ls (n - (frameS l).1.length) (fun x hx => h x (by simp [hx]))
      refine ⟨tail, ?_, h3⟩
      rw [take_behind _ _ _ h1, h2, List.take_succ_cons]
      simp [framesS]
    · rename_i h1
      refine ⟨(frameS l).1.take n, ?_, ?_⟩
      · rw [take_front _ _ _ (by omega)]; simp [framesS]
      · rw [takeF_cut l n hl (by omega)]; decide
theorem scan_cut (ls : List (List Rec)) (n : Nat) (h : ∀ l ∈ ls, (frameS l).2 = 0) : scanS ((framesS ls).take n) = (ls.take (wholeS ls n), (framesS (ls.take (wholeS ls n))).length) := by
  obtain ⟨tail, h1, h2⟩ := cut_frames ls n h
  unfold scanS
  rw [h1]
  exact scanR_frames _ _ _ (fun l hl => h l (List.mem_of_mem_take hl)) h2 (Nat.le_refl _)
theorem ofP_cut (ls : List (List Rec)) (n : Nat) (h : ∀ l ∈ ls, (frameS l).2 = 0) : ofP ((framesS ls).take n) = (ofL 0 (ls.take (wholeS ls n)), (framesS (ls.take (wholeS ls n))).length) := by
  unfold ofP; rw [scan_cut ls n h]
theorem take_whole (ls : List (List Rec)) (n : Nat) : (framesS ls).take (framesS (ls.take n)).length = framesS (ls.take n) := by
  have e : framesS ls = framesS (ls.take n) ++ framesS (ls.drop n) := by rw [← framesS_append, List.take_append_drop]
  rw [e, List.take_left]
theorem each_get (ls : List (List Rec)) (h : ∀ l ∈ ls, (frameS l).2 = 0) (hs : (framesS ls).length ≤ 1048576) (i : Nat) (hi : i < (ofL 0 ls).length) (hi' : i < ls.flatten.length) : atE (framesS ls) (ofL 0 ls)[i] = (ls.flatten[i], 0) := by
  have h1 := each_all ls [] [] h (by simpa using hs)
  rw [List.nil_append, List.append_nil] at h1
  exact eachOk_get _ _ _ h1 i hi hi'
theorem all_right (ls : List (List Rec)) (h : ∀ l ∈ ls, (frameS l).2 = 0) (hs : (framesS ls).length ≤ 1048576) : allRight (ofL 0 ls) = true := by
  unfold allRight
  rw [List.all_eq_true]
  intro e he
  obtain ⟨i, hi, rfl⟩ := List.getElem_of_mem he
  exact atE_right (each_get ls h hs i hi (by rw [← ofL_length ls 0]; exact hi))
theorem flat_le : ∀ (ls : List (List Rec)), (∀ l ∈ ls, (frameS l).2 = 0) → ls.flatten.length ≤ 16 * ls.length
  | [], _ => by simp
  | l :: ls, h => by
    have h1 := flat_le ls (fun x hx => h x (by simp [hx]))
    have h2 := (fits_facts (frameS_ok (h l (by simp))).1).2
    rw [List.flatten_cons, List.length_append, List.length_cons]
    omega
theorem frames_le : ∀ (ls : List (List Rec)), (∀ l ∈ ls, (frameS l).2 = 0) → (framesS ls).length ≤ 7100 * ls.length
  | [], _ => by simp [framesS]
  | l :: ls, h => by
    have h1 := frames_le ls (fun x hx => h x (by simp [hx]))
    have h2 := (frameS_length (h l (by simp))).2
    simp only [framesS, List.map_cons, List.flatten_cons, List.length_append, List.length_cons] at h1 ⊢
    omega
theorem hints_back (ls : List (List Rec)) (h : ∀ l ∈ ls, (frameS l).2 = 0) (hs : (framesS ls).length ≤ 1048576) (hn : ls.length ≤ 100) : (bytesE (ofL 0 ls)).2 = 0 ∧ readE (bytesE (ofL 0 ls)).1 = (ofL 0 ls, 0) := by
  have h1 : (bytesE (ofL 0 ls)).2 = 0 := by
    unfold bytesE
    rw [if_pos (by rw [ofL_length]; have := flat_le ls h; omega), if_pos (all_right ls h hs)]
  exact ⟨h1, readE_bytes _ h1⟩
theorem flat_le_scan (b : Bs) : (scanS b).1.flatten.length ≤ 16 * b.length := by
  obtain ⟨k1, k2, k3⟩ := scanR_len b.length b
  have e : scanR b.length b = scanS b := rfl
  rw [e] at k1 k2 k3
  have : ∀ (ls : List (List Rec)), (∀ l ∈ ls, l.length ≤ 16) → ls.flatten.length ≤ 16 * ls.length := by
    intro ls
    induction ls with
    | nil => intro _; simp
    | cons l ls ih =>
      intro h
      have := h l (by simp)
      have := ih (fun x hx => h x (by simp [hx]))
      rw [List.flatten_cons, List.length_append, List.length_cons]
      omega
  have := this _ k3
  omega
theorem bodyE_length : ∀ l : List Ent, allRight l = true → (bodyE l).length ≤ 80 * l.length
  | [], _ => by simp [bodyE]
  | e :: l, h => by
    unfold allRight at h
    rw [List.all_cons, Bool.and_eq_true] at h
    have := (oneE_length h.1).2
    have := bodyE_length l h.2
    rw [bodyE, List.length_append, List.length_cons]
    omega
theorem bytesE_length (l : List Ent) : (bytesE l).1.length ≤ 14 + 80 * l.length := by
  unfold bytesE
  split
  · split
    · rename_i h1 h2
      have := bodyE_length l h2
      have := putS_length l.length
      show (sealS _).length ≤ _
      rw [sealS_length, List.length_append]
      omega
    · simp
  · simp
end Go.Proofs.YthndpknocofioaaGreatDoor.Thw
