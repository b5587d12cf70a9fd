/- Several texts of mine in one (PlainA, Plain01, Plain02, Plain12, Plain12b, Plain12c). -/
import Derived.Lib.Strings
import Derived.Lib.IndexBytes
import Derived.Laws.BitsAllLaws
import Derived.Laws.Bits64
import Derived.Lib.ItoaNum
import Derived.Lib.AtoiTie
import Derived.Lib.Repeat
/-! ## Plain words for all layers: strings as lists of bytes; whole numbers and their bits. No program in sight. -/
namespace Go.Proofs.YtlnbekaldemebaaGreatDoor.Thw
open Go

abbrev Bs := List UInt8
/-- A string's bytes. -/
def L (s : ByteArray) : Bs := s.data.toList
/-- Bytes as a string. -/
def B (l : Bs) : ByteArray := ⟨l.toArray⟩
theorem L_B (l : Bs) : L (B l) = l := by simp [L, B]
theorem B_L (s : ByteArray) : B (L s) = s := by simp [L, B]
theorem L_inj {a b : ByteArray} (h : L a = L b) : a = b := by rw [← B_L a, h, B_L]
theorem toList_L (s : ByteArray) : s.toList = L s := Lib.toList_data s
theorem L_append (a b : ByteArray) : L (a ++ b) = L a ++ L b := by simp [L]
theorem L_length (s : ByteArray) : (L s).length = s.size := (Lib.size_eq s).symm
theorem B_size (l : Bs) : (B l).size = l.length := by rw [← L_length, L_B]
theorem B_append (a b : Bs) : B (a ++ b) = B a ++ B b := L_inj (by rw [L_append, L_B, L_B, L_B])
theorem L_extract (s : ByteArray) (a b : Nat) : L (s.extract a b) = ((L s).drop a).take (b - a) := Lib.extract_data s a b
theorem L_extract_end (s : ByteArray) (a : Nat) : L (s.extract a s.size) = (L s).drop a := Lib.extract_to_end s a
theorem L_extract_front (s : ByteArray) (b : Nat) : L (s.extract 0 b) = (L s).take b := by rw [L_extract]; simp
theorem extract_end (s : ByteArray) (a : Nat) : s.extract a s.size = B ((L s).drop a) := L_inj (by rw [L_extract_end, L_B])
end Go.Proofs.YtlnbekaldemebaaGreatDoor.Thw
/-! ## Layer 1 (varint) in plain words: a number's bytes, the number that bytes begin with, texts with their length ahead. No program in sight. -/
namespace Go.Proofs.YtlnbekaldemebaaGreatDoor.Thw
open Go
set_option linter.unusedVariables false

/-- A number's bytes: up to 'k' more may follow the first. -/
def putB : Nat → Nat → Bs
 | 0, n => [UInt8.ofNat n]
 | k + 1, n => if n < 128 then [UInt8.ofNat n] else UInt8.ofNat (n % 128 + 128) :: putB k (n / 128)
def putS (n : Nat) : Bs := putB 9 n
/-- The number that bytes begin with: at place i, with what was gathered. -/
def takeR (b : Bs) : Nat → Nat → Nat → Nat × Bs × Int
 | 0, _, _ => (0, [], 2)
 | f + 1, i, acc =>
  if i = b.length then (0, [], 3)
  else if 128 ≤ (b.getD i 0).toNat then takeR b f (i + 1) ((acc + (b.getD i 0).toNat % 128 * 128 ^ i) % 18446744073709551616)
  else if putS ((acc + (b.getD i 0).toNat % 128 * 128 ^ i) % 18446744073709551616) = b.take (i + 1) then ((acc + (b.getD i 0).toNat % 128 * 128 ^ i) % 18446744073709551616, b.drop (i + 1), 0)
  else (0, [], 2)
def takeS (b : Bs) : Nat × Bs × Int := takeR b 10 0 0
theorem putB_length : ∀ (k n : Nat), (putB k n).length ≤ k + 1
 | 0, _ => by simp [putB]
 | k + 1, n => by
  rw [putB]
  split
  ·simp
  ·have := putB_length k (n / 128)
   rw [List.length_cons]; omega
theorem putB_len_le : ∀ (k n : Nat), (putB k n).length ≤ n + 1
 | 0, _ => by simp [putB]
 | k + 1, n => by
  rw [putB]
  split
  ·simp
  ·have := putB_len_le k (n / 128)
   rw [List.length_cons]; omega
theorem putB_pos : ∀ (k n : Nat), 0 < (putB k n).length
 | 0, _ => by simp [putB]
 | k + 1, n => by
  rw [putB]
  split <;> simp
theorem putS_length (n : Nat) : (putS n).length ≤ 10 := putB_length 9 n
theorem putS_pos (n : Nat) : 0 < (putS n).length := putB_pos 9 n
theorem ofNat_toNat (n : Nat) (h : n < 256) : (UInt8.ofNat n).toNat = n := by simp; omega
theorem pow_128_9 : (128 : Nat) ^ 9 = 9223372036854775808 := by decide

/-- Where a number's bytes stand: behind i of them are those of n / 128^i. -/
theorem putB_drop (n : Nat) : ∀ (i k : Nat), (∀ j, j < i → 128 ≤ n / 128 ^ j) → (putB (k + i) n).drop i = putB k (n / 128 ^ i)
 | 0, k, _ => by simp
 | i + 1, k, h => by
  have h1 := putB_drop n i (k + 1) (fun j hj => h j (by omega))
  have h2 := h i (by omega)
  rw [show k + (i + 1) = (k + 1) + i by omega, ← List.drop_drop, h1, putB, if_neg (by omega), List.drop_succ_cons, List.drop_zero, Nat.div_div_eq_div_mul, Nat.pow_succ]
theorem acc_next (n i : Nat) : n % 128 ^ i + n / 128 ^ i % 128 * 128 ^ i = n % 128 ^ (i + 1) := by
 rw [Nat.pow_succ, Nat.mod_mul, Nat.mul_comm]
theorem mod_small (n i : Nat) (hn : n < 18446744073709551616) : n % 128 ^ (i + 1) % 18446744073709551616 = n % 128 ^ (i + 1) :=
 Nat.mod_eq_of_lt (Nat.lt_of_le_of_lt (Nat.mod_le _ _) hn)
theorem getD_append_left (a b : Bs) (i : Nat) (h : i < a.length) : (a ++ b).getD i 0 = a.getD i 0 := by
 simp [List.getD_eq_getElem?_getD, List.getElem?_append_left h]
theorem getD_of_drop (a : Bs) (i : Nat) (x : UInt8) (r : Bs) (h : a.drop i = x :: r) : a.getD i 0 = x ∧ i < a.length := by
 have hl : i < a.length := by
  rcases Nat.lt_or_ge i a.length with h1 | h1
  ·exact h1
  ·rw [List.drop_of_length_le h1] at h; cases h
 rw [List.drop_eq_getElem_cons hl] at h
 injection h with h1 h2
 exact ⟨by simp [List.getD_eq_getElem?_getD, List.getElem?_eq_getElem hl, h1], hl⟩
theorem length_of_drop (a : Bs) (i : Nat) (x : UInt8) (h : a.drop i = [x]) : a.length = i + 1 := by
 have := congrArg List.length h
 simp at this
 omega

/-- At place i of a number's bytes, and whatever behind them, Take tells the number. -/
theorem takeR_put (n : Nat) (hn : n < 18446744073709551616) (rest : Bs) : ∀ (k i : Nat), i + k = 9 → (∀ j, j < i → 128 ≤ n / 128 ^ j) →
  takeR (putS n ++ rest) (k + 1) i (n % 128 ^ i) = (n, rest, 0)
 | k, i, e, h => by
  have hd : (putS n).drop i = putB k (n / 128 ^ i) := by
   have := putB_drop n i k h
   rw [show k + i = 9 by omega] at this
   exact this
  by_cases hs : n / 128 ^ i < 128
  ·have hd2 : (putS n).drop i = [UInt8.ofNat (n / 128 ^ i)] := by rw [hd]; cases k <;> simp [putB, hs]
   obtain ⟨g1, g2⟩ := getD_of_drop _ _ _ _ hd2
   have hl := length_of_drop _ _ _ hd2
   have hmod : n % 128 ^ (i + 1) = n := by
    apply Nat.mod_eq_of_lt
    rw [Nat.pow_succ, Nat.mul_comm]
    exact (Nat.div_lt_iff_lt_mul (Nat.pow_pos (by omega))).1 hs
   rw [takeR, if_neg (by rw [List.length_append]; omega), getD_append_left _ _ _ g2, g1, ofNat_toNat _ (by omega), if_neg (by omega), acc_next, mod_small n i hn, hmod,
    if_pos (by rw [← hl, List.take_append_of_le_length (Nat.le_refl _), List.take_length]), ← hl, List.drop_left]
  ·cases k with
   | zero =>
    exfalso
    have e9 : i = 9 := by omega
    subst e9
    rw [pow_128_9] at hs
    omega
   | succ k =>
    have hd2 : (putS n).drop i = UInt8.ofNat (n / 128 ^ i % 128 + 128) :: putB k (n / 128 ^ i / 128) := by rw [hd, putB, if_neg hs]
    obtain ⟨g1, g2⟩ := getD_of_drop _ _ _ _ hd2
    rw [takeR, if_neg (by rw [List.length_append]; omega), getD_append_left _ _ _ g2, g1, ofNat_toNat _ (by omega), if_pos (by omega),
     show (n / 128 ^ i % 128 + 128) % 128 = n / 128 ^ i % 128 by omega, acc_next, mod_small n i hn]
    refine takeR_put n hn rest k (i + 1) (by omega) (fun j hj => ?_)
    rcases Nat.lt_or_ge j i with h1 | h1
    ·exact h j h1
    ·obtain rfl : j = i := by omega
     omega
theorem takeS_put (n : Nat) (hn : n < 18446744073709551616) (rest : Bs) : takeS (putS n ++ rest) = (n, rest, 0) := by
 have := takeR_put n hn rest 9 0 (by omega) (by omega)
 rwa [Nat.pow_zero, Nat.mod_one] at this
/-- What is told of any bytes: a number's own bytes ahead, or an error beside nothing. -/
def TakeTold (b : Bs) (r : Nat × Bs × Int) : Prop :=
 (r.2.2 = 0 ∧ putS r.1 ++ r.2.1 = b ∧ r.1 < 18446744073709551616 ∧ b.length ≤ r.2.1.length + 10 ∧ r.2.1.length < b.length) ∨ (r = (0, [], 2) ∨ r = (0, [], 3))
theorem takeR_told (b : Bs) : ∀ (f i acc : Nat), i + f = 10 → i ≤ b.length → TakeTold b (takeR b f i acc)
 | 0, i, acc, _, _ => .inr (.inl rfl)
 | f + 1, i, acc, e, h => by
  rw [takeR]
  by_cases h1 : i = b.length
  ·rw [if_pos h1]; exact .inr (.inr rfl)
  rw [if_neg h1]
  split
  ·exact takeR_told b f (i + 1) _ (by omega) (by omega)
  ·split
   ·rename_i h3
    refine .inl ⟨rfl, by rw [h3, List.take_append_drop], Nat.mod_lt _ (by omega), ?_, ?_⟩
    ·simp only [List.length_drop]; omega
    ·simp only [List.length_drop]; omega
   ·exact .inr (.inl rfl)
theorem takeS_told (b : Bs) : TakeTold b (takeS b) := takeR_told b 10 0 0 rfl (Nat.zero_le _)

end Go.Proofs.YtlnbekaldemebaaGreatDoor.Thw
/-! ## Layer 2 (crc) in plain words: one step, eight steps, a table, checks of bytes; what a check tells of. No program in sight. -/
namespace Go.Proofs.YtlnbekaldemebaaGreatDoor.Thw
open Go
set_option linter.unusedVariables false

def polyN : Nat := 2197175160
def stepN (c : Nat) : Nat := (c / 2) ^^^ (if c % 2 = 1 then polyN else 0)
def stepsN : Nat → Nat → Nat
 | 0, c => c
 | n + 1, c => stepN (stepsN n c)
def byteN (c x : Nat) : Nat := stepsN 8 (c ^^^ x)
def moreN (l : Bs) (c : Nat) : Nat := l.foldl (fun c b => byteN c b.toNat) c
def ones : Nat := 4294967295
def moreS (sum : Nat) (l : Bs) : Nat := ones ^^^ moreN l (ones ^^^ sum)
def sumS2 (l : Bs) : Nat := moreS 0 l
def le4 (n : Nat) : Bs := [UInt8.ofNat (n % 256), UInt8.ofNat (n / 256 % 256), UInt8.ofNat (n / 65536 % 256), UInt8.ofNat (n / 16777216 % 256)]
def sealS (l : Bs) : Bs := le4 (sumS2 l) ++ l
def openS (l : Bs) : Bs × Bool := if l.length < 4 then ([], false) else if (sealS (l.drop 4)).take 4 = l.take 4 then (l.drop 4, true) else ([], false)

theorem half_xor (a b : Nat) : (a ^^^ b) / 2 = (a / 2) ^^^ (b / 2) := by
 have e : ∀ n : Nat, n / 2 = n >>> 1 := fun n => by rw [Nat.shiftRight_eq_div_pow]
 rw [e, e, e, Nat.shiftRight_xor_distrib]
theorem odd_xor (a b : Nat) : (a ^^^ b) % 2 = (a % 2 + b % 2) % 2 := by
 have h := Nat.testBit_xor a b 0
 simp only [Nat.testBit_zero] at h
 rcases Nat.mod_two_eq_zero_or_one a with h1 | h1 <;> rcases Nat.mod_two_eq_zero_or_one b with h2 | h2 <;> rcases Nat.mod_two_eq_zero_or_one (a ^^^ b) with h3 | h3 <;> simp_all
theorem xor_swap (a b c d : Nat) : (a ^^^ b) ^^^ (c ^^^ d) = (a ^^^ c) ^^^ (b ^^^ d) := by
 rw [Nat.xor_assoc, Nat.xor_assoc, ← Nat.xor_assoc b c d, Nat.xor_comm b c, Nat.xor_assoc c b d]
theorem stepN_xor (a b : Nat) : stepN (a ^^^ b) = stepN a ^^^ stepN b := by
 unfold stepN
 rw [half_xor, odd_xor, xor_swap]
 congr 1
 rcases Nat.mod_two_eq_zero_or_one a with h1 | h1 <;> rcases Nat.mod_two_eq_zero_or_one b with h2 | h2 <;> simp [h1, h2]
theorem stepsN_xor (a b : Nat) : ∀ n, stepsN n (a ^^^ b) = stepsN n a ^^^ stepsN n b
 | 0 => rfl
 | n + 1 => by rw [stepsN, stepsN, stepsN, stepsN_xor a b n, stepN_xor]
theorem stepN_double (y : Nat) : stepN (2 * y) = y := by
 unfold stepN
 rw [if_neg (by omega), Nat.xor_zero]; omega
theorem stepsN_pow : ∀ (n y : Nat), stepsN n (2 ^ n * y) = y
 | 0, y => by simp [stepsN]
 | n + 1, y => by
  have := stepsN_pow n (2 * y)
  rw [stepsN, show 2 ^ (n + 1) * y = 2 ^ n * (2 * y) by rw [Nat.pow_succ, Nat.mul_assoc], this, stepN_double]
theorem stepN_lt (c : Nat) (h : c < 4294967296) : stepN c < 4294967296 := by
 unfold stepN
 refine Nat.xor_lt_two_pow (n := 32) (by omega) ?_
 split
 ·unfold polyN; omega
 ·omega
theorem stepsN_lt (c : Nat) (h : c < 4294967296) : ∀ n, stepsN n c < 4294967296
 | 0 => h
 | n + 1 => stepN_lt _ (stepsN_lt c h n)
theorem byteN_lt (c x : Nat) (h : c < 4294967296) (hx : x < 256) : byteN c x < 4294967296 :=
 stepsN_lt _ (Nat.xor_lt_two_pow (n := 32) (by omega) (by omega)) 8
theorem moreN_cons (b : UInt8) (l : Bs) (c : Nat) : moreN (b :: l) c = moreN l (byteN c b.toNat) := List.foldl_cons ..
theorem moreN_nil (c : Nat) : moreN [] c = c := rfl
theorem moreN_lt : ∀ (l : Bs) (c : Nat), c < 4294967296 → moreN l c < 4294967296
 | [], _, h => h
 | b :: l, c, h => by rw [moreN_cons]; exact moreN_lt l _ (byteN_lt c _ h b.toNat_lt)
theorem ones_lt : ones < 4294967296 := by unfold ones; omega
theorem moreS_lt (s : Nat) (l : Bs) (h : s < 4294967296) : moreS s l < 4294967296 :=
 Nat.xor_lt_two_pow (n := 32) ones_lt (moreN_lt l _ (Nat.xor_lt_two_pow (n := 32) ones_lt (by simpa using h)))
/-- A table's entry, and the higher bytes: eight steps at once. -/
theorem byteN_table (c x : Nat) (hx : x < 256) : byteN c x = stepsN 8 ((c % 256) ^^^ x) ^^^ (c / 256) := by
 have e1 : c = (c % 256) ^^^ (2 ^ 8 * (c / 256)) := by
  have h : 2 ^ 8 * (c / 256) + c % 256 = 2 ^ 8 * (c / 256) ||| c % 256 := Nat.two_pow_add_eq_or_of_lt (Nat.mod_lt _ (by omega)) _
  have h2 : (c % 256) &&& (2 ^ 8 * (c / 256)) = 0 := by
   apply Nat.eq_of_testBit_eq
   intro i
   rw [Nat.testBit_and, Nat.zero_testBit]
   rcases Nat.lt_or_ge i 8 with hi | hi
   ·rw [Nat.testBit_two_pow_mul]
    simp [show ¬ 8 ≤ i by omega]
   ·rw [Nat.testBit_lt_two_pow (x := c % 256) (Nat.lt_of_lt_of_le (Nat.mod_lt _ (by omega)) (Nat.pow_le_pow_right (n := 2) (by omega) hi))]
    rfl
  have h3 : (c % 256) ^^^ (2 ^ 8 * (c / 256)) = (c % 256) ||| (2 ^ 8 * (c / 256)) := by
   apply Nat.eq_of_testBit_eq
   intro i
   have := congrArg (fun n => Nat.testBit n i) h2
   simp only [Nat.testBit_and, Nat.zero_testBit] at this
   rw [Nat.testBit_xor, Nat.testBit_or]
   cases h4 : (c % 256).testBit i <;> cases h5 : (2 ^ 8 * (c / 256)).testBit i <;> simp_all
  rw [h3, Nat.or_comm, ← h]
  have := Nat.div_add_mod c 256
  omega
 unfold byteN
 conv => lhs; rw [e1]
 rw [Nat.xor_assoc, Nat.xor_comm (2 ^ 8 * (c / 256)) x, ← Nat.xor_assoc, stepsN_xor, stepsN_pow]
theorem sumS2_lt (l : Bs) : sumS2 l < 4294967296 := moreS_lt 0 l (by omega)
theorem le4_length (n : Nat) : (le4 n).length = 4 := rfl
theorem sealS_length (l : Bs) : (sealS l).length = l.length + 4 := by unfold sealS; rw [List.length_append, le4_length]; omega
theorem sealS_take (l : Bs) : (sealS l).take 4 = le4 (sumS2 l) := by unfold sealS; rw [← le4_length (sumS2 l), List.take_left]
theorem sealS_drop (l : Bs) : (sealS l).drop 4 = l := by unfold sealS; rw [← le4_length (sumS2 l), List.drop_left]
theorem openS_seal (l : Bs) : openS (sealS l) = (l, true) := by
 unfold openS
 rw [if_neg (by rw [sealS_length]; omega), sealS_drop, if_pos rfl]
/-- What is opened has just these bytes. -/
theorem openS_told (l : Bs) : (∃ s, openS l = (s, true) ∧ sealS s = l) ∨ openS l = ([], false) := by
 unfold openS
 by_cases h1 : l.length < 4
 ·rw [if_pos h1]; exact .inr rfl
 rw [if_neg h1]
 by_cases h2 : (sealS (l.drop 4)).take 4 = l.take 4
 ·rw [if_pos h2]
  refine .inl ⟨_, rfl, ?_⟩
  rw [sealS_take] at h2
  conv => rhs; rw [← List.take_append_drop 4 l, ← h2]
  rfl
 ·rw [if_neg h2]; exact .inr rfl
end Go.Proofs.YtlnbekaldemebaaGreatDoor.Thw
/-! ## Layer 12 (manifest) in plain words: numbers of six digits. No program in sight. -/
namespace Go.Proofs.YtlnbekaldemebaaGreatDoor.Thw
set_option linter.unusedVariables false
/-- The last k decimal digits of n (n below 10^k). -/
def digs : Nat → Nat → List UInt8
 | 0, _ => []
 | k + 1, n => UInt8.ofNat (48 + n / 10 ^ k) :: digs k (n % 10 ^ k)
def six (n : Nat) : List UInt8 := digs 6 n
theorem digs_length : ∀ k n, (digs k n).length = k
 | 0, _ => rfl
 | k + 1, n => by rw [digs, List.length_cons, digs_length k]
theorem pow_pos10 (k : Nat) : 0 < 10 ^ k := Nat.pow_pos (by decide)
theorem digs_zero : ∀ k, digs k 0 = Go.Lib.repeatL [48] k
 | 0 => rfl
 | k + 1 => by
  rw [digs, Nat.zero_div, Nat.zero_mod, digs_zero k]
  rfl
theorem digs_snoc : ∀ k n, n < 10 ^ (k + 1) → digs (k + 1) n = digs k (n / 10) ++ [UInt8.ofNat (48 + n % 10)]
 | 0, n, h => by
  have h' : n < 10 := by simpa using h
  simp only [digs, Nat.pow_zero, Nat.div_one, List.nil_append]
  rw [Nat.mod_eq_of_lt h']
 | k + 1, n, h => by
  have hp := pow_pos10 k
  rw [digs, digs_snoc k (n % 10 ^ (k + 1)) (Nat.mod_lt _ (pow_pos10 _)), digs, List.cons_append]
  congr 1
  ·congr 1
   rw [Nat.pow_succ', Nat.div_div_eq_div_mul]
  ·congr 2
   ·rw [Nat.pow_succ', Nat.mod_mul_right_div_self]
   ·rw [Nat.pow_succ', Nat.mod_mul_right_mod]
theorem nDigits_ten {u : Nat} (h : ¬ u < 10) : Go.Lib.nDigits u = Go.Lib.nDigits (u / 10) + 1 := by rw [Go.Lib.nDigits, dif_neg h]
theorem nDigits_one {u : Nat} (h : u < 10) : Go.Lib.nDigits u = 1 := by rw [Go.Lib.nDigits, dif_pos h]
theorem digs_pad : ∀ k u, u < 10 ^ (k + 1) → Go.Lib.nDigits u ≤ k + 1 ∧ Go.Lib.repeatL [48] (k + 1 - Go.Lib.nDigits u) ++ Go.Lib.decDigits u = digs (k + 1) u
 | 0, u, h => by
  have h' : u < 10 := by simpa using h
  rw [nDigits_one h', Go.Lib.decDigits_one h', digs_snoc 0 u h, Nat.mod_eq_of_lt h']
  exact ⟨Nat.le_refl _, rfl⟩
 | k + 1, u, h => by
  by_cases h10 : u < 10
  ·rw [nDigits_one h10, Go.Lib.decDigits_one h10, digs_snoc (k + 1) u h, Nat.mod_eq_of_lt h10, Nat.div_eq_of_lt h10, digs_zero]
   exact ⟨by omega, rfl⟩
  ·have h2 : u / 10 < 10 ^ (k + 1) := by
    rw [Nat.pow_succ'] at h
    exact Nat.div_lt_of_lt_mul h
   obtain ⟨h3, h4⟩ := digs_pad k (u / 10) h2
   rw [nDigits_ten h10, Go.Lib.decDigits, dif_neg h10, digs_snoc (k + 1) u h, ← h4]
   refine ⟨by omega, ?_⟩
   rw [show k + 1 + 1 - (Go.Lib.nDigits (u / 10) + 1) = k + 1 - Go.Lib.nDigits (u / 10) by omega, List.append_assoc]
theorem digit_nat {d : Nat} (h : d < 10) : (UInt8.ofNat (48 + d)).toNat = 48 + d := by
 rw [UInt8.toNat_ofNat']
 omega
theorem digitVal_digit {d : Nat} (h : d < 10) : Go.Lib.digitVal (UInt8.ofNat (48 + d)) = some d := by
 have hd := digit_nat h
 unfold Go.Lib.digitVal
 rw [hd, if_pos ⟨by omega, by omega⟩]
 congr 1
 omega
theorem digs_from : ∀ k acc n, n < 10 ^ k → Go.Lib.decFrom acc (digs k n) = some (acc * 10 ^ k + n)
 | 0, acc, n, h => by
  have : n = 0 := by simpa using h
  subst this
  simp [digs, Go.Lib.decFrom]
 | k + 1, acc, n, h => by
  have hq : n / 10 ^ k < 10 := by
   rw [Nat.pow_succ] at h
   exact Nat.div_lt_of_lt_mul h
  have hd := digit_nat hq
  rw [digs, Go.Lib.decFrom]
  rw [digitVal_digit hq]
  show Go.Lib.decFrom (acc * 10 + n / 10 ^ k) (digs k (n % 10 ^ k)) = _
  rw [digs_from k _ _ (Nat.mod_lt _ (pow_pos10 k))]
  congr 1
  have h2 := Nat.div_add_mod n (10 ^ k)
  have h3 : (acc * 10 + n / 10 ^ k) * 10 ^ k = acc * 10 ^ (k + 1) + 10 ^ k * (n / 10 ^ k) := by
   rw [Nat.add_mul, Nat.pow_succ, Nat.mul_assoc, Nat.mul_comm 10 (10 ^ k), Nat.mul_comm (n / 10 ^ k)]
  rw [h3]
  omega
theorem six_length (n : Nat) : (six n).length = 6 := digs_length 6 n
theorem six_inj {n m : Nat} (hn : n ≤ 999999) (hm : m ≤ 999999) (h : six n = six m) : n = m := by
 have h1 := digs_from 6 0 n (by omega)
 have h2 := digs_from 6 0 m (by omega)
 unfold six at h
 rw [h, h2] at h1
 injection h1 with h1
 omega
theorem six_atoi {n : Nat} (hn : n ≤ 999999) : Go.Lib.atoiAll (six n) = .ok (n : Int) := by
 have hq : n / 10 ^ 5 < 10 := by omega
 have hd := digit_nat hq
 rw [Go.Lib.atoiAll_short _ (by rw [six_length]; decide)]
 have h1 : Go.Lib.decFrom 0 (six n) = some n := by
  have := digs_from 6 0 n (by omega)
  unfold six
  rw [this]
  simp
 have h2 : Go.Lib.atoi (six n) = some (n : Int) := by
  have e : six n = UInt8.ofNat (48 + n / 10 ^ 5) :: digs 5 (n % 10 ^ 5) := rfl
  rw [e] at h1 ⊢
  have n1 : (UInt8.ofNat (48 + n / 10 ^ 5) == 45) = false := by
   rw [beq_eq_false_iff_ne]
   intro h
   have := congrArg UInt8.toNat h
   rw [hd] at this
   simp at this
   omega
  have n2 : (UInt8.ofNat (48 + n / 10 ^ 5) == 43) = false := by
   rw [beq_eq_false_iff_ne]
   intro h
   have := congrArg UInt8.toNat h
   rw [hd] at this
   simp at this
   omega
  simp only [Go.Lib.atoi, n1, n2, Bool.false_eq_true, if_false]
  unfold Go.Lib.decNat
  simp only [List.isEmpty_cons, Bool.false_eq_true, if_false]
  rw [h1]
  rfl
 rw [h2]
 rfl
/-- A number's name, behind a letter. -/
def nameL (c : UInt8) (n from_ : Int) : List UInt8 := if n < from_ ∨ 999999 < n then [] else c :: six n.toNat
/-- The version that a name tells. -/
def IsV (s : List UInt8) (n : Nat) : Prop := 1 ≤ n ∧ n ≤ 999999 ∧ s = 109 :: six n
theorem IsV.uniq {s : List UInt8} {n m : Nat} (h : IsV s n) (h' : IsV s m) : n = m := by
 have := h.2.2.symm.trans h'.2.2
 injection this with _ this
 exact six_inj h.2.1 h'.2.1 this
theorem name_isV {s : List UInt8} {n : Int} (hs : s ≠ []) (h : nameL 109 n 1 = s) : IsV s n.toNat ∧ 0 ≤ n := by
 unfold nameL at h
 split at h
 ·exact absurd h.symm hs
 ·exact ⟨⟨by omega, by omega, h.symm⟩, by omega⟩
theorem isV_name {s : List UInt8} {n : Nat} (h : IsV s n) : nameL 109 (n : Int) 1 = s := by
 obtain ⟨h1, h2, h3⟩ := h
 unfold nameL
 rw [if_neg (by omega), h3]
 rfl
end Go.Proofs.YtlnbekaldemebaaGreatDoor.Thw
/-! ## Layer 12 (manifest) in plain words: reading. No program in sight. -/
namespace Go.Proofs.YtlnbekaldemebaaGreatDoor.Thw
open Go
set_option linter.unusedVariables false
/-- A number not above one, taken off bytes. -/
def tk (tm : Nat) (s : Bs) : Option (Nat × Bs) := if (takeS s).2.2 = 0 ∧ (takeS s).1 ≤ tm then some ((takeS s).1, (takeS s).2.1) else none
/-- The numbers of one segment. -/
def seg1 (s : Bs) : Option ((Nat × Nat × Nat) × Bs) := (tk 999999 s).bind fun a => (tk 1048576 a.2).bind fun b => (tk 4294967295 b.2).bind fun c => some ((a.1, b.1, c.1), c.2)
def segsN : Nat → Bs → Option (List (Nat × Nat × Nat) × Bs)
 | 0, s => some ([], s)
 | k + 1, s => (segsN k s).bind fun p => (seg1 p.2).bind fun q => some (p.1 ++ [q.1], q.2)
theorem segsN_next {j : Nat} {s t : Bs} {l : List (Nat × Nat × Nat)} (h : segsN j s = some (l, t)) : segsN (j + 1) s = (seg1 t).bind fun q => some (l ++ [q.1], q.2) := by
 rw [segsN, h]
 rfl
theorem segsN_none {j : Nat} {s : Bs} (h : segsN j s = none) : ∀ d, segsN (j + d) s = none
 | 0 => h
 | d + 1 => by
  rw [← Nat.add_assoc, segsN, segsN_none h d]
  rfl
theorem segsN_fail {j k : Nat} {s t : Bs} {l : List (Nat × Nat × Nat)} (h : segsN j s = some (l, t)) (hs : seg1 t = none) (hj : j < k) : segsN k s = none := by
 have h1 : segsN (j + 1) s = none := by rw [segsN_next h, hs]; rfl
 have h2 := segsN_none h1 (k - (j + 1))
 rwa [show j + 1 + (k - (j + 1)) = k by omega] at h2
end Go.Proofs.YtlnbekaldemebaaGreatDoor.Thw
/-! ## Layer 12 (manifest) in plain words: bytes, and back. No program in sight. -/
namespace Go.Proofs.YtlnbekaldemebaaGreatDoor.Thw
open Go
set_option linter.unusedVariables false
abbrev Sn := Nat × Nat × Nat
def segB (p : Sn) : Bs := putS p.1 ++ putS p.2.1 ++ putS p.2.2
def segsB (l : List Sn) : Bs := (l.map segB).flatten
def bodyS (v : Nat) (l : List Sn) : Bs := putS v ++ putS l.length ++ segsB l
def Fits (p : Sn) : Prop := p.1 ≤ 999999 ∧ p.2.1 ≤ 1048576 ∧ p.2.2 ≤ 4294967295
theorem tk_put {tm n : Nat} (h : n ≤ tm) (hn : n < 18446744073709551616) (rest : Bs) : tk tm (putS n ++ rest) = some (n, rest) := by
 unfold tk
 rw [takeS_put n hn]
 exact if_pos ⟨rfl, h⟩
theorem tk_of {tm n : Nat} {s r : Bs} (h : tk tm s = some (n, r)) : s = putS n ++ r ∧ n ≤ tm ∧ r.length < s.length := by
 unfold tk at h
 split at h
 ·rename_i h1
  simp only [Option.some.injEq, Prod.mk.injEq] at h
  obtain ⟨rfl, rfl⟩ := h
  rcases takeS_told s with h2 | h2 | h2
  ·exact ⟨h2.2.1.symm, h1.2, h2.2.2.2.2⟩
  ·rw [h2] at h1; exact absurd h1.1 (by decide)
  ·rw [h2] at h1; exact absurd h1.1 (by decide)
 ·cases h
theorem seg1_put {p : Sn} (h : Fits p) (rest : Bs) : seg1 (segB p ++ rest) = some (p, rest) := by
 obtain ⟨h1, h2, h3⟩ := h
 unfold seg1 segB
 rw [List.append_assoc, List.append_assoc, tk_put h1 (by omega)]
 simp only [Option.bind_some]
 rw [tk_put h2 (by omega)]
 simp only [Option.bind_some]
 rw [tk_put h3 (by omega)]
 rfl
theorem seg1_of {p : Sn} {s r : Bs} (h : seg1 s = some (p, r)) : s = segB p ++ r ∧ Fits p := by
 unfold seg1 at h
 obtain ⟨⟨a, s1⟩, h1, h⟩ := Option.bind_eq_some_iff.1 h
 obtain ⟨⟨b, s2⟩, h2, h⟩ := Option.bind_eq_some_iff.1 h
 obtain ⟨⟨c, s3⟩, h3, h⟩ := Option.bind_eq_some_iff.1 h
 simp only [Option.some.injEq, Prod.mk.injEq] at h
 obtain ⟨rfl, rfl⟩ := h
 obtain ⟨e1, l1, _⟩ := tk_of h1
 obtain ⟨e2, l2, _⟩ := tk_of h2
 obtain ⟨e3, l3, _⟩ := tk_of h3
 simp only at e2 e3
 refine ⟨?_, l1, l2, l3⟩
 rw [e1, e2, e3]
 unfold segB
 simp
theorem segsB_snoc (l : List Sn) (p : Sn) : segsB (l ++ [p]) = segsB l ++ segB p := by
 unfold segsB
 simp
theorem segsN_put : ∀ (k : Nat) (l : List Sn) (rest : Bs), l.length = k → (∀ p ∈ l, Fits p) → segsN k (segsB l ++ rest) = some (l, rest)
 | 0, l, rest, h, _ => by
  have : l = [] := List.eq_nil_of_length_eq_zero h
  subst this
  rfl
 | k + 1, l, rest, h, hf => by
  have hne : l ≠ [] := fun e => by rw [e] at h; cases h
  obtain ⟨m, p, rfl⟩ : ∃ m p, l = m ++ [p] := ⟨l.dropLast, l.getLast hne, (List.dropLast_concat_getLast hne).symm⟩
  have h1 : m.length = k := by simpa using h
  rw [segsB_snoc, List.append_assoc, segsN_next (segsN_put k m (segB p ++ rest) h1 (fun q hq => hf q (List.mem_append_left _ hq))), seg1_put (hf p (by simp))]
  rfl
theorem segsN_of : ∀ (k : Nat) {s r : Bs} {l : List Sn}, segsN k s = some (l, r) → s = segsB l ++ r ∧ l.length = k ∧ ∀ p ∈ l, Fits p
 | 0, s, r, l, h => by
  simp only [segsN, Option.some.injEq, Prod.mk.injEq] at h
  obtain ⟨rfl, rfl⟩ := h
  exact ⟨rfl, rfl, fun p hp => by cases hp⟩
 | k + 1, s, r, l, h => by
  rw [segsN] at h
  obtain ⟨⟨m, s1⟩, h1, h⟩ := Option.bind_eq_some_iff.1 h
  obtain ⟨⟨p, s2⟩, h2, h⟩ := Option.bind_eq_some_iff.1 h
  simp only [Option.some.injEq, Prod.mk.injEq] at h
  obtain ⟨rfl, rfl⟩ := h
  obtain ⟨e1, l1, f1⟩ := segsN_of k h1
  obtain ⟨e2, f2⟩ := seg1_of h2
  simp only at e2
  refine ⟨by rw [e1, e2, segsB_snoc, List.append_assoc], by rw [List.length_append, l1]; rfl, fun q hq => ?_⟩
  rcases List.mem_append.1 hq with h3 | h3
  ·exact f1 q h3
  ·rw [List.mem_singleton.1 h3]; exact f2
end Go.Proofs.YtlnbekaldemebaaGreatDoor.Thw
