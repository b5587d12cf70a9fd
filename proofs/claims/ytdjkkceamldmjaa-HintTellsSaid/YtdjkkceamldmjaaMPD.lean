/- Several texts of mine in one (PlainA, Plain01, Plain02, Plain03, Plain04, Plain05, Plain05O). -/
import Derived.Lib.Strings
import Derived.Lib.IndexBytes
import Derived.Laws.BitsAllLaws
import Derived.Laws.Bits64
/-! ## Plain words for all layers: strings as lists of bytes; whole numbers and their bits. No program in sight. -/
namespace Go.Proofs.Ytdjkkceamldmjaa.Thw
open Go

abbrev Bs := List UInt8
/-- A string's bytes. -/
def L (s : ByteArray) : Bs := s.data.toList
/-- Bytes as a string. -/
def B (l : Bs) : ByteArray := ⟨l.toArray⟩
theorem L_B (l : Bs) : L (B l) = l := by simp [L, B]
theorem B_L (s : ByteArray) : B (L s) = s := by simp [L, B]
theorem L_inj {a b : ByteArray} (h : L a = L b) : a = b := by rw [← B_L a, h, B_L]
theorem toList_L (s : ByteArray) : s.toList = L s := Lib.toList_data s
theorem L_append (a b : ByteArray) : L (a ++ b) = L a ++ L b := by simp [L]
theorem L_length (s : ByteArray) : (L s).length = s.size := (Lib.size_eq s).symm
theorem B_size (l : Bs) : (B l).size = l.length := by rw [← L_length, L_B]
theorem B_append (a b : Bs) : B (a ++ b) = B a ++ B b := L_inj (by rw [L_append, L_B, L_B, L_B])
theorem L_extract (s : ByteArray) (a b : Nat) : L (s.extract a b) = ((L s).drop a).take (b - a) := Lib.extract_data s a b
theorem L_extract_end (s : ByteArray) (a : Nat) : L (s.extract a s.size) = (L s).drop a := Lib.extract_to_end s a
theorem L_extract_front (s : ByteArray) (b : Nat) : L (s.extract 0 b) = (L s).take b := by rw [L_extract]; simp
theorem extract_end (s : ByteArray) (a : Nat) : s.extract a s.size = B ((L s).drop a) := L_inj (by rw [L_extract_end, L_B])
theorem extract_front (s : ByteArray) (b : Nat) : s.extract 0 b = B ((L s).take b) := L_inj (by rw [L_extract_front, L_B])
theorem B_nil : B [] = ⟨#[]⟩ := rfl
end Go.Proofs.Ytdjkkceamldmjaa.Thw
/-! ## Layer 1 (varint) in plain words: a number's bytes, the number that bytes begin with, texts with their length ahead. No program in sight. -/
namespace Go.Proofs.Ytdjkkceamldmjaa.Thw
open Go
set_option linter.unusedVariables false

/-- A number's bytes: up to 'k' more may follow the first. -/
def putB : Nat → Nat → Bs
  | 0, n => [UInt8.ofNat n]
  | k + 1, n => if n < 128 then [UInt8.ofNat n] else UInt8.ofNat (n % 128 + 128) :: putB k (n / 128)
def putS (n : Nat) : Bs := putB 9 n
/-- The number that bytes begin with: at place i, with what was gathered. -/
def takeR (b : Bs) : Nat → Nat → Nat → Nat × Bs × Int
  | 0, _, _ => (0, [], 2)
  | f + 1, i, acc =>
    if i = b.length then (0, [], 3)
    else if 128 ≤ (b.getD i 0).toNat then takeR b f (i + 1) ((acc + (b.getD i 0).toNat % 128 * 128 ^ i) % 18446744073709551616)
    else if putS ((acc + (b.getD i 0).toNat % 128 * 128 ^ i) % 18446744073709551616) = b.take (i + 1) then ((acc + (b.getD i 0).toNat % 128 * 128 ^ i) % 18446744073709551616, b.drop (i + 1), 0)
    else (0, [], 2)
def takeS (b : Bs) : Nat × Bs × Int := takeR b 10 0 0
def textS (s : Bs) : Bs := putS s.length ++ s
def ofTextS (b : Bs) : Bs × Bs × Int :=
  if (takeS b).2.2 = 0 then (if (takeS b).1 > (takeS b).2.1.length then ([], [], 3) else ((takeS b).2.1.take (takeS b).1, (takeS b).2.1.drop (takeS b).1, 0)) else ([], [], (takeS b).2.2)

theorem putB_length : ∀ (k n : Nat), (putB k n).length ≤ k + 1
  | 0, _ => by simp [putB]
  | k + 1, n => by
    rw [putB]
    split
    · simp
    · have := putB_length k (n / 128)
      rw [List.length_cons]; omega
theorem putB_len_le : ∀ (k n : Nat), (putB k n).length ≤ n + 1
  | 0, _ => by simp [putB]
  | k + 1, n => by
    rw [putB]
    split
    · simp
    · have := putB_len_le k (n / 128)
      rw [List.length_cons]; omega
theorem putB_pos : ∀ (k n : Nat), 0 < (putB k n).length
  | 0, _ => by simp [putB]
  | k + 1, n => by
    rw [putB]
    split <;> simp
theorem putS_length (n : Nat) : (putS n).length ≤ 10 := putB_length 9 n
theorem putS_pos (n : Nat) : 0 < (putS n).length := putB_pos 9 n
theorem pow_128_9 : (128 : Nat) ^ 9 = 9223372036854775808 := by decide

/-- What is told of any bytes: a number's own bytes ahead, or an error beside nothing. -/
def TakeTold (b : Bs) (r : Nat × Bs × Int) : Prop :=
  (r.2.2 = 0 ∧ putS r.1 ++ r.2.1 = b ∧ r.1 < 18446744073709551616 ∧ b.length ≤ r.2.1.length + 10 ∧ r.2.1.length < b.length) ∨ (r = (0, [], 2) ∨ r = (0, [], 3))
theorem takeR_told (b : Bs) : ∀ (f i acc : Nat), i + f = 10 → i ≤ b.length → TakeTold b (takeR b f i acc)
  | 0, i, acc, _, _ => .inr (.inl rfl)
  | f + 1, i, acc, e, h => by
    rw [takeR]
    by_cases h1 : i = b.length
    · rw [if_pos h1]; exact .inr (.inr rfl)
    rw [if_neg h1]
    split
    · exact takeR_told b f (i + 1) _ (by omega) (by omega)
    · split
      · rename_i h3
        refine .inl ⟨rfl, by rw [h3, List.take_append_drop], Nat.mod_lt _ (by omega), ?_, ?_⟩
        · simp only [List.length_drop]; omega
        · simp only [List.length_drop]; omega
      · exact .inr (.inl rfl)
theorem takeS_told (b : Bs) : TakeTold b (takeS b) := takeR_told b 10 0 0 rfl (Nat.zero_le _)

/-- What OfText tells of any bytes. -/
def OfTextTold (b : Bs) (r : Bs × Bs × Int) : Prop :=
  (r.2.2 = 0 ∧ textS r.1 ++ r.2.1 = b ∧ r.2.1.length < b.length) ∨ (r = ([], [], 2) ∨ r = ([], [], 3))
theorem ofTextS_told (b : Bs) : OfTextTold b (ofTextS b) := by
  unfold ofTextS
  rcases takeS_told b with ⟨h1, h2, h3, h4, h5⟩ | h1 | h1
  · rw [if_pos h1]
    split
    · exact .inr (.inr rfl)
    · rename_i h6
      refine .inl ⟨rfl, ?_, ?_⟩
      · simp only [textS, List.length_take, List.append_assoc, List.take_append_drop]
        rw [Nat.min_eq_left (by omega)]
        exact h2
      · simp only [List.length_drop]; omega
  · rw [h1]; exact .inr (.inl rfl)
  · rw [h1]; exact .inr (.inr rfl)
end Go.Proofs.Ytdjkkceamldmjaa.Thw
/-! ## Layer 2 (crc) in plain words: one step, eight steps, a table, checks of bytes; what a check tells of. No program in sight. -/
namespace Go.Proofs.Ytdjkkceamldmjaa.Thw
open Go
set_option linter.unusedVariables false

def polyN : Nat := 2197175160
def stepN (c : Nat) : Nat := (c / 2) ^^^ (if c % 2 = 1 then polyN else 0)
def stepsN : Nat → Nat → Nat
  | 0, c => c
  | n + 1, c => stepN (stepsN n c)
def byteN (c x : Nat) : Nat := stepsN 8 (c ^^^ x)
def moreN (l : Bs) (c : Nat) : Nat := l.foldl (fun c b => byteN c b.toNat) c
def ones : Nat := 4294967295
def moreS (sum : Nat) (l : Bs) : Nat := ones ^^^ moreN l (ones ^^^ sum)
def sumS2 (l : Bs) : Nat := moreS 0 l
def le4 (n : Nat) : Bs := [UInt8.ofNat (n % 256), UInt8.ofNat (n / 256 % 256), UInt8.ofNat (n / 65536 % 256), UInt8.ofNat (n / 16777216 % 256)]
def sealS (l : Bs) : Bs := le4 (sumS2 l) ++ l
def openS (l : Bs) : Bs × Bool := if l.length < 4 then ([], false) else if (sealS (l.drop 4)).take 4 = l.take 4 then (l.drop 4, true) else ([], false)

theorem half_xor (a b : Nat) : (a ^^^ b) / 2 = (a / 2) ^^^ (b / 2) := by
  have e : ∀ n : Nat, n / 2 = n >>> 1 := fun n => by rw [Nat.shiftRight_eq_div_pow]
  rw [e, e, e, Nat.shiftRight_xor_distrib]
theorem odd_xor (a b : Nat) : (a ^^^ b) % 2 = (a % 2 + b % 2) % 2 := by
  have h := Nat.testBit_xor a b 0
  simp only [Nat.testBit_zero] at h
  rcases Nat.mod_two_eq_zero_or_one a with h1 | h1 <;> rcases Nat.mod_two_eq_zero_or_one b with h2 | h2 <;> rcases Nat.mod_two_eq_zero_or_one (a ^^^ b) with h3 | h3 <;> simp_all
theorem xor_swap (a b c d : Nat) : (a ^^^ b) ^^^ (c ^^^ d) = (a ^^^ c) ^^^ (b ^^^ d) := by
  rw [Nat.xor_assoc, Nat.xor_assoc, ← Nat.xor_assoc b c d, Nat.xor_comm b c, Nat.xor_assoc c b d]
theorem stepN_xor (a b : Nat) : stepN (a ^^^ b) = stepN a ^^^ stepN b := by
  unfold stepN
  rw [half_xor, odd_xor, xor_swap]
  congr 1
  rcases Nat.mod_two_eq_zero_or_one a with h1 | h1 <;> rcases Nat.mod_two_eq_zero_or_one b with h2 | h2 <;> simp [h1, h2]
theorem stepsN_xor (a b : Nat) : ∀ n, stepsN n (a ^^^ b) = stepsN n a ^^^ stepsN n b
  | 0 => rfl
  | n + 1 => by rw [stepsN, stepsN, stepsN, stepsN_xor a b n, stepN_xor]
theorem stepN_double (y : Nat) : stepN (2 * y) = y := by
  unfold stepN
  rw [if_neg (by omega), Nat.xor_zero]; omega
theorem stepsN_pow : ∀ (n y : Nat), stepsN n (2 ^ n * y) = y
  | 0, y => by simp [stepsN]
  | n + 1, y => by
    have := stepsN_pow n (2 * y)
    rw [stepsN, show 2 ^ (n + 1) * y = 2 ^ n * (2 * y) by rw [Nat.pow_succ, Nat.mul_assoc], this, stepN_double]
theorem stepN_lt (c : Nat) (h : c < 4294967296) : stepN c < 4294967296 := by
  unfold stepN
  refine Nat.xor_lt_two_pow (n := 32) (by omega) ?_
  split
  · unfold polyN; omega
  · omega
theorem stepsN_lt (c : Nat) (h : c < 4294967296) : ∀ n, stepsN n c < 4294967296
  | 0 => h
  | n + 1 => stepN_lt _ (stepsN_lt c h n)
theorem byteN_lt (c x : Nat) (h : c < 4294967296) (hx : x < 256) : byteN c x < 4294967296 :=
  stepsN_lt _ (Nat.xor_lt_two_pow (n := 32) (by omega) (by omega)) 8
theorem moreN_cons (b : UInt8) (l : Bs) (c : Nat) : moreN (b :: l) c = moreN l (byteN c b.toNat) := List.foldl_cons ..
theorem moreN_nil (c : Nat) : moreN [] c = c := rfl
theorem moreN_lt : ∀ (l : Bs) (c : Nat), c < 4294967296 → moreN l c < 4294967296
  | [], _, h => h
  | b :: l, c, h => by rw [moreN_cons]; exact moreN_lt l _ (byteN_lt c _ h b.toNat_lt)
theorem ones_lt : ones < 4294967296 := by unfold ones; omega
/-- A table's entry, and the higher bytes: eight steps at once. -/
theorem byteN_table (c x : Nat) (hx : x < 256) : byteN c x = stepsN 8 ((c % 256) ^^^ x) ^^^ (c / 256) := by
  have e1 : c = (c % 256) ^^^ (2 ^ 8 * (c / 256)) := by
    have h : 2 ^ 8 * (c / 256) + c % 256 = 2 ^ 8 * (c / 256) ||| c % 256 := Nat.two_pow_add_eq_or_of_lt (Nat.mod_lt _ (by omega)) _
    have h2 : (c % 256) &&& (2 ^ 8 * (c / 256)) = 0 := by
      apply Nat.eq_of_testBit_eq
      intro i
      rw [Nat.testBit_and, Nat.zero_testBit]
      rcases Nat.lt_or_ge i 8 with hi | hi
      · rw [Nat.testBit_two_pow_mul]
        simp [show ¬ 8 ≤ i by omega]
      · rw [Nat.testBit_lt_two_pow (x := c % 256) (Nat.lt_of_lt_of_le (Nat.mod_lt _ (by omega)) (Nat.pow_le_pow_right (n := 2) (by omega) hi))]
        rfl
    have h3 : (c % 256) ^^^ (2 ^ 8 * (c / 256)) = (c % 256) ||| (2 ^ 8 * (c / 256)) := by
      apply Nat.eq_of_testBit_eq
      intro i
      have := congrArg (fun n => Nat.testBit n i) h2
      simp only [Nat.testBit_and, Nat.zero_testBit] at this
      rw [Nat.testBit_xor, Nat.testBit_or]
      cases h4 : (c % 256).testBit i <;> cases h5 : (2 ^ 8 * (c / 256)).testBit i <;> simp_all
    rw [h3, Nat.or_comm, ← h]
    have := Nat.div_add_mod c 256
    omega
  unfold byteN
  conv => lhs; rw [e1]
  rw [Nat.xor_assoc, Nat.xor_comm (2 ^ 8 * (c / 256)) x, ← Nat.xor_assoc, stepsN_xor, stepsN_pow]
theorem le4_length (n : Nat) : (le4 n).length = 4 := rfl
theorem sealS_length (l : Bs) : (sealS l).length = l.length + 4 := by unfold sealS; rw [List.length_append, le4_length]; omega
theorem sealS_take (l : Bs) : (sealS l).take 4 = le4 (sumS2 l) := by unfold sealS; rw [← le4_length (sumS2 l), List.take_left]
/-- What is opened has just these bytes. -/
theorem openS_told (l : Bs) : (∃ s, openS l = (s, true) ∧ sealS s = l) ∨ openS l = ([], false) := by
  unfold openS
  by_cases h1 : l.length < 4
  · rw [if_pos h1]; exact .inr rfl
  rw [if_neg h1]
  by_cases h2 : (sealS (l.drop 4)).take 4 = l.take 4
  · rw [if_pos h2]
    refine .inl ⟨_, rfl, ?_⟩
    rw [sealS_take] at h2
    conv => rhs; rw [← List.take_append_drop 4 l, ← h2]
    rfl
  · rw [if_neg h2]; exact .inr rfl
end Go.Proofs.Ytdjkkceamldmjaa.Thw
/-! ## Layer 3 (record) in plain words: a record's bytes, the record that bytes begin with, many of them. No program in sight. -/
namespace Go.Proofs.Ytdjkkceamldmjaa.Thw
open Go
set_option linter.unusedVariables false

structure Rec where
  seq : Nat
  key : Bs
  val : Bs
  gone : Bool
deriving DecidableEq
def rec0 : Rec := ⟨0, [], [], false⟩
def rightS (r : Rec) : Bool := decide (1 ≤ r.seq) && decide (r.seq ≤ 1099511627776) && decide (1 ≤ r.key.length) && decide (r.key.length ≤ 40) && decide (r.val.length ≤ 300) && (!(r.gone && decide (r.val ≠ [])))
def recS (r : Rec) : Bs := if r.gone = true then putS (2 * r.seq + 1) ++ textS r.key else putS (2 * r.seq) ++ textS r.key ++ textS r.val
def bytesS (r : Rec) : Bs × Int := if rightS r = true then (recS r, 0) else ([], 1)
def readS (b : Bs) : Rec × Bs × Int :=
  if (takeS b).2.2 = 0 then
    (if (ofTextS (takeS b).2.1).2.2 = 0 then
      (if (takeS b).1 % 2 = 1 then
        (if rightS ⟨(takeS b).1 / 2, (ofTextS (takeS b).2.1).1, [], true⟩ = true then (⟨(takeS b).1 / 2, (ofTextS (takeS b).2.1).1, [], true⟩, (ofTextS (takeS b).2.1).2.1, 0) else (rec0, [], 2))
      else
        (if (ofTextS (ofTextS (takeS b).2.1).2.1).2.2 = 0 then
          (if rightS ⟨(takeS b).1 / 2, (ofTextS (takeS b).2.1).1, (ofTextS (ofTextS (takeS b).2.1).2.1).1, false⟩ = true then (⟨(takeS b).1 / 2, (ofTextS (takeS b).2.1).1, (ofTextS (ofTextS (takeS b).2.1).2.1).1, false⟩, (ofTextS (ofTextS (takeS b).2.1).2.1).2.1, 0) else (rec0, [], 2))
        else (rec0, [], (ofTextS (ofTextS (takeS b).2.1).2.1).2.2)))
    else (rec0, [], (ofTextS (takeS b).2.1).2.2))
  else (rec0, [], (takeS b).2.2)
def allS : List Rec → Bs × Int
  | [] => ([], 0)
  | r :: l => if rightS r = true then (if (allS l).2 = 0 then (recS r ++ (allS l).1, 0) else ([], (allS l).2)) else ([], 1)
def listR : Nat → Bs → List Rec × Int
  | 0, _ => ([], 0)
  | f + 1, b => if b = [] then ([], 0) else
    if (readS b).2.2 = 0 then (if (listR f (readS b).2.1).2 = 0 then ((readS b).1 :: (listR f (readS b).2.1).1, 0) else ([], (listR f (readS b).2.1).2)) else ([], (readS b).2.2)
def listS (b : Bs) : List Rec × Int := listR b.length b

theorem right_facts {r : Rec} (h : rightS r = true) : 1 ≤ r.seq ∧ r.seq ≤ 1099511627776 ∧ 1 ≤ r.key.length ∧ r.key.length ≤ 40 ∧ r.val.length ≤ 300 ∧ (r.gone = true → r.val = []) := by
  unfold rightS at h
  simp only [Bool.and_eq_true, decide_eq_true_eq, Bool.not_eq_true', Bool.and_eq_false_iff, decide_eq_false_iff_not] at h
  obtain ⟨⟨⟨⟨⟨h1, h2⟩, h3⟩, h4⟩, h5⟩, h6⟩ := h
  refine ⟨h1, h2, h3, h4, h5, fun hg => ?_⟩
  rcases h6 with h6 | h6
  · rw [hg] at h6; cases h6
  · exact Classical.not_not.mp h6
theorem textS_length (s : Bs) : (textS s).length ≤ 10 + s.length := by
  unfold textS
  have := putS_length s.length
  simp; omega
theorem recS_length {r : Rec} (h : rightS r = true) : (recS r).length ≤ 380 := by
  obtain ⟨h1, h2, h3, h4, h5, h6⟩ := right_facts h
  unfold recS
  have a := textS_length r.key
  have b := textS_length r.val
  have c := putS_length (2 * r.seq + 1)
  have d := putS_length (2 * r.seq)
  split <;> simp <;> omega
/-- What Read tells of any bytes. -/
def ReadTold (b : Bs) (x : Rec × Bs × Int) : Prop :=
  (x.2.2 = 0 ∧ rightS x.1 = true ∧ recS x.1 ++ x.2.1 = b ∧ x.2.1.length < b.length) ∨ (x = (rec0, [], 2) ∨ x = (rec0, [], 3))
theorem readS_told (b : Bs) : ReadTold b (readS b) := by
  unfold readS
  rcases takeS_told b with ⟨h1, h2, h3, h4, h5⟩ | h1 | h1
  · rw [if_pos h1]
    generalize hT : takeS b = T at *
    obtain ⟨n, b1, e1⟩ := T
    simp only [] at h1 h2 h3 h4 h5 ⊢
    rcases ofTextS_told b1 with ⟨k1, k2, k3⟩ | k1 | k1
    · rw [if_pos k1]
      generalize hO : ofTextS b1 = O at *
      obtain ⟨key, b2, e2⟩ := O
      simp only [] at k1 k2 k3 ⊢
      by_cases hn : n % 2 = 1
      · rw [if_pos hn]
        split
        · rename_i hr
          refine .inl ⟨rfl, hr, ?_, ?_⟩
          · simp only [recS, if_true]
            rw [show 2 * (n / 2) + 1 = n by omega, List.append_assoc, k2, h2]
          · show b2.length < b.length; omega
        · exact .inr (.inl rfl)
      · rw [if_neg hn]
        rcases ofTextS_told b2 with ⟨m1, m2, m3⟩ | m1 | m1
        · rw [if_pos m1]
          split
          · rename_i hr
            refine .inl ⟨rfl, hr, ?_, ?_⟩
            · simp only [recS]
              rw [if_neg (by decide), show 2 * (n / 2) = n by omega, List.append_assoc, List.append_assoc, m2, k2, h2]
            · show (ofTextS b2).2.1.length < b.length; omega
          · exact .inr (.inl rfl)
        · rw [m1]; exact .inr (.inl rfl)
        · rw [m1]; exact .inr (.inr rfl)
    · rw [k1]; exact .inr (.inl rfl)
    · rw [k1]; exact .inr (.inr rfl)
  · rw [h1]; exact .inr (.inl rfl)
  · rw [h1]; exact .inr (.inr rfl)
/-- Many, one behind the other. -/
theorem allS_right : ∀ l : List Rec, (allS l).2 = 0 ∧ (∀ r ∈ l, rightS r = true) ∨ allS l = ([], 1)
  | [] => .inl ⟨rfl, by simp⟩
  | r :: l => by
    unfold allS
    cases hr : rightS r with
    | false => exact .inr rfl
    | true =>
      rw [if_pos rfl]
      rcases allS_right l with ⟨h1, h2⟩ | h1
      · rw [if_pos h1]
        refine .inl ⟨rfl, fun x hx => ?_⟩
        rcases List.mem_cons.mp hx with rfl | hx
        · exact hr
        · exact h2 x hx
      · rw [h1]; exact .inr rfl
theorem allS_cons {r : Rec} {l : List Rec} (h : (allS (r :: l)).2 = 0) : rightS r = true ∧ (allS l).2 = 0 ∧ allS (r :: l) = (recS r ++ (allS l).1, 0) := by
  rcases allS_right (r :: l) with ⟨h1, h2⟩ | h1
  · have hr := h2 r (by simp)
    rcases allS_right l with ⟨h3, h4⟩ | h3
    · exact ⟨hr, h3, by rw [allS, if_pos hr, if_pos h3]⟩
    · rw [allS, if_pos hr, h3, if_neg (by decide)] at h; exact absurd h (by decide)
  · rw [h1] at h; exact absurd h (by decide)
theorem allS_length : ∀ l : List Rec, (allS l).1.length ≤ 380 * l.length
  | [] => by simp [allS]
  | r :: l => by
    rw [allS]
    have := allS_length l
    split
    · rename_i hr
      have := recS_length hr
      split <;> simp <;> omega
    · simp
theorem listR_told : ∀ (f : Nat) (b : Bs), b.length ≤ f → ((listR f b).2 = 0 ∧ allS (listR f b).1 = (b, 0) ∧ (listR f b).1.length ≤ b.length) ∨ (listR f b = ([], 2) ∨ listR f b = ([], 3))
  | 0, b, h => by
    have : b = [] := List.length_eq_zero_iff.mp (by omega)
    subst this
    exact .inl ⟨rfl, rfl, by simp [listR]⟩
  | f + 1, b, h => by
    rw [listR]
    by_cases hb : b = []
    · subst hb; exact .inl ⟨rfl, rfl, by simp⟩
    rw [if_neg hb]
    rcases readS_told b with ⟨h1, h2, h3, h4⟩ | h1 | h1
    · rw [if_pos h1]
      rcases listR_told f (readS b).2.1 (by omega) with ⟨k1, k2, k3⟩ | k1 | k1
      · rw [if_pos k1]
        refine .inl ⟨rfl, ?_, by simp only [List.length_cons]; omega⟩
        rw [allS, if_pos h2, k2, if_pos rfl]
        simp only []
        rw [h3]
      · rw [k1]; exact .inr (.inl rfl)
      · rw [k1]; exact .inr (.inr rfl)
    · rw [h1]; exact .inr (.inl rfl)
    · rw [h1]; exact .inr (.inr rfl)
theorem listS_told (b : Bs) : ((listS b).2 = 0 ∧ allS (listS b).1 = (b, 0) ∧ (listS b).1.length ≤ b.length) ∨ (listS b = ([], 2) ∨ listS b = ([], 3)) := listR_told b.length b (Nat.le_refl _)
end Go.Proofs.Ytdjkkceamldmjaa.Thw
/-! ## Layer 4 (frame) in plain words: a batch's bytes, the batch that bytes begin with, all of them. No program in sight. -/
namespace Go.Proofs.Ytdjkkceamldmjaa.Thw
open Go
set_option linter.unusedVariables false

def fitsS (l : List Rec) : Bool := decide (1 ≤ l.length) && decide (l.length ≤ 16)
def frameS (l : List Rec) : Bs × Int := if fitsS l = true then (if (allS l).2 = 0 then (textS (sealS (allS l).1), 0) else ([], (allS l).2)) else ([], 1)
def takeF (b : Bs) : List Rec × Int × Int :=
  if (ofTextS b).2.2 = 0 then
    (if (openS (ofTextS b).1).2 = true then
      (if (listS (openS (ofTextS b).1).1).2 = 0 then
        (if fitsS (listS (openS (ofTextS b).1).1).1 = true then ((listS (openS (ofTextS b).1).1).1, (b.length : Int) - ((ofTextS b).2.1.length : Int), 0) else ([], 0, 2))
      else ([], 0, 2))
    else ([], 0, 4))
  else ([], 0, (ofTextS b).2.2)
def scanR : Nat → Bs → List (List Rec) × Nat
  | 0, _ => ([], 0)
  | f + 1, b => if (takeF b).2.2 = 0 then ((takeF b).1 :: (scanR f (b.drop (takeF b).2.1.toNat)).1, (takeF b).2.1.toNat + (scanR f (b.drop (takeF b).2.1.toNat)).2) else ([], 0)
def scanS (b : Bs) : List (List Rec) × Nat := scanR b.length b

theorem fits_facts {l : List Rec} (h : fitsS l = true) : 1 ≤ l.length ∧ l.length ≤ 16 := by
  unfold fitsS at h
  simpa using h
theorem frameS_ok {l : List Rec} (h : (frameS l).2 = 0) : fitsS l = true ∧ (allS l).2 = 0 ∧ frameS l = (textS (sealS (allS l).1), 0) := by
  unfold frameS at h ⊢
  cases hf : fitsS l with
  | false => rw [hf, if_neg (by decide)] at h; exact absurd h (by decide)
  | true =>
    rw [hf, if_pos rfl] at h
    by_cases ha : (allS l).2 = 0
    · exact ⟨rfl, ha, by rw [if_pos rfl, if_pos ha]⟩
    · rw [if_neg ha] at h; exact absurd h ha
theorem seal_len {l : List Rec} (h : fitsS l = true) : (sealS (allS l).1).length ≤ 7000 := by
  have h1 := allS_length l
  have h2 := fits_facts h
  rw [sealS_length]
  omega
theorem frameS_length {l : List Rec} (h : (frameS l).2 = 0) : 0 < (frameS l).1.length ∧ (frameS l).1.length ≤ 7100 := by
  obtain ⟨h1, h2, h3⟩ := frameS_ok h
  have hz := seal_len h1
  have ht := textS_length (sealS (allS l).1)
  rw [h3]
  refine ⟨?_, by show (textS _).length ≤ _; omega⟩
  show 0 < (textS _).length
  unfold textS
  have := putS_pos (sealS (allS l).1).length
  simp; omega
/-- What Take tells of any bytes. -/
def FrameTold (b : Bs) (x : List Rec × Int × Int) : Prop :=
  (x.2.2 = 0 ∧ (frameS x.1).2 = 0 ∧ ∃ rest, (frameS x.1).1 ++ rest = b ∧ x.2.1 = ((frameS x.1).1.length : Int)) ∨ (x.1 = [] ∧ x.2.1 = 0 ∧ x.2.2 ≠ 0)
theorem takeF_told (b : Bs) : FrameTold b (takeF b) := by
  unfold takeF
  rcases ofTextS_told b with ⟨h1, h2, h3⟩ | h1 | h1
  · rw [if_pos h1]
    generalize hO : ofTextS b = O at *
    obtain ⟨t, rest, e⟩ := O
    simp only [] at h1 h2 h3 ⊢
    rcases openS_told t with ⟨s, k1, k2⟩ | k1
    · rw [k1]
      simp only [if_true]
      rcases listS_told s with ⟨m1, m2, m3⟩ | m1 | m1
      · rw [if_pos m1]
        cases hf : fitsS (listS s).1 with
        | false => exact .inr ⟨rfl, rfl, show (2 : Int) ≠ 0 by decide⟩
        | true =>
          have hfr : frameS (listS s).1 = (textS t, 0) := by
            unfold frameS
            rw [hf, if_pos rfl, m2, if_pos rfl]
            show (textS (sealS s), (0 : Int)) = _
            rw [k2]
          refine .inl ⟨rfl, ?_, rest, ?_, ?_⟩
          · show (frameS (listS s).1).2 = 0
            rw [hfr]
          · show (frameS (listS s).1).1 ++ rest = b
            rw [hfr]; exact h2
          · show (b.length : Int) - (rest.length : Int) = ((frameS (listS s).1).1.length : Int)
            rw [hfr, ← h2]
            simp
      · rw [m1]; exact .inr ⟨rfl, rfl, show (2 : Int) ≠ 0 by decide⟩
      · rw [m1]; exact .inr ⟨rfl, rfl, show (2 : Int) ≠ 0 by decide⟩
    · rw [k1]; exact .inr ⟨rfl, rfl, show (4 : Int) ≠ 0 by decide⟩
  · rw [h1]; exact .inr ⟨rfl, rfl, show (2 : Int) ≠ 0 by decide⟩
  · rw [h1]; exact .inr ⟨rfl, rfl, show (3 : Int) ≠ 0 by decide⟩
theorem takeF_range (b : Bs) : 0 ≤ (takeF b).2.1 ∧ (takeF b).2.1 ≤ b.length ∧ ((takeF b).2.2 = 0 → 0 < (takeF b).2.1) ∧ (takeF b).1.length ≤ 16 := by
  rcases takeF_told b with ⟨h1, h2, rest, h3, h4⟩ | ⟨h1, h2, h3⟩
  · obtain ⟨k1, k2⟩ := frameS_length h2
    have : ((frameS (takeF b).1).1 ++ rest).length = b.length := by rw [h3]
    rw [List.length_append] at this
    exact ⟨by omega, by omega, fun _ => by omega, (fits_facts (frameS_ok h2).1).2⟩
  · exact ⟨by omega, by omega, fun h => absurd h h3, by rw [h1]; simp⟩
def framesS (ls : List (List Rec)) : Bs := (ls.map fun l => (frameS l).1).flatten
theorem scanR_len : ∀ (f : Nat) (b : Bs), (scanR f b).1.length ≤ b.length ∧ (scanR f b).2 ≤ b.length ∧ ∀ l ∈ (scanR f b).1, l.length ≤ 16
  | 0, b => by simp [scanR]
  | f + 1, b => by
    rw [scanR]
    obtain ⟨h1, h2, h3, h4⟩ := takeF_range b
    by_cases h : (takeF b).2.2 = 0
    · rw [if_pos h]
      have h3 := h3 h
      obtain ⟨k1, k2, k3⟩ := scanR_len f (b.drop (takeF b).2.1.toNat)
      rw [List.length_drop] at k1 k2
      refine ⟨by simp only [List.length_cons]; omega, by show _ + _ ≤ _; omega, fun l hl => ?_⟩
      rcases List.mem_cons.mp hl with rfl | hl
      · exact h4
      · exact k3 l hl
    · rw [if_neg h]; simp
end Go.Proofs.Ytdjkkceamldmjaa.Thw
/-! ## Layer 5 (hint) in plain words: entries' bytes, the entries of bytes. No program in sight. -/
namespace Go.Proofs.Ytdjkkceamldmjaa.Thw
open Go
set_option linter.unusedVariables false

structure Ent where
  key : Bs
  off : Int
  len : Int
  seq : Nat
  gone : Bool
deriving DecidableEq
def rightE (e : Ent) : Bool := decide (1 ≤ e.key.length ∧ e.key.length ≤ 40 ∧ 0 ≤ e.off ∧ e.off ≤ 1048576 ∧ 1 ≤ e.len ∧ e.len ≤ 400 ∧ 1 ≤ e.seq ∧ e.seq ≤ 1099511627776)
theorem rightE_facts {e : Ent} (h : rightE e = true) : 1 ≤ e.key.length ∧ e.key.length ≤ 40 ∧ 0 ≤ e.off ∧ e.off ≤ 1048576 ∧ 1 ≤ e.len ∧ e.len ≤ 400 ∧ 1 ≤ e.seq ∧ e.seq ≤ 1099511627776 := of_decide_eq_true h
end Go.Proofs.Ytdjkkceamldmjaa.Thw
/-! ## Layer 5 (hint) in plain words: the entries of a segment's bytes, the record that an entry tells of. No program in sight. -/
namespace Go.Proofs.Ytdjkkceamldmjaa.Thw
open Go
set_option linter.unusedVariables false
def batchE : Nat → List Rec → List Ent
  | _, [] => []
  | off, r :: l => ⟨r.key, (off : Int), ((recS r).length : Int), r.seq, r.gone⟩ :: batchE (off + (recS r).length) l
def ofL : Nat → List (List Rec) → List Ent
  | _, [] => []
  | at_, l :: ls => batchE (at_ + (frameS l).1.length - (allS l).1.length) l ++ ofL (at_ + (frameS l).1.length) ls
def atX (x : Rec × Bs × Int) (e : Ent) : Rec × Int := if x.2.2 = 0 ∧ x.2.1 = [] ∧ e.key = x.1.key ∧ e.seq = x.1.seq ∧ e.gone = x.1.gone then (x.1, 0) else (rec0, 2)
def atE (b : Bs) (e : Ent) : Rec × Int := if rightE e = true ∧ e.off + e.len ≤ (b.length : Int) then atX (readS ((b.drop e.off.toNat).take e.len.toNat)) e else (rec0, 1)
theorem batchE_length : ∀ (l : List Rec) (off : Nat), (batchE off l).length = l.length
  | [], _ => rfl
  | r :: l, off => by rw [batchE, List.length_cons, batchE_length l, List.length_cons]
theorem ofL_length : ∀ (ls : List (List Rec)) (at_ : Nat), (ofL at_ ls).length = ls.flatten.length
  | [], _ => rfl
  | l :: ls, at_ => by rw [ofL, List.length_append, batchE_length, ofL_length ls, List.flatten_cons, List.length_append]
/-- A batch's bytes end with its records'. -/
theorem frameS_end {l : List Rec} (h : (frameS l).2 = 0) : ∃ hd, (frameS l).1 = hd ++ (allS l).1 := by
  obtain ⟨h1, h2, h3⟩ := frameS_ok h
  rw [h3]
  exact ⟨putS (sealS (allS l).1).length ++ le4 (sumS2 (allS l).1), by show textS _ = _; unfold textS sealS; rw [List.append_assoc]⟩
theorem frameS_all_le {l : List Rec} (h : (frameS l).2 = 0) : (allS l).1.length ≤ (frameS l).1.length := by
  obtain ⟨hd, e⟩ := frameS_end h
  rw [e, List.length_append]; omega
theorem allS_drop : ∀ (l : List Rec) (j : Nat), (allS l).2 = 0 → (allS (l.drop j)).2 = 0 ∧ (allS (l.drop j)).1.length ≤ (allS l).1.length
  | l, 0, h => ⟨h, Nat.le_refl _⟩
  | [], j + 1, h => ⟨h, Nat.le_refl _⟩
  | r :: l, j + 1, h => by
    obtain ⟨k1, k2, k3⟩ := allS_cons h
    obtain ⟨a, b⟩ := allS_drop l j k2
    rw [k3]
    refine ⟨a, ?_⟩
    show (allS (l.drop j)).1.length ≤ (recS r ++ (allS l).1).length
    rw [List.length_append]
    omega
theorem allS_step (l : List Rec) (j : Nat) (hj : j < l.length) (h : (allS l).2 = 0) : rightS l[j] = true ∧ (allS (l.drop j)).1 = recS l[j] ++ (allS (l.drop (j + 1))).1 := by
  have h1 := (allS_drop l j h).1
  rw [List.drop_eq_getElem_cons hj] at h1 ⊢
  obtain ⟨k1, k2, k3⟩ := allS_cons h1
  rw [k3]
  exact ⟨k1, rfl⟩
theorem batchE_step (l : List Rec) (j off : Nat) (hj : j < l.length) : batchE off (l.drop j) = ⟨l[j].key, (off : Int), ((recS l[j]).length : Int), l[j].seq, l[j].gone⟩ :: batchE (off + (recS l[j]).length) (l.drop (j + 1)) := by
  rw [List.drop_eq_getElem_cons hj, batchE]
/-- What a scan tells are batches. -/
theorem scanR_ok : ∀ (f : Nat) (b : Bs), ∀ l ∈ (scanR f b).1, (frameS l).2 = 0
  | 0, b, l, h => absurd h (by simp [scanR])
  | f + 1, b, l, h => by
    rw [scanR] at h
    by_cases h2 : (takeF b).2.2 = 0
    · rw [if_pos h2] at h
      rcases takeF_told b with ⟨_, t, _⟩ | ⟨_, _, t⟩
      · rcases List.mem_cons.mp h with rfl | h
        · exact t
        · exact scanR_ok f _ l h
      · exact absurd h2 t
    · rw [if_neg h2] at h; exact absurd h (by simp)
theorem takeF_len {b : Bs} (h : (takeF b).2.2 = 0) : (takeF b).2.1 = ((frameS (takeF b).1).1.length : Int) ∧ (frameS (takeF b).1).2 = 0 := by
  rcases takeF_told b with ⟨_, t, _, _, e⟩ | ⟨_, _, t⟩
  · exact ⟨e, t⟩
  · exact absurd h t
theorem scanR_size : ∀ (f : Nat) (b : Bs), (scanR f b).2 = (framesS (scanR f b).1).length
  | 0, b => by simp [scanR, framesS]
  | f + 1, b => by
    rw [scanR]
    by_cases h2 : (takeF b).2.2 = 0
    · rw [if_pos h2]
      obtain ⟨e, _⟩ := takeF_len h2
      have := scanR_size f (b.drop (takeF b).2.1.toNat)
      simp only [framesS, List.map_cons, List.flatten_cons, List.length_append] at this ⊢
      omega
    · rw [if_neg h2]; simp [framesS]
end Go.Proofs.Ytdjkkceamldmjaa.Thw
