/- Layer 2 (crc) in plain words: one step, eight steps, a table, checks of bytes; what a check tells of. No program in sight. -/
import Derived.Test.YtgampcbjmdgciaaDoorPlainA
namespace Go.Proofs.YtgampcbjmdgciaaDoor.Thw
open Go
set_option linter.unusedVariables false

def polyN : Nat := 2197175160
def stepN (c : Nat) : Nat := (c / 2) ^^^ (if c % 2 = 1 then polyN else 0)
def stepsN : Nat → Nat → Nat
  | 0, c => c
  | n + 1, c => stepN (stepsN n c)
def byteN (c x : Nat) : Nat := stepsN 8 (c ^^^ x)
def moreN (l : Bs) (c : Nat) : Nat := l.foldl (fun c b => byteN c b.toNat) c
def ones : Nat := 4294967295
def moreS (sum : Nat) (l : Bs) : Nat := ones ^^^ moreN l (ones ^^^ sum)
def sumS2 (l : Bs) : Nat := moreS 0 l
def le4 (n : Nat) : Bs := [UInt8.ofNat (n % 256), UInt8.ofNat (n / 256 % 256), UInt8.ofNat (n / 65536 % 256), UInt8.ofNat (n / 16777216 % 256)]
def sealS (l : Bs) : Bs := le4 (sumS2 l) ++ l
def openS (l : Bs) : Bs × Bool := if l.length < 4 then ([], false) else if (sealS (l.drop 4)).take 4 = l.take 4 then (l.drop 4, true) else ([], false)

theorem half_xor (a b : Nat) : (a ^^^ b) / 2 = (a / 2) ^^^ (b / 2) := by
  have e : ∀ n : Nat, n / 2 = n >>> 1 := fun n => by rw [Nat.shiftRight_eq_div_pow]
  rw [e, e, e, Nat.shiftRight_xor_distrib]
theorem odd_xor (a b : Nat) : (a ^^^ b) % 2 = (a % 2 + b % 2) % 2 := by
  have h := Nat.testBit_xor a b 0
  simp only [Nat.testBit_zero] at h
  rcases Nat.mod_two_eq_zero_or_one a with h1 | h1 <;> rcases Nat.mod_two_eq_zero_or_one b with h2 | h2 <;> rcases Nat.mod_two_eq_zero_or_one (a ^^^ b) with h3 | h3 <;> simp_all
theorem xor_swap (a b c d : Nat) : (a ^^^ b) ^^^ (c ^^^ d) = (a ^^^ c) ^^^ (b ^^^ d) := by
  rw [Nat.xor_assoc, Nat.xor_assoc, ← Nat.xor_assoc b c d, Nat.xor_comm b c, Nat.xor_assoc c b d]
theorem stepN_xor (a b : Nat) : stepN (a ^^^ b) = stepN a ^^^ stepN b := by
  unfold stepN
  rw [half_xor, odd_xor, xor_swap]
  congr 1
  rcases Nat.mod_two_eq_zero_or_one a with h1 | h1 <;> rcases Nat.mod_two_eq_zero_or_one b with h2 | h2 <;> simp [h1, h2]
theorem stepsN_xor (a b : Nat) : ∀ n, stepsN n (a ^^^ b) = stepsN n a ^^^ stepsN n b
  | 0 => rfl
  | n + 1 => by rw [stepsN, stepsN, stepsN, stepsN_xor a b n, stepN_xor]
theorem stepN_double (y : Nat) : stepN (2 * y) = y := by
  unfold stepN
  rw [if_neg (by omega), Nat.xor_zero]; omega
theorem stepsN_pow : ∀ (n y : Nat), stepsN n (2 ^ n * y) = y
  | 0, y => by simp [stepsN]
  | n + 1, y => by
    have := stepsN_pow n (2 * y)
    rw [stepsN, show 2 ^ (n + 1) * y = 2 ^ n * (2 * y) by rw [Nat.pow_succ, Nat.mul_assoc], this, stepN_double]
theorem stepsN_zero : ∀ n, stepsN n 0 = 0
  | 0 => rfl
  | n + 1 => by rw [stepsN, stepsN_zero n]; rfl
theorem stepN_lt (c : Nat) (h : c < 4294967296) : stepN c < 4294967296 := by
  unfold stepN
  refine Nat.xor_lt_two_pow (n := 32) (by omega) ?_
  split
  · unfold polyN; omega
  · omega
theorem stepsN_lt (c : Nat) (h : c < 4294967296) : ∀ n, stepsN n c < 4294967296
  | 0 => h
  | n + 1 => stepN_lt _ (stepsN_lt c h n)
theorem byteN_lt (c x : Nat) (h : c < 4294967296) (hx : x < 256) : byteN c x < 4294967296 :=
  stepsN_lt _ (Nat.xor_lt_two_pow (n := 32) (by omega) (by omega)) 8
theorem moreN_cons (b : UInt8) (l : Bs) (c : Nat) : moreN (b :: l) c = moreN l (byteN c b.toNat) := List.foldl_cons ..
theorem moreN_nil (c : Nat) : moreN [] c = c := rfl
theorem moreN_append (a b : Bs) (c : Nat) : moreN (a ++ b) c = moreN b (moreN a c) := List.foldl_append ..
theorem moreN_lt : ∀ (l : Bs) (c : Nat), c < 4294967296 → moreN l c < 4294967296
  | [], _, h => h
  | b :: l, c, h => by rw [moreN_cons]; exact moreN_lt l _ (byteN_lt c _ h b.toNat_lt)
theorem ones_lt : ones < 4294967296 := by unfold ones; omega
theorem moreS_lt (s : Nat) (l : Bs) (h : s < 4294967296) : moreS s l < 4294967296 :=
  Nat.xor_lt_two_pow (n := 32) ones_lt (moreN_lt l _ (Nat.xor_lt_two_pow (n := 32) ones_lt (by simpa using h)))
theorem ones_ones (a : Nat) : ones ^^^ (ones ^^^ a) = a := by rw [← Nat.xor_assoc, Nat.xor_self, Nat.zero_xor]
/-- A table's entry, and the higher bytes: eight steps at once. -/
theorem byteN_table (c x : Nat) (hx : x < 256) : byteN c x = stepsN 8 ((c % 256) ^^^ x) ^^^ (c / 256) := by
  have e1 : c = (c % 256) ^^^ (2 ^ 8 * (c / 256)) := by
    have h : 2 ^ 8 * (c / 256) + c % 256 = 2 ^ 8 * (c / 256) ||| c % 256 := Nat.two_pow_add_eq_or_of_lt (Nat.mod_lt _ (by omega)) _
    have h2 : (c % 256) &&& (2 ^ 8 * (c / 256)) = 0 := by
      apply Nat.eq_of_testBit_eq
      intro i
      rw [Nat.testBit_and, Nat.zero_testBit]
      rcases Nat.lt_or_ge i 8 with hi | hi
      · rw [Nat.testBit_two_pow_mul]
        simp [show ¬ 8 ≤ i by omega]
      · rw [Nat.testBit_lt_two_pow (x := c % 256) (Nat.lt_of_lt_of_le (Nat.mod_lt _ (by omega)) (Nat.pow_le_pow_right (n := 2) (by omega) hi))]
        rfl
    have h3 : (c % 256) ^^^ (2 ^ 8 * (c / 256)) = (c % 256) ||| (2 ^ 8 * (c / 256)) := by
      apply Nat.eq_of_testBit_eq
      intro i
      have := congrArg (fun n => Nat.testBit n i) h2
      simp only [Nat.testBit_and, Nat.zero_testBit] at this
      rw [Nat.testBit_xor, Nat.testBit_or]
      cases h4 : (c % 256).testBit i <;> cases h5 : (2 ^ 8 * (c / 256)).testBit i <;> simp_all
    rw [h3, Nat.or_comm, ← h]
    have := Nat.div_add_mod c 256
    omega
  unfold byteN
  conv => lhs; rw [e1]
  rw [Nat.xor_assoc, Nat.xor_comm (2 ^ 8 * (c / 256)) x, ← Nat.xor_assoc, stepsN_xor, stepsN_pow]
/-- Checks of bytes that are turned by one another. -/
theorem byteN_xor (a b x y : Nat) : byteN (a ^^^ b) (x ^^^ y) = byteN a x ^^^ byteN b y := by unfold byteN; rw [xor_swap, stepsN_xor]
theorem toNat_xor (a b : UInt8) : (a ^^^ b).toNat = a.toNat ^^^ b.toNat := UInt8.toNat_xor a b
theorem moreN_xor : ∀ (a b : Bs) (c d : Nat), a.length = b.length → moreN (List.zipWith (· ^^^ ·) a b) (c ^^^ d) = moreN a c ^^^ moreN b d
  | [], [], _, _, _ => rfl
  | x :: a, y :: b, c, d, h => by
    rw [List.zipWith_cons_cons, moreN_cons, moreN_cons, moreN_cons, toNat_xor, byteN_xor, moreN_xor a b _ _ (by simpa using h)]
/-- A step loses nothing. -/
theorem stepN_inj (a b : Nat) (ha : a < 4294967296) (hb : b < 4294967296) (h : stepN a = stepN b) : a = b := by
  have top : ∀ c : Nat, c < 4294967296 → (stepN c).testBit 31 = decide (c % 2 = 1) := by
    intro c hc
    unfold stepN
    rw [Nat.testBit_xor, Nat.testBit_lt_two_pow (x := c / 2) (i := 31) (by omega)]
    rcases Nat.mod_two_eq_zero_or_one c with h1 | h1
    · simp [h1]
    · simp [h1]; decide
  have h1 : decide (a % 2 = 1) = decide (b % 2 = 1) := by rw [← top a ha, ← top b hb, h]
  have h2 : a % 2 = b % 2 := by
    rcases Nat.mod_two_eq_zero_or_one a with h3 | h3 <;> rcases Nat.mod_two_eq_zero_or_one b with h4 | h4 <;> simp_all
  have h3 : a / 2 = b / 2 := by
    unfold stepN at h
    rw [h2] at h
    have := congrArg (· ^^^ (if b % 2 = 1 then polyN else 0)) h
    simpa [Nat.xor_assoc, Nat.xor_self] using this
  omega
theorem stepsN_inj (a b : Nat) (ha : a < 4294967296) (hb : b < 4294967296) : ∀ n, stepsN n a = stepsN n b → a = b
  | 0, h => h
  | n + 1, h => stepsN_inj a b ha hb n (stepN_inj _ _ (stepsN_lt a ha n) (stepsN_lt b hb n) h)
theorem moreN_inj : ∀ (l : Bs) (c d : Nat), c < 4294967296 → d < 4294967296 → moreN l c = moreN l d → c = d
  | [], _, _, _, _, h => h
  | b :: l, c, d, hc, hd, h => by
    rw [moreN_cons, moreN_cons] at h
    have h1 := moreN_inj l _ _ (byteN_lt c _ hc b.toNat_lt) (byteN_lt d _ hd b.toNat_lt) h
    have h2 := stepsN_inj _ _ (Nat.xor_lt_two_pow (n := 32) (by simpa using hc) (by have := b.toNat_lt; omega)) (Nat.xor_lt_two_pow (n := 32) (by simpa using hd) (by have := b.toNat_lt; omega)) 8 h1
    have h3 := congrArg (· ^^^ b.toNat) h2
    simpa [Nat.xor_assoc, Nat.xor_self] using h3
theorem moreS_goes (a b : Bs) : moreS (sumS2 a) b = sumS2 (a ++ b) := by
  unfold sumS2 moreS
  rw [ones_ones, Nat.xor_zero, moreN_append]
theorem moreS_nil (s : Nat) : moreS s [] = s := by unfold moreS; rw [moreN_nil, ones_ones]
theorem sumS2_lt (l : Bs) : sumS2 l < 4294967296 := moreS_lt 0 l (by omega)
theorem sumS2_nil : sumS2 [] = 0 := moreS_nil 0
theorem le4_length (n : Nat) : (le4 n).length = 4 := rfl
theorem sealS_length (l : Bs) : (sealS l).length = l.length + 4 := by unfold sealS; rw [List.length_append, le4_length]; omega
theorem sealS_take (l : Bs) : (sealS l).take 4 = le4 (sumS2 l) := by unfold sealS; rw [← le4_length (sumS2 l), List.take_left]
theorem sealS_drop (l : Bs) : (sealS l).drop 4 = l := by unfold sealS; rw [← le4_length (sumS2 l), List.drop_left]
theorem openS_seal (l : Bs) : openS (sealS l) = (l, true) := by
  unfold openS
  rw [if_neg (by rw [sealS_length]; omega), sealS_drop, if_pos rfl]
theorem le4_inj (a b : Nat) (ha : a < 4294967296) (hb : b < 4294967296) (h : le4 a = le4 b) : a = b := by
  unfold le4 at h
  simp only [List.cons.injEq, and_true] at h
  obtain ⟨h0, h1, h2, h3⟩ := h
  have k : ∀ x y : Nat, UInt8.ofNat (x % 256) = UInt8.ofNat (y % 256) → x % 256 = y % 256 := by
    intro x y e
    have := congrArg UInt8.toNat e
    simpa using this
  have := k _ _ h0; have := k _ _ h1; have := k _ _ h2; have := k _ _ h3
  omega
/-- What is opened has just these bytes. -/
theorem openS_told (l : Bs) : (∃ s, openS l = (s, true) ∧ sealS s = l) ∨ openS l = ([], false) := by
  unfold openS
  by_cases h1 : l.length < 4
  · rw [if_pos h1]; exact .inr rfl
  rw [if_neg h1]
  by_cases h2 : (sealS (l.drop 4)).take 4 = l.take 4
  · rw [if_pos h2]
    refine .inl ⟨_, rfl, ?_⟩
    rw [sealS_take] at h2
    conv => rhs; rw [← List.take_append_drop 4 l, ← h2]
    rfl
  · rw [if_neg h2]; exact .inr rfl
end Go.Proofs.YtgampcbjmdgciaaDoor.Thw
