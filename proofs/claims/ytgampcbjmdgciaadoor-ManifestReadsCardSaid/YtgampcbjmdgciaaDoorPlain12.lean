/- Layer 12 (manifest) in plain words: numbers of six digits. No program in sight. -/
import Derived.Lib.ItoaNum
import Derived.Lib.AtoiTie
import Derived.Lib.Repeat
namespace Go.Proofs.YtgampcbjmdgciaaDoor.Thw
set_option linter.unusedVariables false
/-- The last k decimal digits of n (n below 10^k). -/
def digs : Nat → Nat → List UInt8
  | 0, _ => []
  | k + 1, n => UInt8.ofNat (48 + n / 10 ^ k) :: digs k (n % 10 ^ k)
def six (n : Nat) : List UInt8 := digs 6 n
theorem digs_length : ∀ k n, (digs k n).length = k
  | 0, _ => rfl
  | k + 1, n => by rw [digs, List.length_cons, digs_length k]
theorem pow_pos10 (k : Nat) : 0 < 10 ^ k := Nat.pow_pos (by decide)
theorem digs_zero : ∀ k, digs k 0 = Go.Lib.repeatL [48] k
  | 0 => rfl
  | k + 1 => by
    rw [digs, Nat.zero_div, Nat.zero_mod, digs_zero k]
    rfl
theorem digs_snoc : ∀ k n, n < 10 ^ (k + 1) → digs (k + 1) n = digs k (n / 10) ++ [UInt8.ofNat (48 + n % 10)]
  | 0, n, h => by
    have h' : n < 10 := by simpa using h
    simp only [digs, Nat.pow_zero, Nat.div_one, List.nil_append]
    rw [Nat.mod_eq_of_lt h']
  | k + 1, n, h => by
    have hp := pow_pos10 k
    rw [digs, digs_snoc k (n % 10 ^ (k + 1)) (Nat.mod_lt _ (pow_pos10 _)), digs, List.cons_append]
    congr 1
    · congr 1
      rw [Nat.pow_succ', Nat.div_div_eq_div_mul]
    · congr 2
      · rw [Nat.pow_succ', Nat.mod_mul_right_div_self]
      · rw [Nat.pow_succ', Nat.mod_mul_right_mod]
theorem nDigits_ten {u : Nat} (h : ¬ u < 10) : Go.Lib.nDigits u = Go.Lib.nDigits (u / 10) + 1 := by rw [Go.Lib.nDigits, dif_neg h]
theorem nDigits_one {u : Nat} (h : u < 10) : Go.Lib.nDigits u = 1 := by rw [Go.Lib.nDigits, dif_pos h]
theorem digs_pad : ∀ k u, u < 10 ^ (k + 1) → Go.Lib.nDigits u ≤ k + 1 ∧ Go.Lib.repeatL [48] (k + 1 - Go.Lib.nDigits u) ++ Go.Lib.decDigits u = digs (k + 1) u
  | 0, u, h => by
    have h' : u < 10 := by simpa using h
    rw [nDigits_one h', Go.Lib.decDigits_one h', digs_snoc 0 u h, Nat.mod_eq_of_lt h']
    exact ⟨Nat.le_refl _, rfl⟩
  | k + 1, u, h => by
    by_cases h10 : u < 10
    · rw [nDigits_one h10, Go.Lib.decDigits_one h10, digs_snoc (k + 1) u h, Nat.mod_eq_of_lt h10, Nat.div_eq_of_lt h10, digs_zero]
      exact ⟨by omega, rfl⟩
    · have h2 : u / 10 < 10 ^ (k + 1) := by
        rw [Nat.pow_succ'] at h
        exact Nat.div_lt_of_lt_mul h
      obtain ⟨h3, h4⟩ := digs_pad k (u / 10) h2
      rw [nDigits_ten h10, Go.Lib.decDigits, dif_neg h10, digs_snoc (k + 1) u h, ← h4]
      refine ⟨by omega, ?_⟩
      rw [show k + 1 + 1 - (Go.Lib.nDigits (u / 10) + 1) = k + 1 - Go.Lib.nDigits (u / 10) by omega, List.append_assoc]
theorem digit_nat {d : Nat} (h : d < 10) : (UInt8.ofNat (48 + d)).toNat = 48 + d := by
  rw [UInt8.toNat_ofNat']
  omega
theorem digitVal_digit {d : Nat} (h : d < 10) : Go.Lib.digitVal (UInt8.ofNat (48 + d)) = some d := by
  have hd := digit_nat h
  unfold Go.Lib.digitVal
  rw [hd, if_pos ⟨by omega, by omega⟩]
  congr 1
  omega
theorem digs_from : ∀ k acc n, n < 10 ^ k → Go.Lib.decFrom acc (digs k n) = some (acc * 10 ^ k + n)
  | 0, acc, n, h => by
    have : n = 0 := by simpa using h
    subst this
    simp [digs, Go.Lib.decFrom]
  | k + 1, acc, n, h => by
    have hq : n / 10 ^ k < 10 := by
      rw [Nat.pow_succ] at h
      exact Nat.div_lt_of_lt_mul h
    have hd := digit_nat hq
    rw [digs, Go.Lib.decFrom]
    rw [digitVal_digit hq]
    show Go.Lib.decFrom (acc * 10 + n / 10 ^ k) (digs k (n % 10 ^ k)) = _
    rw [digs_from k _ _ (Nat.mod_lt _ (pow_pos10 k))]
    congr 1
    have h2 := Nat.div_add_mod n (10 ^ k)
    have h3 : (acc * 10 + n / 10 ^ k) * 10 ^ k = acc * 10 ^ (k + 1) + 10 ^ k * (n / 10 ^ k) := by
      rw [Nat.add_mul, Nat.pow_succ, Nat.mul_assoc, Nat.mul_comm 10 (10 ^ k), Nat.mul_comm (n / 10 ^ k)]
    rw [h3]
    omega
theorem digs_lt : ∀ k n m, n < 10 ^ k → m < 10 ^ k → (digs k n < digs k m ↔ n < m)
  | 0, n, m, hn, hm => by
    have h1 : n = 0 := by simpa using hn
    have h2 : m = 0 := by simpa using hm
    subst h1 h2
    simp [digs]
  | k + 1, n, m, hn, hm => by
    have hq : n / 10 ^ k < 10 := by rw [Nat.pow_succ] at hn; exact Nat.div_lt_of_lt_mul hn
    have hr : m / 10 ^ k < 10 := by rw [Nat.pow_succ] at hm; exact Nat.div_lt_of_lt_mul hm
    rw [digs, digs, List.cons_lt_cons_iff, digs_lt k _ _ (Nat.mod_lt _ (pow_pos10 k)) (Nat.mod_lt _ (pow_pos10 k))]
    have e1 : UInt8.ofNat (48 + n / 10 ^ k) < UInt8.ofNat (48 + m / 10 ^ k) ↔ n / 10 ^ k < m / 10 ^ k := by
      rw [UInt8.lt_iff_toNat_lt, digit_nat hq, digit_nat hr]
      omega
    have e2 : UInt8.ofNat (48 + n / 10 ^ k) = UInt8.ofNat (48 + m / 10 ^ k) ↔ n / 10 ^ k = m / 10 ^ k := by
      rw [← UInt8.toNat_inj, digit_nat hq, digit_nat hr]
      omega
    rw [e1, e2]
    have h1 := Nat.div_add_mod n (10 ^ k)
    have h2 := Nat.div_add_mod m (10 ^ k)
    have h3 := Nat.mod_lt n (pow_pos10 k)
    have h4 := Nat.mod_lt m (pow_pos10 k)
    generalize n / 10 ^ k = a at *
    generalize m / 10 ^ k = b at *
    generalize n % 10 ^ k = c at *
    generalize m % 10 ^ k = d at *
    generalize 10 ^ k = t at *
    constructor
    · rintro (h | ⟨rfl, h⟩)
      · have : t * (a + 1) ≤ t * b := Nat.mul_le_mul_left _ h
        rw [Nat.mul_add, Nat.mul_one] at this
        omega
      · omega
    · intro h
      rcases Nat.lt_trichotomy a b with h5 | h5 | h5
      · exact Or.inl h5
      · subst h5
        exact Or.inr ⟨rfl, by omega⟩
      · have : t * (b + 1) ≤ t * a := Nat.mul_le_mul_left _ h5
        rw [Nat.mul_add, Nat.mul_one] at this
        omega
theorem six_length (n : Nat) : (six n).length = 6 := digs_length 6 n
theorem six_inj {n m : Nat} (hn : n ≤ 999999) (hm : m ≤ 999999) (h : six n = six m) : n = m := by
  have h1 := digs_from 6 0 n (by omega)
  have h2 := digs_from 6 0 m (by omega)
  unfold six at h
  rw [h, h2] at h1
  injection h1 with h1
  omega
theorem six_atoi {n : Nat} (hn : n ≤ 999999) : Go.Lib.atoiAll (six n) = .ok (n : Int) := by
  have hq : n / 10 ^ 5 < 10 := by omega
  have hd := digit_nat hq
  rw [Go.Lib.atoiAll_short _ (by rw [six_length]; decide)]
  have h1 : Go.Lib.decFrom 0 (six n) = some n := by
    have := digs_from 6 0 n (by omega)
    unfold six
    rw [this]
    simp
  have h2 : Go.Lib.atoi (six n) = some (n : Int) := by
    have e : six n = UInt8.ofNat (48 + n / 10 ^ 5) :: digs 5 (n % 10 ^ 5) := rfl
    rw [e] at h1 ⊢
    have n1 : (UInt8.ofNat (48 + n / 10 ^ 5) == 45) = false := by
      rw [beq_eq_false_iff_ne]
      intro h
      have := congrArg UInt8.toNat h
      rw [hd] at this
      simp at this
      omega
    have n2 : (UInt8.ofNat (48 + n / 10 ^ 5) == 43) = false := by
      rw [beq_eq_false_iff_ne]
      intro h
      have := congrArg UInt8.toNat h
      rw [hd] at this
      simp at this
      omega
    simp only [Go.Lib.atoi, n1, n2, Bool.false_eq_true, if_false]
    unfold Go.Lib.decNat
    simp only [List.isEmpty_cons, Bool.false_eq_true, if_false]
    rw [h1]
    rfl
  rw [h2]
  rfl
/-- A number's name, behind a letter. -/
def nameL (c : UInt8) (n from_ : Int) : List UInt8 := if n < from_ ∨ 999999 < n then [] else c :: six n.toNat
/-- The version that a name tells. -/
def IsV (s : List UInt8) (n : Nat) : Prop := 1 ≤ n ∧ n ≤ 999999 ∧ s = 109 :: six n
theorem IsV.uniq {s : List UInt8} {n m : Nat} (h : IsV s n) (h' : IsV s m) : n = m := by
  have := h.2.2.symm.trans h'.2.2
  injection this with _ this
  exact six_inj h.2.1 h'.2.1 this
theorem name_isV {s : List UInt8} {n : Int} (hs : s ≠ []) (h : nameL 109 n 1 = s) : IsV s n.toNat ∧ 0 ≤ n := by
  unfold nameL at h
  split at h
  · exact absurd h.symm hs
  · exact ⟨⟨by omega, by omega, h.symm⟩, by omega⟩
theorem isV_name {s : List UInt8} {n : Nat} (h : IsV s n) : nameL 109 (n : Int) 1 = s := by
  obtain ⟨h1, h2, h3⟩ := h
  unfold nameL
  rw [if_neg (by omega), h3]
  rfl
end Go.Proofs.YtgampcbjmdgciaaDoor.Thw
