/- Plain words for all layers: strings as lists of bytes; whole numbers and their bits. No program in sight. -/
import Derived.Lib.Strings
import Derived.Lib.IndexBytes
import Derived.Laws.BitsAllLaws
import Derived.Laws.Bits64
namespace Go.Proofs.Ytcpjfpbfopkngaa.Thw
open Go

abbrev Bs := List UInt8
/-- A string's bytes. -/
def L (s : ByteArray) : Bs := s.data.toList
/-- Bytes as a string. -/
def B (l : Bs) : ByteArray := ⟨l.toArray⟩
theorem L_B (l : Bs) : L (B l) = l := by simp [L, B]
theorem B_L (s : ByteArray) : B (L s) = s := by simp [L, B]
theorem L_inj {a b : ByteArray} (h : L a = L b) : a = b := by rw [← B_L a, h, B_L]
theorem L_iff {a b : ByteArray} : L a = L b ↔ a = b := ⟨L_inj, fun h => by rw [h]⟩
theorem toList_L (s : ByteArray) : s.toList = L s := Lib.toList_data s
theorem L_append (a b : ByteArray) : L (a ++ b) = L a ++ L b := by simp [L]
theorem L_length (s : ByteArray) : (L s).length = s.size := (Lib.size_eq s).symm
theorem B_size (l : Bs) : (B l).size = l.length := by rw [← L_length, L_B]
theorem B_append (a b : Bs) : B (a ++ b) = B a ++ B b := L_inj (by rw [L_append, L_B, L_B, L_B])
theorem L_extract (s : ByteArray) (a b : Nat) : L (s.extract a b) = ((L s).drop a).take (b - a) := Lib.extract_data s a b
theorem L_extract_end (s : ByteArray) (a : Nat) : L (s.extract a s.size) = (L s).drop a := Lib.extract_to_end s a
theorem L_extract_front (s : ByteArray) (b : Nat) : L (s.extract 0 b) = (L s).take b := by rw [L_extract]; simp
theorem extract_end (s : ByteArray) (a : Nat) : s.extract a s.size = B ((L s).drop a) := L_inj (by rw [L_extract_end, L_B])
theorem extract_front (s : ByteArray) (b : Nat) : s.extract 0 b = B ((L s).take b) := L_inj (by rw [L_extract_front, L_B])
theorem L_nil : L ⟨#[]⟩ = [] := rfl
theorem B_nil : B [] = ⟨#[]⟩ := rfl
theorem B_inj {a b : Bs} (h : B a = B b) : a = b := by rw [← L_B a, h, L_B]

theorem xor_shift_inj (X Y : Nat) (hX : X < 18446744073709551616) (hY : Y < 18446744073709551616) (h : X ^^^ X / 8589934592 = Y ^^^ Y / 8589934592) : X = Y := by
  have e : ∀ n : Nat, n / 8589934592 = n >>> 33 := fun n => by rw [Nat.shiftRight_eq_div_pow]
  have back : ∀ n : Nat, n < 18446744073709551616 → (n ^^^ n >>> 33) ^^^ (n ^^^ n >>> 33) >>> 33 = n := by
    intro n hn
    have z : n >>> 33 >>> 33 = 0 := by
      rw [← Nat.shiftRight_add, Nat.shiftRight_eq_div_pow]
      exact Nat.div_eq_of_lt (by omega)
    rw [Nat.shiftRight_xor_distrib, z, Nat.xor_zero, Nat.xor_assoc, Nat.xor_self, Nat.xor_zero]
  rw [e, e] at h
  rw [← back X hX, h, back Y hY]
theorem mul_odd_inj (C D X Y : Nat) (hC : C * D % 18446744073709551616 = 1) (hX : X < 18446744073709551616) (hY : Y < 18446744073709551616)
    (h : X * C % 18446744073709551616 = Y * C % 18446744073709551616) : X = Y := by
  have back : ∀ n : Nat, n < 18446744073709551616 → (n * C % 18446744073709551616) * D % 18446744073709551616 = n := by
    intro n hn
    rw [Nat.mod_mul_mod, Nat.mul_assoc, Nat.mul_mod, hC, Nat.mul_one, Nat.mod_mod, Nat.mod_eq_of_lt hn]
  rw [← back X hX, h, back Y hY]
theorem pow_of_and (n : Nat) (h : n &&& (n - 1) = 0) (h0 : 0 < n) : n = 2 ^ n.log2 := by
  have h1 : 2 ^ n.log2 ≤ n := Nat.log2_self_le (by omega)
  have h2 : n < 2 ^ (n.log2 + 1) := Nat.lt_log2_self
  rcases Nat.eq_or_lt_of_le h1 with h3 | h3
  · exact h3.symm
  · exfalso
    have t1 : n.testBit n.log2 = true := Nat.testBit_of_two_pow_le_and_two_pow_add_one_gt h1 h2
    have t2 : (n - 1).testBit n.log2 = true := Nat.testBit_of_two_pow_le_and_two_pow_add_one_gt (by omega) (by omega)
    have t3 : (n &&& (n - 1)).testBit n.log2 = true := by rw [Nat.testBit_and, t1, t2]; rfl
    rw [h] at t3
    simp at t3
theorem and_of_pow (j : Nat) : 2 ^ j &&& (2 ^ j - 1) = 0 := by
  rw [Nat.and_two_pow_sub_one_eq_mod]
  exact Nat.mod_self _
end Go.Proofs.Ytcpjfpbfopkngaa.Thw
