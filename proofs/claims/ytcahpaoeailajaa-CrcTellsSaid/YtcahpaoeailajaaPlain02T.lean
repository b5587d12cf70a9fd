/- Layer 2 (crc) in plain words: what a check tells of up to four bytes in a row that are turned. No program in sight. -/
import Derived.Test.YtcahpaoeailajaaPlain02
namespace Go.Proofs.Ytcahpaoeailajaa.Thw
open Go
set_option linter.unusedVariables false

def valN : Bs → Nat
  | [] => 0
  | x :: t => x.toNat ^^^ (2 ^ 8 * valN t)
theorem stepsN_add : ∀ (m n c : Nat), stepsN (m + n) c = stepsN m (stepsN n c)
  | 0, n, c => by rw [Nat.zero_add]; rfl
  | m + 1, n, c => by rw [show m + 1 + n = (m + n) + 1 by omega, stepsN, stepsN, stepsN_add m n c]
theorem moreN_val : ∀ (t : Bs) (c : Nat), moreN t c = stepsN (8 * t.length) (c ^^^ valN t)
  | [], c => by simp [moreN_nil, valN, stepsN]
  | x :: t, c => by
    rw [moreN_cons, moreN_val t, List.length_cons, show 8 * (t.length + 1) = 8 * t.length + 8 by omega, stepsN_add]
    congr 1
    unfold byteN
    conv => lhs; rw [← stepsN_pow 8 (valN t)]
    rw [← stepsN_xor, Nat.xor_assoc, valN]
theorem valN_lt : ∀ t : Bs, valN t < 2 ^ (8 * t.length)
  | [] => by simp [valN]
  | x :: t => by
    rw [valN, List.length_cons]
    have h := valN_lt t
    have hx := x.toNat_lt
    refine Nat.xor_lt_two_pow ?_ ?_
    · exact Nat.lt_of_lt_of_le hx (Nat.pow_le_pow_right (n := 2) (by omega) (by omega))
    · rw [show 8 * (t.length + 1) = 8 + 8 * t.length by omega, Nat.pow_add]
      exact Nat.mul_lt_mul_of_pos_left h (by decide)
theorem valN_zero : ∀ t : Bs, valN t = 0 → ∀ x ∈ t, x = 0
  | [], _, x, hx => absurd hx (by simp)
  | y :: t, h, x, hx => by
    rw [valN] at h
    have he : y.toNat = 2 ^ 8 * valN t := by
      have := congrArg (· ^^^ (2 ^ 8 * valN t)) h
      simpa [Nat.xor_assoc, Nat.xor_self] using this
    have hy := y.toNat_lt
    have h1 : valN t = 0 := by omega
    have h2 : y.toNat = 0 := by omega
    rcases List.mem_cons.1 hx with rfl | hx
    · exact UInt8.toNat_inj.1 (by simpa using h2)
    · exact valN_zero t h1 x hx
theorem valN_zeros : ∀ t : Bs, (∀ x ∈ t, x = 0) → valN t = 0
  | [], _ => rfl
  | y :: t, h => by
    rw [valN, valN_zeros t (fun x hx => h x (List.mem_cons_of_mem _ hx)), h y (List.mem_cons_self ..)]
    rfl
theorem moreN_zeros (t : Bs) (h : ∀ x ∈ t, x = 0) : moreN t 0 = 0 := by
  rw [moreN_val, valN_zeros t h, Nat.xor_zero, stepsN_zero]
theorem moreN_burst (t : Bs) (hl : t.length ≤ 4) (h : moreN t 0 = 0) : ∀ x ∈ t, x = 0 := by
  rw [moreN_val, Nat.zero_xor] at h
  refine valN_zero t ?_
  have h1 := valN_lt t
  have h2 : (2 : Nat) ^ (8 * t.length) ≤ 2 ^ 32 := Nat.pow_le_pow_right (n := 2) (by omega) (by omega)
  exact stepsN_inj _ 0 (by omega) (by omega) (8 * t.length) (by rw [h, stepsN_zero])
/-- Bytes turned by some, from a place on. -/
def turnAt (b : Bs) (p : Nat) (t : Bs) : Bs := List.zipWith (· ^^^ ·) b (List.replicate p 0 ++ t ++ List.replicate (b.length - p - t.length) 0)
theorem turnAt_length (b : Bs) (p : Nat) (t : Bs) (h : p + t.length ≤ b.length) : (turnAt b p t).length = b.length := by simp [turnAt]; omega
theorem sum_turn (b : Bs) (p : Nat) (t : Bs) (h : p + t.length ≤ b.length) (hl : t.length ≤ 4) : sumS2 (turnAt b p t) = sumS2 b ↔ ∀ x ∈ t, x = 0 := by
  have e : sumS2 (turnAt b p t) = sumS2 b ^^^ moreN (List.replicate p 0 ++ t ++ List.replicate (b.length - p - t.length) 0) 0 := by
    unfold sumS2 moreS turnAt
    rw [Nat.xor_zero]
    have h1 := moreN_xor b (List.replicate p 0 ++ t ++ List.replicate (b.length - p - t.length) 0) ones 0 (by simp; omega)
    rw [Nat.xor_zero] at h1
    rw [h1, Nat.xor_assoc]
  have hz : ∀ n : Nat, ∀ x ∈ List.replicate n (0 : UInt8), x = 0 := fun n x hx => (List.mem_replicate.1 hx).2
  constructor
  · intro hs
    rw [e] at hs
    have h2 : moreN (List.replicate p 0 ++ t ++ List.replicate (b.length - p - t.length) 0) 0 = 0 := by
      have := congrArg (sumS2 b ^^^ ·) hs
      simpa [← Nat.xor_assoc, Nat.xor_self] using this
    rw [moreN_append, moreN_append, moreN_zeros _ (hz p)] at h2
    refine moreN_burst t hl ?_
    refine moreN_inj (List.replicate (b.length - p - t.length) 0) _ 0 (moreN_lt t 0 (by omega)) (by omega) ?_
    rw [h2, moreN_zeros _ (hz _)]
  · intro ht
    rw [e, moreN_zeros, Nat.xor_zero]
    intro x hx
    rcases List.mem_append.1 hx with hx | hx
    · rcases List.mem_append.1 hx with hx | hx
      · exact hz p x hx
      · exact ht x hx
    · exact hz _ x hx
/-- What is turned behind its check is opened if nothing was turned. -/
theorem open_turn (b : Bs) (p : Nat) (t : Bs) (h : p + t.length ≤ b.length) (hl : t.length ≤ 4) : (openS (le4 (sumS2 b) ++ turnAt b p t)).2 = t.all (· == 0) := by
  unfold openS
  rw [if_neg (by rw [List.length_append, le4_length]; omega), List.drop_left' (le4_length _), List.take_left' (le4_length _), sealS_take]
  have key := sum_turn b p t h hl
  by_cases hz : ∀ x ∈ t, x = 0
  · rw [if_pos (by rw [key.2 hz])]
    exact (List.all_eq_true.2 (fun x hx => by simp [hz x hx])).symm
  · rw [if_neg (fun he => hz (key.1 (le4_inj _ _ (sumS2_lt _) (sumS2_lt _) he)))]
    refine (Bool.eq_false_iff.2 fun hh => hz fun x hx => ?_).symm
    simpa using List.all_eq_true.1 hh x hx
end Go.Proofs.Ytcahpaoeailajaa.Thw
