/- Layer 4 in plain words: with a bit turned a batch is not taken (FrameOne). No program in sight. -/
import Derived.Test.YtnhmhdconmollaaPlain04
namespace Go.Proofs.Ytnhmhdconmollaa.Thw
open Go
set_option linter.unusedVariables false
theorem sumS2_set (s : Bs) (i : Nat) (hi : i < s.length) (y : UInt8) (h : sumS2 (s.set i y) = sumS2 s) : s[i] = y := by
  have e1 : s.set i y = s.take i ++ y :: s.drop (i + 1) := List.set_eq_take_append_cons_drop .. |>.trans (by rw [if_pos hi])
  have e2 : s = s.take i ++ s[i] :: s.drop (i + 1) := by rw [List.getElem_cons_drop, List.take_append_drop]
  have h1 : sumS2 (s.take i ++ y :: s.drop (i + 1)) = sumS2 (s.take i ++ s[i] :: s.drop (i + 1)) := by rw [← e1, ← e2]; exact h
  unfold sumS2 moreS at h1
  rw [moreN_append, moreN_append, moreN_cons, moreN_cons] at h1
  have hc : ones ^^^ 0 < 4294967296 := by unfold ones; decide
  have hm := moreN_lt (s.take i) _ hc
  generalize moreN (s.take i) (ones ^^^ 0) = c at *
  have h2 : ∀ a b : Nat, ones ^^^ a = ones ^^^ b → a = b := fun a b hab => by
    have := congrArg (ones ^^^ ·) hab
    simpa [ones_ones] using this
  have h3 := moreN_inj _ _ _ (byteN_lt c _ hm y.toNat_lt) (byteN_lt c _ hm (s[i]).toNat_lt) (h2 _ _ h1)
  have h4 := stepsN_inj _ _ (Nat.xor_lt_two_pow (n := 32) (by simpa using hm) (by have := y.toNat_lt; omega)) (Nat.xor_lt_two_pow (n := 32) (by simpa using hm) (by have := (s[i]).toNat_lt; omega)) 8 h3
  have h5 := congrArg (c ^^^ ·) h4
  simp only [← Nat.xor_assoc, Nat.xor_self, Nat.zero_xor] at h5
  exact (UInt8.toNat_inj.1 h5).symm
theorem openS_set (s : Bs) (i : Nat) (hi : i < (sealS s).length) (y : UInt8) (hy : (sealS s)[i] ≠ y) : openS ((sealS s).set i y) = ([], false) := by
  rcases openS_told ((sealS s).set i y) with ⟨s', _, h⟩ | h
  · exfalso
    have hl4 := le4_length (sumS2 s)
    have hl4' := le4_length (sumS2 s')
    by_cases h4 : i < 4
    · have hd := congrArg (List.drop 4) h
      rw [sealS_drop, List.drop_set_of_lt (by omega), sealS_drop] at hd
      rw [hd] at h
      have hg := congrArg (fun x => x[i]?) h
      simp only [List.getElem?_set_self hi, List.getElem?_eq_getElem hi] at hg
      exact hy (Option.some.inj hg)
    · have ht := congrArg (List.take 4) h
      rw [sealS_take, List.take_set_of_le (by omega), sealS_take] at ht
      have hs := le4_inj _ _ (sumS2_lt _) (sumS2_lt _) ht
      have hd := congrArg (List.drop 4) h
      rw [sealS_drop, List.drop_set, if_neg h4, sealS_drop] at hd
      have hl := sealS_length s
      rw [hd] at hs
      have hx := sumS2_set s (i - 4) (by omega) y hs
      refine hy ?_
      rw [← hx]
      have := List.getElem_drop (xs := sealS s) (i := 4) (j := i - 4) (h := by rw [List.length_drop]; omega)
      have e : 4 + (i - 4) = i := by omega
      simp only [e] at this
      rw [← this]
      simp only [sealS_drop]
  · exact h
theorem putS_one (n : Nat) (h : n < 128) : (putS n).length = 1 := by
  unfold putS putB
  simp [h]
theorem putS_two (n : Nat) (h : 128 ≤ n) (h2 : n < 16384) : (putS n).length = 2 := by
  unfold putS putB
  rw [if_neg (by omega), putB, if_pos (by omega)]
  rfl
def headS (n : Nat) : Nat := if 129 < n then 2 else 1
theorem frameS_head {l : List Rec} (h : (frameS l).2 = 0) : 8 ≤ (frameS l).1.length ∧ (frameS l).1.length ≤ 7100 ∧
    ∃ s, (frameS l).1 = putS (sealS s).length ++ sealS s ∧ (putS (sealS s).length).length = headS (frameS l).1.length := by
  obtain ⟨h1, h2, h3⟩ := frameS_ok h
  have hz := seal_len h1
  have hl := frameS_length h
  have h5 : 3 ≤ (allS l).1.length := by
    match l, h1, h2 with
    | [], h1, h2 => exact absurd (fits_facts h1).1 (by simp)
    | r :: l, h1, h2 =>
      obtain ⟨k1, k2, k3⟩ := allS_cons h2
      rw [k3]
      have kk := right_facts k1
      have p1 := putS_pos (2 * r.seq)
      have p2 := putS_pos (2 * r.seq + 1)
      have p3 := putS_pos r.key.length
      have p4 := putS_pos r.val.length
      show 3 ≤ (recS r ++ (allS l).1).length
      unfold recS textS
      split <;> simp only [List.length_append] <;> omega
  have hs := sealS_length (allS l).1
  rw [h3] at hl ⊢
  simp only [textS, List.length_append] at hl ⊢
  have hp := putS_pos (sealS (allS l).1).length
  refine ⟨by omega, by omega, (allS l).1, rfl, ?_⟩
  unfold headS
  by_cases h6 : (sealS (allS l).1).length < 128
  · rw [putS_one _ h6, if_neg (by omega)]
  · rw [putS_two _ (by omega) (by omega), if_pos (by omega)]
theorem takeF_turn {l : List Rec} (h : (frameS l).2 = 0) (rest : Bs) (k : Nat) (hk : headS (frameS l).1.length ≤ k) (hk2 : k < (frameS l).1.length) (y : UInt8) (hy : (frameS l).1[k] ≠ y) :
    takeF ((frameS l).1.set k y ++ rest) = ([], 0, 4) := by
  obtain ⟨h0, h1, s, h2, h3⟩ := frameS_head h
  have hh : (frameS l).1.length = headS (frameS l).1.length + (sealS s).length := by
    conv => lhs; rw [h2]
    rw [List.length_append, h3]
  generalize headS (frameS l).1.length = n at *
  have hg : (frameS l).1[k]? = (sealS s)[k - n]? := by rw [h2, List.getElem?_append_right (by omega), h3]
  have hk3 : k - n < (sealS s).length := by omega
  rw [List.getElem?_eq_getElem hk2, List.getElem?_eq_getElem hk3] at hg
  have hy2 : (sealS s)[k - n] ≠ y := by rw [← Option.some.inj hg]; exact hy
  have ho := openS_set s (k - n) hk3 y hy2
  have e : (frameS l).1.set k y = textS ((sealS s).set (k - n) y) := by
    rw [h2, List.set_append, if_neg (by omega), h3]
    unfold textS
    rw [List.length_set]
  rw [e]
  unfold takeF
  rw [ofTextS_text _ _ (by rw [List.length_set]; omega), if_pos rfl]
  simp only [ho]
  rfl
/-- A bit is turned. -/
def bitS (b : Nat) : UInt8 := UInt8.ofNat (2 ^ b)
theorem bit_ne (x : UInt8) (b : Nat) (hb : b < 8) : x ≠ x ^^^ bitS b := by
  intro h
  have h1 : bitS b = 0 := by
    have := congrArg (x ^^^ ·) h
    simpa [← UInt8.xor_assoc] using this.symm
  have : b = 0 ∨ b = 1 ∨ b = 2 ∨ b = 3 ∨ b = 4 ∨ b = 5 ∨ b = 6 ∨ b = 7 := by omega
  rcases this with rfl | rfl | rfl | rfl | rfl | rfl | rfl | rfl <;> exact absurd h1 (by decide)
end Go.Proofs.Ytnhmhdconmollaa.Thw
