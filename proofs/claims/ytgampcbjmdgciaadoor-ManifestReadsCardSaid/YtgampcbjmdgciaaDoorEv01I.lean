/- Layer 1 (varint): what the printed functions come to, in the plain words of Plain01. -/
import Derived.Test.YtgampcbjmdgciaaDoorPrint4
import Derived.Test.YtgampcbjmdgciaaDoorPrint2
import Derived.Test.YtgampcbjmdgciaaDoorEvA
import Derived.Test.YtgampcbjmdgciaaDoorPlain01
namespace Go.Proofs.YtgampcbjmdgciaaDoor.Thw
open Go Go.RowKit Go.Proofs.YtgampcbjmdgciaaDoor.Print Go.Proofs.YtgampcbjmdgciaaDoorW.PrintWords Go.Proofs.YtgampcbjmdgciaaDoorW.PrintLast Go.Proofs.YtgampcbjmdgciaaDoorW.PrintMore
set_option linter.unusedVariables false
set_option linter.unusedSimpArgs false

theorem L_putF : ∀ (k n : Nat), L (strOfNums (putF k (n : Int))) = putB k n
  | 0, n => by rw [putF, putB, L_strOfNums]; simp
  | k + 1, n => by
    have e : ((n : Int) / 128) = ((n / 128 : Nat) : Int) := by omega
    rw [putF, putB]
    by_cases h : n < 128
    · rw [if_pos (by omega), if_pos h, L_strOfNums]; simp
    · rw [if_neg (by omega), if_neg h, L_strOfNums, List.map_cons, ← L_strOfNums, e, L_putF k (n / 128)]
      congr 2
theorem strOf_putF (n : Nat) : strOfNums (putF 9 (n : Int)) = B (putS n) := L_inj (by rw [L_putF, L_B]; rfl)
theorem varint_Put_N (n : Nat) (h : n < 18446744073709551616) : varint_Put.f (n : Int) = some (B (putS n)) := by
  unfold varint_Put.f
  rw [if_pos (by omega), strOf_putF]
theorem add_lt_mod (X acc : Nat) (h : X % 18446744073709551616 + acc < 18446744073709551616) : X % 18446744073709551616 + acc = (acc + X) % 18446744073709551616 := by omega
/-- One more byte, gathered. -/
theorem gather (acc i c : Nat) (hi : i ≤ 9) (ha : acc < 128 ^ i) (hc : c < 256) :
    Go.bits .or .u64 (acc : Int) (shl .u64 (IntKind.u64.wrap (Go.bits .andNot .u8 (c : Int) 128)) (wrap64 (7 * (i : Int)))) = (((acc + c % 128 * 128 ^ i) % 18446744073709551616 : Nat) : Int) := by
  have hand : Go.bits .andNot .u8 (c : Int) 128 = ((c % 128 : Nat) : Int) := by
    have e : ∀ a : Nat, a < 256 → a &&& (255 - 128) = a % 128 := by decide +kernel
    rw [show (128 : Int) = ((128 : Nat) : Int) from rfl, u8_andNot_nat c 128 hc (by omega), e c hc]
  have hp : (128 : Nat) ^ i = 2 ^ (7 * i) := by rw [Nat.pow_mul]
  have hsh : shl .u64 ((c % 128 : Nat) : Int) (wrap64 (7 * (i : Int))) = ((c % 128 * 128 ^ i % 18446744073709551616 : Nat) : Int) := by
    unfold shl
    rw [wrap64_in (by omega) (by omega), show min (7 * (i : Int)).toNat IntKind.u64.bits = 7 * i by simp [IntKind.bits]; omega]
    have e1 : ((2 : Int) ^ (7 * i)) = ((128 ^ i : Nat) : Int) := by rw [hp]; simp
    rw [e1, mul_u64]
  rw [hand, u64_in (n := ((c % 128 : Nat) : Int)) (by omega) (by omega), hsh]
  have hpos : 0 < 128 ^ i := Nat.pow_pos (by omega)
  have hle : 128 ^ i ≤ 128 ^ 9 := Nat.pow_le_pow_right (by omega) hi
  rw [pow_128_9] at hle
  have hdvd : 2 ^ (7 * i) * (18446744073709551616 / 2 ^ (7 * i)) = 18446744073709551616 := by
    have : (18446744073709551616 : Nat) = 2 ^ (7 * i) * 2 ^ (64 - 7 * i) := by rw [← Nat.pow_add, show 7 * i + (64 - 7 * i) = 64 by omega]
    exact Nat.mul_div_cancel' ⟨_, this⟩
  have hmul : c % 128 * 128 ^ i % 18446744073709551616 = 2 ^ (7 * i) * (c % 128 % (18446744073709551616 / 2 ^ (7 * i))) := by
    rw [Nat.mul_comm, hp]
    conv => lhs; rw [← hdvd]
    rw [Nat.mul_mod_mul_left]
  have hlt : c % 128 * 128 ^ i % 18446744073709551616 < 18446744073709551616 := Nat.mod_lt _ (by omega)
  rw [u64_or_nat _ _ (by omega) hlt, Nat.or_comm, hmul, ← Nat.two_pow_add_eq_or_of_lt (by rw [← hp]; exact ha), ← hmul]
  have hsum : c % 128 * 128 ^ i % 18446744073709551616 + acc < 18446744073709551616 := by
    rw [hmul]
    have h1 : c % 128 % (18446744073709551616 / 2 ^ (7 * i)) + 1 ≤ 18446744073709551616 / 2 ^ (7 * i) := Nat.mod_lt _ (by
      rcases Nat.eq_zero_or_pos (18446744073709551616 / 2 ^ (7 * i)) with h | h
      · rw [h] at hdvd; omega
      · exact h)
    have h2 := Nat.mul_le_mul_left (2 ^ (7 * i)) h1
    rw [hdvd, Nat.mul_add, Nat.mul_one] at h2
    rw [hp] at ha
    omega
  exact congrArg _ (add_lt_mod _ acc hsum)
def TK (r : Nat × Bs × Int) : Int × ByteArray × Int := ((r.1 : Int), B r.2.1, r.2.2)
theorem ev_take (b : ByteArray) (hb : b.size ≤ 4611686018427387904) : ∀ (f i acc : Nat), i + f = 10 → i ≤ (L b).length → acc < 128 ^ i →
    Ev (fun k => varint_Take.l0 k b (acc : Int) (i : Int)) (TK (takeR (L b) f i acc))
  | 0, i, acc, e, h, ha => by
    refine Ev.step (f := fun k => some (TK (0, [], 2))) (fun k => ?_) (Ev.now _)
    simp only [varint_Take.l0]
    rw [if_neg (by omega)]
    rfl
  | f + 1, i, acc, e, h, ha => by
    have hl := L_length b
    rw [takeR]
    by_cases h1 : i = (L b).length
    · rw [if_pos h1]
      refine Ev.step (f := fun k => some (TK (0, [], 3))) (fun k => ?_) (Ev.now _)
      simp only [varint_Take.l0]
      rw [if_pos (by omega), if_pos (by omega)]
      rfl
    rw [if_neg h1]
    have hi : i < (L b).length := by omega
    have hg : (L b).getD i 0 = (L b)[i] := by simp [List.getD_eq_getElem?_getD, List.getElem?_eq_getElem hi]
    have hc := (L b)[i].toNat_lt
    have hga := gather acc i (L b)[i].toNat (by omega) ha hc
    rw [hg]
    generalize hn : (acc + (L b)[i].toNat % 128 * 128 ^ i) % 18446744073709551616 = n at hga ⊢
    have hnlt : n < 18446744073709551616 := by rw [← hn]; exact Nat.mod_lt _ (by omega)
    have HN := Aside0.mk hn
    clear hn
    have HT := Aside0.mk hnlt
    clear hnlt
    by_cases h2 : 128 ≤ (L b)[i].toNat
    · rw [if_pos h2]
      refine Ev.step (f := fun k => varint_Take.l0 k b (n : Int) ((i + 1 : Nat) : Int)) (fun k => ?_) (ev_take b hb f (i + 1) n (by omega) (by omega) ?_)
      · simp only [varint_Take.l0]
        rw [if_pos (by omega), if_neg (by omega), if_pos (by omega), if_pos (by omega), if_pos (by rw [wrap64_in (by omega) (by omega)]; omega), bt_L b i hi, if_pos (by omega), hga, wrap64_in (n := (i : Int) + 1) (by omega) (by omega)]
        exact Eq.refl _
      · rw [← HN.out]
        refine Nat.lt_of_le_of_lt (Nat.mod_le _ _) ?_
        have : (L b)[i].toNat % 128 * 128 ^ i ≤ 127 * 128 ^ i := Nat.mul_le_mul_right _ (by omega)
        rw [Nat.pow_succ]
        omega
    · rw [if_neg h2]
      have hw : wrap64 ((i : Int) + 1) = ((i + 1 : Nat) : Int) := by rw [wrap64_in (by omega) (by omega)]; omega
      refine Ev.step (f := fun k => if putS n = (L b).take (i + 1) then some (TK (n, (L b).drop (i + 1), 0)) else some (TK (0, [], 2))) (fun k => ?_) ?_
      · simp only [varint_Take.l0]
        rw [if_pos (by omega), if_neg (by omega), if_pos (by omega), if_pos (by omega), if_pos (by rw [wrap64_in (by omega) (by omega)]; omega), bt_L b i hi, if_neg (by omega), hga, varint_Put_N n HT.out, Option.bind_some, hw, if_pos (by omega), if_pos (by omega)]
        simp only [toList_L, L_B, Int.toNat_natCast, L_extract_front, extract_end]
        rfl
      · split
        · exact Ev.now _
        · exact Ev.now _
theorem ev_Take (b : ByteArray) (hb : b.size ≤ 4611686018427387904) : Ev (fun k => varint_Take.f k b) (TK (takeS (L b))) := by
  have := ev_take b hb 10 0 0 rfl (Nat.zero_le _) (by decide)
  exact this
def OT (r : Bs × Bs × Int) : ByteArray × ByteArray × Int := (B r.1, B r.2.1, r.2.2)
theorem takeS_len (b : Bs) : (takeS b).2.1.length ≤ b.length := by
  rcases takeS_told b with h | h | h
  · omega
  · rw [h]; simp
  · rw [h]; simp
end Go.Proofs.YtgampcbjmdgciaaDoor.Thw
