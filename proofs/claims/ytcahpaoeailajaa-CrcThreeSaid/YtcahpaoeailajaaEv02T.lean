/- Layer 2: the statement CrcThree. -/
import Derived.Test.YtcahpaoeailajaaPrint2
import Derived.Test.YtcahpaoeailajaaPrint1
import Derived.Test.YtcahpaoeailajaaEv02
import Derived.Laws.BitsAllLaws
namespace Go.Proofs.Ytcahpaoeailajaa.Thw
open Go Go.RowKit Go.Proofs.Ytcahpaoeailajaa.Print Go.Proofs.YtcahpaoeailajaaW.PrintWords Go.Proofs.YtcahpaoeailajaaW.PrintLast Go.Proofs.YtcahpaoeailajaaW.PrintMore
set_option linter.unusedVariables false
set_option linter.unusedSimpArgs false
theorem awake02p : thwartlaw02_awake.f = some true := by
  unfold thwartlaw02_awake.f
  rw [crc_Seal_S _ (by decide), Option.bind_some, crc_Open_S _ (by rw [B_size, sealS_length]; decide), L_B, openS_seal, Option.bind_some, crc_Sum_S _ (by decide), Option.bind_some,
    show ((sumS2 (L ⟨#[49, 50, 51, 52, 53, 54, 55, 56, 57]⟩) : Nat) : Int) = 3808858755 by decide +kernel, if_pos rfl, toList_L, L_B, if_pos (by decide)]
def xor3 (a b c : Bs) : Bs := List.zipWith (· ^^^ ·) (List.zipWith (· ^^^ ·) a b) c
theorem moreN_xor3 (a b c : Bs) (h : a.length = b.length) (h' : a.length = c.length) : moreN (xor3 a b c) ones = moreN a ones ^^^ moreN b ones ^^^ moreN c ones := by
  unfold xor3
  have e : ones = (ones ^^^ ones) ^^^ ones := by rw [Nat.xor_self, Nat.zero_xor]
  conv => lhs; rw [e]
  rw [moreN_xor _ _ _ _ (by simp; omega), moreN_xor _ _ _ _ h]
theorem sum3 (a b c : Bs) (h : a.length = b.length) (h' : a.length = c.length) : sumS2 (xor3 a b c) = sumS2 a ^^^ sumS2 b ^^^ sumS2 c := by
  unfold sumS2 moreS
  rw [Nat.xor_zero, moreN_xor3 a b c h h']
  generalize moreN a ones = x
  generalize moreN b ones = y
  generalize moreN c ones = z
  apply Nat.eq_of_testBit_eq
  intro i
  simp only [Nat.testBit_xor]
  cases ones.testBit i <;> cases x.testBit i <;> cases y.testBit i <;> cases z.testBit i <;> rfl
def row3 (xs : Bs) (i : Nat) : List Int := (xs.take i).map (fun b => (b.toNat : Int)) ++ List.replicate (xs.length - i) 0
theorem row3_length (xs : Bs) (i : Nat) (h : i ≤ xs.length) : (row3 xs i).length = xs.length := by simp [row3]; omega
theorem row3_set (xs : Bs) (i : Nat) (h : i < xs.length) : (row3 xs i).set i ((xs[i].toNat : Nat) : Int) = row3 xs (i + 1) := by
  apply List.ext_getElem?
  intro j
  unfold row3
  rw [List.getElem?_set]
  by_cases hj : i = j
  · subst hj
    rw [if_pos rfl, if_pos (by simp; omega), List.getElem?_append_left (by simp; omega), List.getElem?_map, List.getElem?_take, if_pos (by omega), List.getElem?_eq_getElem h]
    rfl
  · rw [if_neg hj]
    rcases Nat.lt_or_ge j i with h1 | h1
    · rw [List.getElem?_append_left (by simp; omega), List.getElem?_append_left (by simp; omega), List.getElem?_map, List.getElem?_map, List.getElem?_take, List.getElem?_take, if_pos (by omega), if_pos (by omega)]
    · rw [List.getElem?_append_right (by simp; omega), List.getElem?_append_right (by simp; omega), List.getElem?_replicate, List.getElem?_replicate]
      simp only [List.length_map, List.length_take]
      congr 1
      simp; omega
theorem row3_end (xs : Bs) : strOfNums (row3 xs xs.length) = B xs := by
  apply L_inj
  rw [L_strOfNums, L_B]
  simp [row3, List.map_map, Function.comp_def]
theorem row3_start (xs : Bs) : row3 xs 0 = List.replicate xs.length 0 := by simp [row3]
theorem extract_to (s : ByteArray) (n : Nat) : s.extract 0 ((n : Int)).toNat = B ((L s).take n) := by rw [Int.toNat_natCast, extract_front]
theorem ev_three (a b c : ByteArray) (n : Nat) (xs : Bs) (hx : xs = xor3 ((L a).take n) ((L b).take n) ((L c).take n)) (ha : n ≤ a.size) (hb : n ≤ b.size) (hc : n ≤ c.size) (hn : n ≤ 300) :
    ∀ d i : Nat, i + d = n → Ev (fun k => thwartlaw02_CrcThree.l0 k a b c true (n : Int) (row3 xs i) (i : Int)) true := by
  have la := L_length a
  have lb := L_length b
  have lc := L_length c
  have hl : xs.length = n := by rw [hx]; simp [xor3]; omega
  intro d
  induction d with
  | zero =>
    intro i hi
    refine Ev.step (fun k => by rw [thwartlaw02_CrcThree.l0]) ?_
    refine ev_if_neg (by omega) ?_
    refine ev_if_pos rfl ?_
    rw [show i = xs.length by omega, row3_end]
    refine ev_bind_now (crc_Sum_S _ (by rw [B_size]; omega)) ?_
    refine ev_if_pos (by omega) ?_
    refine ev_if_pos (by omega) ?_
    simp only [extract_to]
    refine ev_bind_now (crc_Sum_S _ (by rw [B_size]; simp; omega)) ?_
    refine ev_if_pos (by omega) ?_
    refine ev_bind_now (crc_Sum_S _ (by rw [B_size]; simp; omega)) ?_
    refine ev_if_pos (by omega) ?_
    refine ev_bind_now (crc_Sum_S _ (by rw [B_size]; simp; omega)) ?_
    refine ev_some fun k => ?_
    simp only [L_B]
    have h1 := sumS2_lt ((L a).take n)
    have h2 := sumS2_lt ((L b).take n)
    have h3 := sumS2_lt ((L c).take n)
    have h4 : sumS2 ((L a).take n) ^^^ sumS2 ((L b).take n) < 4294967296 := Nat.xor_lt_two_pow (n := 32) (by omega) (by omega)
    rw [xor_u32 _ _ h1 h2, xor_u32 _ _ h4 h3, hx, sum3 _ _ _ (by simp; omega) (by simp; omega), beq_self_eq_true]
  | succ d ih =>
    intro i hi
    refine Ev.step (fun k => by rw [thwartlaw02_CrcThree.l0]) ?_
    refine ev_if_pos (by omega) ?_
    refine ev_if_pos (by omega) ?_
    refine ev_if_pos (by omega) ?_
    refine ev_if_pos (by omega) ?_
    refine ev_if_pos (by omega) ?_
    refine ev_if_pos (by rw [row3_length xs i (by omega)]; omega) ?_
    rw [bt_L a i (by omega), bt_L b i (by omega), bt_L c i (by omega), u8_xor_nat _ _ (UInt8.toNat_lt _) (UInt8.toNat_lt _),
      u8_xor_nat _ _ (Nat.xor_lt_two_pow (n := 8) (UInt8.toNat_lt _) (UInt8.toNat_lt _)) (UInt8.toNat_lt _), Int.toNat_natCast, wrap64_in (by omega) (by omega)]
    have e : xs[i]'(by omega) = ((L a)[i]'(by omega) ^^^ (L b)[i]'(by omega)) ^^^ (L c)[i]'(by omega) := by
      subst hx
      simp [xor3]
    have hs := row3_set xs i (by omega)
    rw [e, toNat_xor, toNat_xor] at hs
    rw [hs]
    exact ih (i + 1) (by omega)
theorem pureCrcThree : thwartlaw02_CrcThree.Pure := by
  intro a b c h1 h2 h3
  apply Ev.rounds
  unfold thwartlaw02_CrcThree.f
  refine ev_bind_now awake02p ?_
  obtain ⟨n, e, g1, g2, g3, g4⟩ : ∃ n : Nat, mn (mn (mn (a.size : Int) (b.size : Int)) (c.size : Int)) 300 = (n : Int) ∧ n ≤ a.size ∧ n ≤ b.size ∧ n ≤ c.size ∧ n ≤ 300 := by
    refine ⟨(mn (mn (mn (a.size : Int) (b.size : Int)) (c.size : Int)) 300).toNat, ?_⟩
    unfold mn
    split <;> split <;> split <;> omega
  rw [e]
  refine ev_if_pos (by omega) ?_
  refine ev_if_pos (by omega) ?_
  have la := L_length a
  have lb := L_length b
  have lc := L_length c
  have hl : (xor3 ((L a).take n) ((L b).take n) ((L c).take n)).length = n := by simp [xor3]; omega
  have := ev_three a b c n _ rfl g1 g2 g3 g4 n 0 (by omega)
  rw [row3_start, hl] at this
  exact this
end Go.Proofs.Ytcahpaoeailajaa.Thw
