/- Several texts of mine in one (EvA, Ev01, Ev01r, Ev01s, Ev02, Ev02r, Ev03, Ev03r, Ev03m, Ev04D, Ev05S, Ev05bS, Ev05rS, Ev05DS, Ev05OS). -/
import Derived.Test.YthndpknocofioaaGreatDoorWWords
import Derived.Test.YthndpknocofioaaGreatDoorWMore
import Derived.Test.YthndpknocofioaaGreatDoorWNEv
import Derived.Test.YthndpknocofioaaGreatDoorMP8
import Derived.Test.YthndpknocofioaaGreatDoorPrint6
import Derived.Test.YthndpknocofioaaGreatDoorPrint4
import Derived.Test.YthndpknocofioaaGreatDoorPrint5
import Derived.Test.YthndpknocofioaaGreatDoorPrint7
import Derived.Laws.BitsAllLaws
import Derived.Test.YthndpknocofioaaGreatDoorPrint23
import Derived.Test.YthndpknocofioaaGreatDoorPrint8
import Derived.Test.YthndpknocofioaaGreatDoorPrint9
import Derived.Test.YthndpknocofioaaGreatDoorPrint24
import Derived.Test.YthndpknocofioaaGreatDoorPrint10
/-! ## What the printed words come to in plain words: bytes of a string, rounds. -/
namespace Go.Proofs.YthndpknocofioaaGreatDoor.Thw
open Go Go.RowKit Go.Proofs.YthndpknocofioaaGreatDoorW.PrintWords Go.Proofs.YthndpknocofioaaGreatDoorW.PrintMore
set_option linter.unusedVariables false
set_option linter.unusedSimpArgs false

theorem bt_L (s : ByteArray) (i : Nat) (h : i < (L s).length) : bt s (i : Int) = (((L s)[i]).toNat : Int) := by
  have h' : i < s.size := by rw [← L_length]; exact h
  unfold bt
  simp only [Int.toNat_natCast]
  rw [dif_pos h']
  simp only [L, Array.getElem_toList]
  rfl
theorem drop_at {α : Type} (l : List α) (i : Nat) (h : i < l.length) : l.drop i = l[i] :: l.drop (i + 1) := List.drop_eq_getElem_cons h
theorem wrap64_in {n : Int} (h0 : -9223372036854775808 ≤ n) (h1 : n ≤ 9223372036854775807) : wrap64 n = n := by unfold wrap64; omega
theorem u64_in {n : Int} (h0 : 0 ≤ n) (h1 : n < 18446744073709551616) : IntKind.u64.wrap n = n := by rw [IntKind.wrap_u64]; omega
theorem L_strOfNums (l : List Int) : L (strOfNums l) = l.map fun n => UInt8.ofNat n.toNat := by simp [L, strOfNums]
theorem wf_u64 {n : Int} (h : (Lit.int .u64 n).wf = true) : 0 ≤ n ∧ n < 18446744073709551616 := by
  simp [Lit.wf, IntKind.min, IntKind.max, IntKind.bits, IntKind.signed] at h
  omega
theorem wf_i64 {n : Int} (h : (Lit.int .i64 n).wf = true) : -9223372036854775808 ≤ n ∧ n ≤ 9223372036854775807 := by
  simp [Lit.wf, IntKind.min, IntKind.max, IntKind.bits, IntKind.signed] at h
  omega
theorem mul_u64 (a b : Nat) : IntKind.u64.wrap ((a : Int) * (b : Int)) = ((a * b % 18446744073709551616 : Nat) : Int) := by rw [IntKind.wrap_u64]; omega
theorem ev_if_pos {α : Type} {c : Prop} [Decidable c] {g f : Nat → Option α} {r : α} (hc : c) (h : Ev g r) : Ev (fun k => if c then g k else f k) r := Ev.congr (fun k => if_pos hc) h
theorem ev_if_neg {α : Type} {c : Prop} [Decidable c] {g f : Nat → Option α} {r : α} (hc : ¬ c) (h : Ev f r) : Ev (fun k => if c then g k else f k) r := Ev.congr (fun k => if_neg hc) h
theorem ev_some {α : Type} {g : Nat → Option α} {r : α} (h : ∀ k, g k = some r) : Ev g r := ⟨0, fun k _ => h k⟩
theorem ev_bind_now {α β : Type} {g : Option α} {f : Nat → α → Option β} {a : α} {r : β} (h : g = some a) (k : Ev (fun n => f n a) r) : Ev (fun n => g.bind (f n)) r := Ev.congr (fun n => by rw [h]; rfl) k
end Go.Proofs.YthndpknocofioaaGreatDoor.Thw
/-! ## Layer 1 (varint): what the printed functions come to, in the plain words of Plain01. -/
namespace Go.Proofs.YthndpknocofioaaGreatDoor.Thw
open Go Go.RowKit Go.Proofs.YthndpknocofioaaGreatDoor.Print Go.Proofs.YthndpknocofioaaGreatDoorW.PrintWords Go.Proofs.YthndpknocofioaaGreatDoorW.PrintLast Go.Proofs.YthndpknocofioaaGreatDoorW.PrintMore
set_option linter.unusedVariables false
set_option linter.unusedSimpArgs false

theorem L_putF : ∀ (k n : Nat), L (strOfNums (putF k (n : Int))) = putB k n
  | 0, n => by rw [putF, putB, L_strOfNums]; simp
  | k + 1, n => by
    have e : ((n : Int) / 128) = ((n / 128 : Nat) : Int) := by omega
    rw [putF, putB]
    by_cases h : n < 128
    · rw [if_pos (by omega), if_pos h, L_strOfNums]; simp
    · rw [if_neg (by omega), if_neg h, L_strOfNums, List.map_cons, ← L_strOfNums, e, L_putF k (n / 128)]
      congr 2
theorem strOf_putF (n : Nat) : strOfNums (putF 9 (n : Int)) = B (putS n) := L_inj (by rw [L_putF, L_B]; rfl)
theorem varint_Put_N (n : Nat) (h : n < 18446744073709551616) : varint_Put.f (n : Int) = some (B (putS n)) := by
  unfold varint_Put.f
  rw [if_pos (by omega), strOf_putF]
theorem varint_Text_B (s : ByteArray) (h : s.size ≤ 4611686018427387904) : varint_Text.f s = some (B (textS (L s))) := by
  unfold varint_Text.f
  rw [if_pos h, strOf_putF]
  exact congrArg some (L_inj (by rw [L_append, L_B, L_B, textS, L_length]))
theorem add_lt_mod (X acc : Nat) (h : X % 18446744073709551616 + acc < 18446744073709551616) : X % 18446744073709551616 + acc = (acc + X) % 18446744073709551616 := by omega
/-- One more byte, gathered. -/
theorem gather (acc i c : Nat) (hi : i ≤ 9) (ha : acc < 128 ^ i) (hc : c < 256) :
    Go.bits .or .u64 (acc : Int) (shl .u64 (IntKind.u64.wrap (Go.bits .andNot .u8 (c : Int) 128)) (wrap64 (7 * (i : Int)))) = (((acc + c % 128 * 128 ^ i) % 18446744073709551616 : Nat) : Int) := by
  have hand : Go.bits .andNot .u8 (c : Int) 128 = ((c % 128 : Nat) : Int) := by
    have e : ∀ a : Nat, a < 256 → a &&& (255 - 128) = a % 128 := by decide +kernel
    rw [show (128 : Int) = ((128 : Nat) : Int) from rfl, u8_andNot_nat c 128 hc (by omega), e c hc]
  have hp : (128 : Nat) ^ i = 2 ^ (7 * i) := by rw [Nat.pow_mul]
  have hsh : shl .u64 ((c % 128 : Nat) : Int) (wrap64 (7 * (i : Int))) = ((c % 128 * 128 ^ i % 18446744073709551616 : Nat) : Int) := by
    unfold shl
    rw [wrap64_in (by omega) (by omega), show min (7 * (i : Int)).toNat IntKind.u64.bits = 7 * i by simp [IntKind.bits]; omega]
    have e1 : ((2 : Int) ^ (7 * i)) = ((128 ^ i : Nat) : Int) := by rw [hp]; simp
    rw [e1, mul_u64]
  rw [hand, u64_in (n := ((c % 128 : Nat) : Int)) (by omega) (by omega), hsh]
  have hpos : 0 < 128 ^ i := Nat.pow_pos (by omega)
  have hle : 128 ^ i ≤ 128 ^ 9 := Nat.pow_le_pow_right (by omega) hi
  rw [pow_128_9] at hle
  have hdvd : 2 ^ (7 * i) * (18446744073709551616 / 2 ^ (7 * i)) = 18446744073709551616 := by
    have : (18446744073709551616 : Nat) = 2 ^ (7 * i) * 2 ^ (64 - 7 * i) := by rw [← Nat.pow_add, show 7 * i + (64 - 7 * i) = 64 by omega]
    exact Nat.mul_div_cancel' ⟨_, this⟩
  have hmul : c % 128 * 128 ^ i % 18446744073709551616 = 2 ^ (7 * i) * (c % 128 % (18446744073709551616 / 2 ^ (7 * i))) := by
    rw [Nat.mul_comm, hp]
    conv => lhs; rw [← hdvd]
    rw [Nat.mul_mod_mul_left]
  have hlt : c % 128 * 128 ^ i % 18446744073709551616 < 18446744073709551616 := Nat.mod_lt _ (by omega)
  rw [u64_or_nat _ _ (by omega) hlt, Nat.or_comm, hmul, ← Nat.two_pow_add_eq_or_of_lt (by rw [← hp]; exact ha), ← hmul]
  have hsum : c % 128 * 128 ^ i % 18446744073709551616 + acc < 18446744073709551616 := by
    rw [hmul]
    have h1 : c % 128 % (18446744073709551616 / 2 ^ (7 * i)) + 1 ≤ 18446744073709551616 / 2 ^ (7 * i) := Nat.mod_lt _ (by
      rcases Nat.eq_zero_or_pos (18446744073709551616 / 2 ^ (7 * i)) with h | h
      · rw [h] at hdvd; omega
      · exact h)
    have h2 := Nat.mul_le_mul_left (2 ^ (7 * i)) h1
    rw [hdvd, Nat.mul_add, Nat.mul_one] at h2
    rw [hp] at ha
    omega
  exact congrArg _ (add_lt_mod _ acc hsum)
def TK (r : Nat × Bs × Int) : Int × ByteArray × Int := ((r.1 : Int), B r.2.1, r.2.2)
theorem ev_take (b : ByteArray) (hb : b.size ≤ 4611686018427387904) : ∀ (f i acc : Nat), i + f = 10 → i ≤ (L b).length → acc < 128 ^ i →
    Ev (fun k => varint_Take.l0 k b (acc : Int) (i : Int)) (TK (takeR (L b) f i acc))
  | 0, i, acc, e, h, ha => by
    refine Ev.step (f := fun k => some (TK (0, [], 2))) (fun k => ?_) (Ev.now _)
    simp only [varint_Take.l0]
    rw [if_neg (by omega)]
    rfl
  | f + 1, i, acc, e, h, ha => by
    have hl := L_length b
    rw [takeR]
    by_cases h1 : i = (L b).length
    · rw [if_pos h1]
      refine Ev.step (f := fun k => some (TK (0, [], 3))) (fun k => ?_) (Ev.now _)
      simp only [varint_Take.l0]
      rw [if_pos (by omega), if_pos (by omega)]
      rfl
    rw [if_neg h1]
    have hi : i < (L b).length := by omega
    have hg : (L b).getD i 0 = (L b)[i] := by simp [List.getD_eq_getElem?_getD, List.getElem?_eq_getElem hi]
    have hc := (L b)[i].toNat_lt
    have hga := gather acc i (L b)[i].toNat (by omega) ha hc
    rw [hg]
    generalize hn : (acc + (L b)[i].toNat % 128 * 128 ^ i) % 18446744073709551616 = n at hga ⊢
    have hnlt : n < 18446744073709551616 := by rw [← hn]; exact Nat.mod_lt _ (by omega)
    have HN := Aside0.mk hn
    clear hn
    have HT := Aside0.mk hnlt
    clear hnlt
    by_cases h2 : 128 ≤ (L b)[i].toNat
    · rw [if_pos h2]
      refine Ev.step (f := fun k => varint_Take.l0 k b (n : Int) ((i + 1 : Nat) : Int)) (fun k => ?_) (ev_take b hb f (i + 1) n (by omega) (by omega) ?_)
      · simp only [varint_Take.l0]
        rw [if_pos (by omega), if_neg (by omega), if_pos (by omega), if_pos (by omega), if_pos (by rw [wrap64_in (by omega) (by omega)]; omega), bt_L b i hi, if_pos (by omega), hga, wrap64_in (n := (i : Int) + 1) (by omega) (by omega)]
        exact Eq.refl _
      · rw [← HN.out]
        refine Nat.lt_of_le_of_lt (Nat.mod_le _ _) ?_
        have : (L b)[i].toNat % 128 * 128 ^ i ≤ 127 * 128 ^ i := Nat.mul_le_mul_right _ (by omega)
        rw [Nat.pow_succ]
        omega
    · rw [if_neg h2]
      have hw : wrap64 ((i : Int) + 1) = ((i + 1 : Nat) : Int) := by rw [wrap64_in (by omega) (by omega)]; omega
      refine Ev.step (f := fun k => if putS n = (L b).take (i + 1) then some (TK (n, (L b).drop (i + 1), 0)) else some (TK (0, [], 2))) (fun k => ?_) ?_
      · simp only [varint_Take.l0]
        rw [if_pos (by omega), if_neg (by omega), if_pos (by omega), if_pos (by omega), if_pos (by rw [wrap64_in (by omega) (by omega)]; omega), bt_L b i hi, if_neg (by omega), hga, varint_Put_N n HT.out, Option.bind_some, hw, if_pos (by omega), if_pos (by omega)]
        simp only [toList_L, L_B, Int.toNat_natCast, L_extract_front, extract_end]
        rfl
      · split
        · exact Ev.now _
        · exact Ev.now _
theorem ev_Take (b : ByteArray) (hb : b.size ≤ 4611686018427387904) : Ev (fun k => varint_Take.f k b) (TK (takeS (L b))) := by
  have := ev_take b hb 10 0 0 rfl (Nat.zero_le _) (by decide)
  exact this
def OT (r : Bs × Bs × Int) : ByteArray × ByteArray × Int := (B r.1, B r.2.1, r.2.2)
theorem takeS_len (b : Bs) : (takeS b).2.1.length ≤ b.length := by
  rcases takeS_told b with h | h | h
  · omega
  · rw [h]; simp
  · rw [h]; simp
theorem ev_OfText (b : ByteArray) (hb : b.size ≤ 4611686018427387904) : Ev (fun k => varint_OfText.f k b) (OT (ofTextS (L b))) := by
  have hl := L_length b
  have hr := takeS_len (L b)
  unfold varint_OfText.f ofTextS
  refine Ev.bind (ev_Take b hb) ?_
  generalize takeS (L b) = r at hr ⊢
  obtain ⟨n, rest, e⟩ := r
  simp only [TK] at hr ⊢
  by_cases h0 : e = 0
  · subst h0
    refine ev_if_pos rfl ?_
    rw [if_pos rfl]
    simp only [B_size]
    rw [u64_in (by omega) (by omega)]
    by_cases h1 : n > rest.length
    · rw [if_pos h1]
      exact ev_if_pos (by omega) (Ev.now _)
    · rw [if_neg h1]
      refine ev_if_neg (by omega) ?_
      refine ev_if_pos (by omega) ?_
      refine ev_if_pos (by omega) ?_
      refine ev_some fun k => ?_
      rw [extract_front, Int.toNat_natCast, L_B, ← B_size rest, extract_end, L_B]
      rfl
  · rw [if_neg h0]
    exact ev_if_neg h0 (Ev.now _)
end Go.Proofs.YthndpknocofioaaGreatDoor.Thw
/-! ## Layer 1, the references: they come to the same plain words. -/
namespace Go.Proofs.YthndpknocofioaaGreatDoor.Thw
open Go Go.RowKit Go.Proofs.YthndpknocofioaaGreatDoor.Print Go.Proofs.YthndpknocofioaaGreatDoorW.PrintWords Go.Proofs.YthndpknocofioaaGreatDoorW.PrintLast Go.Proofs.YthndpknocofioaaGreatDoorW.PrintMore
set_option linter.unusedVariables false
set_option linter.unusedSimpArgs false

end Go.Proofs.YthndpknocofioaaGreatDoor.Thw
/-! ## Layer 1, the references, said of bytes; halves. -/
namespace Go.Proofs.YthndpknocofioaaGreatDoor.Thw
open Go Go.RowKit Go.Proofs.YthndpknocofioaaGreatDoor.Print Go.Proofs.YthndpknocofioaaGreatDoorW.PrintWords Go.Proofs.YthndpknocofioaaGreatDoorW.PrintLast Go.Proofs.YthndpknocofioaaGreatDoorW.PrintMore
set_option linter.unusedVariables false
set_option linter.unusedSimpArgs false

end Go.Proofs.YthndpknocofioaaGreatDoor.Thw
/-! ## Layer 2 (crc): what the printed functions come to, in the plain words of Plain02. -/
namespace Go.Proofs.YthndpknocofioaaGreatDoor.Thw
open Go Go.RowKit Go.Proofs.YthndpknocofioaaGreatDoor.Print Go.Proofs.YthndpknocofioaaGreatDoorW.PrintWords Go.Proofs.YthndpknocofioaaGreatDoorW.PrintLast Go.Proofs.YthndpknocofioaaGreatDoorW.PrintMore
set_option linter.unusedVariables false
set_option linter.unusedSimpArgs false

theorem xor_u32 (a b : Nat) (ha : a < 4294967296) (hb : b < 4294967296) : Go.bits .xor .u32 (a : Int) (b : Int) = ((a ^^^ b : Nat) : Int) := u32_xor_nat a b ha hb
theorem crcStep_N (c : Nat) (h : c < 4294967296) : crcStep (c : Int) = ((stepN c : Nat) : Int) := by
  have h1 : Go.bits .and .u32 (c : Int) 1 = ((c % 2 : Nat) : Int) := by
    rw [show (1 : Int) = ((1 : Nat) : Int) from rfl, u32_and_nat c 1 h (by omega), Nat.and_one_is_mod]
  have h2 : ((c : Int) / 2) = ((c / 2 : Nat) : Int) := by omega
  unfold crcStep stepN
  rw [h1, h2]
  rcases Nat.mod_two_eq_zero_or_one c with h3 | h3
  · rw [h3, if_neg (by omega), show ((-(((0 : Nat)) : Int)) % 4294967296) = ((0 : Nat) : Int) from rfl, show (2197175160 : Int) = ((2197175160 : Nat) : Int) from rfl, u32_and_nat _ 0 (by omega) (by omega), Nat.and_zero, xor_u32 _ _ (by omega) (by omega)]
  · rw [h3, if_pos rfl, show ((-(((1 : Nat)) : Int)) % 4294967296) = ((4294967295 : Nat) : Int) from by decide, show (2197175160 : Int) = ((2197175160 : Nat) : Int) from rfl, u32_and_nat _ _ (by omega) (by omega), show (2197175160 &&& 4294967295 : Nat) = 2197175160 from by decide +kernel, xor_u32 _ _ (by omega) (by omega)]
    unfold polyN
    exact Eq.refl _
theorem iter_N (c : Nat) (h : c < 4294967296) : ∀ n, iterI crcStep n (c : Int) = ((stepsN n c : Nat) : Int)
  | 0 => rfl
  | n + 1 => by rw [iterI, iter_N c h n, crcStep_N _ (stepsN_lt c h n), stepsN]
theorem crcOf_N (i : Nat) (h : i < 256) : crcOf i = ((stepsN 8 i : Nat) : Int) := by unfold crcOf; exact iter_N i (by omega) 8
theorem crcNext_N (c x : Nat) (hc : c < 4294967296) (hx : x < 256) : crcNext (c : Int) (x : Int) = ((byteN c x : Nat) : Int) := by
  have h1 : ((c : Int) % 256) = ((c % 256 : Nat) : Int) := by omega
  have h2 : ((c : Int) / 256) = ((c / 256 : Nat) : Int) := by omega
  have h3 : (c % 256) ^^^ x < 256 := Nat.xor_lt_two_pow (n := 8) (by omega) (by omega)
  unfold crcNext
  rw [h1, h2, u8_xor_nat _ _ (by omega) hx, Int.toNat_natCast, crcOf_N _ h3, xor_u32 _ _ (stepsN_lt _ (by omega) 8) (by omega), byteN_table c x hx]
theorem moreL_N : ∀ (l : Bs) (c : Nat), c < 4294967296 → moreL l (c : Int) = ((moreN l c : Nat) : Int)
  | [], c, _ => rfl
  | b :: l, c, h => by
    have hb := b.toNat_lt
    rw [moreN_cons, ← moreL_N l _ (byteN_lt c _ h hb), ← crcNext_N c _ h hb]
    exact List.foldl_cons ..
theorem u32_max : IntKind.u32.max = ((ones : Nat) : Int) := by decide
theorem crc_More_S (s : Nat) (b : ByteArray) (hs : s < 4294967296) (hb : b.size ≤ 4611686018427387904) : crc_More.f (s : Int) b = some ((moreS s (L b) : Nat) : Int) := by
  have h1 : ones ^^^ s < 4294967296 := Nat.xor_lt_two_pow (n := 32) ones_lt (by simpa using hs)
  unfold crc_More.f
  rw [if_pos hb, u32_max, xor_u32 _ _ ones_lt hs, moreL_N _ _ h1, xor_u32 _ _ ones_lt (moreN_lt _ _ h1)]
  unfold moreS L
  exact Eq.refl _
theorem crc_Sum_S (b : ByteArray) (hb : b.size ≤ 4611686018427387904) : crc_Sum.f b = some ((sumS2 (L b) : Nat) : Int) := by
  have := crc_More_S 0 b (by omega) hb
  unfold crc_Sum.f
  rw [show (0 : Int) = ((0 : Nat) : Int) from rfl, this]
  exact Eq.refl _
theorem L_seal4 (n : Nat) : L (strOfNums (seal4 (n : Int))) = le4 n := by
  rw [L_strOfNums]
  unfold seal4 le4
  simp only [List.map_cons, List.map_nil]
  congr 2
theorem crc_Seal_S (b : ByteArray) (hb : b.size ≤ 4611686018427387904) : crc_Seal.f b = some (B (sealS (L b))) := by
  unfold crc_Seal.f
  rw [crc_Sum_S b hb, Option.bind_some, if_pos hb]
  exact congrArg some (L_inj (by rw [L_append, L_B, L_seal4]; rfl))
theorem crc_Open_S (b : ByteArray) (hb : b.size ≤ 4611686018427387904) : crc_Open.f b = some (B (openS (L b)).1, (openS (L b)).2) := by
  have hl := L_length b
  unfold crc_Open.f openS
  by_cases h : (L b).length < 4
  · rw [if_pos (by omega), if_pos h]; rfl
  rw [if_neg (by omega), if_neg h, if_pos (by omega), crc_Seal_S _ (by rw [extract_end, B_size, List.length_drop]; omega), Option.bind_some, if_pos (by omega), L_extract_end, if_pos (by rw [B_size, sealS_length]; omega)]
  simp only [toList_L, L_extract_front, L_B, extract_end]
  by_cases h2 : (sealS ((L b).drop 4)).take 4 = (L b).take 4
  · rw [if_pos h2, if_pos h2]
  · rw [if_neg h2, if_neg h2]; rfl
end Go.Proofs.YthndpknocofioaaGreatDoor.Thw
/-! ## Layer 2, the references: they come to the same plain words. -/
namespace Go.Proofs.YthndpknocofioaaGreatDoor.Thw
open Go Go.RowKit Go.Proofs.YthndpknocofioaaGreatDoor.Print Go.Proofs.YthndpknocofioaaGreatDoorW.PrintWords Go.Proofs.YthndpknocofioaaGreatDoorW.PrintLast Go.Proofs.YthndpknocofioaaGreatDoorW.PrintMore
set_option linter.unusedVariables false
set_option linter.unusedSimpArgs false

end Go.Proofs.YthndpknocofioaaGreatDoor.Thw
/-! ## Layer 3 (record): what the printed functions come to, in the plain words of Plain03. -/
namespace Go.Proofs.YthndpknocofioaaGreatDoor.Thw
open Go Go.RowKit Go.Proofs.YthndpknocofioaaGreatDoor.Print Go.Proofs.YthndpknocofioaaGreatDoorW.PrintWords Go.Proofs.YthndpknocofioaaGreatDoorW.PrintLast Go.Proofs.YthndpknocofioaaGreatDoorW.PrintMore
set_option linter.unusedVariables false
set_option linter.unusedSimpArgs false

theorem ev_bt {α : Type} {g f : Nat → Option α} {r : α} (h : Ev g r) : Ev (fun k => if true = true then g k else f k) r := h
theorem ev_bf {α : Type} {g f : Nat → Option α} {r : α} (h : Ev f r) : Ev (fun k => if false = true then g k else f k) r := h
theorem B_isEmpty (l : Bs) : ((B l).toList == ([] : List UInt8)) = decide (l = []) := by rw [toList_L, L_B]; cases l <;> rfl
theorem ev_Right_j (x : Bool) (n : Int) (key val : ByteArray) (g : Bool) : Ev (fun k => record_Right.j0 k x n key val g) (if x = true then false else if g = true then ((val.toList == ([] : List UInt8)) && g) else true) := by
  refine Ev.step (f := fun _ => some (if x = true then false else if g = true then ((val.toList == ([] : List UInt8)) && g) else true)) (fun k => ?_) (Ev.now _)
  rw [record_Right.j0]
  cases x <;> cases g <;> rfl
theorem ev_Right_no (n : Int) (key val : ByteArray) (g : Bool) : Ev (fun k => record_Right.j0 k true n key val g) false := ev_Right_j true n key val g
theorem ev_Right (r : Rec) : Ev (fun k => record_Right.f k (r.seq : Int) (B r.key) (B r.val) r.gone) (rightS r) := by
  unfold record_Right.f
  by_cases h1 : r.seq < 1
  · rw [show rightS r = false by unfold rightS; simp; omega]
    exact ev_if_pos (by omega) (ev_Right_no _ _ _ _)
  refine ev_if_neg (by omega) ?_
  by_cases h2 : r.seq > 1099511627776
  · rw [show rightS r = false by unfold rightS; simp; omega]
    exact ev_if_pos (by omega) (ev_Right_no _ _ _ _)
  refine ev_if_neg (by omega) ?_
  by_cases h3 : r.key = []
  · rw [show rightS r = false by unfold rightS; simp [h3]]
    exact ev_if_pos (by rw [h3, toList_L, L_B]) (ev_Right_no _ _ _ _)
  refine ev_if_neg (by rw [toList_L, L_B]; exact h3) ?_
  have h3' : 1 ≤ r.key.length := List.length_pos_iff.mpr h3
  by_cases h4 : r.key.length > 40
  · rw [show rightS r = false by unfold rightS; simp; omega]
    exact ev_if_pos (by rw [B_size]; omega) (ev_Right_no _ _ _ _)
  refine ev_if_neg (by rw [B_size]; omega) ?_
  have hj := ev_Right_j (decide (((B r.val).size : Int) > 300)) (r.seq : Int) (B r.key) (B r.val) r.gone
  refine cast (congrArg (Ev _) ?_) hj
  rw [B_isEmpty, B_size]
  by_cases h5 : r.val.length > 300
  · rw [show rightS r = false by unfold rightS; simp; omega, if_pos (by simp; omega)]
  · rw [if_neg (by simp; omega)]
    unfold rightS
    rw [decide_eq_true (by omega : 1 ≤ r.seq), decide_eq_true (by omega : r.seq ≤ 1099511627776), decide_eq_true h3', decide_eq_true (by omega : r.key.length ≤ 40), decide_eq_true (by omega : r.val.length ≤ 300)]
    cases r.gone <;> simp
theorem or_one (m : Nat) (h : 2 * m < 18446744073709551616) : Go.bits .or .u64 ((2 * m : Nat) : Int) 1 = ((2 * m + 1 : Nat) : Int) := by
  rw [show (1 : Int) = ((1 : Nat) : Int) from rfl, u64_or_nat (2 * m) 1 (by omega) (by omega)]
  have := Nat.shiftLeft_add_eq_or_of_lt (b := 1) (i := 1) (by decide) m
  rw [Nat.shiftLeft_eq, show m * 2 ^ 1 = 2 * m by omega] at this
  rw [this]
theorem and_one' (n : Nat) (h1 : n < 18446744073709551616) : Go.bits .and .u64 (n : Int) 1 = ((n % 2 : Nat) : Int) := by
  rw [show (1 : Int) = ((1 : Nat) : Int) from rfl, u64_and_nat n 1 (by omega) (by omega), Nat.and_one_is_mod]
theorem B_textS_le (l : Bs) : (B (textS l)).size ≤ 10 + l.length := by rw [B_size]; exact textS_length l
theorem B_putS_le (n : Nat) : (B (putS n)).size ≤ 10 := by rw [B_size]; exact putS_length n
theorem text_B (l : Bs) (h : l.length ≤ 4611686018427387904) : varint_Text.f (B l) = some (B (textS l)) := by
  rw [varint_Text_B _ (by rw [B_size]; exact h), L_B]
theorem ev_Bytes (r : Rec) : Ev (fun k => record_Bytes.f k (r.seq : Int) (B r.key) (B r.val) r.gone) (B (bytesS r).1, (bytesS r).2) := by
  unfold record_Bytes.f
  refine Ev.bind (ev_Right r) ?_
  unfold bytesS
  cases hr : rightS r with
  | false =>
    refine ev_bf ?_
    rw [if_neg (by decide)]
    exact Ev.now _
  | true =>
    refine ev_bt ?_
    rw [if_pos rfl]
    obtain ⟨h1, h2, h3, h4, h5, h6⟩ := right_facts hr
    have a := B_textS_le r.key
    have b := B_textS_le r.val
    have c := B_putS_le (2 * r.seq + 1)
    have d := B_putS_le (2 * r.seq)
    have e : IntKind.u64.wrap ((r.seq : Int) * 2) = ((2 * r.seq : Nat) : Int) := by rw [IntKind.wrap_u64]; omega
    unfold recS
    cases hg : r.gone with
    | true =>
      refine ev_bt ?_
      rw [if_pos rfl]
      rw [e, or_one _ (by omega)]
      refine ev_bind_now (varint_Put_N _ (by omega)) ?_
      refine ev_bind_now (text_B _ (by omega)) ?_
      refine ev_if_pos (by omega) ?_
      rw [B_append]
      exact Ev.now _
    | false =>
      refine ev_bf ?_
      rw [if_neg (by decide)]
      rw [e]
      refine ev_bind_now (varint_Put_N _ (by omega)) ?_
      refine ev_bind_now (text_B _ (by omega)) ?_
      refine ev_if_pos (by omega) ?_
      refine ev_bind_now (text_B _ (by omega)) ?_
      refine ev_if_pos (by omega) ?_
      rw [B_append, B_append]
      exact Ev.now _
def RD (x : Rec × Bs × Int) : Int × ByteArray × ByteArray × Bool × ByteArray × Int := ((x.1.seq : Int), B x.1.key, B x.1.val, x.1.gone, B x.2.1, x.2.2)
theorem ofTextS_len (b : Bs) : (ofTextS b).2.1.length ≤ b.length := by
  rcases ofTextS_told b with ⟨_, _, h⟩ | h | h
  · omega
  · rw [h]; simp
  · rw [h]; simp
theorem ev_OfText_B (b : Bs) (hb : b.length ≤ 4611686018427387904) : Ev (fun k => varint_OfText.f k (B b)) (OT (ofTextS b)) := by
  have := ev_OfText (B b) (by rw [B_size]; exact hb)
  rwa [L_B] at this
theorem ev_Read (b : ByteArray) (hb : b.size ≤ 4611686018427387904) : Ev (fun k => record_Read.f k b) (RD (readS (L b))) := by
  have hl := L_length b
  unfold record_Read.f
  refine Ev.bind (ev_Take b hb) ?_
  unfold readS
  have ht := takeS_told (L b)
  generalize hT : takeS (L b) = T at *
  obtain ⟨n, b1, e1⟩ := T
  simp only [TK] at ht ⊢
  by_cases he1 : e1 = 0
  case neg =>
    rw [if_neg he1]
    exact ev_if_neg he1 (Ev.now _)
  rw [if_pos he1]
  refine ev_if_pos he1 ?_
  obtain ⟨_, _, hn, _, h5⟩ : e1 = 0 ∧ putS n ++ b1 = L b ∧ n < 18446744073709551616 ∧ (L b).length ≤ b1.length + 10 ∧ b1.length < (L b).length := by
    rcases ht with h | h | h
    · exact h
    · injection h with _ h; injection h with _ h; exact absurd (h.symm.trans he1) (by decide)
    · injection h with _ h; injection h with _ h; exact absurd (h.symm.trans he1) (by decide)
  have hlen := ofTextS_len b1
  have hdiv : ((n : Int) / 2) = ((n / 2 : Nat) : Int) := by omega
  simp only [hdiv]
  by_cases hodd : n % 2 = 1
  · have ho : (Go.bits .and .u64 (n : Int) 1 == 1) = true := by rw [and_one' n hn, hodd]; rfl
    refine ev_if_pos ho ?_
    refine Ev.bind (ev_OfText_B b1 (by omega)) ?_
    rw [if_pos hodd]
    generalize hO : ofTextS b1 = O at *
    obtain ⟨key, b2, e2⟩ := O
    simp only [OT] at hlen ⊢
    by_cases he2 : e2 = 0
    case neg =>
      rw [if_neg he2]
      exact ev_if_neg he2 (Ev.now _)
    rw [if_pos he2]
    refine ev_if_pos he2 ?_
    refine Ev.bind (ev_Right ⟨n / 2, key, [], true⟩) ?_
    cases rightS ⟨n / 2, key, [], true⟩
    · exact ev_bf (Ev.now _)
    · exact ev_bt (Ev.now _)
  · have ho : ¬ (Go.bits .and .u64 (n : Int) 1 == 1) = true := by rw [and_one' n hn, show n % 2 = 0 by omega]; decide
    refine ev_if_neg ho ?_
    refine Ev.bind (ev_OfText_B b1 (by omega)) ?_
    rw [if_neg hodd]
    generalize hO : ofTextS b1 = O at *
    obtain ⟨key, b2, e2⟩ := O
    simp only [OT] at hlen ⊢
    by_cases he2 : e2 = 0
    case neg =>
      rw [if_neg he2]
      exact ev_if_neg he2 (Ev.now _)
    rw [if_pos he2]
    refine ev_if_pos he2 ?_
    refine Ev.bind (ev_OfText_B b2 (by omega)) ?_
    generalize hO : ofTextS b2 = O at *
    obtain ⟨val, b3, e3⟩ := O
    simp only [OT] at ⊢
    by_cases he3 : e3 = 0
    case neg =>
      rw [if_neg he3]
      exact ev_if_neg he3 (Ev.now _)
    rw [if_pos he3]
    refine ev_if_pos he3 ?_
    refine Ev.bind (ev_Right ⟨n / 2, key, val, false⟩) ?_
    cases rightS ⟨n / 2, key, val, false⟩
    · exact ev_bf (Ev.now _)
    · exact ev_bt (Ev.now _)
end Go.Proofs.YthndpknocofioaaGreatDoor.Thw
/-! ## Layer 3, the references: they come to the same plain words. -/
namespace Go.Proofs.YthndpknocofioaaGreatDoor.Thw
open Go Go.RowKit Go.Proofs.YthndpknocofioaaGreatDoor.Print Go.Proofs.YthndpknocofioaaGreatDoorW.PrintWords Go.Proofs.YthndpknocofioaaGreatDoorW.PrintLast Go.Proofs.YthndpknocofioaaGreatDoorW.PrintMore
set_option linter.unusedVariables false
set_option linter.unusedSimpArgs false

end Go.Proofs.YthndpknocofioaaGreatDoor.Thw
/-! ## Layer 3, many records: All, List, and those of the references, Same, Light. -/
namespace Go.Proofs.YthndpknocofioaaGreatDoor.Thw
open Go Go.RowKit Go.Proofs.YthndpknocofioaaGreatDoor.Print Go.Proofs.YthndpknocofioaaGreatDoorW.PrintWords Go.Proofs.YthndpknocofioaaGreatDoorW.PrintLast Go.Proofs.YthndpknocofioaaGreatDoorW.PrintMore
set_option linter.unusedVariables false
set_option linter.unusedSimpArgs false

abbrev SR := S50
def RS (r : Rec) : SR := ⟨(r.seq : Int), B r.key, B r.val, r.gone⟩
theorem unRS (x : SR) (h : 0 ≤ x.f0) : ∃ r : Rec, x = RS r := by
  obtain ⟨a, b, c, d⟩ := x
  obtain ⟨n, rfl⟩ := Int.eq_ofNat_of_zero_le h
  exact ⟨⟨n, L b, L c, d⟩, by simp [RS, B_L]⟩
theorem unRSs : ∀ (l : List SR), (∀ x ∈ l, 0 ≤ x.f0) → ∃ rs : List Rec, l = rs.map RS
  | [], _ => ⟨[], rfl⟩
  | x :: l, h => by
    obtain ⟨r, hr⟩ := unRS x (h x (by simp))
    obtain ⟨rs, hs⟩ := unRSs l (fun y hy => h y (by simp [hy]))
    exact ⟨r :: rs, by rw [hr, hs]; rfl⟩
theorem rd_RS (rs : List Rec) (i : Nat) (h : i < rs.length) : rd_T50 (rs.map RS) (i : Int) = RS rs[i] := by
  unfold rd_T50
  simp [List.getD_eq_getElem?_getD, h]
/-! ### All -/
def finA (acc : ByteArray) (x : Bs × Int) : ByteArray × Int := if x.2 = 0 then (acc ++ B x.1, 0) else (⟨#[]⟩, x.2)
theorem finA_cons {acc : ByteArray} {r : Rec} {l : List Rec} (hr : rightS r = true) : finA acc (allS (r :: l)) = finA (acc ++ B (recS r)) (allS l) := by
  rw [allS, if_pos hr]
  unfold finA
  by_cases h : (allS l).2 = 0
  · rw [if_pos h, if_pos rfl, if_pos h, B_append]
    simp [ByteArray.append_assoc]
  · rw [if_neg h, if_neg h, if_neg h]
theorem finA_bad {acc : ByteArray} {r : Rec} {l : List Rec} (hr : rightS r = false) : finA acc (allS (r :: l)) = (⟨#[]⟩, 1) := by
  rw [allS, hr, if_neg (by decide)]
  rfl
theorem drop_cons {α : Type} (l : List α) (i : Nat) (h : i < l.length) : l.drop i = l[i] :: l.drop (i + 1) := List.drop_eq_getElem_cons h
theorem ev_all (rs : List Rec) (hn : rs.length ≤ 1000000000) : ∀ (d i : Nat) (acc : ByteArray), i + d = rs.length → acc.size ≤ 380 * i →
    Ev (fun k => record_All.l0 k acc (rs.map RS) (rs.length : Int) (i : Int)) (finA acc (allS (rs.drop i))) := by
  intro d
  induction d with
  | zero =>
    intro i acc hi ha
    refine Ev.step (fun k => by rw [record_All.l0]) ?_
    refine ev_if_neg (by omega) ?_
    rw [List.drop_eq_nil_of_le (by omega)]
    refine ev_some fun k => ?_
    simp [finA, allS, B_nil]
    exact L_inj (by rw [L_append]; simp [L])
  | succ d ih =>
    intro i acc hi ha
    have hlt : i < rs.length := by omega
    refine Ev.step (fun k => by rw [record_All.l0]) ?_
    refine ev_if_pos (by omega) ?_
    refine ev_if_pos (by omega) ?_
    refine ev_if_pos (by simp; omega) ?_
    simp only [rd_RS rs i hlt]
    refine Ev.bind (ev_Bytes rs[i]) ?_
    rw [drop_cons rs i hlt]
    unfold bytesS
    cases hr : rightS rs[i] with
    | false =>
      rw [finA_bad hr, if_neg (by decide)]
      exact ev_if_neg (by decide) (Ev.now _)
    | true =>
      rw [finA_cons hr, if_pos rfl]
      have hz : (B (recS rs[i])).size ≤ 380 := by rw [B_size]; exact recS_length hr
      refine ev_if_pos rfl ?_
      refine ev_if_pos (by show acc.size + (B (recS rs[i])).size ≤ _; omega) ?_
      rw [wrap64_in (by omega) (by omega)]
      exact ih (i + 1) _ (by omega) (by rw [ByteArray.size_append]; show acc.size + (B (recS rs[i])).size ≤ _; omega)
theorem ev_All (rs : List Rec) (hn : rs.length ≤ 1000000000) : Ev (fun k => record_All.f k (rs.map RS)) (B (allS rs).1, (allS rs).2) := by
  unfold record_All.f
  have := ev_all rs hn rs.length 0 ⟨#[]⟩ (by omega) (by decide)
  rw [List.drop_zero] at this
  rw [List.length_map]
  refine cast (congrArg (Ev _) ?_) this
  unfold finA
  rcases allS_right rs with ⟨h, _⟩ | h
  · rw [if_pos h, h]; exact congrArg (fun x => (x, (0 : Int))) (L_inj (by rw [L_append]; simp [L]))
  · rw [h]; rfl
def finL (acc : List Rec) (x : List Rec × Int) : List SR × Int := if x.2 = 0 then ((acc ++ x.1).map RS, 0) else ([], x.2)
theorem finL_cons {acc : List Rec} {f : Nat} {b : Bs} (hb : b ≠ []) (h : (readS b).2.2 = 0) : finL acc (listR (f + 1) b) = finL (acc ++ [(readS b).1]) (listR f (readS b).2.1) := by
  rw [listR, if_neg hb, if_pos h]
  unfold finL
  by_cases h2 : (listR f (readS b).2.1).2 = 0
  · rw [if_pos h2, if_pos rfl, if_pos h2]; simp
  · rw [if_neg h2, if_neg h2, if_neg h2]
theorem finL_bad {acc : List Rec} {f : Nat} {b : Bs} (hb : b ≠ []) (h : (readS b).2.2 ≠ 0) : finL acc (listR (f + 1) b) = ([], (readS b).2.2) := by
  rw [listR, if_neg hb, if_neg h]
  unfold finL
  rw [if_neg h]
theorem readS_len (b : Bs) (h : (readS b).2.2 = 0) : (readS b).2.1.length < b.length := by
  rcases readS_told b with ⟨_, _, _, h4⟩ | h1 | h1
  · exact h4
  · rw [h1] at h; exact absurd h (by decide)
  · rw [h1] at h; exact absurd h (by decide)
theorem ev_list : ∀ (f : Nat) (b : Bs) (acc : List Rec), b.length ≤ f → acc.length + b.length ≤ 1000000000 →
    Ev (fun k => record_List.l0 k (B b) (acc.map RS)) (finL acc (listR f b)) := by
  intro f
  induction f with
  | zero =>
    intro b acc hb ha
    have : b = [] := List.length_eq_zero_iff.mp (by omega)
    subst this
    refine Ev.step (fun k => by rw [record_List.l0]) ?_
    refine ev_if_pos (by rw [toList_L, L_B]) ?_
    exact ev_some fun k => by simp [finL, listR]
  | succ f ih =>
    intro b acc hb ha
    refine Ev.step (fun k => by rw [record_List.l0]) ?_
    by_cases hn : b = []
    · subst hn
      refine ev_if_pos (by rw [toList_L, L_B]) ?_
      exact ev_some fun k => by simp [finL, listR]
    have hp : 0 < b.length := List.length_pos_iff.mpr hn
    refine ev_if_neg (by rw [toList_L, L_B]; exact hn) ?_
    have he := ev_Read (B b) (by rw [B_size]; omega)
    rw [L_B] at he
    refine Ev.bind he ?_
    by_cases h : (readS b).2.2 = 0
    · rw [finL_cons hn h]
      refine ev_if_pos h ?_
      refine ev_if_pos (by simp; omega) ?_
      have hlen := readS_len b h
      have := ih (readS b).2.1 (acc ++ [(readS b).1]) (by omega) (by simp; omega)
      rw [List.map_append] at this
      exact this
    · rw [finL_bad hn h]
      exact ev_if_neg h (Ev.now _)
theorem finL_start (b : Bs) : finL [] (listR b.length b) = ((listS b).1.map RS, (listS b).2) := by
  unfold finL listS
  rcases listS_told b with ⟨h, _⟩ | h | h <;> unfold listS at h <;> rw [h] <;> rfl
theorem ev_List (b : ByteArray) (hb : b.size ≤ 1000000000) : Ev (fun k => record_List.f k b) ((listS (L b)).1.map RS, (listS (L b)).2) := by
  unfold record_List.f
  have hl := L_length b
  have := ev_list (L b).length (L b) [] (Nat.le_refl _) (by simp; omega)
  rw [finL_start, B_L] at this
  exact this
theorem ev_light (l : List SR) : ∀ (d i : Nat) (x : Int), i + d = l.length →
    ∃ r, Ev (fun k => thwartref03_Light.l0 k l x (i : Int)) r ∧ (r = true → l.length ≤ 40) := by
  have fin : ∀ (x : Int), ∃ r, Ev (fun _ => if (l.length : Int) ≤ 40 then some (decide (x < 4000)) else some false) r ∧ (r = true → l.length ≤ 40) := by
    intro x
    by_cases h : (l.length : Int) ≤ 40
    · exact ⟨_, ev_if_pos h (Ev.now _), fun _ => by omega⟩
    · exact ⟨_, ev_if_neg h (Ev.now _), fun h => by cases h⟩
  intro d
  induction d with
  | zero =>
    intro i x hi
    obtain ⟨r, h1, h2⟩ := fin x
    exact ⟨r, Ev.step (fun k => by rw [thwartref03_Light.l0]) (ev_if_neg (by omega) h1), h2⟩
  | succ d ih =>
    intro i x hi
    by_cases h : i < 100
    · obtain ⟨r, h1, h2⟩ := ih (i + 1) (wrap64 ((wrap64 (x + (mn (((rd_T50 l (i : Int)).f1).size : Int) 10000))) + (mn (((rd_T50 l (i : Int)).f2).size : Int) 10000))) (by omega)
      refine ⟨r, Ev.step (fun k => by rw [thwartref03_Light.l0]) (ev_if_pos (by omega) (ev_if_pos (by omega) (ev_if_pos (by omega) ?_))), h2⟩
      rw [wrap64_in (n := (i : Int) + 1) (by omega) (by omega)]
      exact h1
    · obtain ⟨r, h1, h2⟩ := fin x
      exact ⟨r, Ev.step (fun k => by rw [thwartref03_Light.l0]) (ev_if_pos (by omega) (ev_if_neg (by omega) h1)), h2⟩
theorem ev_LightAny (l : List SR) : ∃ r, Ev (fun k => thwartref03_Light.f k l) r ∧ (r = true → l.length ≤ 40) :=
  ev_light l l.length 0 0 (by omega)
end Go.Proofs.YthndpknocofioaaGreatDoor.Thw
/-! ## Layer 4 (frame), for layer 5's laws: what the printed functions come to, in the plain words of Plain04. -/
namespace Go.Proofs.YthndpknocofioaaGreatDoor.Thw
open Go Go.RowKit Go.Proofs.YthndpknocofioaaGreatDoor.Print Go.Proofs.YthndpknocofioaaGreatDoorW.PrintWords Go.Proofs.YthndpknocofioaaGreatDoorW.PrintLast Go.Proofs.YthndpknocofioaaGreatDoorW.PrintMore
set_option linter.unusedVariables false
set_option linter.unusedSimpArgs false

theorem fits_f (n : Nat) : frame_fits.f (n : Int) = some (decide (1 ≤ n) && decide (n ≤ 16)) := by
  unfold frame_fits.f
  by_cases h : 1 ≤ n
  · rw [if_pos (by omega), decide_eq_true h]
    congr 1
    simp
    omega
  · rw [if_neg (by omega), decide_eq_false h]
    rfl
theorem seal_B (l : Bs) (h : l.length ≤ 4611686018427387904) : crc_Seal.f (B l) = some (B (sealS l)) := by
  rw [crc_Seal_S _ (by rw [B_size]; exact h), L_B]
theorem ev_frameBytes (l : List Rec) : Ev (fun k => frame_Bytes.f k (l.map RS)) (B (frameS l).1, (frameS l).2) := by
  unfold frame_Bytes.f
  rw [List.length_map, fits_f]
  refine ev_bind_now rfl ?_
  change Ev (fun k => if fitsS l = true then _ else _) _
  unfold frameS
  cases hf : fitsS l with
  | false => exact ev_bf (Ev.now _)
  | true =>
    refine ev_bt ?_
    have hz := fits_facts hf
    refine Ev.bind (ev_All l (by omega)) ?_
    rw [if_pos (rfl : true = true)]
    by_cases ha : (allS l).2 = 0
    · refine ev_if_pos ha ?_
      rw [if_pos ha]
      have h1 := allS_length l
      refine ev_bind_now (seal_B _ (by omega)) ?_
      have h2 := seal_len hf
      refine ev_bind_now (text_B _ (by omega)) ?_
      exact Ev.now _
    · refine ev_if_neg ha ?_
      rw [if_neg ha]
      exact Ev.now _
def TF (x : List Rec × Int × Int) : List SR × Int × Int := (x.1.map RS, x.2.1, x.2.2)
theorem ofTextS_len1 (b : Bs) : (ofTextS b).1.length ≤ b.length := by
  rcases ofTextS_told b with ⟨_, h, _⟩ | h | h
  · have : (textS (ofTextS b).1 ++ (ofTextS b).2.1).length = b.length := by rw [h]
    unfold textS at this
    simp at this
    omega
  · rw [h]; simp
  · rw [h]; simp
theorem openS_len (l : Bs) : (openS l).1.length ≤ l.length := by
  rcases openS_told l with ⟨s, h1, h2⟩ | h
  · rw [h1, ← h2, sealS_length]; simp
  · rw [h]; simp
theorem open_B (l : Bs) (h : l.length ≤ 4611686018427387904) : crc_Open.f (B l) = some (B (openS l).1, (openS l).2) := by
  rw [crc_Open_S _ (by rw [B_size]; exact h), L_B]
theorem ev_List_B (l : Bs) (h : l.length ≤ 1000000000) : Ev (fun k => record_List.f k (B l)) ((listS l).1.map RS, (listS l).2) := by
  have := ev_List (B l) (by rw [B_size]; exact h)
  rwa [L_B] at this
theorem ev_frameTake (b : ByteArray) (hb : b.size ≤ 1000000000) : Ev (fun k => frame_Take.f k b) (TF (takeF (L b))) := by
  have hl := L_length b
  unfold frame_Take.f
  refine Ev.bind (ev_OfText b (by omega)) ?_
  unfold takeF
  have z1 := ofTextS_len (L b)
  have z2 := ofTextS_len1 (L b)
  generalize ofTextS (L b) = O at *
  obtain ⟨t, rest, e⟩ := O
  simp only [OT] at z1 z2 ⊢
  by_cases he : e = 0
  case neg => rw [if_neg he]; exact ev_if_neg he (Ev.now _)
  rw [if_pos he]
  refine ev_if_pos he ?_
  refine ev_bind_now (open_B t (by omega)) ?_
  have z3 := openS_len t
  generalize openS t = P at *
  obtain ⟨s, ok⟩ := P
  simp only [] at z3 ⊢
  cases ok with
  | false => exact ev_bf (Ev.now _)
  | true =>
    refine ev_bt ?_
    refine Ev.bind (ev_List_B s (by omega)) ?_
    rw [if_pos (rfl : true = true)]
    by_cases h2 : (listS s).2 = 0
    case neg =>
      refine ev_if_neg h2 ?_
      rw [if_neg h2]
      exact Ev.now _
    refine ev_if_pos h2 ?_
    rw [if_pos h2]
    refine ev_bind_now (by rw [List.length_map, fits_f]) ?_
    change Ev (fun k => if fitsS (listS s).1 = true then _ else _) _
    cases hf : fitsS (listS s).1 with
    | false => exact ev_bf (Ev.now _)
    | true =>
      refine ev_bt ?_
      refine ev_some fun k => ?_
      rw [wrap64_in (by rw [B_size]; omega) (by rw [B_size]; omega), B_size, if_pos (rfl : true = true), hl]
      rfl
def RSS (ls : List (List Rec)) : List (List SR) := ls.map (List.map RS)
theorem wf_list4 {l : List SR} (h : ∀ e ∈ l, (Lit.int .u64 e.f0).wf = true ∧ e.f1.size ≤ 9223372036854775807 ∧ e.f2.size ≤ 9223372036854775807 ∧ True) : ∃ rs : List Rec, l = rs.map RS :=
  unRSs l (fun x hx => (wf_u64 (h x hx).1).1)
theorem wf_lists : ∀ (ls : List (List SR)), (∀ l ∈ ls, l.length ≤ 9223372036854775807 ∧ ∀ e ∈ l, (Lit.int .u64 e.f0).wf = true ∧ e.f1.size ≤ 9223372036854775807 ∧ e.f2.size ≤ 9223372036854775807 ∧ True) → ∃ rs : List (List Rec), ls = RSS rs
  | [], _ => ⟨[], rfl⟩
  | l :: ls, h => by
    obtain ⟨r, hr⟩ := wf_list4 (h l (by simp)).2
    obtain ⟨rs, hs⟩ := wf_lists ls (fun x hx => h x (by simp [hx]))
    exact ⟨r :: rs, by rw [hr, hs]; rfl⟩
/-! ### Cuts -/
theorem ev_light4 (ls : List (List SR)) (hn : ls.length ≤ 1000000000000000) : ∀ (d i : Nat) (x : Int), i + d = ls.length →
    ∃ r, Ev (fun k => thwartref04_Light.l0 k ls x (i : Int)) r ∧ (r = true → ls.length ≤ 20) := by
  have fin : ∀ (x y : Int), ∃ r, Ev (fun k => thwartref04_Light.j1 k ls x y false) r ∧ (r = true → ls.length ≤ 20) := by
    intro x y
    by_cases h : (ls.length : Int) ≤ 20
    · exact ⟨_, Ev.step (fun k => by rw [thwartref04_Light.j1]) (ev_bf (ev_if_pos h (Ev.now _))), fun _ => by omega⟩
    · exact ⟨_, Ev.step (fun k => by rw [thwartref04_Light.j1]) (ev_bf (ev_if_neg h (Ev.now _))), fun h => by cases h⟩
  intro d
  induction d with
  | zero =>
    intro i x hi
    obtain ⟨r, h1, h2⟩ := fin x i
    exact ⟨r, Ev.step (fun k => by rw [thwartref04_Light.l0]) (ev_if_neg (by omega) h1), h2⟩
  | succ d ih =>
    intro i x hi
    by_cases h : i < 30
    · obtain ⟨r, h1, h2⟩ := ih (i + 1) (wrap64 (x + ((rd_L9 ls (i : Int)).length : Int))) (by omega)
      obtain ⟨t, ht, _⟩ := ev_LightAny (rd_L9 ls (i : Int))
      cases t with
      | false =>
        refine ⟨false, Ev.step (fun k => by rw [thwartref04_Light.l0]) (ev_if_pos (by omega) ?_), fun h => by cases h⟩
        rw [decide_eq_true (by omega)]
        refine Ev.step (fun k => by rw [thwartref04_Light.j1]) ?_
        refine ev_bt ?_
        refine ev_if_pos (by omega) ?_
        refine ev_if_pos (by omega) ?_
        refine Ev.bind ht ?_
        exact ev_bf (Ev.now _)
      | true =>
        refine ⟨r, Ev.step (fun k => by rw [thwartref04_Light.l0]) (ev_if_pos (by omega) ?_), h2⟩
        rw [decide_eq_true (by omega)]
        refine Ev.step (fun k => by rw [thwartref04_Light.j1]) ?_
        refine ev_bt ?_
        refine ev_if_pos (by omega) ?_
        refine ev_if_pos (by omega) ?_
        refine Ev.bind ht ?_
        refine ev_bt ?_
        rw [wrap64_in (n := (i : Int) + 1) (by omega) (by omega)]
        exact h1
    · obtain ⟨r, h1, h2⟩ := fin x i
      refine ⟨r, Ev.step (fun k => by rw [thwartref04_Light.l0]) (ev_if_pos (by omega) ?_), h2⟩
      rw [decide_eq_false (by omega)]
      exact h1
end Go.Proofs.YthndpknocofioaaGreatDoor.Thw
/-! ## Layer 5 (hint): what the printed functions come to, in the plain words of Plain05: entries' bytes and the entries of bytes. -/
namespace Go.Proofs.YthndpknocofioaaGreatDoor.Thw
open Go Go.RowKit Go.Proofs.YthndpknocofioaaGreatDoor.Print Go.Proofs.YthndpknocofioaaGreatDoorW.PrintWords Go.Proofs.YthndpknocofioaaGreatDoorW.PrintLast Go.Proofs.YthndpknocofioaaGreatDoorW.PrintMore
set_option linter.unusedVariables false
set_option linter.unusedSimpArgs false

theorem openS_len' (l : Bs) : (openS l).1.length ≤ l.length := by
  rcases openS_told l with ⟨s, h1, h2⟩ | h
  · rw [h1, ← h2, sealS_length]; simp
  · rw [h]; simp
abbrev SE := S52
abbrev SF := S65
def ES (e : Ent) : SE := ⟨B e.key, e.off, e.len, (e.seq : Int), e.gone⟩
def EF (e : Ent) : SF := ⟨B e.key, e.off, e.len, (e.seq : Int), e.gone⟩
theorem rd_ES (es : List Ent) (i : Nat) (h : i < es.length) : rd_T52 (es.map ES) (i : Int) = ES es[i] := by
  unfold rd_T52
  simp [List.getD_eq_getElem?_getD, h]
theorem rd_EF (es : List Ent) (i : Nat) (h : i < es.length) : rd_T65 (es.map EF) (i : Int) = EF es[i] := by
  unfold rd_T65
  simp [List.getD_eq_getElem?_getD, h]
theorem right_E (e : Ent) : hint_right.f (B e.key) e.off e.len (e.seq : Int) e.gone = some (rightE e) := by
  unfold hint_right.f rightE
  rw [B_size]
  congr 1
  rw [Bool.eq_iff_iff]
  simp only [Bool.and_eq_true, decide_eq_true_eq]
  omega
theorem or_zero (m : Nat) (h : m < 18446744073709551616) : Go.bits .or .u64 (m : Int) 0 = (m : Int) := by
  rw [show (0 : Int) = ((0 : Nat) : Int) from rfl, u64_or_nat m 0 (by omega) (by omega), Nat.or_zero]
theorem flag_f (g : Bool) : hint_flag.f g = some ((flagN g : Nat) : Int) := by cases g <;> rfl
theorem or_flag (m : Nat) (g : Bool) (h : 2 * m < 18446744073709551616) : Go.bits .or .u64 ((2 * m : Nat) : Int) ((flagN g : Nat) : Int) = ((2 * m + flagN g : Nat) : Int) := by
  cases g
  · exact or_zero _ h
  · exact or_one m h
def finB (acc : ByteArray) (l : List Ent) : ByteArray × Int := if allRight l = true then (B (sealS (L acc ++ bodyE l)), 0) else (⟨#[]⟩, 1)
theorem finB_nil (acc : ByteArray) : finB acc [] = (B (sealS (L acc)), 0) := by unfold finB bodyE; rw [List.append_nil]; rfl
theorem finB_cons {acc : ByteArray} {e : Ent} {l : List Ent} (h : rightE e = true) : finB acc (e :: l) = finB (acc ++ B (oneE e)) l := by
  unfold finB
  rw [L_append, L_B, bodyE, List.append_assoc]
  unfold allRight
  rw [List.all_cons, h, Bool.true_and]
theorem finB_bad {acc : ByteArray} {e : Ent} {l : List Ent} (h : rightE e = false) : finB acc (e :: l) = (⟨#[]⟩, 1) := by
  unfold finB allRight
  rw [List.all_cons, h, Bool.false_and]
  rfl
theorem bytesE_fin (l : List Ent) (h : l.length ≤ 2000) : finB (B (putS l.length)) l = (B (bytesE l).1, (bytesE l).2) := by
  unfold finB bytesE
  rw [L_B, if_pos h]
  split <;> rfl
theorem ev_hbytes (l : List Ent) (hn : l.length ≤ 2000) : ∀ (d i : Nat) (acc : ByteArray), i + d = l.length → acc.size ≤ 10 + 80 * i →
    Ev (fun k => hint_Bytes.l0 k acc (l.map ES) (l.length : Int) (i : Int)) (finB acc (l.drop i)) := by
  intro d
  induction d with
  | zero =>
    intro i acc hi ha
    refine Ev.step (fun k => by rw [hint_Bytes.l0]) ?_
    refine ev_if_neg (by omega) ?_
    rw [List.drop_eq_nil_of_le (by omega), finB_nil]
    refine ev_bind_now (crc_Seal_S _ (by omega)) ?_
    exact Ev.now _
  | succ d ih =>
    intro i acc hi ha
    have hlt : i < l.length := by omega
    refine Ev.step (fun k => by rw [hint_Bytes.l0]) ?_
    refine ev_if_pos (by omega) ?_
    refine ev_if_pos (by omega) ?_
    refine ev_if_pos (by simp; omega) ?_
    simp only [rd_ES l i hlt]
    refine ev_bind_now (right_E l[i]) ?_
    rw [drop_at l i hlt]
    cases hr : rightE l[i] with
    | false =>
      rw [finB_bad hr]
      exact ev_bf (Ev.now _)
    | true =>
      rw [finB_cons hr]
      refine ev_bt ?_
      obtain ⟨h1, h2, h3, h4, h5, h6, h7, h8⟩ := rightE_facts hr
      obtain ⟨z1, z2⟩ := oneE_length hr
      generalize l[i] = e at *
      have q1 := B_textS_le e.key
      have q2 := B_putS_le e.off.toNat
      have q3 := B_putS_le (2 * e.len.toNat + flagN e.gone)
      have q4 := B_putS_le e.seq
      have hg := flagN_le e.gone
      have w1 : IntKind.u64.wrap e.off = ((e.off.toNat : Nat) : Int) := by rw [IntKind.wrap_u64]; omega
      have w2 : IntKind.u64.wrap (IntKind.u64.wrap e.len * 2) = ((2 * e.len.toNat : Nat) : Int) := by rw [IntKind.wrap_u64, IntKind.wrap_u64]; omega
      have hone : ((B (textS e.key) ++ B (putS e.off.toNat)) ++ B (putS (2 * e.len.toNat + flagN e.gone))) ++ B (putS e.seq) = B (oneE e) := by unfold oneE; rw [B_append, B_append, B_append]
      have hsz : (B (oneE e)).size ≤ 80 := by rw [B_size]; exact z2
      refine ev_bind_now (text_B _ (by omega)) ?_
      simp only [ES, w1, w2]
      refine ev_bind_now (varint_Put_N _ (by omega)) ?_
      refine ev_if_pos (by omega) ?_
      refine ev_bind_now (flag_f _) ?_
      rw [or_flag _ _ (by omega)]
      refine ev_bind_now (varint_Put_N _ (by omega)) ?_
      refine ev_if_pos (by omega) ?_
      refine ev_bind_now (varint_Put_N _ (by omega)) ?_
      refine ev_if_pos (by omega) ?_
      refine ev_if_pos (by omega) ?_
      rw [hone, wrap64_in (by omega) (by omega)]
      exact ih (i + 1) _ (by omega) (by rw [ByteArray.size_append]; omega)
theorem ev_hBytes (l : List Ent) (hl : l.length ≤ 1000000000) : Ev (fun k => hint_Bytes.f k (l.map ES)) (B (bytesE l).1, (bytesE l).2) := by
  unfold hint_Bytes.f
  rw [List.length_map]
  by_cases hn : l.length ≤ 2000
  · refine ev_if_neg (by omega) ?_
    rw [u64_in (by omega) (by omega)]
    refine ev_bind_now (varint_Put_N _ (by omega)) ?_
    have := ev_hbytes l hn l.length 0 (B (putS l.length)) (by omega) (by have := B_putS_le l.length; omega)
    rw [List.drop_zero, bytesE_fin l hn] at this
    exact this
  · refine ev_if_pos (by omega) ?_
    unfold bytesE
    rw [if_neg hn]
    exact Ev.now _
end Go.Proofs.YthndpknocofioaaGreatDoor.Thw
/-! ## Layer 5 (hint): the entries of bytes, as the program reads them. -/
namespace Go.Proofs.YthndpknocofioaaGreatDoor.Thw
open Go Go.RowKit Go.Proofs.YthndpknocofioaaGreatDoor.Print Go.Proofs.YthndpknocofioaaGreatDoorW.PrintWords Go.Proofs.YthndpknocofioaaGreatDoorW.PrintLast Go.Proofs.YthndpknocofioaaGreatDoorW.PrintMore
set_option linter.unusedVariables false
set_option linter.unusedSimpArgs false

def finE (many : Nat) (out : List Ent) (x : Option (List Ent)) : List SE × Int :=
  match x with
  | some l => if (out ++ l).length ≤ 2000 ∧ (out ++ l).length = many then ((out ++ l).map ES, 0) else ([], 2)
  | none => ([], 2)
theorem ev_Take_B (b : Bs) (hb : b.length ≤ 4611686018427387904) : Ev (fun k => varint_Take.f k (B b)) (TK (takeS b)) := by
  have := ev_Take (B b) (by rw [B_size]; exact hb)
  rwa [L_B] at this
theorem takeS_lt (b : Bs) : (takeS b).1 < 18446744073709551616 := by
  rcases takeS_told b with ⟨_, _, h, _⟩ | h | h
  · exact h
  · rw [h]; decide
  · rw [h]; decide
theorem entE_fields (x : Bs × Nat × Nat × Nat) (h1 : x.2.1 < 18446744073709551616) (h2 : x.2.2.1 < 18446744073709551616) :
    hint_entry (B x.1) (x.2.1 : Int) (x.2.2.1 : Int) (x.2.2.2 : Int) = ES (entE x) := by
  obtain ⟨key, a, b, c⟩ := x
  simp only [] at h1 h2 ⊢
  unfold hint_entry ES entE
  simp only []
  have e1 : wrap64 (mn (a : Int) 1048577) = ((min a 1048577 : Nat) : Int) := by
    have : mn (a : Int) 1048577 = ((min a 1048577 : Nat) : Int) := by unfold mn; split <;> omega
    rw [this, wrap64_in (by omega) (by omega)]
  have e2 : wrap64 (mn ((b : Int) / 2) 401) = ((min (b / 2) 401 : Nat) : Int) := by
    have : mn ((b : Int) / 2) 401 = ((min (b / 2) 401 : Nat) : Int) := by unfold mn; split <;> omega
    rw [this, wrap64_in (by omega) (by omega)]
  have e3 : (Go.bits .and .u64 (b : Int) 1 == 1) = decide (b % 2 = 1) := by
    rw [and_one' b h2, Bool.eq_iff_iff, beq_iff_eq, decide_eq_true_eq]
    omega
  rw [e1, e2, e3]
theorem ev_hents (many : Nat) (hm : many < 18446744073709551616) : ∀ (f : Nat) (s : Bs) (out : List Ent), s.length ≤ f → s.length ≤ 1000000000 → out.length ≤ 2000 →
    Ev (fun k => hint_Read.l0 k (many : Int) (B s) (out.map ES)) (finE many out (entsR f s)) := by
  have done : ∀ (s : Bs) (f : Nat) (out : List Ent), s = [] → out.length ≤ 2000 → Ev (fun k => hint_Read.l0 k (many : Int) (B s) (out.map ES)) (finE many out (some [])) := by
    intro s f out hs ho
    subst hs
    refine Ev.step (fun k => by rw [hint_Read.l0]) ?_
    refine ev_if_pos (by rw [toList_L, L_B]) ?_
    unfold finE
    simp only [List.append_nil, List.length_map]
    rw [u64_in (by omega) (by omega)]
    by_cases h : out.length = many
    · refine ev_if_pos (by omega) ?_
      rw [if_pos ⟨ho, h⟩]
      exact Ev.now _
    · refine ev_if_neg (by omega) ?_
      rw [if_neg (fun x => h x.2)]
      exact Ev.now _
  intro f
  induction f with
  | zero =>
    intro s out hs hl ho
    have hz : s = [] := List.length_eq_zero_iff.mp (by omega)
    rw [entsR, if_pos hz]
    exact done s 0 out hz ho
  | succ f ih =>
    intro s out hs hl ho
    rw [entsR]
    by_cases hz : s = []
    · rw [if_pos hz]; exact done s f out hz ho
    rw [if_neg hz]
    refine Ev.step (fun k => by rw [hint_Read.l0]) ?_
    refine ev_if_neg (by rw [toList_L, L_B]; exact hz) ?_
    have l1 := ofTextS_len s
    have l2 := takeS_len (ofTextS s).2.1
    have l3 := takeS_len (takeS (ofTextS s).2.1).2.1
    have l4 := takeS_len (takeS (takeS (ofTextS s).2.1).2.1).2.1
    have g2 := takeS_lt (ofTextS s).2.1
    have g3 := takeS_lt (takeS (ofTextS s).2.1).2.1
    have hraw := rawE_told s
    refine Ev.bind (ev_OfText_B s (by omega)) ?_
    refine Ev.bind (ev_Take_B _ (by omega)) ?_
    refine Ev.bind (ev_Take_B _ (by omega)) ?_
    refine Ev.bind (ev_Take_B _ (by omega)) ?_
    unfold rawE at hraw ⊢
    generalize ofTextS s = T at *
    obtain ⟨key, r1, x1⟩ := T
    simp only [] at l1 l2 l3 l4 g2 g3 hraw ⊢
    generalize takeS r1 = A at *
    obtain ⟨a, r2, x2⟩ := A
    simp only [] at l2 l3 l4 g2 g3 hraw ⊢
    generalize takeS r2 = Bq at *
    obtain ⟨b, r3, x3⟩ := Bq
    simp only [] at l3 l4 g3 hraw ⊢
    generalize takeS r3 = C at *
    obtain ⟨c, r4, x4⟩ := C
    simp only [OT, TK] at l4 hraw ⊢
    have hent := entE_fields (key, a, b, c) g2 g3
    simp only [] at hent
    have hcond : ((x1 == 0 && x2 == 0 && x3 == 0 && x4 == 0) = true) ↔ (x1 = 0 ∧ x2 = 0 ∧ x3 = 0 ∧ x4 = 0) := by
      simp [and_assoc]
    by_cases hc : x1 = 0 ∧ x2 = 0 ∧ x3 = 0 ∧ x4 = 0
    · refine ev_if_pos (hcond.mpr hc) ?_
      have hr := right_E (entE (key, a, b, c))
      have hf : hint_right.f (B key) (wrap64 (mn (a : Int) 1048577)) (wrap64 (mn ((b : Int) / 2) 401)) (c : Int) (Go.bits .and .u64 (b : Int) 1 == 1) = some (rightE (entE (key, a, b, c))) := by
        rw [← hr]
        have h1 := congrArg (fun x : SE => x.f1) hent
        have h2 := congrArg (fun x : SE => x.f2) hent
        have h4 := congrArg (fun x : SE => x.f4) hent
        simp only [hint_entry, ES] at h1 h2 h4
        rw [h1, h2, h4]
        rfl
      refine ev_bind_now hf ?_
      cases hre : rightE (entE (key, a, b, c)) with
      | false =>
        rw [if_neg (fun x => by have := x.2; cases this)]
        exact ev_bf (Ev.now _)
      | true =>
        rw [if_pos ⟨decide_eq_true hc, rfl⟩]
        refine ev_bt ?_
        have hlt := (hraw (decide_eq_true hc) hre).2
        by_cases h2 : out.length = 2000
        · refine ev_if_pos (by rw [List.length_map]; omega) ?_
          have : finE many out ((entsR f r4).bind fun l => some (entE (key, a, b, c) :: l)) = ([], 2) := by
            cases entsR f r4 with
            | none => rfl
            | some l =>
              unfold finE
              simp only [Option.bind_some]
              rw [if_neg (fun x => by have := x.1; rw [List.length_append, List.length_cons] at this; omega)]
          rw [this]
          exact Ev.now _
        · refine ev_if_neg (by rw [List.length_map]; omega) ?_
          refine ev_if_pos (by rw [List.length_map]; omega) ?_
          have := ih r4 (out ++ [entE (key, a, b, c)]) (by omega) (by omega) (by rw [List.length_append]; simp; omega)
          rw [List.map_append, List.map_cons, List.map_nil, ← hent] at this
          refine cast (congrArg (Ev _) ?_) this
          cases entsR f r4 with
          | none => rfl
          | some l =>
            unfold finE
            simp only [Option.bind_some, List.append_assoc, List.singleton_append]
    · refine ev_if_neg (fun x => hc (hcond.mp x)) ?_
      rw [if_neg (fun x => hc (of_decide_eq_true x.1))]
      exact Ev.now _
def HR (x : List Ent × Int) : List SE × Int := (x.1.map ES, x.2)
theorem ev_hRead (b : ByteArray) (hb : b.size ≤ 1000000000) : Ev (fun k => hint_Read.f k b) (HR (readE (L b))) := by
  have hl := L_length b
  unfold hint_Read.f
  refine ev_bind_now (crc_Open_S b (by omega)) ?_
  unfold readE
  have z := openS_len' (L b)
  generalize openS (L b) = P at *
  obtain ⟨s, ok⟩ := P
  simp only [] at z ⊢
  cases ok with
  | false => exact ev_bf (Ev.now _)
  | true =>
    refine ev_bt ?_
    refine Ev.bind (ev_Take_B s (by omega)) ?_
    have z2 := takeS_len s
    have z3 := takeS_lt s
    generalize takeS s = T at *
    obtain ⟨n, r, e⟩ := T
    simp only [TK] at z2 z3 ⊢
    rw [if_pos trivial]
    by_cases he : e = 0
    · rw [if_pos he]
      refine ev_if_pos he ?_
      have := ev_hents n z3 r.length r [] (Nat.le_refl _) (by omega) (by simp)
      refine cast (congrArg (Ev _) ?_) this
      unfold finE HR
      cases entsR r.length r with
      | none => rfl
      | some l =>
        simp only [List.nil_append]
        split <;> rfl
    · rw [if_neg he]
      exact ev_if_neg he (Ev.now _)
end Go.Proofs.YthndpknocofioaaGreatDoor.Thw
/-! ## Layer 5, the references: entries' bytes, the entries of bytes, Same, and the law's own to and light. -/
namespace Go.Proofs.YthndpknocofioaaGreatDoor.Thw
open Go Go.RowKit Go.Proofs.YthndpknocofioaaGreatDoor.Print Go.Proofs.YthndpknocofioaaGreatDoorW.PrintWords Go.Proofs.YthndpknocofioaaGreatDoorW.PrintLast Go.Proofs.YthndpknocofioaaGreatDoorW.PrintMore
set_option linter.unusedVariables false
set_option linter.unusedSimpArgs false

def HD (x : List Ent × Int) : List SF × Int := (x.1.map EF, x.2)
end Go.Proofs.YthndpknocofioaaGreatDoor.Thw
/-! ## Layer 5 for the segments: 'to' and 'same'. -/
namespace Go.Proofs.YthndpknocofioaaGreatDoor.Thw
open Go Go.RowKit Go.Proofs.YthndpknocofioaaGreatDoor.Print Go.Proofs.YthndpknocofioaaGreatDoorW.PrintWords Go.Proofs.YthndpknocofioaaGreatDoorW.PrintLast Go.Proofs.YthndpknocofioaaGreatDoorW.PrintMore
set_option linter.unusedVariables false
set_option linter.unusedSimpArgs false
theorem ev_to_l (l : List Ent) (hn : l.length ≤ 1000000000000) : ∀ (d i : Nat), i + d = l.length →
    Ev (fun k => thwartlaw08_to.l0 k (l.map ES) ((l.take i).map EF) (i : Int)) (l.map EF) := by
  intro d
  induction d with
  | zero =>
    intro i hi
    refine Ev.step (fun k => by rw [thwartlaw08_to.l0]) ?_
    refine ev_if_neg (by rw [List.length_map]; omega) ?_
    rw [List.take_of_length_le (by omega)]
    exact Ev.now _
  | succ d ih =>
    intro i hi
    have hlt : i < l.length := by omega
    refine Ev.step (fun k => by rw [thwartlaw08_to.l0]) ?_
    refine ev_if_pos (by rw [List.length_map]; omega) ?_
    refine ev_if_pos (by omega) ?_
    refine ev_if_pos (by simp; omega) ?_
    simp only [rd_ES l i hlt]
    rw [wrap64_in (by omega) (by omega)]
    have := ih (i + 1) (by omega)
    rw [List.take_succ_eq_append_getElem hlt, List.map_append] at this
    exact this
theorem ev_to (l : List Ent) (hn : l.length ≤ 1000000000000) : Ev (fun k => thwartlaw08_to.f k (l.map ES)) (l.map EF) := by
  unfold thwartlaw08_to.f
  exact ev_to_l l hn l.length 0 (by omega)
theorem same_ent (a b : Ent) : (!((((EF a).f0).toList) == (((EF b).f0).toList)) || (!(((EF a).f1) == ((EF b).f1)) || (!(((EF a).f2) == ((EF b).f2)) || (!(((EF a).f3) == ((EF b).f3)) || (!(((EF a).f4) == ((EF b).f4))))))) = !decide (a = b) := by
  obtain ⟨a1, a2, a3, a4, a5⟩ := a
  obtain ⟨b1, b2, b3, b4, b5⟩ := b
  simp only [EF, toList_L, L_B]
  rw [Bool.eq_iff_iff]
  simp only [Ent.mk.injEq, Bool.or_eq_true, Bool.not_eq_true', beq_eq_false_iff_ne, decide_eq_false_iff_not, ne_eq, Int.natCast_inj]
  constructor
  · rintro (h | h | h | h | h) ⟨e1, e2, e3, e4, e5⟩
    · exact h e1
    · exact h e2
    · exact h e3
    · exact h e4
    · exact h e5
  · intro h
    by_cases h1 : a1 = b1
    · by_cases h2 : a2 = b2
      · by_cases h3 : a3 = b3
        · by_cases h4 : a4 = b4
          · exact .inr (.inr (.inr (.inr fun h5 => h ⟨h1, h2, h3, h4, h5⟩)))
          · exact .inr (.inr (.inr (.inl h4)))
        · exact .inr (.inr (.inl h3))
      · exact .inr (.inl h2)
    · exact .inl h1
theorem ev_same5 (us vs : List Ent) (hl : us.length = vs.length) (hn : us.length ≤ 1000000000) : ∀ d i : Nat, i + d = us.length →
    Ev (fun k => thwartref05_Same.l0 k (us.map EF) (vs.map EF) (i : Int)) (decide (us.drop i = vs.drop i)) := by
  intro d
  induction d with
  | zero =>
    intro i hi
    refine Ev.step (fun k => by rw [thwartref05_Same.l0]) ?_
    refine ev_if_neg (by simp; omega) ?_
    rw [List.drop_eq_nil_of_le (by omega), List.drop_eq_nil_of_le (by omega)]
    exact ev_some fun k => by simp
  | succ d ih =>
    intro i hi
    have h1 : i < us.length := by omega
    have h2 : i < vs.length := by omega
    refine Ev.step (fun k => by rw [thwartref05_Same.l0]) ?_
    refine ev_if_pos (by simp; omega) ?_
    refine ev_if_pos (by omega) ?_
    refine ev_if_pos (by simp; omega) ?_
    simp only [rd_EF us i h1, rd_EF vs i h2, same_ent]
    rw [drop_at us i h1, drop_at vs i h2]
    by_cases he : us[i] = vs[i]
    · refine ev_if_neg (by simp [he]) ?_
      rw [wrap64_in (by omega) (by omega), he]
      have := ih (i + 1) (by omega)
      simp only [List.cons.injEq, true_and]
      exact this
    · refine ev_if_pos (by simp [he]) ?_
      exact ev_some fun k => by rw [decide_eq_false (fun h => he (List.cons.inj h).1)]
theorem ev_Same5 (us vs : List Ent) (hn : us.length ≤ 1000000000) : Ev (fun k => thwartref05_Same.f k (us.map EF) (vs.map EF)) (decide (us = vs)) := by
  unfold thwartref05_Same.f
  by_cases hl : us.length = vs.length
  · refine ev_if_pos (by simp [hl]) ?_
    have := ev_same5 us vs hl hn us.length 0 (by omega)
    simpa using this
  · refine ev_if_neg (by simp; omega) ?_
    refine ev_some fun k => ?_
    rw [decide_eq_false (fun h => hl (by rw [h]))]
end Go.Proofs.YthndpknocofioaaGreatDoor.Thw
/-! ## Layer 5 (hint): Of and At, the code's and the document's, in the plain words of Plain05O. -/
namespace Go.Proofs.YthndpknocofioaaGreatDoor.Thw
open Go Go.RowKit Go.Proofs.YthndpknocofioaaGreatDoor.Print Go.Proofs.YthndpknocofioaaGreatDoorW.PrintWords Go.Proofs.YthndpknocofioaaGreatDoorW.PrintLast Go.Proofs.YthndpknocofioaaGreatDoorW.PrintMore
set_option linter.unusedVariables false
set_option linter.unusedSimpArgs false
def finO (acc : List Ent) (at_ : Nat) (x : List (List Rec) × Nat) : List SE × Int := ((acc ++ ofL at_ x.1).map ES, ((at_ + x.2 : Nat) : Int))
theorem ev_hOf_in (b : ByteArray) (acc : List Ent) (l : List Rec) (at_ n : Nat) (hl : (allS l).2 = 0) (hn : (allS l).1.length ≤ n) (h16 : l.length ≤ 16) (hat : at_ + n ≤ 1000000) (ha : acc.length ≤ 16000000) (r : List SE × Int)
    (hnext : Ev (fun k => hint_Of.l0 k b ((acc ++ batchE (at_ + n - (allS l).1.length) l).map ES) ((at_ + n : Nat) : Int)) r) :
    ∀ j, j ≤ l.length → Ev (fun k => hint_Of.l1 k b (acc.map ES) (at_ : Int) (l.map RS) (n : Int) ((at_ + n - (allS (l.drop j)).1.length : Nat) : Int) (List.replicate j z52 ++ (batchE (at_ + n - (allS (l.drop j)).1.length) (l.drop j)).map ES) ((j : Int) - 1)) r := by
  intro j
  induction j with
  | zero =>
    intro hj
    refine Ev.step (fun k => by rw [hint_Of.l1]) ?_
    refine ev_if_neg (by omega) ?_
    refine ev_if_pos (by rw [List.drop_zero]; simp only [List.length_append, List.length_map, List.length_replicate, batchE_length]; omega) ?_
    have e : acc.map ES ++ (List.replicate 0 z52 ++ (batchE (at_ + n - (allS (l.drop 0)).1.length) (l.drop 0)).map ES) = (acc ++ batchE (at_ + n - (allS l).1.length) l).map ES := by
      rw [List.drop_zero, List.map_append]; rfl
    rw [e, wrap64_in (by omega) (by omega), show (at_ : Int) + (n : Int) = ((at_ + n : Nat) : Int) by omega]
    exact hnext
  | succ j ih =>
    intro hj
    have hlt : j < l.length := by omega
    refine Ev.step (fun k => by rw [hint_Of.l1]) ?_
    rw [show (((j + 1 : Nat) : Int) - 1) = (j : Int) by omega]
    refine ev_if_pos (by omega) ?_
    refine ev_if_pos (by omega) ?_
    refine ev_if_pos (by rw [List.length_map]; omega) ?_
    rw [rd_RS l j hlt]
    refine Ev.bind (ev_Bytes l[j]) ?_
    obtain ⟨k1, k2⟩ := allS_step l j hlt hl
    have k3 := (allS_drop l j hl).2
    have hb : bytesS l[j] = (recS l[j], 0) := by unfold bytesS; rw [if_pos k1]
    rw [hb]
    refine ev_if_pos (by simp only [List.length_append, List.length_map, List.length_replicate, batchE_length]; omega) ?_
    have hrl := recS_length k1
    rw [k2, List.length_append] at k3
    have hw : wrap64 (((at_ + n - (allS (l.drop (j + 1))).1.length : Nat) : Int) - ((B (recS l[j])).size : Int)) = ((at_ + n - (allS (l.drop j)).1.length : Nat) : Int) := by
      rw [B_size, k2, List.length_append, wrap64_in (by omega) (by omega)]; omega
    simp only [hw]
    have hs : (List.replicate (j + 1) z52 ++ (batchE (at_ + n - (allS (l.drop (j + 1))).1.length) (l.drop (j + 1))).map ES).set ((j : Int)).toNat (⟨(RS l[j]).f1, ((at_ + n - (allS (l.drop j)).1.length : Nat) : Int), ((B (recS l[j])).size : Int), (RS l[j]).f0, (RS l[j]).f3⟩ : SE)
        = List.replicate j z52 ++ (batchE (at_ + n - (allS (l.drop j)).1.length) (l.drop j)).map ES := by
      rw [batchE_step l j _ hlt, List.map_cons, Int.toNat_natCast, List.replicate_succ', List.append_assoc, List.set_append, List.length_replicate, if_neg (by omega), Nat.sub_self, B_size]
      have e2 : at_ + n - (allS (l.drop j)).1.length + (recS l[j]).length = at_ + n - (allS (l.drop (j + 1))).1.length := by rw [k2, List.length_append]; omega
      rw [e2]
      rfl
    rw [hs, wrap64_in (by omega) (by omega)]
    exact ih (by omega)
theorem ev_hOf_l (b : ByteArray) (hb : b.size ≤ 1000000) : ∀ (f at_ : Nat) (acc : List Ent), (L b).length ≤ at_ + f → at_ ≤ (L b).length → acc.length ≤ 16 * at_ →
    Ev (fun k => hint_Of.l0 k b (acc.map ES) (at_ : Int)) (finO acc at_ (scanR f ((L b).drop at_))) := by
  have hl := L_length b
  intro f
  induction f with
  | zero =>
    intro at_ acc h1 h2 h3
    refine Ev.step (fun k => by rw [hint_Of.l0]) ?_
    refine ev_if_pos (by omega) ?_
    refine ev_if_pos (by omega) ?_
    simp only [Int.toNat_natCast, extract_end]
    rw [List.drop_eq_nil_of_le (by omega)]
    refine Ev.bind (ev_frameTake _ (by decide)) ?_
    rw [L_B]
    refine ev_if_neg (by decide +kernel) ?_
    exact ev_some fun k => by simp [finO, scanR, ofL]
  | succ f ih =>
    intro at_ acc h1 h2 h3
    refine Ev.step (fun k => by rw [hint_Of.l0]) ?_
    refine ev_if_pos (by omega) ?_
    refine ev_if_pos (by omega) ?_
    simp only [Int.toNat_natCast, extract_end]
    refine Ev.bind (ev_frameTake _ (by rw [B_size]; simp; omega)) ?_
    rw [L_B, scanR]
    obtain ⟨t1, t2, t3, t4⟩ := takeF_range ((L b).drop at_)
    rw [List.length_drop] at t2
    by_cases h : (takeF ((L b).drop at_)).2.2 = 0
    · rw [if_pos h]
      refine ev_if_pos h ?_
      have t3 := t3 h
      obtain ⟨q1, q2⟩ := takeF_len h
      obtain ⟨f1, f2, f3⟩ := frameS_ok q2
      have q3 := frameS_all_le q2
      generalize hT : takeF ((L b).drop at_) = T at *
      obtain ⟨l, n, e⟩ := T
      simp only [] at t1 t2 t3 t4 h q1 q2 q3 f2 f3
      obtain ⟨m, rfl⟩ : ∃ m : Nat, n = (m : Int) := ⟨n.toNat, by omega⟩
      refine ev_if_pos (by show (0 : Int) ≤ ((l.map RS).length : Int); omega) ?_
      refine ev_if_pos (by show (((l.map RS).length : Int)).toNat ≤ 5864062014805; rw [List.length_map]; omega) ?_
      show Ev (fun k => hint_Of.l1 k b (acc.map ES) (at_ : Int) (l.map RS) (m : Int) (wrap64 ((at_ : Int) + (m : Int))) (List.replicate (((l.map RS).length : Int)).toNat z52) (wrap64 (((l.map RS).length : Int) - 1))) _
      rw [List.length_map]
      have hnext := ih (at_ + m) (acc ++ batchE (at_ + m - (allS l).1.length) l) (by omega) (by omega) (by rw [List.length_append, batchE_length]; omega)
      have hin := ev_hOf_in b acc l at_ m f2 (by omega) t4 (by omega) (by omega) _ hnext l.length (Nat.le_refl _)
      rw [List.drop_length] at hin
      have e0 : at_ + m - (allS ([] : List Rec)).1.length = at_ + m := rfl
      rw [e0] at hin
      rw [wrap64_in (by omega) (by omega), wrap64_in (by omega) (by omega), show (at_ : Int) + (m : Int) = ((at_ + m : Nat) : Int) by omega, Int.toNat_natCast]
      have e1 : List.replicate l.length z52 ++ (batchE (at_ + m) []).map ES = List.replicate l.length z52 := by simp [batchE]
      rw [e1] at hin
      refine cast (congrArg (Ev _) ?_) hin
      rw [← List.drop_drop]
      unfold finO
      simp only [Int.toNat_natCast, ofL, List.append_assoc, Nat.add_assoc]
      have e2 : (frameS l).1.length = m := by omega
      rw [e2]
    · rw [if_neg h]
      refine ev_if_neg h ?_
      exact ev_some fun k => by simp [finO, ofL]
def ofS (b : Bs) : List Ent × Nat := (ofL 0 (scanS b).1, (scanS b).2)
theorem ev_hOf (b : ByteArray) (hb : b.size ≤ 1000000) : Ev (fun k => hint_Of.f k b) ((ofS (L b)).1.map ES, ((ofS (L b)).2 : Int)) := by
  unfold hint_Of.f
  have := ev_hOf_l b hb (L b).length 0 [] (by omega) (by omega) (by simp)
  refine cast (congrArg (Ev _) ?_) this
  simp [finO, ofS, scanS]
/-! ### the document's Of -/
def AT (x : Rec × Int) : Int × ByteArray × ByteArray × Bool × Int := ((x.1.seq : Int), B x.1.key, B x.1.val, x.1.gone, x.2)
theorem extract_cut (b : ByteArray) (o n : Nat) : b.extract o (o + n) = B (((L b).drop o).take n) := L_inj (by rw [L_extract, L_B]; congr 1; omega)
theorem ev_hAt (b : ByteArray) (e : Ent) (hb : b.size ≤ 1000000) : Ev (fun k => hint_At.f k b (B e.key) e.off e.len (e.seq : Int) e.gone) (AT (atE (L b) e)) := by
  have hl := L_length b
  unfold hint_At.f
  refine ev_bind_now (right_E e) ?_
  have no : ∀ x, AT x = (0, ⟨#[]⟩, ⟨#[]⟩, false, 1) → Ev (fun k => hint_At.j0 k b true (B e.key) e.off e.len (e.seq : Int) e.gone) (AT x) := by
    intro x hx
    rw [hx]
    exact Ev.step (fun k => by rw [hint_At.j0]) (ev_bt (Ev.now _))
  cases hr : rightE e with
  | false =>
    refine ev_bf (no _ ?_)
    unfold atE
    rw [if_neg (by rw [hr]; simp)]
    rfl
  | true =>
    refine ev_bt ?_
    obtain ⟨h1, h2, h3, h4, h5, h6, h7, h8⟩ := rightE_facts hr
    obtain ⟨o, ho⟩ : ∃ o : Nat, e.off = (o : Int) := ⟨e.off.toNat, by omega⟩
    obtain ⟨n, hn⟩ : ∃ n : Nat, e.len = (n : Int) := ⟨e.len.toNat, by omega⟩
    rw [ho, hn, wrap64_in (by omega) (by omega)]
    unfold atE
    rw [ho, hn]
    by_cases h : (o : Int) + (n : Int) ≤ ((L b).length : Int)
    case neg =>
      rw [if_neg (fun hh => h hh.2), decide_eq_true (by omega)]
      have := no (rec0, 1) rfl
      rw [ho, hn] at this
      exact this
    rw [if_pos ⟨hr, h⟩, decide_eq_false (by omega)]
    refine Ev.step (fun k => by rw [hint_At.j0]) ?_
    refine ev_bf ?_
    refine ev_if_pos (by omega) ?_
    rw [wrap64_in (by omega) (by omega)]
    refine ev_if_pos (by omega) ?_
    refine ev_if_pos (by omega) ?_
    rw [show ((o : Int) + (n : Int)).toNat = o + n by omega, Int.toNat_natCast, Int.toNat_natCast, extract_cut]
    refine Ev.bind (ev_Read _ (by rw [B_size, List.length_take, List.length_drop]; omega)) ?_
    rw [L_B]
    generalize readS (((L b).drop o).take n) = x
    obtain ⟨r, rest, er⟩ := x
    simp only [RD]
    unfold atX
    simp only []
    by_cases c1 : er = 0
    case neg =>
      refine ev_if_neg c1 ?_
      rw [if_neg (fun hh => c1 hh.1)]
      exact Ev.now _
    refine ev_if_pos c1 ?_
    have hiso : ((B rest).toList = ([] : List UInt8)) ↔ rest = [] := by rw [toList_L, L_B]
    by_cases c2 : rest = []
    case neg =>
      refine ev_if_neg (fun hh => c2 (hiso.1 hh)) ?_
      rw [if_neg (fun hh => c2 hh.2.1)]
      exact Ev.now _
    refine ev_if_pos (hiso.2 c2) ?_
    have hk : ((B e.key).toList == (B r.key).toList) = decide (e.key = r.key) := by rw [toList_L, L_B, toList_L, L_B, Bool.eq_iff_iff]; simp
    have hq : (((e.seq : Int)) == ((r.seq : Int))) = decide (e.seq = r.seq) := by rw [Bool.eq_iff_iff]; simp; omega
    have hg : (e.gone == r.gone) = decide (e.gone = r.gone) := by rw [Bool.eq_iff_iff]; simp
    have hall : (!((B e.key).toList == (B r.key).toList) || (!((e.seq : Int) == (r.seq : Int)) || (!(e.gone == r.gone)))) = (!decide (e.key = r.key) || (!decide (e.seq = r.seq) || !decide (e.gone = r.gone))) := by rw [hk, hq, hg]
    by_cases c3 : e.key = r.key ∧ e.seq = r.seq ∧ e.gone = r.gone
    · rw [if_pos ⟨c1, c2, c3⟩]
      refine ev_if_neg (fun hh => by have hh := hall.symm.trans hh; simp [c3.1, c3.2.1, c3.2.2] at hh) ?_
      exact Ev.now _
    · rw [if_neg (fun hh => c3 hh.2.2)]
      refine ev_if_pos (hall.trans ?_) (Ev.now _)
      by_cases d1 : e.key = r.key
      · by_cases d2 : e.seq = r.seq
        · have d3 : ¬ e.gone = r.gone := fun d3 => c3 ⟨d1, d2, d3⟩
          simp [d3]
        · simp [d2]
      · simp [d1]
end Go.Proofs.YthndpknocofioaaGreatDoor.Thw
