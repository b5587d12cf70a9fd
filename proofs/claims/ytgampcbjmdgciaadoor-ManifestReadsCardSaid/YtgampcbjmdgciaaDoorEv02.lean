/- Layer 2 (crc): what the printed functions come to, in the plain words of Plain02. -/
import Derived.Test.YtgampcbjmdgciaaDoorPrint2
import Derived.Test.YtgampcbjmdgciaaDoorPrint3
import Derived.Test.YtgampcbjmdgciaaDoorEvA
import Derived.Test.YtgampcbjmdgciaaDoorPlain02
namespace Go.Proofs.YtgampcbjmdgciaaDoor.Thw
open Go Go.RowKit Go.Proofs.YtgampcbjmdgciaaDoor.Print Go.Proofs.YtgampcbjmdgciaaDoorW.PrintWords Go.Proofs.YtgampcbjmdgciaaDoorW.PrintLast Go.Proofs.YtgampcbjmdgciaaDoorW.PrintMore
set_option linter.unusedVariables false
set_option linter.unusedSimpArgs false

theorem xor_u32 (a b : Nat) (ha : a < 4294967296) (hb : b < 4294967296) : Go.bits .xor .u32 (a : Int) (b : Int) = ((a ^^^ b : Nat) : Int) := u32_xor_nat a b ha hb
theorem crcStep_N (c : Nat) (h : c < 4294967296) : crcStep (c : Int) = ((stepN c : Nat) : Int) := by
  have h1 : Go.bits .and .u32 (c : Int) 1 = ((c % 2 : Nat) : Int) := by
    rw [show (1 : Int) = ((1 : Nat) : Int) from rfl, u32_and_nat c 1 h (by omega), Nat.and_one_is_mod]
  have h2 : ((c : Int) / 2) = ((c / 2 : Nat) : Int) := by omega
  unfold crcStep stepN
  rw [h1, h2]
  rcases Nat.mod_two_eq_zero_or_one c with h3 | h3
  · rw [h3, if_neg (by omega), show ((-(((0 : Nat)) : Int)) % 4294967296) = ((0 : Nat) : Int) from rfl, show (2197175160 : Int) = ((2197175160 : Nat) : Int) from rfl, u32_and_nat _ 0 (by omega) (by omega), Nat.and_zero, xor_u32 _ _ (by omega) (by omega)]
  · rw [h3, if_pos rfl, show ((-(((1 : Nat)) : Int)) % 4294967296) = ((4294967295 : Nat) : Int) from by decide, show (2197175160 : Int) = ((2197175160 : Nat) : Int) from rfl, u32_and_nat _ _ (by omega) (by omega), show (2197175160 &&& 4294967295 : Nat) = 2197175160 from by decide +kernel, xor_u32 _ _ (by omega) (by omega)]
    unfold polyN
    exact Eq.refl _
theorem iter_N (c : Nat) (h : c < 4294967296) : ∀ n, iterI crcStep n (c : Int) = ((stepsN n c : Nat) : Int)
  | 0 => rfl
  | n + 1 => by rw [iterI, iter_N c h n, crcStep_N _ (stepsN_lt c h n), stepsN]
theorem crcOf_N (i : Nat) (h : i < 256) : crcOf i = ((stepsN 8 i : Nat) : Int) := by unfold crcOf; exact iter_N i (by omega) 8
theorem crcNext_N (c x : Nat) (hc : c < 4294967296) (hx : x < 256) : crcNext (c : Int) (x : Int) = ((byteN c x : Nat) : Int) := by
  have h1 : ((c : Int) % 256) = ((c % 256 : Nat) : Int) := by omega
  have h2 : ((c : Int) / 256) = ((c / 256 : Nat) : Int) := by omega
  have h3 : (c % 256) ^^^ x < 256 := Nat.xor_lt_two_pow (n := 8) (by omega) (by omega)
  unfold crcNext
  rw [h1, h2, u8_xor_nat _ _ (by omega) hx, Int.toNat_natCast, crcOf_N _ h3, xor_u32 _ _ (stepsN_lt _ (by omega) 8) (by omega), byteN_table c x hx]
theorem moreL_N : ∀ (l : Bs) (c : Nat), c < 4294967296 → moreL l (c : Int) = ((moreN l c : Nat) : Int)
  | [], c, _ => rfl
  | b :: l, c, h => by
    have hb := b.toNat_lt
    rw [moreN_cons, ← moreL_N l _ (byteN_lt c _ h hb), ← crcNext_N c _ h hb]
    exact List.foldl_cons ..
theorem u32_max : IntKind.u32.max = ((ones : Nat) : Int) := by decide
theorem crc_More_S (s : Nat) (b : ByteArray) (hs : s < 4294967296) (hb : b.size ≤ 4611686018427387904) : crc_More.f (s : Int) b = some ((moreS s (L b) : Nat) : Int) := by
  have h1 : ones ^^^ s < 4294967296 := Nat.xor_lt_two_pow (n := 32) ones_lt (by simpa using hs)
  unfold crc_More.f
  rw [if_pos hb, u32_max, xor_u32 _ _ ones_lt hs, moreL_N _ _ h1, xor_u32 _ _ ones_lt (moreN_lt _ _ h1)]
  unfold moreS L
  exact Eq.refl _
theorem crc_Sum_S (b : ByteArray) (hb : b.size ≤ 4611686018427387904) : crc_Sum.f b = some ((sumS2 (L b) : Nat) : Int) := by
  have := crc_More_S 0 b (by omega) hb
  unfold crc_Sum.f
  rw [show (0 : Int) = ((0 : Nat) : Int) from rfl, this]
  exact Eq.refl _
theorem L_seal4 (n : Nat) : L (strOfNums (seal4 (n : Int))) = le4 n := by
  rw [L_strOfNums]
  unfold seal4 le4
  simp only [List.map_cons, List.map_nil]
  congr 2
theorem crc_Seal_S (b : ByteArray) (hb : b.size ≤ 4611686018427387904) : crc_Seal.f b = some (B (sealS (L b))) := by
  unfold crc_Seal.f
  rw [crc_Sum_S b hb, Option.bind_some, if_pos hb]
  exact congrArg some (L_inj (by rw [L_append, L_B, L_seal4]; rfl))
theorem crc_Open_S (b : ByteArray) (hb : b.size ≤ 4611686018427387904) : crc_Open.f b = some (B (openS (L b)).1, (openS (L b)).2) := by
  have hl := L_length b
  unfold crc_Open.f openS
  by_cases h : (L b).length < 4
  · rw [if_pos (by omega), if_pos h]; rfl
  rw [if_neg (by omega), if_neg h, if_pos (by omega), crc_Seal_S _ (by rw [extract_end, B_size, List.length_drop]; omega), Option.bind_some, if_pos (by omega), L_extract_end, if_pos (by rw [B_size, sealS_length]; omega)]
  simp only [toList_L, L_extract_front, L_B, extract_end]
  by_cases h2 : (sealS ((L b).drop 4)).take 4 = (L b).take 4
  · rw [if_pos h2, if_pos h2]
  · rw [if_neg h2, if_neg h2]; rfl
end Go.Proofs.YtgampcbjmdgciaaDoor.Thw
