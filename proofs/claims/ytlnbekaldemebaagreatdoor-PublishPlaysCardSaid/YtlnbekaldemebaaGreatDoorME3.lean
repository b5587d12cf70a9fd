/- Several texts of mine in one (EvA, Ev01I, Ev02, Ev12a, Ev12b, Ev12c, Ev12d, Ev12e). -/
import Derived.Test.YtlnbekaldemebaaGreatDoorWWords
import Derived.Test.YtlnbekaldemebaaGreatDoorWMore
import Derived.Test.YtlnbekaldemebaaGreatDoorWNEv
import Derived.Test.YtlnbekaldemebaaGreatDoorMP3
import Derived.Test.YtlnbekaldemebaaGreatDoorPrint10
import Derived.Test.YtlnbekaldemebaaGreatDoorPrint8
import Derived.Test.YtlnbekaldemebaaGreatDoorHead
import Derived.Test.YtlnbekaldemebaaGreatDoorShelf
import Derived.Shelf.Strconv.Itoa3
import Derived.Shelf.Strconv.AtoiAll
import Derived.Shelf.Strconv.ErrVarAll
import Derived.Shelf.Strings.Repeat
import Derived.Lib.AppendIntMem
import Derived.Test.YtlnbekaldemebaaGreatDoorRows
import Derived.Test.YtlnbekaldemebaaGreatDoorPrint9
import Derived.Recover
import Derived.BigQuiet
/-! ## What the printed words come to in plain words: bytes of a string, rounds. -/
namespace Go.Proofs.YtlnbekaldemebaaGreatDoor.Thw
open Go Go.RowKit Go.Proofs.YtlnbekaldemebaaGreatDoorW.PrintWords Go.Proofs.YtlnbekaldemebaaGreatDoorW.PrintMore
set_option linter.unusedVariables false
set_option linter.unusedSimpArgs false

theorem bt_L (s : ByteArray) (i : Nat) (h : i < (L s).length) : bt s (i : Int) = (((L s)[i]).toNat : Int) := by
 have h' : i < s.size := by rw [← L_length]; exact h
 unfold bt
 simp only [Int.toNat_natCast]
 rw [dif_pos h']
 simp only [L, Array.getElem_toList]
 rfl
theorem drop_at {α : Type} (l : List α) (i : Nat) (h : i < l.length) : l.drop i = l[i] :: l.drop (i + 1) := List.drop_eq_getElem_cons h
theorem wrap64_in {n : Int} (h0 : -9223372036854775808 ≤ n) (h1 : n ≤ 9223372036854775807) : wrap64 n = n := by unfold wrap64; omega
theorem u64_in {n : Int} (h0 : 0 ≤ n) (h1 : n < 18446744073709551616) : IntKind.u64.wrap n = n := by rw [IntKind.wrap_u64]; omega
theorem L_strOfNums (l : List Int) : L (strOfNums l) = l.map fun n => UInt8.ofNat n.toNat := by simp [L, strOfNums]
theorem wf_i64 {n : Int} (h : (Lit.int .i64 n).wf = true) : -9223372036854775808 ≤ n ∧ n ≤ 9223372036854775807 := by
 simp [Lit.wf, IntKind.min, IntKind.max, IntKind.bits, IntKind.signed] at h
 omega
theorem mul_u64 (a b : Nat) : IntKind.u64.wrap ((a : Int) * (b : Int)) = ((a * b % 18446744073709551616 : Nat) : Int) := by rw [IntKind.wrap_u64]; omega
theorem ev_if_pos {α : Type} {c : Prop} [Decidable c] {g f : Nat → Option α} {r : α} (hc : c) (h : Ev g r) : Ev (fun k => if c then g k else f k) r := Ev.congr (fun k => if_pos hc) h
theorem ev_if_neg {α : Type} {c : Prop} [Decidable c] {g f : Nat → Option α} {r : α} (hc : ¬ c) (h : Ev f r) : Ev (fun k => if c then g k else f k) r := Ev.congr (fun k => if_neg hc) h
theorem ev_yes {α : Type} {c : Prop} [Decidable c] {g f : Nat → Option α} {r : α} (h : Ev g r) (hc : c := by first | exact True.intro | with_reducible rfl | exact Eq.refl _ | simp) : Ev (fun k => if c then g k else f k) r := ev_if_pos hc h
theorem ev_some {α : Type} {g : Nat → Option α} {r : α} (h : ∀ k, g k = some r) : Ev g r := ⟨0, fun k _ => h k⟩
theorem ev_bind_now {α β : Type} {g : Option α} {f : Nat → α → Option β} {a : α} {r : β} (h : g = some a) (k : Ev (fun n => f n a) r) : Ev (fun n => g.bind (f n)) r := Ev.congr (fun n => by rw [h]; rfl) k
end Go.Proofs.YtlnbekaldemebaaGreatDoor.Thw
/-! ## Layer 1 (varint): what the printed functions come to, in the plain words of Plain01. -/
namespace Go.Proofs.YtlnbekaldemebaaGreatDoor.Thw
open Go Go.RowKit Go.Proofs.YtlnbekaldemebaaGreatDoor.Print Go.Proofs.YtlnbekaldemebaaGreatDoorW.PrintWords Go.Proofs.YtlnbekaldemebaaGreatDoorW.PrintLast Go.Proofs.YtlnbekaldemebaaGreatDoorW.PrintMore
set_option linter.unusedVariables false
set_option linter.unusedSimpArgs false

theorem L_putF : ∀ (k n : Nat), L (strOfNums (putF k (n : Int))) = putB k n
 | 0, n => by rw [putF, putB, L_strOfNums]; simp
 | k + 1, n => by
  have e : ((n : Int) / 128) = ((n / 128 : Nat) : Int) := by omega
  rw [putF, putB]
  by_cases h : n < 128
  ·rw [if_pos (by omega), if_pos h, L_strOfNums]; simp
  ·rw [if_neg (by omega), if_neg h, L_strOfNums, List.map_cons, ← L_strOfNums, e, L_putF k (n / 128)]
   congr 2
theorem strOf_putF (n : Nat) : strOfNums (putF 9 (n : Int)) = B (putS n) := L_inj (by rw [L_putF, L_B]; rfl)
theorem varint_Put_N (n : Nat) (h : n < 18446744073709551616) : varint_Put.f (n : Int) = some (B (putS n)) := by
 unfold varint_Put.f
 rw [if_pos (by omega), strOf_putF]
theorem add_lt_mod (X acc : Nat) (h : X % 18446744073709551616 + acc < 18446744073709551616) : X % 18446744073709551616 + acc = (acc + X) % 18446744073709551616 := by omega
/-- One more byte, gathered. -/
theorem gather (acc i c : Nat) (hi : i ≤ 9) (ha : acc < 128 ^ i) (hc : c < 256) :
  Go.bits .or .u64 (acc : Int) (shl .u64 (IntKind.u64.wrap (Go.bits .andNot .u8 (c : Int) 128)) (wrap64 (7 * (i : Int)))) = (((acc + c % 128 * 128 ^ i) % 18446744073709551616 : Nat) : Int) := by
 have hand : Go.bits .andNot .u8 (c : Int) 128 = ((c % 128 : Nat) : Int) := by
  have e : ∀ a : Nat, a < 256 → a &&& (255 - 128) = a % 128 := by decide +kernel
  rw [show (128 : Int) = ((128 : Nat) : Int) from rfl, u8_andNot_nat c 128 hc (by omega), e c hc]
 have hp : (128 : Nat) ^ i = 2 ^ (7 * i) := by rw [Nat.pow_mul]
 have hsh : shl .u64 ((c % 128 : Nat) : Int) (wrap64 (7 * (i : Int))) = ((c % 128 * 128 ^ i % 18446744073709551616 : Nat) : Int) := by
  unfold shl
  rw [wrap64_in (by omega) (by omega), show min (7 * (i : Int)).toNat IntKind.u64.bits = 7 * i by simp [IntKind.bits]; omega]
  have e1 : ((2 : Int) ^ (7 * i)) = ((128 ^ i : Nat) : Int) := by rw [hp]; simp
  rw [e1, mul_u64]
 rw [hand, u64_in (n := ((c % 128 : Nat) : Int)) (by omega) (by omega), hsh]
 have hpos : 0 < 128 ^ i := Nat.pow_pos (by omega)
 have hle : 128 ^ i ≤ 128 ^ 9 := Nat.pow_le_pow_right (by omega) hi
 rw [pow_128_9] at hle
 have hdvd : 2 ^ (7 * i) * (18446744073709551616 / 2 ^ (7 * i)) = 18446744073709551616 := by
  have : (18446744073709551616 : Nat) = 2 ^ (7 * i) * 2 ^ (64 - 7 * i) := by rw [← Nat.pow_add, show 7 * i + (64 - 7 * i) = 64 by omega]
  exact Nat.mul_div_cancel' ⟨_, this⟩
 have hmul : c % 128 * 128 ^ i % 18446744073709551616 = 2 ^ (7 * i) * (c % 128 % (18446744073709551616 / 2 ^ (7 * i))) := by
  rw [Nat.mul_comm, hp]
  conv => lhs; rw [← hdvd]
  rw [Nat.mul_mod_mul_left]
 have hlt : c % 128 * 128 ^ i % 18446744073709551616 < 18446744073709551616 := Nat.mod_lt _ (by omega)
 rw [u64_or_nat _ _ (by omega) hlt, Nat.or_comm, hmul, ← Nat.two_pow_add_eq_or_of_lt (by rw [← hp]; exact ha), ← hmul]
 have hsum : c % 128 * 128 ^ i % 18446744073709551616 + acc < 18446744073709551616 := by
  rw [hmul]
  have h1 : c % 128 % (18446744073709551616 / 2 ^ (7 * i)) + 1 ≤ 18446744073709551616 / 2 ^ (7 * i) := Nat.mod_lt _ (by
   rcases Nat.eq_zero_or_pos (18446744073709551616 / 2 ^ (7 * i)) with h | h
   ·rw [h] at hdvd; omega
   ·exact h)
  have h2 := Nat.mul_le_mul_left (2 ^ (7 * i)) h1
  rw [hdvd, Nat.mul_add, Nat.mul_one] at h2
  rw [hp] at ha
  omega
 exact congrArg _ (add_lt_mod _ acc hsum)
def TK (r : Nat × Bs × Int) : Int × ByteArray × Int := ((r.1 : Int), B r.2.1, r.2.2)
theorem ev_take (b : ByteArray) (hb : b.size ≤ 4611686018427387904) : ∀ (f i acc : Nat), i + f = 10 → i ≤ (L b).length → acc < 128 ^ i →
  Ev (fun k => varint_Take.l0 k b (acc : Int) (i : Int)) (TK (takeR (L b) f i acc))
 | 0, i, acc, e, h, ha => by
  refine Ev.step (f := fun k => some (TK (0, [], 2))) (fun k => ?_) (Ev.now _)
  simp only [varint_Take.l0]
  rw [if_neg (by omega)]
  rfl
 | f + 1, i, acc, e, h, ha => by
  have hl := L_length b
  rw [takeR]
  by_cases h1 : i = (L b).length
  ·rw [if_pos h1]
   refine Ev.step (f := fun k => some (TK (0, [], 3))) (fun k => ?_) (Ev.now _)
   simp only [varint_Take.l0]
   rw [if_pos (by omega), if_pos (by omega)]
   rfl
  rw [if_neg h1]
  have hi : i < (L b).length := by omega
  have hg : (L b).getD i 0 = (L b)[i] := by simp [List.getD_eq_getElem?_getD, List.getElem?_eq_getElem hi]
  have hc := (L b)[i].toNat_lt
  have hga := gather acc i (L b)[i].toNat (by omega) ha hc
  rw [hg]
  generalize hn : (acc + (L b)[i].toNat % 128 * 128 ^ i) % 18446744073709551616 = n at hga ⊢
  have hnlt : n < 18446744073709551616 := by rw [← hn]; exact Nat.mod_lt _ (by omega)
  have HN := Aside0.mk hn
  clear hn
  have HT := Aside0.mk hnlt
  clear hnlt
  by_cases h2 : 128 ≤ (L b)[i].toNat
  ·rw [if_pos h2]
   refine Ev.step (f := fun k => varint_Take.l0 k b (n : Int) ((i + 1 : Nat) : Int)) (fun k => ?_) (ev_take b hb f (i + 1) n (by omega) (by omega) ?_)
   ·simp only [varint_Take.l0]
    rw [if_pos (by omega), if_neg (by omega), if_pos (by omega), if_pos (by omega), if_pos (by rw [wrap64_in (by omega) (by omega)]; omega), bt_L b i hi, if_pos (by omega), hga, wrap64_in (n := (i : Int) + 1) (by omega) (by omega)]
    exact Eq.refl _
   ·rw [← HN.out]
    refine Nat.lt_of_le_of_lt (Nat.mod_le _ _) ?_
    have : (L b)[i].toNat % 128 * 128 ^ i ≤ 127 * 128 ^ i := Nat.mul_le_mul_right _ (by omega)
    rw [Nat.pow_succ]
    omega
  ·rw [if_neg h2]
   have hw : wrap64 ((i : Int) + 1) = ((i + 1 : Nat) : Int) := by rw [wrap64_in (by omega) (by omega)]; omega
   refine Ev.step (f := fun k => if putS n = (L b).take (i + 1) then some (TK (n, (L b).drop (i + 1), 0)) else some (TK (0, [], 2))) (fun k => ?_) ?_
   ·simp only [varint_Take.l0]
    rw [if_pos (by omega), if_neg (by omega), if_pos (by omega), if_pos (by omega), if_pos (by rw [wrap64_in (by omega) (by omega)]; omega), bt_L b i hi, if_neg (by omega), hga, varint_Put_N n HT.out, Option.bind_some, hw, if_pos (by omega), if_pos (by omega)]
    simp only [toList_L, L_B, Int.toNat_natCast, L_extract_front, extract_end]
    rfl
   ·split
    ·exact Ev.now _
    ·exact Ev.now _
theorem ev_Take (b : ByteArray) (hb : b.size ≤ 4611686018427387904) : Ev (fun k => varint_Take.f k b) (TK (takeS (L b))) := by
 have := ev_take b hb 10 0 0 rfl (Nat.zero_le _) (by decide)
 exact this
end Go.Proofs.YtlnbekaldemebaaGreatDoor.Thw
/-! ## Layer 2 (crc): what the printed functions come to, in the plain words of Plain02. -/
namespace Go.Proofs.YtlnbekaldemebaaGreatDoor.Thw
open Go Go.RowKit Go.Proofs.YtlnbekaldemebaaGreatDoor.Print Go.Proofs.YtlnbekaldemebaaGreatDoorW.PrintWords Go.Proofs.YtlnbekaldemebaaGreatDoorW.PrintLast Go.Proofs.YtlnbekaldemebaaGreatDoorW.PrintMore
set_option linter.unusedVariables false
set_option linter.unusedSimpArgs false

theorem xor_u32 (a b : Nat) (ha : a < 4294967296) (hb : b < 4294967296) : Go.bits .xor .u32 (a : Int) (b : Int) = ((a ^^^ b : Nat) : Int) := u32_xor_nat a b ha hb
theorem crcStep_N (c : Nat) (h : c < 4294967296) : crcStep (c : Int) = ((stepN c : Nat) : Int) := by
 have h1 : Go.bits .and .u32 (c : Int) 1 = ((c % 2 : Nat) : Int) := by
  rw [show (1 : Int) = ((1 : Nat) : Int) from rfl, u32_and_nat c 1 h (by omega), Nat.and_one_is_mod]
 have h2 : ((c : Int) / 2) = ((c / 2 : Nat) : Int) := by omega
 unfold crcStep stepN
 rw [h1, h2]
 rcases Nat.mod_two_eq_zero_or_one c with h3 | h3
 ·rw [h3, if_neg (by omega), show ((-(((0 : Nat)) : Int)) % 4294967296) = ((0 : Nat) : Int) from rfl, show (2197175160 : Int) = ((2197175160 : Nat) : Int) from rfl, u32_and_nat _ 0 (by omega) (by omega), Nat.and_zero, xor_u32 _ _ (by omega) (by omega)]
 ·rw [h3, if_pos rfl, show ((-(((1 : Nat)) : Int)) % 4294967296) = ((4294967295 : Nat) : Int) from by decide, show (2197175160 : Int) = ((2197175160 : Nat) : Int) from rfl, u32_and_nat _ _ (by omega) (by omega), show (2197175160 &&& 4294967295 : Nat) = 2197175160 from by decide +kernel, xor_u32 _ _ (by omega) (by omega)]
  unfold polyN
  exact Eq.refl _
theorem iter_N (c : Nat) (h : c < 4294967296) : ∀ n, iterI crcStep n (c : Int) = ((stepsN n c : Nat) : Int)
 | 0 => rfl
 | n + 1 => by rw [iterI, iter_N c h n, crcStep_N _ (stepsN_lt c h n), stepsN]
theorem crcOf_N (i : Nat) (h : i < 256) : crcOf i = ((stepsN 8 i : Nat) : Int) := by unfold crcOf; exact iter_N i (by omega) 8
theorem crcNext_N (c x : Nat) (hc : c < 4294967296) (hx : x < 256) : crcNext (c : Int) (x : Int) = ((byteN c x : Nat) : Int) := by
 have h1 : ((c : Int) % 256) = ((c % 256 : Nat) : Int) := by omega
 have h2 : ((c : Int) / 256) = ((c / 256 : Nat) : Int) := by omega
 have h3 : (c % 256) ^^^ x < 256 := Nat.xor_lt_two_pow (n := 8) (by omega) (by omega)
 unfold crcNext
 rw [h1, h2, u8_xor_nat _ _ (by omega) hx, Int.toNat_natCast, crcOf_N _ h3, xor_u32 _ _ (stepsN_lt _ (by omega) 8) (by omega), byteN_table c x hx]
theorem moreL_N : ∀ (l : Bs) (c : Nat), c < 4294967296 → moreL l (c : Int) = ((moreN l c : Nat) : Int)
 | [], c, _ => rfl
 | b :: l, c, h => by
  have hb := b.toNat_lt
  rw [moreN_cons, ← moreL_N l _ (byteN_lt c _ h hb), ← crcNext_N c _ h hb]
  exact List.foldl_cons ..
theorem u32_max : IntKind.u32.max = ((ones : Nat) : Int) := by decide
theorem crc_More_S (s : Nat) (b : ByteArray) (hs : s < 4294967296) (hb : b.size ≤ 4611686018427387904) : crc_More.f (s : Int) b = some ((moreS s (L b) : Nat) : Int) := by
 have h1 : ones ^^^ s < 4294967296 := Nat.xor_lt_two_pow (n := 32) ones_lt (by simpa using hs)
 unfold crc_More.f
 rw [if_pos hb, u32_max, xor_u32 _ _ ones_lt hs, moreL_N _ _ h1, xor_u32 _ _ ones_lt (moreN_lt _ _ h1)]
 unfold moreS L
 exact Eq.refl _
theorem crc_Sum_S (b : ByteArray) (hb : b.size ≤ 4611686018427387904) : crc_Sum.f b = some ((sumS2 (L b) : Nat) : Int) := by
 have := crc_More_S 0 b (by omega) hb
 unfold crc_Sum.f
 rw [show (0 : Int) = ((0 : Nat) : Int) from rfl, this]
 exact Eq.refl _
theorem L_seal4 (n : Nat) : L (strOfNums (seal4 (n : Int))) = le4 n := by
 rw [L_strOfNums]
 unfold seal4 le4
 simp only [List.map_cons, List.map_nil]
 congr 2
theorem crc_Seal_S (b : ByteArray) (hb : b.size ≤ 4611686018427387904) : crc_Seal.f b = some (B (sealS (L b))) := by
 unfold crc_Seal.f
 rw [crc_Sum_S b hb, Option.bind_some, if_pos hb]
 exact congrArg some (L_inj (by rw [L_append, L_B, L_seal4]; rfl))
theorem crc_Open_S (b : ByteArray) (hb : b.size ≤ 4611686018427387904) : crc_Open.f b = some (B (openS (L b)).1, (openS (L b)).2) := by
 have hl := L_length b
 unfold crc_Open.f openS
 by_cases h : (L b).length < 4
 ·rw [if_pos (by omega), if_pos h]; rfl
 rw [if_neg (by omega), if_neg h, if_pos (by omega), crc_Seal_S _ (by rw [extract_end, B_size, List.length_drop]; omega), Option.bind_some, if_pos (by omega), L_extract_end, if_pos (by rw [B_size, sealS_length]; omega)]
 simp only [toList_L, L_extract_front, L_B, extract_end]
 by_cases h2 : (sealS ((L b).drop 4)).take 4 = (L b).take 4
 ·rw [if_pos h2, if_pos h2]
 ·rw [if_neg h2, if_neg h2]; rfl
end Go.Proofs.YtlnbekaldemebaaGreatDoor.Thw
/-! ## Layer 12: what start-up code has laid; the names. -/
namespace Go.Proofs.YtlnbekaldemebaaGreatDoor.Thw
open Go Go.RowKit Go.Proofs.YtlnbekaldemebaaGreatDoor.Print Go.Proofs.YtlnbekaldemebaaGreatDoorW.PrintWords Go.Proofs.YtlnbekaldemebaaGreatDoorW.PrintLast Go.Proofs.YtlnbekaldemebaaGreatDoorW.PrintMore
set_option linter.unusedVariables false
set_option linter.unusedSimpArgs false
/-- The names of the laid variables, as the row lists them. -/
def laidN (k : Nat) : String := ((Rows.publishWasteRow.laid[k]?).map (·.1)).getD default
/-- What start-up code has laid and the walks read: the powers of ten, two errors. -/
structure LaidW (w : World) : Prop where
 tab : Go.Lib.TabIs Tryz.prog w (laidN 2) .u64 Go.Lib.pow10Tab
 rng : ∃ tp p, w.var? Tryz.prog (laidN 3) = some #[.iface tp p]
 syn : ∃ tp p, w.var? Tryz.prog (laidN 4) = some #[.iface tp p]
theorem var_below {P : Program} {w w' : World} {n : String} {cs : Array Value} (h : w.var? P n = some cs) (hb : Below w.heap.size w w') : w'.var? P n = some cs := by
 unfold World.var? at h ⊢
 cases hg : P.globalNamed n with
 | none => rw [hg] at h; cases h
 | some g =>
  rw [hg] at h
  simp only [Option.bind_some] at h ⊢
  have hlt : g < w.heap.size := by
   apply Classical.byContradiction
   intro hn
   rw [Array.getElem?_eq_none (by omega)] at h
   cases h
  rw [hb.block g hlt]
  exact h
theorem LaidW.below {w w' : World} (h : LaidW w) (hb : Below w.heap.size w w') : LaidW w' := by
 obtain ⟨h1, ⟨t2, p2, h2⟩, ⟨t3, p3, h3⟩⟩ := h
 exact ⟨var_below h1 hb, ⟨t2, p2, var_below h2 hb⟩, ⟨t3, p3, var_below h3 hb⟩⟩
theorem itoa_calls (n : Int) (h0 : -9223372036854775808 ≤ n) (h1 : n ≤ 9223372036854775807) (w : World) (hL : LaidW w) :
  Calls Tryz.prog 109 #[.int .i64 n] w fun e w' => e = .returned (.string ⟨(Go.Lib.itoa n).toArray⟩) ∧ Below w.heap.size w w' := by
 refine (show Calls Tryz.prog 109 _ _ _ from Any.strconv_Itoa Tryz.itoa n h0 h1 w hL.tab).mono ?_
 rintro e w' ⟨rfl, k, os, rfl⟩
 exact ⟨rfl, Go.Lib.below_grow _ w (Nat.le_refl _) k os⟩
theorem rptExtra : Builder.Extra Tryz.prog Tryz.rpt_ren where
 sizeBuilder := by kernel_rfl
 liesBuilder := by kernel_rfl
 t5 := Tryz.rpt.t5
 a5 := Tryz.rpt.a5
 z5 := Tryz.rpt.z5
 v5 := Tryz.rpt.v5
 infoByte := by kernel_rfl
 cellsByte := by kernel_rfl
 sizeByte := by kernel_rfl
 neB5 := by decide
theorem repeat_calls (s : ByteArray) (c : Nat) (w : World) (hc : c ≤ 9223372036854775807) (hlen : s.size * c ≤ 140737488355328) :
  Calls Tryz.prog 110 #[.string s, .int .i64 c] w fun e w' => e = .returned (.string ⟨(Go.Lib.repeatL s.data.toList c).toArray⟩) ∧ Below w.heap.size w w' :=
 show Calls Tryz.prog 110 _ _ _ from Any.strings_Repeat Tryz.rpt rptExtra s c w hc hlen
/-- The name of a number behind a letter. -/
def nameB (c : UInt8) (n from_ : Int) : ByteArray := B (nameL c n from_)
theorem itoa_nat (n : Int) (h0 : 0 ≤ n) : Go.Lib.itoa n = Go.Lib.decDigits n.toNat := by unfold Go.Lib.itoa; rw [if_neg (by omega)]
theorem name_join (c : UInt8) (n : Int) (h0 : 0 ≤ n) (h1 : n ≤ 999999) : Go.Lib.nDigits n.toNat ≤ 6 ∧ (⟨#[c]⟩ : ByteArray) ++ ⟨(Go.Lib.repeatL [48] (6 - Go.Lib.nDigits n.toNat)).toArray⟩ ++ ⟨(Go.Lib.itoa n).toArray⟩ = B (c :: six n.toNat) := by
 obtain ⟨h2, h3⟩ := digs_pad 5 n.toNat (by omega)
 refine ⟨h2, ?_⟩
 rw [itoa_nat n h0]
 apply ByteArray.ext
 apply Array.ext'
 have e : six n.toNat = digs (5 + 1) n.toNat := rfl
 rw [e, ← h3]
 simp [B]
set_option maxHeartbeats 1600000 in
theorem man_name.calls (c : UInt8) (n from_ : Int) (h0 : 0 ≤ from_) (hn : -9223372036854775808 ≤ n ∧ n ≤ 9223372036854775807) (w : World) (hL : LaidW w) :
  Calls Tryz.prog 75 #[.string ⟨#[c]⟩, .int .i64 n, .int .i64 from_] w fun e w' => e = .returned (.string (nameB c n from_)) ∧ Below w.heap.size w w' := by
 have HL := Aside0.mk hL
 clear hL
 go_enter Tryz.func75, Tryz.ntmps75
 by_cases h1 : n < from_
 ·have d1 : decide (n < from_) = true := decide_eq_true h1
  have HR := Aside0.mk (show nameB c n from_ = ⟨#[]⟩ by unfold nameB nameL; rw [if_pos (Or.inl h1)]; rfl)
  rw [HR.out]
  go_wp2_with fail
  go_ret
  exact ⟨rfl, Below.refl _ _⟩
 have d1 : decide (n < from_) = false := decide_eq_false h1
 by_cases h2 : 999999 < n
 ·have d2 : decide (999999 < n) = true := decide_eq_true h2
  have HR := Aside0.mk (show nameB c n from_ = ⟨#[]⟩ by unfold nameB nameL; rw [if_pos (Or.inr h2)]; rfl)
  rw [HR.out]
  go_wp2_with fail
  go_ret
  exact ⟨rfl, Below.refl _ _⟩
 have d2 : decide (999999 < n) = false := decide_eq_false h2
 have HR := Aside0.mk (show nameB c n from_ = B (c :: six n.toNat) by unfold nameB nameL; rw [if_neg (by omega)])
 rw [HR.out]
 go_wp2_with fail
 refine (itoa_calls n hn.1 hn.2 _ HL.out).mono ?_
 rintro e w1 ⟨rfl, b1⟩
 have B1 := Aside0.mk b1
 clear b1
 have hn0 : 0 ≤ n := by omega
 obtain ⟨hd6, hj⟩ := name_join c n hn0 h2
 have HJ := Aside0.mk hj
 clear hj
 obtain ⟨s1, hs1⟩ : ∃ s : ByteArray, (⟨(Go.Lib.itoa n).toArray⟩ : ByteArray) = s := ⟨_, rfl⟩
 have hz : s1.size = Go.Lib.nDigits n.toNat := by
  rw [← hs1, itoa_nat n hn0]
  show (Go.Lib.decDigits n.toNat).toArray.size = _
  rw [List.size_toArray, Go.Lib.decDigits_length]
 rw [hs1] at HJ ⊢
 obtain ⟨d, hd⟩ : ∃ d, Go.Lib.nDigits n.toNat = d := ⟨_, rfl⟩
 rw [hd] at HJ hz hd6
 have hzi : (s1.size : Int) = (d : Int) := by omega
 have HZ := Aside0.mk hz
 clear hz hs1 hd hn0
 go_wp2_with fail
 have e6 : (6 : Int) - (d : Int) = ((6 - d : Nat) : Int) := by omega
 rw [e6]
 refine (repeat_calls ⟨#[48]⟩ (6 - d) _ (by omega) (by show 1 * (6 - d) ≤ 140737488355328; omega)).mono ?_
 rintro e w2 ⟨rfl, b2⟩
 have B2 := Aside0.mk (B1.out.trans (b2.mono B1.out.size))
 clear b2
 have e48 : (⟨#[48]⟩ : ByteArray).data.toList = [48] := rfl
 rw [e48]
 obtain ⟨r1, hr1⟩ : ∃ r : ByteArray, (⟨(Go.Lib.repeatL [48] (6 - d)).toArray⟩ : ByteArray) = r := ⟨_, rfl⟩
 have hz2 : r1.size ≤ 6 := by
  rw [← hr1]
  show (Go.Lib.repeatL [48] (6 - d)).toArray.size ≤ 6
  rw [List.size_toArray, Go.Lib.repeatL_length]
  simp
 rw [hr1] at HJ ⊢
 have hz := HZ.out
 clear hr1 e48
 go_wp2_with fail
 go_ret
 exact ⟨congrArg _ (congrArg _ HJ.out), B2.out⟩
theorem man_Name.calls (n : Int) (hn : -9223372036854775808 ≤ n ∧ n ≤ 9223372036854775807) (w : World) (hL : LaidW w) :
  Calls Tryz.prog 44 #[.int .i64 n] w fun e w' => e = .returned (.string (nameB 109 n 1)) ∧ Below w.heap.size w w' := by
 go_enter Tryz.func44, Tryz.ntmps44
 go_wp2_with fail
 refine (man_name.calls 109 n 1 (by omega) hn _ hL).mono ?_
 rintro e w1 ⟨rfl, b1⟩
 go_wp2_with fail
 go_ret
 exact ⟨rfl, b1⟩
theorem man_Object.calls (n : Int) (hn : -9223372036854775808 ≤ n ∧ n ≤ 9223372036854775807) (w : World) (hL : LaidW w) :
  Calls Tryz.prog 50 #[.int .i64 n] w fun e w' => e = .returned (.string (nameB 111 n 0)) ∧ Below w.heap.size w w' := by
 go_enter Tryz.func50, Tryz.ntmps50
 go_wp2_with fail
 refine (man_name.calls 111 n 0 (by omega) hn _ hL).mono ?_
 rintro e w1 ⟨rfl, b1⟩
 go_wp2_with fail
 go_ret
 exact ⟨rfl, b1⟩
/-- What a prefix cut comes to. -/
theorem cut_m (s : ByteArray) (hs : s.size ≤ 4611686018427387904) : (∃ x : ByteArray, L s = 109 :: L x ∧ x.size + 1 = s.size ∧ strings_CutPrefix.f s ⟨#[109]⟩ = some (x, true)) ∨ ((∀ l, L s ≠ 109 :: l) ∧ ∃ x, x.size ≤ s.size ∧ strings_CutPrefix.f s ⟨#[109]⟩ = some (x, false)) := by
 have h1 : (⟨#[109]⟩ : ByteArray).size = 1 := rfl
 unfold strings_CutPrefix.f stringslite_CutPrefix.f stringslite_HasPrefix.f
 rw [h1]
 by_cases h2 : 1 ≤ s.size
 ·have e0 : ((1 : Nat) : Int).toNat = 1 := rfl
  rw [if_pos (show (s.size : Int) ≥ ((1 : Nat) : Int) by omega), if_pos (show (0 : Int) ≤ ((1 : Nat) : Int) by omega), if_pos (show ((1 : Nat) : Int) ≤ (s.size : Int) by omega), e0]
  try simp only [Option.bind_some]
  have hL1 : L (s.extract 0 1) = (L s).take 1 := L_extract_front s 1
  have hL2 : L (s.extract 1 s.size) = (L s).drop 1 := L_extract_end s 1
  have hb : ((s.extract 0 1).toList == (⟨#[109]⟩ : ByteArray).toList) = decide ((L s).take 1 = [109]) := by
   rw [Bool.eq_iff_iff, beq_iff_eq, decide_eq_true_eq, Lib.toList_data, Lib.toList_data]
   show L (s.extract 0 1) = [109] ↔ _
   rw [hL1]
  rw [hb]
  by_cases h3 : (L s).take 1 = [109]
  ·rw [decide_eq_true h3, if_pos rfl]
   try simp only [Option.bind_some]
   refine Or.inl ⟨s.extract 1 s.size, ?_, ?_, by rw [if_pos (show (0 : Int) ≤ ((1 : Nat) : Int) by omega), if_pos (show ((1 : Nat) : Int) ≤ (s.size : Int) by omega)]; rfl⟩
   ·rw [hL2, ← List.take_append_drop 1 (L s), h3]
    simp
   ·have := congrArg List.length hL2
    rw [L_length, List.length_drop, L_length] at this
    omega
  ·rw [decide_eq_false h3, if_neg (by simp)]
   try simp only [Option.bind_some]
   refine Or.inr ⟨fun l e => h3 (by rw [e]; rfl), s, Nat.le_refl _, rfl⟩
 ·rw [if_neg (show ¬ (s.size : Int) ≥ ((1 : Nat) : Int) by omega)]
  try simp only [Option.bind_some]
  rw [if_neg (by simp)]
  refine Or.inr ⟨fun l e => ?_, s, Nat.le_refl _, rfl⟩
  have := congrArg List.length e
  rw [L_length] at this
  simp at this
  omega
/-- The version that a name tells, if any. -/
def verO (s : ByteArray) (r : Int × Bool) : Prop := (∃ n, IsV (L s) n ∧ r = ((n : Int), true)) ∨ ((∀ n, ¬ IsV (L s) n) ∧ r = (0, false))
def AtoiPost (s : ByteArray) (w : World) (e : Ending) (w' : World) : Prop :=
 Below w.heap.size w w' ∧ ((∃ v, Go.Lib.atoiAll (L s) = .ok v ∧ -9223372036854775808 ≤ v ∧ v ≤ 9223372036854775807 ∧ e = .returned (.tuple #[.int .i64 v, .nilIface])) ∨
  ((∀ v, Go.Lib.atoiAll (L s) ≠ .ok v) ∧ ∃ v tp p, e = .returned (.tuple #[.int .i64 v, .iface tp p])))
theorem atoi_calls (s : ByteArray) (hs : s.size ≤ 1000000) (w : World) (hL : LaidW w) : Calls Tryz.prog 67 #[.string s] w (AtoiPost s w) := by
 obtain ⟨_, ⟨t2, p2, h2⟩, ⟨t3, p3, h3⟩⟩ := hL
 rcases h : Go.Lib.atoiAll s.data.toList with v | _ | _
 ·refine (show Calls Tryz.prog 67 _ _ _ from Any.strconv_Atoi_ok Tryz.atoi s (by omega) v h w).mono ?_
  rintro e w' ⟨rfl, hw⟩
  have hb := Go.Lib.atoiAll_bounds h
  refine ⟨?_, Or.inl ⟨v, h, by omega, by omega, rfl⟩⟩
  rcases hw with rfl | ⟨t, rfl⟩
  ·exact Below.refl _ _
  ·exact Go.Lib.bytesWorld_below _ _ _
 ·refine (show Calls Tryz.prog 67 _ _ _ from Any.strconv_Atoi_syntax_var Tryz.atoi s (by omega) h t3 p3 w h3).mono ?_
  rintro e w' ⟨N, rfl, _, _, hb⟩
  exact ⟨hb, Or.inr ⟨(fun v e => by rw [show Go.Lib.atoiAll (L s) = _ from h] at e; cases e), _, _, _, rfl⟩⟩
 ·refine (show Calls Tryz.prog 67 _ _ _ from Any.strconv_Atoi_range_var Tryz.atoi s (by omega) h t2 p2 w h2).mono ?_
  rintro e w' ⟨N, rfl, _, _, hb⟩
  exact ⟨hb, Or.inr ⟨(fun v e => by rw [show Go.Lib.atoiAll (L s) = _ from h] at e; cases e), _, _, _, rfl⟩⟩
set_option maxHeartbeats 1600000 in
theorem man_Version.calls (s : ByteArray) (hs : s.size ≤ 1000000) (w : World) (hL : LaidW w) :
  Calls Tryz.prog 30 #[.string s] w fun e w' => (∃ r, verO s r ∧ e = .returned (.tuple #[.int .i64 r.1, .bool r.2])) ∧ Below w.heap.size w w' := by
 have HL := Aside0.mk hL
 clear hL
 go_enter Tryz.func30, Tryz.ntmps30
 rcases cut_m s (by omega) with ⟨x, hx1, hx2, hx3⟩ | ⟨hx1, x, hx2, hx3⟩
 ·have HX := Aside0.mk hx1
  have HX3 := Aside0.mk hx3
  clear hx1 hx3
  go_wp2_with fail
  refine (strings_CutPrefix.calls s ⟨#[109]⟩ x true _ HX3.out).mono ?_
  rintro e w1 ⟨rfl, d1⟩
  have B1 := Aside0.mk d1.below
  clear d1
  go_wp2_with fail
  refine (atoi_calls x (by omega) _ (HL.out.below B1.out)).mono ?_
  rintro e w2 ⟨b2, ⟨v, hv, hv0, hv1, rfl⟩ | ⟨hno, v, tp, pv, rfl⟩⟩
  ·have B2 := Aside0.mk (B1.out.trans (b2.mono B1.out.size))
   have HV := Aside0.mk hv
   clear b2 hv
   go_wp2_with fail
   refine (man_Name.calls v ⟨hv0, hv1⟩ _ (HL.out.below B2.out)).mono ?_
   rintro e w3 ⟨rfl, b3⟩
   have B3 := Aside0.mk (B2.out.trans (b3.mono B2.out.size))
   clear b3
   obtain ⟨nm, hnm⟩ : ∃ nm, nameB 109 v 1 = nm := ⟨_, rfl⟩
   have HNM := Aside0.mk hnm
   rw [hnm]
   clear hnm
   have HEQ := Aside0.mk (show (nm.toList == s.toList) = true ↔ nm = s from ⟨fun h => WideShapes.bytes_inj (by have := eq_of_beq h; rw [Lib.toList_data, Lib.toList_data] at this; exact this), fun h => by rw [h]; exact beq_self_eq_true _⟩)
   cases hb : (nm.toList == s.toList) with
   | true =>
    have HS := Aside0.mk (HEQ.out.1 hb)
    go_wp2_with fail
    refine bodyPost_ret (results_tmp2 rfl _ _ _) rfl ?_
    have h1 : nameL 109 v 1 = L s := by
     have := congrArg L HS.out
     rw [← HNM.out] at this
     unfold nameB at this
     rwa [L_B] at this
    obtain ⟨h2, h3⟩ := name_isV (by rw [HX.out]; exact fun e => by cases e) h1
    exact ⟨⟨(v, true), Or.inl ⟨v.toNat, h2, by rw [Int.toNat_of_nonneg h3]⟩, rfl⟩, B3.out⟩
   | false =>
    go_wp2_with fail
    refine bodyPost_ret (results_tmp2 rfl _ _ _) rfl ?_
    refine ⟨⟨(0, false), Or.inr ⟨fun n hn => ?_, rfl⟩, rfl⟩, B3.out⟩
    have h1 : L x = six n := by
     have := hn.2.2
     rw [HX.out] at this
     injection this
    have h2 := six_atoi hn.2.1
    rw [← h1, HV.out] at h2
    injection h2 with h2
    have h3 := isV_name hn
    rw [← h2] at h3
    have h4 : nm = s := by
     rw [← HNM.out]
     unfold nameB
     rw [h3]
     exact L_inj (L_B _)
    rw [HEQ.out.2 h4] at hb
    cases hb
  ·have B2 := Aside0.mk (B1.out.trans (b2.mono B1.out.size))
   have HNO := Aside0.mk hno
   clear b2 hno
   go_wp2_with fail
   refine bodyPost_ret (results_tmp2 rfl _ _ _) rfl ?_
   refine ⟨⟨(0, false), Or.inr ⟨fun n hn => ?_, rfl⟩, rfl⟩, B2.out⟩
   have h1 : L x = six n := by
    have := hn.2.2
    rw [HX.out] at this
    injection this
   exact HNO.out n (by rw [h1]; exact six_atoi hn.2.1)
 ·have HX := Aside0.mk hx1
  have HX3 := Aside0.mk hx3
  clear hx1 hx3
  go_wp2_with fail
  refine (strings_CutPrefix.calls s ⟨#[109]⟩ x false _ HX3.out).mono ?_
  rintro e w1 ⟨rfl, d1⟩
  have B1 := Aside0.mk d1.below
  clear d1
  go_wp2_with fail
  refine (atoi_calls x (by omega) _ (HL.out.below B1.out)).mono ?_
  rintro e w2 ⟨b2, h⟩
  have B2 := Aside0.mk (B1.out.trans (b2.mono B1.out.size))
  clear b2
  obtain ⟨v, ev, rfl⟩ : ∃ (v : Int) (ev : Value), e = .returned (.tuple #[.int .i64 v, ev]) := by
   rcases h with ⟨v, _, _, _, h⟩ | ⟨_, v, tp, pv, h⟩
   ·exact ⟨v, _, h⟩
   ·exact ⟨v, _, h⟩
  clear h
  go_wp2_with fail
  refine bodyPost_ret (results_tmp2 rfl _ _ _) rfl ?_
  exact ⟨⟨(0, false), Or.inr ⟨fun n hn => HX.out _ hn.2.2, rfl⟩, rfl⟩, B2.out⟩
end Go.Proofs.YtlnbekaldemebaaGreatDoor.Thw
/-! ## Layer 12: numbers taken off bytes, or a panic. -/
namespace Go.Proofs.YtlnbekaldemebaaGreatDoor.Thw
open Go Go.RowKit Go.Proofs.YtlnbekaldemebaaGreatDoor.Print Go.Proofs.YtlnbekaldemebaaGreatDoorW.PrintWords Go.Proofs.YtlnbekaldemebaaGreatDoorW.PrintLast Go.Proofs.YtlnbekaldemebaaGreatDoorW.PrintMore
set_option linter.unusedVariables false
set_option linter.unusedSimpArgs false
/-- What a fault of form panics with. -/
abbrev formP : Value := .iface 40 (.int .i64 2)
abbrev formE : Ending := .panicked [{ v := formP, recovered := false }]
def MustPost (b : Bool) (w : World) (e : Ending) (w' : World) : Prop := w' = w ∧ ((b = true ∧ e = .returned (.tuple #[])) ∨ (b = false ∧ e = formE))
theorem must_calls (b : Bool) (w : World) : Calls Tryz.prog 85 #[.bool b] w (MustPost b w) := by
 go_enter Tryz.func85, Tryz.ntmps85
 cases b with
 | true =>
  go_wp2_with fail
  go_end0
  exact ⟨rfl, Or.inl ⟨rfl, rfl⟩⟩
 | false =>
  go_wp2_with fail
  exact ⟨rfl, rfl, Or.inr ⟨rfl, rfl⟩⟩
/-- A number taken, or a panic. -/
def TakePost (r tm : Nat) (b : Bs) (w : World) (e : Ending) (w' : World) : Prop :=
 Frm (fun k => k = r) w w' ∧ ((∃ n s, tk tm b = some (n, s) ∧ e = .returned (.int .u64 (n : Nat)) ∧ n ≤ tm ∧ s.length ≤ b.length ∧ w'.heap[r]? = some (.cells #[.string (B s)] 132)) ∨
  (tk tm b = none ∧ e = formE ∧ w'.heap[r]? = some (.cells #[.string (B b)] 132)))
theorem cells1' {w : World} {s : Nat} {v0 : Value} {t : TypeId} (h : w.heap[s]? = some (.cells #[v0] t)) : w.cell? ⟨s, 0, none⟩ = some v0 ∧ w.frozen? ⟨s, 0, none⟩ = false := by
 refine ⟨?_, ?_⟩ <;> simp [World.cell?, World.frozen?, h]
set_option maxHeartbeats 1600000 in
theorem take_calls (r tm : Nat) (hto : tm < 18446744073709551616) (b : Bs) (hb : b.length ≤ 1000000) (w : World) (h : w.heap[r]? = some (.cells #[.string (B b)] 132)) :
  Calls Tryz.prog 84 #[.pointer (some ⟨r, 0, none⟩), .int .u64 (tm : Nat)] w (TakePost r tm b w) := by
 have H := Aside0.mk h
 have HL := Aside0.mk (lt_of_block h)
 obtain ⟨c0, f0⟩ := cells1' h
 clear h
 obtain ⟨q, hq⟩ := Ev.rounds (ev_Take (B b) (by show b.toArray.size ≤ _; simp; omega))
 rw [L_B] at hq
 have HQ := Aside0.mk hq
 clear hq
 go_enter Tryz.func84, Tryz.ntmps84
 go_wp2_with fail
 refine (varint_Take.calls q (B b) _ _ _ _ HQ.out).mono ?_
 rintro e w1 ⟨rfl, b1⟩
 have hfrm : Frm (fun k => k = r) w w1 := Frm.of_new b1
 have H1 := Aside0.mk (blk_below H.out b1)
 have F1 := Aside0.mk hfrm
 have HT := Aside0.mk (takeS_told b)
 have HTK := Aside0.mk (show tk tm b = if (takeS b).2.2 = 0 ∧ (takeS b).1 ≤ tm then some ((takeS b).1, (takeS b).2.1) else none from rfl)
 clear b1 hfrm c0 f0 HQ
 obtain ⟨c0, f0⟩ := cells1' H1.out
 generalize takeS b = t at HT HTK ⊢
 obtain ⟨n, s, er⟩ := t
 simp only [TK] at HT HTK ⊢
 cases hE : (er == 0) with
 | true =>
  have hE' := beq_iff_eq.1 hE
  subst hE'
  by_cases hn : n ≤ tm
  ·have dn : decide ((n : Int) ≤ (tm : Int)) = true := decide_eq_true (by omega)
   have HR := Aside0.mk (show tk tm b = some (n, s) by rw [HTK.out, if_pos ⟨rfl, hn⟩])
   have HSL := Aside0.mk (show s.length ≤ b.length by
    rcases HT.out with h | h | h
    ·have := h.2.2.2.2; show s.length ≤ b.length; exact Nat.le_of_lt this
    ·injection h with _ h; injection h with h _; rw [h]; exact Nat.zero_le _
    ·injection h with _ h; injection h with h _; rw [h]; exact Nat.zero_le _)
   go_wp2_with fail
   refine (must_calls true _).mono ?_
   rintro e w2 ⟨rfl, ⟨_, rfl⟩ | ⟨h, _⟩⟩
   ·go_wp2_with fail
    go_ret
    refine ⟨F1.out.setCell (p := ⟨r, 0, none⟩) (Or.inl rfl) _, Or.inl ⟨n, s, HR.out, rfl, hn, HSL.out, ?_⟩⟩
    simpa using blk_set H1.out 0 (.string (B s))
   ·cases h
  ·have dn : decide ((n : Int) ≤ (tm : Int)) = false := decide_eq_false (by omega)
   have HR := Aside0.mk (show tk tm b = none by rw [HTK.out, if_neg (fun h => hn h.2)])
   go_wp2_with fail
   refine (must_calls false _).mono ?_
   rintro e w2 ⟨rfl, ⟨h, _⟩ | ⟨_, rfl⟩⟩
   ·cases h
   ·exact ⟨rfl, F1.out, Or.inr ⟨HR.out, rfl, H1.out⟩⟩
 | false =>
  have HR := Aside0.mk (show tk tm b = none by rw [HTK.out, if_neg (fun h => by have h0 : er = 0 := h.1; rw [h0] at hE; cases hE)])
  go_wp2_with fail
  refine (must_calls false _).mono ?_
  rintro e w2 ⟨rfl, ⟨h, _⟩ | ⟨_, rfl⟩⟩
  ·cases h
  ·exact ⟨rfl, F1.out, Or.inr ⟨HR.out, rfl, H1.out⟩⟩
end Go.Proofs.YtlnbekaldemebaaGreatDoor.Thw
/-! ## Layer 12: Read, walked: a panic that is recovered. -/
namespace Go.Proofs.YtlnbekaldemebaaGreatDoor.Thw
open Go Go.RowKit Go.Proofs.YtlnbekaldemebaaGreatDoor.Print Go.Proofs.YtlnbekaldemebaaGreatDoorW.PrintWords Go.Proofs.YtlnbekaldemebaaGreatDoorW.PrintLast Go.Proofs.YtlnbekaldemebaaGreatDoorW.PrintMore
set_option linter.unusedVariables false
set_option linter.unusedSimpArgs false
theorem cells2m {w : World} {s : Nat} {v0 v1 : Value} {t : TypeId} (h : w.heap[s]? = some (.cells #[v0, v1] t)) : w.cell? ⟨s, 0, none⟩ = some v0 ∧ w.cell? ⟨s, 1, none⟩ = some v1 ∧ ∀ i, w.frozen? ⟨s, i, none⟩ = false := by
 refine ⟨?_, ?_, fun i => ?_⟩ <;> simp [World.cell?, World.frozen?, h]
theorem ta_nil (w : World) : (Instr.typeAssert .nilIface 20 40 true).run Tryz.prog w = .ok (.tuple #[.int .i64 0, .bool false]) w := by kernel_rfl
theorem ta_err (w : World) : (Instr.typeAssert formP 20 40 true).run Tryz.prog w = .ok (.tuple #[.int .i64 2, .bool true]) w := by kernel_rfl
theorem read1_idle (m e : Nat) (w : World) :
  CallsD Tryz.prog 82 #[.pointer (some ⟨m, 0, none⟩), .pointer (some ⟨e, 0, none⟩)] .returning w fun e u' w' => e = .returned (.tuple #[]) ∧ u' = .returning ∧ w' = w := by
 refine callsD_of_wpS Tryz.func82 rfl fun c₀ cs hu => ?_
 apply wpS_seq
 apply wpS_region
 simp [wpOpsS, go_sem, recoverD, hu, Tryz.ntmps82, Exit.thenS, ta_nil, ta_err]
 apply wpS_seq
 apply wpS_region
 simp [wpOpsS, go_sem, Exit.thenS]
 refine wpS_cond (t := false) (by simp [Act.eval, Array.replicate]) ?_
 simp only [Bool.false_eq_true, if_false]
 refine wpS_of_wp (wp_skip ?_)
 cases c₀
 simp_all [bodyPostS, results, Tryz.results82]
theorem read1_panicking (m e : Nat) (older : List PanicEntry) (w : World) (v0 v1 v2 : Value) (hm : w.heap[m]? = some (.cells #[v0, v1] 25)) (he : w.heap[e]? = some (.cells #[v2] 40)) :
  CallsD Tryz.prog 82 #[.pointer (some ⟨m, 0, none⟩), .pointer (some ⟨e, 0, none⟩)] (.panicking ({ v := formP, recovered := false } :: older)) w fun en u' w' => en = .returned (.tuple #[]) ∧ u' = .panicking ({ v := formP, recovered := true } :: older) ∧ w' = ((w.setCell ⟨m, 0, none⟩ (.int .i64 0)).setCell ⟨m, 1, none⟩ (.slice none 0 0)).setCell ⟨e, 0, none⟩ (.int .i64 2) := by
 obtain ⟨c0, c1, fm⟩ := cells2m hm
 obtain ⟨c2, fe⟩ := cells1' he
 refine callsD_of_wpS Tryz.func82 rfl fun c₀ cs hu => ?_
 apply wpS_seq
 apply wpS_region
 simp [wpOpsS, go_sem, recoverD, hu, Tryz.ntmps82, Exit.thenS, ta_nil, ta_err]
 apply wpS_seq
 apply wpS_region
 simp [wpOpsS, go_sem, Exit.thenS]
 refine wpS_cond (t := true) (by simp [Act.eval, Array.replicate]) ?_
 simp only [if_true]
 have hme : m ≠ e := fun h => by rw [h, he] at hm; cases hm
 have hm1 : (w.setCell ⟨m, 0, none⟩ (.int .i64 0)).heap[m]? = some (.cells #[.int .i64 0, v1] 25) := by simpa using blk_set hm 0 (.int .i64 0)
 obtain ⟨_, c1', fm'⟩ := cells2m hm1
 have he1 : ((w.setCell ⟨m, 0, none⟩ (.int .i64 0)).setCell ⟨m, 1, none⟩ (.slice none 0 0)).heap[e]? = some (.cells #[v2] 40) := (Below.heap_setCell _ _ _ _ (fun h => hme h.symm)).trans ((Below.heap_setCell _ _ _ _ (fun h => hme h.symm)).trans he)
 obtain ⟨c2', fe'⟩ := cells1' he1
 refine wpS_of_wp ?_
 simp only [Array.replicate_succ, Array.replicate_zero, List.push_toArray, List.append_toArray, List.nil_append, List.cons_append, List.setIfInBounds_toArray, List.set_cons_zero, List.set_cons_succ, List.append_assoc]
 clear hm he hm1 he1 hu
 go_wp2_with fail
 cases c₀
 simp [bodyPostS, results, Tryz.results82]
theorem run_loadInt {P : Program} {t : TypeId} {w : World} {b : Nat} {v : Value} {k : IntKind} (hu : P.underlying t = some (.int k)) (hb : w.cell? ⟨b, 0, none⟩ = some v) : (loadVar t ⟨b, 0, none⟩).run P w = .ok v w := by
 have hagg : (isAgg t).run P w = .ok false w := by
  unfold isAgg
  rw [Sem.run_bind, run_underlying hu w]
  rfl
 simp [loadVar, Sem.run_bind, hagg, hb]
theorem read_results {W : World} {tmps : Array Value} {m e : Nat} {a b c : Value} (hm : W.heap[m]? = some (.cells #[a, b] 25)) (he : W.heap[e]? = some (.cells #[c] 40)) (h2 : tmps.getD 2 undef = .pointer (some ⟨m, 0, none⟩)) (h3 : tmps.getD 3 undef = .pointer (some ⟨e, 0, none⟩)) :
  (results Tryz.f49 tmps).run Tryz.prog W = .ok (.tuple #[.agg #[a, b], c]) W := by
 have h2' : tmps[2]?.getD undef = .pointer (some ⟨m, 0, none⟩) := by simpa using h2
 have h3' : tmps[3]?.getD undef = .pointer (some ⟨e, 0, none⟩) := by simpa using h3
 simp [results, Tryz.results49, h2', h3', asAddr, run_loadInt Tryz.underlying40 (cells1' he).1, run_loadVar_row W m 25 25 #[a, b] (0, 0) _ hm Tryz.underlying25 rfl (by kernel_rfl)]
abbrev rdDefer (m e : Nat) : Deferred := { target := .fn (.func 82) #[.pointer (some ⟨m, 0, none⟩), .pointer (some ⟨e, 0, none⟩)], args := #[] }
theorem read_leave_ok {W : World} {tmps : Array Value} {m e : Nat} {a b c : Value} {R : Ending → World → Prop} (hm : W.heap[m]? = some (.cells #[a, b] 25)) (he : W.heap[e]? = some (.cells #[c] 40)) (h2 : tmps.getD 2 undef = .pointer (some ⟨m, 0, none⟩)) (h3 : tmps.getD 3 undef = .pointer (some ⟨e, 0, none⟩))
  (hR : R (.returned (.tuple #[.agg #[a, b], c])) W) : Leaves Tryz.prog Tryz.f49 tmps R [rdDefer m e] .returning W := by
 refine leaves_cons (f := 82) (args := #[.pointer (some ⟨m, 0, none⟩), .pointer (some ⟨e, 0, none⟩)]) (by simp) (by simp [go_sem]) ?_
 refine (read1_idle m e W).mono ?_
 rintro en u' w'' ⟨rfl, rfl, rfl⟩
 have h := read_results hm he h2 h3
 simp [Leaves, settle, h, go_sem]
 exact hR
theorem read_leave_panic {W : World} {tmps : Array Value} {m e : Nat} {a b c : Value} {R : Ending → World → Prop} (hm : W.heap[m]? = some (.cells #[a, b] 25)) (he : W.heap[e]? = some (.cells #[c] 40)) (h2 : tmps.getD 2 undef = .pointer (some ⟨m, 0, none⟩)) (h3 : tmps.getD 3 undef = .pointer (some ⟨e, 0, none⟩))
  (hR : R (.returned (.tuple #[.agg #[.int .i64 0, .slice none 0 0], .int .i64 2])) (((W.setCell ⟨m, 0, none⟩ (.int .i64 0)).setCell ⟨m, 1, none⟩ (.slice none 0 0)).setCell ⟨e, 0, none⟩ (.int .i64 2))) : Leaves Tryz.prog Tryz.f49 tmps R [rdDefer m e] (.panicking [{ v := formP, recovered := false }]) W := by
 refine leaves_cons (f := 82) (args := #[.pointer (some ⟨m, 0, none⟩), .pointer (some ⟨e, 0, none⟩)]) (by simp) (by simp [go_sem]) ?_
 refine (read1_panicking m e [] W a b c hm he).mono ?_
 rintro en u' w'' ⟨rfl, rfl, rfl⟩
 have hme : m ≠ e := fun h => by rw [h, he] at hm; cases hm
 have hm1 : (W.setCell ⟨m, 0, none⟩ (.int .i64 0)).heap[m]? = some (.cells #[.int .i64 0, b] 25) := by simpa using blk_set hm 0 (.int .i64 0)
 have hm2 : ((W.setCell ⟨m, 0, none⟩ (.int .i64 0)).setCell ⟨m, 1, none⟩ (.slice none 0 0)).heap[m]? = some (.cells #[.int .i64 0, .slice none 0 0] 25) := by simpa using blk_set hm1 1 (.slice none 0 0)
 have hm3 : (((W.setCell ⟨m, 0, none⟩ (.int .i64 0)).setCell ⟨m, 1, none⟩ (.slice none 0 0)).setCell ⟨e, 0, none⟩ (.int .i64 2)).heap[m]? = some (.cells #[.int .i64 0, .slice none 0 0] 25) := (Below.heap_setCell _ _ _ _ hme).trans hm2
 have he1 : ((W.setCell ⟨m, 0, none⟩ (.int .i64 0)).setCell ⟨m, 1, none⟩ (.slice none 0 0)).heap[e]? = some (.cells #[c] 40) := (Below.heap_setCell _ _ _ _ (fun h => hme h.symm)).trans ((Below.heap_setCell _ _ _ _ (fun h => hme h.symm)).trans he)
 have he2 : (((W.setCell ⟨m, 0, none⟩ (.int .i64 0)).setCell ⟨m, 1, none⟩ (.slice none 0 0)).setCell ⟨e, 0, none⟩ (.int .i64 2)).heap[e]? = some (.cells #[.int .i64 2] 40) := by simpa using blk_set he1 0 (.int .i64 2)
 have h := read_results hm3 he2 h2 h3
 simp [Leaves, settle, h, go_sem]
 exact hR
/-- The behaviour of Read, in plain words. -/
def rightS (last : Int) : List S45 → Bool
 | [] => true
 | x :: l => !(decide (x.f0 ≤ last) || decide (999999 < x.f0) || decide (x.f1 < 0) || decide (1048576 < x.f1)) && rightS x.f0 l
def rightB (v : Int) (l : List S45) : Bool := rightS (-1) l && decide (1 ≤ v) && decide (v ≤ 999999) && decide (l.length ≤ 200)
def mkSg (p : Nat × Nat × Nat) : S45 := ⟨(p.1 : Nat), (p.2.1 : Nat), (p.2.2 : Nat)⟩
def readR (b : Bs) : Option (Nat × List (Nat × Nat × Nat)) × Int :=
 if (openS b).2 = true then
  match (tk 999999 (openS b).1).bind fun a => (tk 200 a.2).bind fun k => (segsN k.1 k.2).bind fun p => if p.2 = [] ∧ rightB (a.1 : Nat) (p.1.map mkSg) = true then some (a.1, p.1) else none with
  | some r => (some r, 0)
  | none => (none, 2)
 else (none, 4)
def ReadPost (b : Bs) (w : World) (e : Ending) (w' : World) : Prop :=
 Below w.heap.size w w' ∧ ((∃ v l A c, readR b = (some (v, l), 0) ∧ e = .returned (.tuple #[.agg #[.int .i64 (v : Nat), .slice A l.length c], .int .i64 0]) ∧ Kd.R k45 45 w' w.heap.size (fun _ => True) (.slice A l.length c) (l.map mkSg)) ∨
  (∃ er, readR b = (none, er) ∧ e = .returned (.tuple #[.agg #[.int .i64 0, .slice none 0 0], .int .i64 er])))
theorem read_fail {b : Bs} {w W : World} {tmps : Array Value} {a c e : Value} (hB : Below w.heap.size w W) (hR : readR b = (none, 2)) (hm : W.heap[w.heap.size]? = some (.cells #[a, c] 25)) (he : W.heap[w.heap.size + 1]? = some (.cells #[e] 40))
  (h2 : tmps.getD 2 undef = .pointer (some ⟨w.heap.size, 0, none⟩)) (h3 : tmps.getD 3 undef = .pointer (some ⟨w.heap.size + 1, 0, none⟩)) :
  bodyPostD Tryz.prog Tryz.f49 (ReadPost b w) (.panic [{ v := formP, recovered := false }]) { tmps := tmps, defers := [rdDefer w.heap.size (w.heap.size + 1)] } W :=
 read_leave_panic hm he h2 h3 ⟨((hB.setCell (p := ⟨w.heap.size, 0, none⟩) (Nat.le_refl _) _).setCell (p := ⟨w.heap.size, 1, none⟩) (Nat.le_refl _) _).setCell (p := ⟨w.heap.size + 1, 0, none⟩) (by show w.heap.size ≤ w.heap.size + 1; omega) _, Or.inr ⟨2, hR, rfl⟩⟩
theorem ev_Right (v : Int) (l : List S45) (hl : l.length ≤ 1000000) : Ev (fun k => manifest_Right.f k v l) (rightB v l) := by
 have step : ∀ (d i : Nat) (last : Int), i + d = l.length → Ev (fun k => manifest_Right.l0 k last l (l.length : Int) (i : Int) v l) (rightS last (l.drop i) && decide (1 ≤ v) && decide (v ≤ 999999) && decide (l.length ≤ 200)) := by
  intro d
  induction d with
  | zero =>
   intro i last hi
   have hd : l.drop i = [] := List.drop_eq_nil_of_le (by omega)
   refine Ev.step (f := fun _ => if v ≥ 1 then (if v ≤ 999999 then some (decide ((l.length : Int) ≤ 200)) else some false) else some false) (fun k => ?_) ?_
   ·rw [manifest_Right.l0, if_neg (by omega)]
   ·rw [hd]
    unfold rightS
    refine ev_some fun k => ?_
    by_cases h1 : 1 ≤ v
    ·rw [if_pos h1]
     by_cases h2 : v ≤ 999999
     ·rw [if_pos h2, decide_eq_true h1, decide_eq_true h2]
      congr 1
      rw [Bool.true_and, Bool.true_and, Bool.true_and]
      exact decide_eq_decide.2 (by omega)
     ·rw [if_neg h2, decide_eq_false h2]
      simp
    ·rw [if_neg h1, decide_eq_false h1]
     simp
  | succ d ih =>
   intro i last hi
   have hlt : i < l.length := by omega
   have hx : rd_T45 l (i : Int) = l[i] := by
    unfold rd_T45
    rw [Int.toNat_natCast, List.getD_eq_getElem?_getD, List.getElem?_eq_getElem hlt]
    rfl
   have hi1 : wrap64 ((i : Int) + 1) = ((i + 1 : Nat) : Int) := by rw [wrap64_in (by omega) (by omega)]; omega
   have ih' := ih (i + 1) l[i].f0 (by omega)
   rw [List.drop_eq_getElem_cons hlt]
   generalize l.drop (i + 1) = dr at ih' ⊢
   generalize l[i] = x at hx ih' ⊢
   refine Ev.step (f := fun k => if x.f0 ≤ last then some false else if x.f0 > 999999 then some false else if x.f1 < 0 then some false else if x.f1 > 1048576 then some false else manifest_Right.l0 k x.f0 l (l.length : Int) ((i + 1 : Nat) : Int) v l) (fun k => ?_) ?_
   ·rw [manifest_Right.l0, if_pos (by omega), if_pos (by omega), if_pos (by omega), hx, hi1]
   ·rw [rightS]
    by_cases c1 : x.f0 ≤ last
    ·refine ev_if_pos c1 (ev_some fun _ => ?_)
     rw [decide_eq_true c1]; simp
    refine ev_if_neg c1 ?_
    by_cases c2 : x.f0 > 999999
    ·refine ev_if_pos c2 (ev_some fun _ => ?_)
     rw [decide_eq_true (show 999999 < x.f0 from c2)]; simp
    refine ev_if_neg c2 ?_
    by_cases c3 : x.f1 < 0
    ·refine ev_if_pos c3 (ev_some fun _ => ?_)
     rw [decide_eq_true c3]; simp
    refine ev_if_neg c3 ?_
    by_cases c4 : x.f1 > 1048576
    ·refine ev_if_pos c4 (ev_some fun _ => ?_)
     rw [decide_eq_true (show 1048576 < x.f1 from c4)]; simp
    refine ev_if_neg c4 ?_
    rw [decide_eq_false c1, decide_eq_false (show ¬ 999999 < x.f0 from c2), decide_eq_false c3, decide_eq_false (show ¬ 1048576 < x.f1 from c4)]
    exact ih'
 exact step l.length 0 (-1) (by omega)
theorem infoSeg : (Tryz.prog.info? 45).map (fun i => (i.zero, i.size, i.bytes)) = some (some (.agg #[.int .i64 0, .int .i64 0, .int .u32 0]), 3, 24) := by kernel_rfl
set_option maxHeartbeats 6400000 in
theorem man_Read.calls (b : ByteArray) (hb : b.size ≤ 1000000) (w : World) : Calls Tryz.prog 49 #[.string b] w (ReadPost (L b) w) := by
 have hmf : ∀ (fn : Fn) (first cap : Array Value) (w : World), (Instr.makeFunc fn first cap).run Tryz.prog w = .ok (.func fn first cap) w := fun _ _ _ _ => rfl
 have hq := crc_Open_S b (by omega)
 have HQ := Aside0.mk hq
 clear hq
 go_enter_defers Tryz.func49, Tryz.ntmps49
 go_wp2_with fail
 refine (crc_Open.calls b _ _ _ HQ.out).mono ?_
 rintro e w1 ⟨rfl, b1⟩
 have XM := Aside0.mk (blk_below (blk_alloc (blk_new w (.cells #[.int .i64 0, .slice none 0 0] 25)) (.cells #[.int .i64 0] 40)) b1)
 have XE := Aside0.mk (show w1.heap[w.heap.size + 1]? = some (.cells #[.int .i64 0] 40) by
  have := blk_below (blk_new (w.alloc (.cells #[.int .i64 0, .slice none 0 0] 25)) (.cells #[.int .i64 0] 40)) b1
  simpa using this)
 have B1 := Aside0.mk (((Below.refl w.heap.size w).alloc (Nat.le_refl _) (.cells #[.int .i64 0, .slice none 0 0] 25)).alloc (by simp) (.cells #[.int .i64 0] 40) |>.trans (b1.mono (by simp; omega)))
 have HZ := Aside0.mk (show w.heap.size + 2 ≤ w1.heap.size by have := b1.size; simp at this; omega)
 clear b1
 obtain ⟨c0, c1, fm⟩ := cells2m XM.out
 obtain ⟨c2, fe⟩ := cells1' XE.out
 cases ho : (openS (L b)).2 with
 | false =>
  have HR := Aside0.mk (show readR (L b) = (none, 4) by unfold readR; rw [ho]; rfl)
  go_wp2_with fail
  have XM2 : ((w1.setCell ⟨w.heap.size, 0, none⟩ (.int .i64 0)).setCell ⟨w.heap.size, 1, none⟩ (.slice none 0 0)).heap[w.heap.size]? = some (.cells #[.int .i64 0, .slice none 0 0] 25) := by simpa using blk_set (blk_set XM.out 0 (.int .i64 0)) 1 (.slice none 0 0)
  have XE2 : ((w1.setCell ⟨w.heap.size, 0, none⟩ (.int .i64 0)).setCell ⟨w.heap.size, 1, none⟩ (.slice none 0 0)).heap[w.heap.size + 1]? = some (.cells #[.int .i64 0] 40) := (Below.heap_setCell _ _ _ _ (by show w.heap.size + 1 ≠ w.heap.size; omega)).trans ((Below.heap_setCell _ _ _ _ (by show w.heap.size + 1 ≠ w.heap.size; omega)).trans XE.out)
  refine read_leave_ok (m := w.heap.size) (e := w.heap.size + 1) (a := .int .i64 0) (b := .slice none 0 0) (c := .int .i64 4) ((Below.heap_setCell _ _ _ _ (by show w.heap.size ≠ w.heap.size + 1; omega)).trans XM2) (by simpa using blk_set XE2 0 (.int .i64 4)) rfl rfl ?_
  exact ⟨((B1.out.setCell (p := ⟨w.heap.size, 0, none⟩) (Nat.le_refl _) _).setCell (p := ⟨w.heap.size, 1, none⟩) (Nat.le_refl _) _).setCell (p := ⟨w.heap.size + 1, 0, none⟩) (by show w.heap.size ≤ w.heap.size + 1; omega) _, Or.inr ⟨4, HR.out, rfl⟩⟩
 | true =>
  have HO := Aside0.mk ho
  obtain ⟨s0, hs0⟩ : ∃ s, (openS (L b)).1 = s := ⟨_, rfl⟩
  have HS0 := Aside0.mk hs0
  have hs0l : s0.length ≤ 1000000 := by
   rw [← hs0]
   unfold openS
   have : (L b).length = b.size := L_length b
   split
   ·simp
   ·split
    ·rw [List.length_drop]; omega
    ·simp
  rw [hs0]
  have HRD := Aside0.mk (show readR (L b) = match (tk 999999 s0).bind fun a => (tk 200 a.2).bind fun k => (segsN k.1 k.2).bind fun p => if p.2 = [] ∧ rightB (a.1 : Nat) (p.1.map mkSg) = true then some (a.1, p.1) else none with
   | some r => (some r, 0)
   | none => (none, 2) by unfold readR; rw [ho, hs0]; rfl)
  have HS0L := Aside0.mk hs0l
  clear ho hs0 hs0l
  go_wp2_with fail
  have XR := Aside0.mk (blk_new w1 (.cells #[.string (B s0)] 132))
  have XM2 := Aside0.mk (blk_alloc XM.out (.cells #[.string (B s0)] 132))
  have XE2 := Aside0.mk (blk_alloc XE.out (.cells #[.string (B s0)] 132))
  have B2 := Aside0.mk (B1.out.alloc B1.out.size (.cells #[.string (B s0)] 132))
  obtain ⟨r, hr⟩ : ∃ r, w1.heap.size = r := ⟨_, rfl⟩
  obtain ⟨w2, hw2⟩ : ∃ w2, w1.alloc (.cells #[.string (B s0)] 132) = w2 := ⟨_, rfl⟩
  rw [hr] at HZ XR ⊢
  rw [hw2] at XR XM2 XE2 B2 ⊢
  have HR2 := Aside0.mk (show r < w2.heap.size from lt_of_block XR.out)
  clear hr hw2 c0 c1 fm c2 fe
  refine (take_calls r 999999 (by decide) s0 HS0L.out _ XR.out).mono ?_
  rintro e w3 ⟨f3, ⟨v, s1, ht, rfl, hv, hl, hc⟩ | ⟨ht, rfl, hc⟩⟩
  ·have XM3 := Aside0.mk (f3.keeps XM2.out (by have := HZ.out; omega))
   have XE3 := Aside0.mk (f3.keeps XE2.out (by have := HZ.out; omega))
   have B3 := Aside0.mk (B2.out.trans (f3.below B2.out.size (fun i _ h => by have := HZ.out; omega)))
   have XR3 := Aside0.mk hc
   have HT := Aside0.mk ht
   have HS1L := Aside0.mk (Nat.le_trans hl HS0L.out)
   have HW3 := Aside0.mk (Nat.lt_of_lt_of_le HR2.out f3.size)
   clear f3 ht hl hc XM2 XE2 B2 XR HR2
   obtain ⟨c0, c1, fm⟩ := cells2m XM3.out
   go_wp2_with fail
   obtain ⟨w4, hw4⟩ : ∃ w4, w3.setCell ⟨w.heap.size, 0, none⟩ (.int .i64 (v : Nat)) = w4 := ⟨_, rfl⟩
   have XM4 := Aside0.mk (show w4.heap[w.heap.size]? = some (.cells #[.int .i64 (v : Nat), .slice none 0 0] 25) by rw [← hw4]; simpa using blk_set XM3.out 0 (.int .i64 (v : Nat)))
   have XE4 := Aside0.mk (show w4.heap[w.heap.size + 1]? = some (.cells #[.int .i64 0] 40) by rw [← hw4]; exact (Below.heap_setCell _ _ _ _ (by show w.heap.size + 1 ≠ w.heap.size; omega)).trans XE3.out)
   have XR4 := Aside0.mk (show w4.heap[r]? = some (.cells #[.string (B s1)] 132) by rw [← hw4]; exact (Below.heap_setCell _ _ _ _ (by have := HZ.out; show r ≠ w.heap.size; omega)).trans XR3.out)
   have B4 := Aside0.mk (show Below w.heap.size w w4 by rw [← hw4]; exact B3.out.setCell (p := ⟨w.heap.size, 0, none⟩) (Nat.le_refl _) _)
   have HW4 := Aside0.mk (show r < w4.heap.size from lt_of_block XR4.out)
   rw [hw4]
   clear hw4 c0 c1 fm XM3 XE3 XR3 B3 HW3
   refine (take_calls r 200 (by decide) s1 HS1L.out _ XR4.out).mono ?_
   rintro e w5 ⟨f5, ⟨k, s2, ht, rfl, hv2, hl, hc⟩ | ⟨ht, rfl, hc⟩⟩
   ·have XM5 := Aside0.mk (f5.keeps XM4.out (by have := HZ.out; omega))
    have XE5 := Aside0.mk (f5.keeps XE4.out (by have := HZ.out; omega))
    have B5 := Aside0.mk (B4.out.trans (f5.below B4.out.size (fun i _ h => by have := HZ.out; omega)))
    have XR5 := Aside0.mk hc
    have HK := Aside0.mk ht
    have HS2L := Aside0.mk (Nat.le_trans hl HS1L.out)
    have HW5 := Aside0.mk (Nat.lt_of_lt_of_le HW4.out f5.size)
    clear f5 ht hl hc XM4 XE4 B4 XR4 HW4
    go_wp2_with fail
    go_loopw [29] (fun v29 wr => ∃ (j : Nat) (l : List (Nat × Nat × Nat)) (s : Bs) (A : Option Addr) (c : Nat), j ≤ k ∧ v29 = .int .i64 j ∧ Aside0 (segsN j s2 = some (l, s)) ∧ Aside0 (l.length = j) ∧ Aside0 (s.length ≤ 1000000) ∧ Aside0 (wr.heap[r]? = some (.cells #[.string (B s)] 132)) ∧ Aside0 (wr.heap[w.heap.size]? = some (.cells #[.int .i64 (v : Nat), .slice A j c] 25)) ∧ Aside0 (wr.heap[w.heap.size + 1]? = some (.cells #[.int .i64 0] 40)) ∧ Aside0 (Kd.R k45 45 wr w5.heap.size (fun _ => True) (.slice A j c) (l.map mkSg)) ∧ Aside0 (Below w.heap.size w wr) ∧ Aside0 (w5.heap.size ≤ wr.heap.size)) (fun v29 _ => k - (intOf v29).toNat)
    case atStart => exact ⟨0, [], s2, none, 0, Nat.zero_le _, rfl, ⟨rfl⟩, ⟨rfl⟩, HS2L, XR5, XM5, XE5, ⟨Kd.R_nil _ _ _ _ _⟩, B5, ⟨Nat.le_refl _⟩⟩
    case round =>
     obtain ⟨j, l, s, A, c, hj, rfl, HSG, HLN, HSL, XRj, XMj, XEj, RJ, BJ, ZJ⟩ := hrel
     by_cases hjk : j < k
     ·have djk : decide ((j : Int) < (k : Int)) = true := decide_eq_true (by omega)
      have FAIL := Aside0.mk (show seg1 s = none → readR (L b) = (none, 2) from fun h => by rw [HRD.out, HT.out]; simp only [Option.bind_some, HK.out, segsN_fail HSG.out h hjk]; rfl)
      have RJ0 := Aside0.mk (Kd.R_mono (Kd.R_bound RJ.out) (ok' := fun q => w5.heap.size ≤ q) (fun q hq => hq.2.1))
      go_wp2_with fail
      refine (take_calls r 999999 (by decide) s HSL.out _ XRj.out).mono ?_
      rintro e wa ⟨f, ⟨n, ta, ht, rfl, hva, hl, hc⟩ | ⟨ht, rfl, hc⟩⟩
      rotate_left
      ·exact read_fail (BJ.out.trans (f.below BJ.out.size (fun i _ h => by have := HZ.out; omega))) (FAIL.out (by unfold seg1; rw [ht]; rfl)) (f.keeps XMj.out (by have := HZ.out; omega)) (f.keeps XEj.out (by have := HZ.out; omega)) rfl rfl
      have XMa := Aside0.mk (f.keeps XMj.out (by have := HZ.out; omega))
      have XEa := Aside0.mk (f.keeps XEj.out (by have := HZ.out; omega))
      have Ba := Aside0.mk (BJ.out.trans (f.below BJ.out.size (fun i _ h => by have := HZ.out; omega)))
      have XRa := Aside0.mk hc
      have HSLa := Aside0.mk (Nat.le_trans hl HSL.out)
      have Ra := Aside0.mk (Kd.R_step RJ0.out (fun q hq hlt => f.block q hlt (fun e => by have := HW5.out; omega)))
      have HTa := Aside0.mk ht
      have Za := Aside0.mk (Nat.le_trans ZJ.out f.size)
      clear f ht hl hc
      go_wp2_with fail
      refine (take_calls r 1048576 (by decide) ta HSLa.out _ XRa.out).mono ?_
      rintro e wb ⟨f, ⟨z, tb, ht, rfl, hvb, hl, hc⟩ | ⟨ht, rfl, hc⟩⟩
      rotate_left
      ·exact read_fail (Ba.out.trans (f.below Ba.out.size (fun i _ h => by have := HZ.out; omega))) (FAIL.out (by unfold seg1; rw [HTa.out]; simp only [Option.bind_some, ht]; rfl)) (f.keeps XMa.out (by have := HZ.out; omega)) (f.keeps XEa.out (by have := HZ.out; omega)) rfl rfl
      have XMb := Aside0.mk (f.keeps XMa.out (by have := HZ.out; omega))
      have XEb := Aside0.mk (f.keeps XEa.out (by have := HZ.out; omega))
      have Bb := Aside0.mk (Ba.out.trans (f.below Ba.out.size (fun i _ h => by have := HZ.out; omega)))
      have XRb := Aside0.mk hc
      have HSLb := Aside0.mk (Nat.le_trans hl HSLa.out)
      have Rb := Aside0.mk (Kd.R_step Ra.out (fun q hq hlt => f.block q hlt (fun e => by have := HW5.out; omega)))
      have HTb := Aside0.mk ht
      have Zb := Aside0.mk (Nat.le_trans Za.out f.size)
      clear f ht hl hc
      go_wp2_with fail
      refine (take_calls r 4294967295 (by decide) tb HSLb.out _ XRb.out).mono ?_
      rintro e wc ⟨f, ⟨u, td, ht, rfl, hvc, hl, hc⟩ | ⟨ht, rfl, hc⟩⟩
      rotate_left
      ·exact read_fail (Bb.out.trans (f.below Bb.out.size (fun i _ h => by have := HZ.out; omega))) (FAIL.out (by unfold seg1; rw [HTa.out]; simp only [Option.bind_some, HTb.out, ht]; rfl)) (f.keeps XMb.out (by have := HZ.out; omega)) (f.keeps XEb.out (by have := HZ.out; omega)) rfl rfl
      have XMc := Aside0.mk (f.keeps XMb.out (by have := HZ.out; omega))
      have XEc := Aside0.mk (f.keeps XEb.out (by have := HZ.out; omega))
      have Bc := Aside0.mk (Bb.out.trans (f.below Bb.out.size (fun i _ h => by have := HZ.out; omega)))
      have XRc := Aside0.mk hc
      have HSLc := Aside0.mk (Nat.le_trans hl HSLb.out)
      have Rc := Aside0.mk (Kd.R_step Rb.out (fun q hq hlt => f.block q hlt (fun e => by have := HW5.out; omega)))
      have HTc := Aside0.mk ht
      have Zc := Aside0.mk (Nat.le_trans Zb.out f.size)
      clear f ht hl hc
      obtain ⟨c0, c1, fm⟩ := cells2m XMc.out
      have HLM := Aside0.mk (show (l.map mkSg).length = j by rw [List.length_map, HLN.out])
      go_wp2_with (at_builtin; refine Kd.R_append k45 (w0 := wc) w5.heap.size rfl (.tmp 38) (.tmp 46) 23 45 (.agg #[.int .i64 0, .int .i64 0, .int .u32 0]) 24 rfl Tryz.underlying23 infoSeg rfl (by decide) (by omega) (.slice A j c) (l.map mkSg) (mkSg (n, z, u)) [.int .i64 (n : Nat), .int .i64 (z : Nat), .int .u32 (u : Nat)] (fun q => w5.heap.size ≤ q) (fun _ => False) rfl rfl (k45_mkM _ _ _ (mkSg (n, z, u))) (fun _ hk => hk.elim) (fun k hk => Nat.le_trans Zc.out hk) Rc.out (Below.refl _ _) Zc.out (by rw [HLM.out]; omega) ?_; intro v1 wd hR hB hg hat; obtain ⟨A6, c6, rfl⟩ := Kd.R_slice hR; have HRd := Aside0.mk hR; have HBd := Aside0.mk hB; clear hR hB hg hat; obtain ⟨c0', c1', fm'⟩ := cells2m (HBd.out.block w.heap.size (by have := HW5.out; have := HZ.out; omega) ▸ XMc.out))
      rw [show l.length = j from HLN.out]
      have hlm : (l.map mkSg ++ [mkSg (n, z, u)]).length = j + 1 := by rw [List.length_append, HLM.out]; rfl
      rw [hlm] at HRd
      have q1 : ∀ q : Nat, q < w5.heap.size → q ≠ w.heap.size → (wd.setCell ⟨w.heap.size, 1, none⟩ (.slice A6 (j + 1) c6)).heap[q]? = wc.heap[q]? := fun q h1 h2 => (Below.heap_setCell _ _ _ _ h2).trans (HBd.out.block q h1)
      go_roundw
      case measure => show k - ((j : Int) + 1).toNat < k - (j : Int).toNat; omega
      refine ⟨j + 1, l ++ [(n, z, u)], td, A6, c6, by omega, rfl, ⟨?_⟩, ⟨by rw [List.length_append, HLN.out, List.length_singleton]⟩, HSLc, ⟨(q1 r HW5.out (by have := HZ.out; omega)).trans XRc.out⟩, ⟨?_⟩, ⟨(q1 _ (by have := HW5.out; have := HZ.out; omega) (by omega)).trans XEc.out⟩, ⟨?_⟩, ⟨?_⟩, ⟨?_⟩⟩
      ·rw [segsN_next HSG.out]
       unfold seg1
       rw [HTa.out]
       simp only [Option.bind_some, HTb.out, HTc.out]
      ·simpa using blk_set ((HBd.out.block _ (by have := HW5.out; have := HZ.out; omega)).trans XMc.out) 1 (.slice A6 (j + 1) c6)
      ·rw [List.map_append]
       exact Kd.R_mono (Kd.R_far HRd.out (p := ⟨w.heap.size, 1, none⟩) (fun q hq => by have := HW5.out; have := HZ.out; show q ≠ w.heap.size; omega) _) (fun _ _ => trivial)
      ·exact (Bc.out.trans (HBd.out.mono (by have := HW5.out; have := HZ.out; omega))).setCell (p := ⟨w.heap.size, 1, none⟩) (Nat.le_refl _) _
      ·have := HBd.out.size
       have := Zc.out
       simp [World.setCell]
       omega
     ·have djk : decide ((j : Int) < (k : Int)) = false := decide_eq_false (by omega)
      obtain rfl : j = k := by omega
      obtain ⟨c0, c1, fm⟩ := cells2m XMj.out
      obtain ⟨c2, fe⟩ := cells1' XEj.out
      obtain ⟨c3, fr⟩ := cells1' XRj.out
      have HEM := Aside0.mk (show (B s).toList = [] ↔ s = [] by
       rw [Lib.toList_data]
       show s.toArray.toList = [] ↔ s = []
       simp)
      have HRR := Aside0.mk (fun h : ¬ (s = [] ∧ rightB (v : Nat) (l.map mkSg) = true) => (show readR (L b) = (none, 2) by rw [HRD.out, HT.out]; simp only [Option.bind_some, HK.out, HSG.out]; rw [if_neg h]))
      by_cases hem : (B s).toList = []
      case neg =>
       have HFR := Aside0.mk (HRR.out (fun h => hem (HEM.out.2 h.1)))
       go_wp2_with fail
       refine (must_calls false _).mono ?_
       rintro e wz ⟨rfl, ⟨h, _⟩ | ⟨_, rfl⟩⟩
       ·cases h
       ·exact read_fail BJ.out HFR.out XMj.out XEj.out rfl rfl
      case pos =>
       have HSE := Aside0.mk (HEM.out.1 hem)
       have hlm : (l.map mkSg).length = j := by rw [List.length_map, HLN.out]
       obtain ⟨qr, hqr⟩ := Ev.rounds (ev_Right (v : Nat) (l.map mkSg) (by omega))
       have HQR := Aside0.mk hqr
       have HRJ := Aside0.mk (Kd.R_reads' RJ.out)
       obtain ⟨rb, hrb⟩ : ∃ rb, rightB (v : Nat) (l.map mkSg) = rb := ⟨_, rfl⟩
       have HRB := Aside0.mk hrb
       rw [hrb] at HQR
       clear hqr hrb hlm
       go_wp2_with fail
       have hcl := manifest_Right.calls qr (v : Nat) A c (l.map mkSg) rb wr (HRJ.out.1 ▸ HRJ.out.2.2) (HRJ.out.1 ▸ HRJ.out.2.1) HQR.out
       rw [← HRJ.out.1] at hcl
       refine hcl.mono ?_
       rintro e wy ⟨rfl, by_⟩
       have XMy := Aside0.mk (blk_below XMj.out by_)
       have XEy := Aside0.mk (blk_below XEj.out by_)
       have By := Aside0.mk (BJ.out.trans (by_.mono BJ.out.size))
       have RJy := Aside0.mk (Kd.R_below RJ.out by_)
       clear by_ hcl c0 c1 fm c2 fe c3 fr
       obtain ⟨c0, c1, fm⟩ := cells2m XMy.out
       obtain ⟨c2, fe⟩ := cells1' XEy.out
       cases rb with
       | false =>
        have HFR := Aside0.mk (HRR.out (fun h => by rw [HRB.out] at h; exact absurd h.2 (by simp)))
        go_wp2_with fail
        refine (must_calls false _).mono ?_
        rintro e wz ⟨rfl, ⟨h, _⟩ | ⟨_, rfl⟩⟩
        ·cases h
        ·exact read_fail By.out HFR.out XMy.out XEy.out rfl rfl
       | true =>
        have HOK := Aside0.mk (show readR (L b) = (some (v, l), 0) by rw [HRD.out, HT.out]; simp only [Option.bind_some, HK.out, HSG.out]; rw [if_pos ⟨HSE.out, HRB.out⟩])
        go_wp2_with fail
        refine (must_calls true _).mono ?_
        rintro e wz ⟨rfl, ⟨_, rfl⟩ | ⟨h, _⟩⟩
        ·go_wp2_with fail
         have XM2 : ((wz.setCell ⟨w.heap.size, 0, none⟩ (.int .i64 (v : Nat))).setCell ⟨w.heap.size, 1, none⟩ (.slice A j c)).heap[w.heap.size]? = some (.cells #[.int .i64 (v : Nat), .slice A j c] 25) := by simpa using blk_set (blk_set XMy.out 0 (.int .i64 (v : Nat))) 1 (.slice A j c)
         have XE2 : ((wz.setCell ⟨w.heap.size, 0, none⟩ (.int .i64 (v : Nat))).setCell ⟨w.heap.size, 1, none⟩ (.slice A j c)).heap[w.heap.size + 1]? = some (.cells #[.int .i64 0] 40) := (Below.heap_setCell _ _ _ _ (by show w.heap.size + 1 ≠ w.heap.size; omega)).trans ((Below.heap_setCell _ _ _ _ (by show w.heap.size + 1 ≠ w.heap.size; omega)).trans XEy.out)
         refine read_leave_ok (m := w.heap.size) (e := w.heap.size + 1) (a := .int .i64 (v : Nat)) (b := .slice A j c) (c := .int .i64 0) ((Below.heap_setCell _ _ _ _ (by show w.heap.size ≠ w.heap.size + 1; omega)).trans XM2) (by simpa using blk_set XE2 0 (.int .i64 0)) rfl rfl ?_
         have hlow : ∀ q : Nat, w5.heap.size ≤ q → q ≠ w.heap.size ∧ q ≠ w.heap.size + 1 := fun q hq => by have := HW5.out; have := HZ.out; omega
         have hR0 := Kd.R_mono (Kd.R_bound RJy.out) (ok' := fun q => w5.heap.size ≤ q) (fun q hq => hq.2.1)
         have hR1 := Kd.R_far hR0 (p := ⟨w.heap.size, 0, none⟩) (fun q hq => (hlow q hq).1) (.int .i64 (v : Nat))
         have hR2 := Kd.R_far hR1 (p := ⟨w.heap.size, 1, none⟩) (fun q hq => (hlow q hq).1) (.slice A j c)
         have hR3 := Kd.R_far hR2 (p := ⟨w.heap.size + 1, 0, none⟩) (fun q hq => (hlow q hq).2) (.int .i64 0)
         refine ⟨((By.out.setCell (p := ⟨w.heap.size, 0, none⟩) (Nat.le_refl _) _).setCell (p := ⟨w.heap.size, 1, none⟩) (Nat.le_refl _) _).setCell (p := ⟨w.heap.size + 1, 0, none⟩) (by show w.heap.size ≤ w.heap.size + 1; omega) _, Or.inl ⟨v, l, A, c, HOK.out, by rw [HLN.out], ?_⟩⟩
         rw [HLN.out]
         exact Kd.R_lower (Kd.R_mono hR3 (fun _ _ => trivial)) (by have := HW5.out; have := HZ.out; omega)
        ·cases h
   ·exact read_fail (B4.out.trans (f5.below B4.out.size (fun i _ h => by have := HZ.out; omega))) (by rw [HRD.out, HT.out]; simp only [Option.bind_some, ht]; rfl) (f5.keeps XM4.out (by have := HZ.out; omega)) (f5.keeps XE4.out (by have := HZ.out; omega)) rfl rfl
  ·exact read_fail (B2.out.trans (f3.below B2.out.size (fun i _ h => by have := HZ.out; omega))) (by rw [HRD.out, ht]; rfl) (f3.keeps XM2.out (by have := HZ.out; omega)) (f3.keeps XE2.out (by have := HZ.out; omega)) rfl rfl
end Go.Proofs.YtlnbekaldemebaaGreatDoor.Thw
/-! ## Layer 12: Bytes; what Read tells of Bytes, and back. -/
namespace Go.Proofs.YtlnbekaldemebaaGreatDoor.Thw
open Go Go.RowKit Go.Proofs.YtlnbekaldemebaaGreatDoor.Print Go.Proofs.YtlnbekaldemebaaGreatDoorW.PrintWords Go.Proofs.YtlnbekaldemebaaGreatDoorW.PrintLast Go.Proofs.YtlnbekaldemebaaGreatDoorW.PrintMore
set_option linter.unusedVariables false
set_option linter.unusedSimpArgs false
abbrev SgI := S45
def unSg (x : SgI) : Sn := (x.f0.toNat, x.f1.toNat, x.f2.toNat)
def U32 (x : SgI) : Prop := 0 ≤ x.f2 ∧ x.f2 ≤ 4294967295
theorem rightS_mem : ∀ (l : List SgI) (last : Int), -1 ≤ last → rightS last l = true → ∀ x ∈ l, 0 ≤ x.f0 ∧ x.f0 ≤ 999999 ∧ 0 ≤ x.f1 ∧ x.f1 ≤ 1048576
 | [], _, _, _, x, hx => by cases hx
 | y :: l, last, hl, h, x, hx => by
  rw [rightS] at h
  simp only [Bool.and_eq_true, Bool.not_eq_true', Bool.or_eq_false_iff, decide_eq_false_iff_not] at h
  obtain ⟨⟨⟨⟨h1, h2⟩, h3⟩, h4⟩, h5⟩ := h
  rcases List.mem_cons.1 hx with rfl | hx
  ·exact ⟨by omega, by omega, by omega, by omega⟩
  ·exact rightS_mem l y.f0 (by omega) h5 x hx
theorem rightB_of {v : Int} {l : List SgI} (h : rightB v l = true) : 1 ≤ v ∧ v ≤ 999999 ∧ l.length ≤ 200 ∧ ∀ x ∈ l, 0 ≤ x.f0 ∧ x.f0 ≤ 999999 ∧ 0 ≤ x.f1 ∧ x.f1 ≤ 1048576 := by
 unfold rightB at h
 simp only [Bool.and_eq_true, decide_eq_true_eq] at h
 exact ⟨h.1.1.2, h.1.2, h.2, rightS_mem l (-1) (by omega) h.1.1.1⟩
theorem un_mk (p : Sn) : unSg (mkSg p) = p := by
 unfold mkSg unSg
 simp
theorem map_un_mk (l : List Sn) : (l.map mkSg).map unSg = l := by
 rw [List.map_map]
 conv => rhs; rw [← List.map_id l]
 exact List.map_congr_left fun p _ => un_mk p
def bytesR (v : Int) (l : List SgI) : ByteArray × Int := if rightB v l = true then (B (sealS (bodyS v.toNat (l.map unSg))), 0) else (⟨#[]⟩, 1)
theorem readR_put {v : Nat} {l : List Sn} (h : rightB (v : Nat) (l.map mkSg) = true) (hu : ∀ p ∈ l, p.2.2 ≤ 4294967295) : readR (sealS (bodyS v l)) = (some (v, l), 0) := by
 obtain ⟨h1, h2, h3, h4⟩ := rightB_of h
 have hf : ∀ p ∈ l, Fits p := fun p hp => by
  have := h4 (mkSg p) (List.mem_map_of_mem hp)
  have hh := hu p hp
  unfold mkSg at this
  simp only at this
  exact ⟨by omega, by omega, hh⟩
 rw [List.length_map] at h3
 unfold readR
 rw [openS_seal, if_pos rfl]
 have e1 : tk 999999 (bodyS v l) = some (v, putS l.length ++ segsB l) := by
  unfold bodyS
  rw [List.append_assoc]
  exact tk_put (by omega) (by omega) _
 have e2 : tk 200 (putS l.length ++ segsB l) = some (l.length, segsB l) := tk_put (by omega) (by omega) _
 have e3 : segsN l.length (segsB l) = some (l, []) := by
  have := segsN_put l.length l [] rfl hf
  rwa [List.append_nil] at this
 simp only [e1, Option.bind_some, e2, e3, h, and_self, if_true]
theorem readR_of {b : Bs} {v : Nat} {l : List Sn} {e : Int} (h : readR b = (some (v, l), e)) : b = sealS (bodyS v l) ∧ rightB (v : Nat) (l.map mkSg) = true ∧ (∀ p ∈ l, Fits p) ∧ e = 0 := by
 unfold readR at h
 split at h
 ·rename_i ho
  have hb : sealS (openS b).1 = b := by
   rcases openS_told b with ⟨s, h1, h2⟩ | h1
   ·rw [h1]; exact h2
   ·rw [h1] at ho; cases ho
  split at h
  ·rename_i r hr
   simp only [Prod.mk.injEq, Option.some.injEq] at h
   obtain ⟨rfl, rfl⟩ := h
   obtain ⟨⟨a, s1⟩, h1, hr⟩ := Option.bind_eq_some_iff.1 hr
   obtain ⟨⟨k, s2⟩, h2, hr⟩ := Option.bind_eq_some_iff.1 hr
   obtain ⟨⟨m, s3⟩, h3, hr⟩ := Option.bind_eq_some_iff.1 hr
   simp only at h2 h3 hr
   split at hr
   ·rename_i hc
    simp only [Option.some.injEq, Prod.mk.injEq] at hr
    obtain ⟨rfl, rfl⟩ := hr
    obtain ⟨e1, _, _⟩ := tk_of h1
    obtain ⟨e2, _, _⟩ := tk_of h2
    obtain ⟨e3, l3, f3⟩ := segsN_of k h3
    have h4 : s3 = [] := hc.1
    refine ⟨?_, hc.2, f3, rfl⟩
    rw [← hb, e1, e2, e3, h4, ← l3]
    unfold bodyS
    simp
   ·cases hr
  ·cases h
 ·cases h
theorem readR_err (b : Bs) : (∃ v l, readR b = (some (v, l), 0)) ∨ (readR b = (none, 2) ∧ (openS b).2 = true) ∨ (readR b = (none, 4) ∧ (openS b).2 = false) := by
 cases ho : (openS b).2 with
 | true =>
  cases h : readR b with
  | mk o e =>
   cases o with
   | some r => exact Or.inl ⟨r.1, r.2, by rw [(readR_of h).2.2.2]⟩
   | none =>
    refine Or.inr (Or.inl ⟨?_, rfl⟩)
    unfold readR at h
    rw [if_pos ho] at h
    split at h
    ·cases h
    ·rw [← h]
 | false =>
  refine Or.inr (Or.inr ⟨?_, rfl⟩)
  unfold readR
  rw [if_neg (by rw [ho]; simp)]
theorem putS_len (n : Nat) : (putS n).length ≤ 10 := by have := putS_length n; omega
theorem segsB_len (l : List Sn) : (segsB l).length ≤ 30 * l.length := by
 induction l with
 | nil => simp [segsB]
 | cons p l ih =>
  have h1 := putS_len p.1
  have h2 := putS_len p.2.1
  have h3 := putS_len p.2.2
  have h4 : (segB p).length ≤ 30 := by
   unfold segB
   rw [List.length_append, List.length_append]
   omega
  unfold segsB at ih ⊢
  rw [List.map_cons, List.flatten_cons, List.length_append, List.length_cons]
  omega
set_option maxHeartbeats 1600000 in
theorem ev_Bytes (v : Int) (l : List SgI) (hl : l.length ≤ 1000) (hu : ∀ x ∈ l, U32 x) : Ev (fun k => manifest_Bytes.f k v l) (bytesR v l) := by
 unfold manifest_Bytes.f bytesR
 refine Ev.bind (ev_Right v l (by omega)) ?_
 cases hr : rightB v l with
 | false =>
  rw [if_neg (by simp)]
  exact ev_some fun _ => if_neg (by simp)
 | true =>
  rw [if_pos rfl]
  obtain ⟨h1, h2, h3, h4⟩ := rightB_of hr
  obtain ⟨vn, rfl⟩ : ∃ n : Nat, v = (n : Int) := ⟨v.toNat, by omega⟩
  have ev : IntKind.u64.wrap (vn : Int) = (vn : Int) := u64_in (by omega) (by omega)
  have el : IntKind.u64.wrap (l.length : Int) = (l.length : Int) := u64_in (by omega) (by omega)
  refine ev_yes ?_
  rw [ev, el]
  refine ev_bind_now (varint_Put_N vn (by omega)) ?_
  refine ev_bind_now (varint_Put_N l.length (by omega)) ?_
  have z1 := putS_len vn
  have z2 := putS_len l.length
  refine ev_if_pos (by rw [B_size, B_size]; omega) ?_
  rw [Int.toNat_natCast]
  have hap : ∀ a b : Bs, B a ++ B b = B (a ++ b) := fun a b => L_inj (by simp [L, B])
  have step : ∀ (d i : Nat), i + d = l.length → Ev (fun k => manifest_Bytes.l0 k (B (putS vn ++ putS l.length ++ segsB ((l.take i).map unSg))) l (l.length : Int) (i : Int)) (B (sealS (bodyS vn (l.map unSg))), 0) := by
   intro d
   induction d with
   | zero =>
    intro i hi
    have ht : l.take i = l := List.take_of_length_le (by omega)
    rw [ht]
    have hz := segsB_len (l.map unSg)
    rw [List.length_map] at hz
    refine Ev.step (f := fun _ => (crc_Seal.f (B (putS vn ++ putS l.length ++ segsB (l.map unSg)))).bind fun t => some (t, 0)) (fun k => ?_) ?_
    ·rw [manifest_Bytes.l0, if_neg (by omega)]
    ·rw [crc_Seal_S _ (by rw [B_size, List.length_append, List.length_append]; omega), L_B]
     refine ev_some fun _ => ?_
     unfold bodyS
     rw [List.length_map]
     rfl
   | succ d ih =>
    intro i hi
    have hlt : i < l.length := by omega
    have hx : rd_T45 l (i : Int) = l[i] := by
     unfold rd_T45
     rw [Int.toNat_natCast, List.getD_eq_getElem?_getD, List.getElem?_eq_getElem hlt]
     rfl
    have hi1 : wrap64 ((i : Int) + 1) = ((i + 1 : Nat) : Int) := by rw [wrap64_in (by omega) (by omega)]; omega
    have ih' := ih (i + 1) (by omega)
    have hsz := segsB_len ((l.take i).map unSg)
    rw [List.length_map, List.length_take] at hsz
    rw [List.take_succ_eq_append_getElem hlt, List.map_append, List.map_singleton, segsB_snoc] at ih'
    have hm := h4 _ (List.getElem_mem hlt)
    have hmu := hu _ (List.getElem_mem hlt)
    unfold U32 at hmu
    generalize segsB ((l.take i).map unSg) = acc at ih' hsz ⊢
    generalize l[i] = x at hx ih' hm hmu ⊢
    obtain ⟨x0, x1, x2⟩ := x
    simp only at hm hmu
    obtain ⟨n0, rfl⟩ : ∃ n : Nat, x0 = (n : Int) := ⟨x0.toNat, by omega⟩
    obtain ⟨n1, rfl⟩ : ∃ n : Nat, x1 = (n : Int) := ⟨x1.toNat, by omega⟩
    obtain ⟨n2, rfl⟩ : ∃ n : Nat, x2 = (n : Int) := ⟨x2.toNat, by omega⟩
    have y0 := putS_len n0
    have y1 := putS_len n1
    have y2 := putS_len n2
    have w0 : IntKind.u64.wrap (n0 : Int) = (n0 : Int) := u64_in (by omega) (by omega)
    have w1 : IntKind.u64.wrap (n1 : Int) = (n1 : Int) := u64_in (by omega) (by omega)
    have w2 : IntKind.u64.wrap (n2 : Int) = (n2 : Int) := u64_in (by omega) (by omega)
    have hb : segB (unSg ⟨(n0 : Int), (n1 : Int), (n2 : Int)⟩) = putS n0 ++ putS n1 ++ putS n2 := by
     unfold segB unSg
     simp
    rw [hb] at ih'
    refine Ev.step (f := fun k => manifest_Bytes.l0 k (B (putS vn ++ putS l.length ++ (acc ++ (putS n0 ++ putS n1 ++ putS n2)))) l (l.length : Int) ((i + 1 : Nat) : Int)) (fun k => ?_) ih'
    rw [manifest_Bytes.l0, if_pos (by omega), if_pos (by omega), if_pos (by omega), hx, hi1]
    simp only
    rw [w0, w1, w2, varint_Put_N n0 (by omega), Option.bind_some, varint_Put_N n1 (by omega), Option.bind_some, if_pos (by rw [B_size, B_size]; omega), varint_Put_N n2 (by omega), Option.bind_some, if_pos (by rw [B_size, B_size, B_size]; omega),
     if_pos (by rw [B_size, B_size, B_size, B_size, List.length_append, List.length_append]; omega), hap, hap, hap]
    simp only [List.append_assoc]
  have h0 := step l.length 0 (by omega)
  rw [hap]
  have e0 : segsB ((l.take 0).map unSg) = [] := rfl
  rw [e0, List.append_nil] at h0
  exact h0
end Go.Proofs.YtlnbekaldemebaaGreatDoor.Thw
/-! ## Layer 12: awake. -/
namespace Go.Proofs.YtlnbekaldemebaaGreatDoor.Thw
open Go Go.RowKit Go.Proofs.YtlnbekaldemebaaGreatDoor.Print Go.Proofs.YtlnbekaldemebaaGreatDoorW.PrintWords Go.Proofs.YtlnbekaldemebaaGreatDoorW.PrintLast Go.Proofs.YtlnbekaldemebaaGreatDoorW.PrintMore
set_option linter.unusedVariables false
set_option linter.unusedSimpArgs false
theorem manifest_Of_S (n : Int) (b : ByteArray) (hb : b.size ≤ 4611686018427387904) : manifest_Of.f n b = some (n, (b.size : Int), ((sumS2 (L b) : Nat) : Int)) := by
 unfold manifest_Of.f
 rw [crc_Sum_S b hb]
 rfl
theorem eqSeg (d : Nat) (w : World) (x0 y0 x1 y1 x2 y2 : Int) :
  (Op.equalIn (d + 2) 45 (.agg #[.int .i64 x0, .int .i64 x1, .int .u32 x2]) (.agg #[.int .i64 y0, .int .i64 y1, .int .u32 y2])).run Tryz.prog w = .ok (x0 == y0 && (x1 == y1 && (x2 == y2))) w := by
 refine eqA_of Tryz.underlying45 (by kernel_rfl) ?_
 refine eqf_cons (by rfl) (by go_simp; rfl) (by go_simp; rfl) (by go_simp) ?_
 refine eqf_cons (by rfl) (by go_simp; rfl) (by go_simp; rfl) (by go_simp) ?_
 exact eqf_last (by rfl) (by go_simp; rfl) (by go_simp; rfl) (by go_simp)
theorem cells3g {w : World} {s : Nat} {v0 v1 v2 : Value} {t : TypeId} (h : w.heap[s]? = some (.cells #[v0, v1, v2] t)) : w.cell? ⟨s, 0, none⟩ = some v0 ∧ w.cell? ⟨s, 1, none⟩ = some v1 ∧ w.cell? ⟨s, 2, none⟩ = some v2 := by
 refine ⟨?_, ?_, ?_⟩ <;> simp [World.cell?, h]
theorem seg_C {w : World} {g : Nat} {x : SgI} {t : TypeId} (h : w.heap[g]? = some (.cells #[.int .i64 x.f0, .int .i64 x.f1, .int .u32 x.f2] t)) : Kd.C k45 w (some ⟨g, 0, none⟩) 1 [x] := by
 obtain ⟨c0, c1, c2⟩ := cells3g h
 refine ⟨rfl, by decide, fun _ => ⟨⟨g, 0, none⟩, rfl, fun j p hj => ?_⟩⟩
 match j, hj with
 | 0, hj =>
  have : x = p := by simpa using hj
  subst this
  refine ⟨_, rfl, k45_mk w x, fun i u hi => ?_⟩
  have e : ((⟨g, 0, none⟩ : Addr).add (0 * 3 + i)) = ⟨g, i, none⟩ := by
   unfold Addr.add
   simp
   intro h
   exact h.symm
  show w.cell? ((⟨g, 0, none⟩ : Addr).add (0 * 3 + i)) = some u
  rw [e]
  match i, hi with
  | 0, hi => injection hi with hi; rw [← hi]; exact c0
  | 1, hi => injection hi with hi; rw [← hi]; exact c1
  | 2, hi => injection hi with hi; rw [← hi]; exact c2
 | j + 1, hj => simp at hj
end Go.Proofs.YtlnbekaldemebaaGreatDoor.Thw
