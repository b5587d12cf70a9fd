/- A row of bytes that was made of a text ([]byte(s)), in memory. -/
import Derived.Test.YtnhmhdconmollaaEvA
import Derived.Test.YtnhmhdconmollaaHead
import Derived.Test.YtnhmhdconmollaaPlain04U
import Derived.Deep.CutRange
import Derived.Deep.CutBlock
import Derived.RegionTactic
import Derived.BigRegion
namespace Go.Proofs.Ytnhmhdconmollaa.Thw
open Go Go.RowKit Go.Proofs.YtnhmhdconmollaaW.PrintWords Go.Proofs.YtnhmhdconmollaaW.PrintLast Go.Proofs.YtnhmhdconmollaaW.PrintMore
set_option linter.unusedVariables false
set_option linter.unusedSimpArgs false
/-- A row of bytes that was made of a text: behind its end it is frozen. -/
def ByR (W : World) (g : Nat) (xs : Bs) : Prop := ∃ arr k, W.heap[g]? = some (.cells arr 5 (k, k + 1)) ∧ xs.length ≤ k ∧ k = arr.size ∧ ∀ i (h : i < xs.length), arr[i]? = some (.int .u8 (xs[i].toNat : Int))
section
variable {W W' : World} {g : Nat} {xs : Bs}
theorem ByR.cell (h : ByR W g xs) {i : Nat} (hi : i < xs.length) : W.cell? ⟨g, i, none⟩ = some (.int .u8 (xs[i].toNat : Int)) ∧ W.frozen? ⟨g, i, none⟩ = false := by
  obtain ⟨arr, k, hb, h1, h2, h3⟩ := h
  refine ⟨?_, ?_⟩
  · simp [World.cell?, hb, h3 i hi]
  · simp [World.frozen?, hb]; omega
theorem ByR.step (h : ByR W g xs) (hb : W'.heap[g]? = W.heap[g]?) : ByR W' g xs := by
  obtain ⟨arr, k, hb2, h1⟩ := h
  exact ⟨arr, k, hb.trans hb2, h1⟩
theorem ByR.lt (h : ByR W g xs) : g < W.heap.size := by
  obtain ⟨arr, k, hb, h1⟩ := h
  exact lt_of_block hb
theorem ByR.set (h : ByR W g xs) {i : Nat} (hi : i < xs.length) (v : UInt8) : ByR (W.setCell ⟨g, i, none⟩ (.int .u8 (v.toNat : Int))) g (xs.set i v) := by
  obtain ⟨arr, k, hb, h1, h2, h3⟩ := h
  refine ⟨arr.setIfInBounds i (.int .u8 (v.toNat : Int)), k, by simp [World.setCell, Array.getElem?_modify, hb], by simpa using h1, by simpa using h2, fun j hj => ?_⟩
  have hj' : j < xs.length := by simpa using hj
  by_cases e : i = j
  · subst e
    rw [Array.getElem?_setIfInBounds_self_of_lt (by omega)]
    simp
  · rw [Array.getElem?_setIfInBounds_ne e, h3 j hj']
    simp [e]
theorem ByR.text (h : ByR W g xs) (cap : Nat) : (convert 52 9 (.slice (some ⟨g, 0, none⟩) xs.length cap)).run Try.prog W = .ok (.string (B xs)) W := by
  have e : strOfNums (xs.map fun b => (b.toNat : Int)) = B xs := by
    apply L_inj
    rw [L_strOfNums, L_B]
    simp [List.map_map, Function.comp_def]
  rw [← e]
  refine run_convert_bytes_arg W 52 5 Try.underlying52 Try.underlying5 g 0 xs.length cap (xs.map fun b => (b.toNat : Int)) (by simp) (fun i hi => ?_) 9 Try.underlying9
  rw [Nat.zero_add, (h.cell hi).1]
  simp [List.getD_eq_getElem?_getD, hi]
end
theorem ByR.new (W : World) (s : ByteArray) : ByR (Lib.bytesWorld W 5 s) W.heap.size (L s) := by
  refine ⟨_, _, Lib.bytesWorld_at_new W 5 s, ?_, rfl, fun i hi => ?_⟩
  · simp [Lib.bytesCells, L]
  · have := Lib.bytesWorld_cell W 5 s i (by rw [L_length] at hi; exact hi)
    rw [World.cell?, Lib.bytesWorld_at_new] at this
    have hi' : i < s.data.size := by simpa [L] using hi
    simpa [L, List.getD_eq_getElem?_getD, Array.getElem?_eq_getElem hi'] using this
/-- The place of a bit, and the text with it turned. -/
def placeS (n : Nat) (at_ : Nat) : Nat := headS n + at_ / 8 % (n - headS n)
def turnS (s : ByteArray) (at_ : Nat) : ByteArray := B ((L s).set (placeS s.size at_) ((L s).getD (placeS s.size at_) 0 ^^^ bitS (at_ % 8)))
theorem placeS_lt (n a : Nat) (h : 8 ≤ n) : headS n ≤ placeS n a ∧ placeS n a < n := by
  have hh : headS n ≤ 2 := by unfold headS; split <;> omega
  have := Nat.mod_lt (a / 8) (show 0 < n - headS n by omega)
  unfold placeS
  omega
theorem bit_int (b : Nat) (h : b < 8) : ((2 : Int) ^ b % 256) = ((bitS b).toNat : Int) := by
  have : b = 0 ∨ b = 1 ∨ b = 2 ∨ b = 3 ∨ b = 4 ∨ b = 5 ∨ b = 6 ∨ b = 7 := by omega
  rcases this with rfl | rfl | rfl | rfl | rfl | rfl | rfl | rfl <;> decide
theorem bit_xor (x : UInt8) (b : Nat) (h : b < 8) : Go.bits .xor .u8 (x.toNat : Int) ((2 : Int) ^ b % 256) = ((x ^^^ bitS b).toNat : Int) := by
  rw [bit_int b h, u8_xor_nat _ _ x.toNat_lt (bitS b).toNat_lt, UInt8.toNat_xor]
theorem turnS_eq (s : ByteArray) (a pl : Nat) (x : UInt8) (h : placeS s.size a = pl) (hp : pl < (L s).length) (hx : (L s)[pl] = x) : turnS s a = B ((L s).set pl (x ^^^ bitS (a % 8))) := by
  unfold turnS
  rw [h, List.getD_eq_getElem?_getD, List.getElem?_eq_getElem hp, hx]
  rfl
theorem turnS_size (s : ByteArray) (a : Nat) : (turnS s a).size = s.size := by unfold turnS; rw [B_size, List.length_set, L_length]
end Go.Proofs.Ytnhmhdconmollaa.Thw
