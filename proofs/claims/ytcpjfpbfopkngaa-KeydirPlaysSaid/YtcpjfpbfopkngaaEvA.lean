/- What the printed words come to in plain words: bytes of a string, rounds. -/
import Derived.Test.YtcpjfpbfopkngaaWWords
import Derived.Test.YtcpjfpbfopkngaaWMore
import Derived.Test.YtcpjfpbfopkngaaWNEv
import Derived.Test.YtcpjfpbfopkngaaPlainA
namespace Go.Proofs.Ytcpjfpbfopkngaa.Thw
open Go Go.RowKit Go.Proofs.YtcpjfpbfopkngaaW.PrintWords Go.Proofs.YtcpjfpbfopkngaaW.PrintMore
set_option linter.unusedVariables false
set_option linter.unusedSimpArgs false

theorem bt_L (s : ByteArray) (i : Nat) (h : i < (L s).length) : bt s (i : Int) = (((L s)[i]).toNat : Int) := by
  have h' : i < s.size := by rw [← L_length]; exact h
  unfold bt
  simp only [Int.toNat_natCast]
  rw [dif_pos h']
  simp only [L, Array.getElem_toList]
  rfl
theorem bt_lt (s : ByteArray) (i : Int) : bt s i < 256 := by have := (bt_range s i).2; omega
theorem bt_ge (s : ByteArray) (i : Int) : 0 ≤ bt s i := (bt_range s i).1
theorem drop_at {α : Type} (l : List α) (i : Nat) (h : i < l.length) : l.drop i = l[i] :: l.drop (i + 1) := List.drop_eq_getElem_cons h
theorem wrap64_in {n : Int} (h0 : -9223372036854775808 ≤ n) (h1 : n ≤ 9223372036854775807) : wrap64 n = n := by unfold wrap64; omega
theorem u64_in {n : Int} (h0 : 0 ≤ n) (h1 : n < 18446744073709551616) : IntKind.u64.wrap n = n := by rw [IntKind.wrap_u64]; omega
theorem L_strOfNums (l : List Int) : L (strOfNums l) = l.map fun n => UInt8.ofNat n.toNat := by simp [L, strOfNums]
theorem wf_u64 {n : Int} (h : (Lit.int .u64 n).wf = true) : 0 ≤ n ∧ n < 18446744073709551616 := by
  simp [Lit.wf, IntKind.min, IntKind.max, IntKind.bits, IntKind.signed] at h
  omega
theorem wf_i64 {n : Int} (h : (Lit.int .i64 n).wf = true) : -9223372036854775808 ≤ n ∧ n ≤ 9223372036854775807 := by
  simp [Lit.wf, IntKind.min, IntKind.max, IntKind.bits, IntKind.signed] at h
  omega
theorem xor_u64 (a b : Nat) (ha : a < 18446744073709551616) (hb : b < 18446744073709551616) : Go.bits .xor .u64 (a : Int) (b : Int) = ((a ^^^ b : Nat) : Int) := bits_xor_u64_nat a b ha hb
theorem mul_u64 (a b : Nat) : IntKind.u64.wrap ((a : Int) * (b : Int)) = ((a * b % 18446744073709551616 : Nat) : Int) := by rw [IntKind.wrap_u64]; omega
theorem ev_if_pos {α : Type} {c : Prop} [Decidable c] {g f : Nat → Option α} {r : α} (hc : c) (h : Ev g r) : Ev (fun k => if c then g k else f k) r := Ev.congr (fun k => if_pos hc) h
theorem ev_if_neg {α : Type} {c : Prop} [Decidable c] {g f : Nat → Option α} {r : α} (hc : ¬ c) (h : Ev f r) : Ev (fun k => if c then g k else f k) r := Ev.congr (fun k => if_neg hc) h
theorem ev_yes {α : Type} {c : Prop} [Decidable c] {g f : Nat → Option α} {r : α} (h : Ev g r) (hc : c := by first | exact True.intro | with_reducible rfl | exact Eq.refl _ | simp) : Ev (fun k => if c then g k else f k) r := ev_if_pos hc h
theorem ev_no {α : Type} {c : Prop} [Decidable c] {g f : Nat → Option α} {r : α} (h : Ev f r) (hc : ¬ c := by first | decide | simp) : Ev (fun k => if c then g k else f k) r := ev_if_neg hc h
theorem ev_some {α : Type} {g : Nat → Option α} {r : α} (h : ∀ k, g k = some r) : Ev g r := ⟨0, fun k _ => h k⟩
theorem ev_bind_now {α β : Type} {g : Option α} {f : Nat → α → Option β} {a : α} {r : β} (h : g = some a) (k : Ev (fun n => f n a) r) : Ev (fun n => g.bind (f n)) r := Ev.congr (fun n => by rw [h]; rfl) k
end Go.Proofs.Ytcpjfpbfopkngaa.Thw
