/- The order of keys; the library's sort (the same as XEv15, for layer 10). No printed text in sight. -/
import Derived.Test.YtcpjfpbfopkngaaEv15a
import Derived.Shelf.SlSortCmp.WholeK
import Derived.Shelf.SlSortCmp.NoneTotal
import Derived.Shelf.Small.Strs
import Derived.Test.YtcpjfpbfopkngaaShelf
import Derived.Deep.CutRange
import Derived.Deep.CutBlock
import Derived.RegionTactic
import Derived.BigRegion
namespace Go.Proofs.Ytcpjfpbfopkngaa.Thw
open Go Go.RowKit Go.Proofs.YtcpjfpbfopkngaaW.PrintWords Go.Proofs.YtcpjfpbfopkngaaW.PrintLast Go.Proofs.YtcpjfpbfopkngaaW.PrintMore
set_option linter.unusedVariables false
set_option linter.unusedSimpArgs false
theorem strOk {s : ByteArray} (h : s.size ≤ 140737488351232) : ∃ l, keyOf Try.prog 9 (.string s) = some l := ⟨_, Go.WideMaps.keyOf_string_mk Try.underlying9 (by unfold maxLen; omega)⟩
theorem strInj (a b : ByteArray) (h : Value.string a = Value.string b) : a = b := by injection h
theorem strKeyed : Go.Maps.Keyed Try.prog 9 := Go.Maps.string_keyed Try.underlying9
/-! ### the order of keys -/
abbrev lexB (a b : ByteArray) : Int := Go.Lib.compareBytes a.data.toList b.data.toList
theorem cmpB_neg : ∀ a b : List UInt8, Go.Lib.compareBytes a b < 0 ↔ a < b
  | [], [] => by simp [Go.Lib.compareBytes]
  | [], _ :: _ => by simp [Go.Lib.compareBytes]
  | _ :: _, [] => by simp [Go.Lib.compareBytes]
  | x :: a, y :: b => by
    rw [Go.Lib.compareBytes, List.cons_lt_cons_iff]
    by_cases h1 : x < y
    · simp [h1]
    · rw [if_neg h1]
      by_cases h2 : y < x
      · rw [if_pos h2]
        have : ¬ x = y := fun e => by subst e; exact absurd h2 (UInt8.lt_irrefl _)
        simp [h1, this]
      · rw [if_neg h2, cmpB_neg a b]
        have e : x = y := UInt8.le_antisymm (UInt8.not_lt.1 h2) (UInt8.not_lt.1 h1)
        simp [e, UInt8.lt_irrefl]
theorem swoKey {α : Type} (key : α → ByteArray) : Go.Sort.SWO (Go.Proofs.ltOf fun x y : α => lexB (key x) (key y)) := by
  have e : ∀ x y : α, Go.Proofs.ltOf (fun x y : α => lexB (key x) (key y)) x y = decide ((key x).data.toList < (key y).data.toList) := fun x y => by
    unfold Go.Proofs.ltOf
    exact decide_eq_decide.2 (cmpB_neg _ _)
  refine ⟨fun x => ?_, fun x y z h1 h2 => ?_, fun x y z h1 h2 => ?_⟩
  · rw [e]; exact decide_eq_false (List.lt_irrefl _)
  · rw [e] at *
    exact decide_eq_true (List.lt_trans (of_decide_eq_true h1) (of_decide_eq_true h2))
  · rw [e] at *
    have h1 := of_decide_eq_false h1
    have h2 := of_decide_eq_false h2
    exact decide_eq_false fun h => h2 (List.lt_of_le_of_lt (List.not_lt.1 h1) h)
set_option maxHeartbeats 3200000 in
theorem ahead.calls (k0 : ByteArray) (a0 b0 c0 d0 : Int) (i0 : Bool) (k1 : ByteArray) (a1 b1 c1 d1 : Int) (i1 : Bool) (W : World) :
    Calls Try.prog 42 #[.agg #[.string k0, .int .i64 a0, .int .i64 b0, .int .i64 c0, .int .u64 d0, .bool i0], .agg #[.string k1, .int .i64 a1, .int .i64 b1, .int .i64 c1, .int .u64 d1, .bool i1]] W fun e w' => e = .returned (.int .i64 (lexB k0 k1)) ∧ ∃ q os', w' = Go.Sort.grow (W.drewN q) os' := by
  have hcon := fun W' => Any.strings_Compare Try.strCompare k0 k1 W'
  change ∀ W', Calls Try.prog 48 _ _ _ at hcon
  generalize hr : Go.Lib.compareBytes k0.data.toList k1.data.toList = r at hcon
  show Calls _ _ _ _ fun e w' => e = .returned (.int .i64 (Go.Lib.compareBytes k0.data.toList k1.data.toList)) ∧ _
  rw [hr]
  clear hr
  go_enter Try.func42, Try.ntmps42
  go_wp2_with fail
  refine (hcon _).mono ?_
  rintro e w' ⟨rfl, rfl⟩
  go_wp2_with fail
  go_ret
  exact ⟨rfl, 0, _, by rw [Go.Sort.alloc_eq_grow, Go.Sort.alloc_eq_grow, Go.Sort.grow_grow]; rfl⟩
end Go.Proofs.Ytcpjfpbfopkngaa.Thw
