/- Layer 15 (merge): the order of keys; the library's sort at records; keys of the map. No printed text in sight. -/
import Derived.Test.YtlfhnpecfkhcpaaEv15a
import Derived.Shelf.SlSortCmp.WholeK
import Derived.Shelf.SlSortCmp.NoneTotal
import Derived.Shelf.Small.Strs
import Derived.Test.YtlfhnpecfkhcpaaShelf
import Derived.Deep.CutRange
import Derived.Deep.CutBlock
import Derived.RegionTactic
import Derived.BigRegion
namespace Go.Proofs.Ytlfhnpecfkhcpaa.Thw
open Go Go.RowKit Go.Proofs.YtlfhnpecfkhcpaaW.PrintWords Go.Proofs.YtlfhnpecfkhcpaaW.PrintLast Go.Proofs.YtlfhnpecfkhcpaaW.PrintMore
set_option linter.unusedVariables false
set_option linter.unusedSimpArgs false
theorem strOk {s : ByteArray} (h : s.size ≤ 140737488351232) : ∃ l, keyOf Try.prog 9 (.string s) = some l := ⟨_, Go.WideMaps.keyOf_string_mk Try.underlying9 (by unfold maxLen; omega)⟩
theorem strInj (a b : ByteArray) (h : Value.string a = Value.string b) : a = b := by injection h
theorem strKeyed : Go.Maps.Keyed Try.prog 9 := Go.Maps.string_keyed Try.underlying9
/-! ### the order of keys -/
abbrev lexB (a b : ByteArray) : Int := Go.Lib.compareBytes a.data.toList b.data.toList
theorem cmpB_neg : ∀ a b : List UInt8, Go.Lib.compareBytes a b < 0 ↔ a < b
  | [], [] => by simp [Go.Lib.compareBytes]
  | [], _ :: _ => by simp [Go.Lib.compareBytes]
  | _ :: _, [] => by simp [Go.Lib.compareBytes]
  | x :: a, y :: b => by
    rw [Go.Lib.compareBytes, List.cons_lt_cons_iff]
    by_cases h1 : x < y
    · simp [h1]
    · rw [if_neg h1]
      by_cases h2 : y < x
      · rw [if_pos h2]
        have : ¬ x = y := fun e => by subst e; exact absurd h2 (UInt8.lt_irrefl _)
        simp [h1, this]
      · rw [if_neg h2, cmpB_neg a b]
        have e : x = y := UInt8.le_antisymm (UInt8.not_lt.1 h2) (UInt8.not_lt.1 h1)
        simp [e, UInt8.lt_irrefl]
theorem swoKey {α : Type} (key : α → ByteArray) : Go.Sort.SWO (Go.Proofs.ltOf fun x y : α => lexB (key x) (key y)) := by
  have e : ∀ x y : α, Go.Proofs.ltOf (fun x y : α => lexB (key x) (key y)) x y = decide ((key x).data.toList < (key y).data.toList) := fun x y => by
    unfold Go.Proofs.ltOf
    exact decide_eq_decide.2 (cmpB_neg _ _)
  refine ⟨fun x => ?_, fun x y z h1 h2 => ?_, fun x y z h1 h2 => ?_⟩
  · rw [e]; exact decide_eq_false (List.lt_irrefl _)
  · rw [e] at *
    exact decide_eq_true (List.lt_trans (of_decide_eq_true h1) (of_decide_eq_true h2))
  · rw [e] at *
    have h1 := of_decide_eq_false h1
    have h2 := of_decide_eq_false h2
    exact decide_eq_false fun h => h2 (List.lt_of_le_of_lt (List.not_lt.1 h1) h)
set_option maxHeartbeats 3200000 in
theorem cmpRec.calls (a0 : Int) (b0 c0 : ByteArray) (d0 : Bool) (a1 : Int) (b1 c1 : ByteArray) (d1 : Bool) (W : World) :
    Calls Try.prog 23 #[.agg #[.int .u64 a0, .string b0, .string c0, .bool d0], .agg #[.int .u64 a1, .string b1, .string c1, .bool d1]] W fun e w' => e = .returned (.int .i64 (lexB b0 b1)) ∧ ∃ q os', w' = Go.Sort.grow (W.drewN q) os' := by
  have hcon := fun W' => Any.strings_Compare Try.strCompare b0 b1 W'
  change ∀ W', Calls Try.prog 24 _ _ _ at hcon
  generalize hr : Go.Lib.compareBytes b0.data.toList b1.data.toList = r at hcon
  show Calls _ _ _ _ fun e w' => e = .returned (.int .i64 (Go.Lib.compareBytes b0.data.toList b1.data.toList)) ∧ _
  rw [hr]
  clear hr
  go_enter Try.func23, Try.ntmps23
  go_wp2_with fail
  refine (hcon _).mono ?_
  rintro e w' ⟨rfl, rfl⟩
  go_wp2_with fail
  go_ret
  exact ⟨rfl, 0, _, by rw [Go.Sort.alloc_eq_grow, Go.Sort.alloc_eq_grow, Go.Sort.grow_grow]; rfl⟩
end Go.Proofs.Ytlfhnpecfkhcpaa.Thw
