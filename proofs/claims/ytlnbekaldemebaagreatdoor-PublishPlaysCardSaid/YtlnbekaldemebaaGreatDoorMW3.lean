/- Layer 12: what the row's listed variables come to, for the walks; a start that fits. -/
import Derived.Test.YtlnbekaldemebaaGreatDoorME3
import Derived.Stop.LaidErr
import Derived.LaidMore
import Derived.Stop.Joined
import Derived.Lib.LaidTab
namespace Go.Proofs.YtlnbekaldemebaaGreatDoor.Thw
open Go Go.RowKit
set_option linter.unusedVariables false
abbrev laidL : List (String × DataW Unit) := Rows.publishWasteRow.laid
theorem laid_plain : (laidL.all fun x => x.2.handleName?.isNone) = true := by kernel_rfl
theorem star : "*" ++ "errors.errorString" = "*errors.errorString" := by decide
theorem rowErr (u : TypeId) (h : Tryz.prog.typeName? 3 u = some "*errors.errorString") : u = 196 :=
  typeName_ptr_named (nm := "errors.errorString") (by rw [star]; kernel_rfl) (by kernel_rfl) (by decide) u (by rw [star]; exact h)
theorem of_laid {W : World} (h0 : laidMetH Tryz.prog laidL W) : LaidW W := by
  rw [MakeChecks.laidMetH_plain _ _ _ laid_plain] at h0
  have h : laidMet Tryz.prog [(laidN 0, Rows.laid_math_bits_deBruijn32tab), (laidN 1, Rows.laid_math_bits_deBruijn64tab), (laidN 2, Go.Lib.tabData .u64 Go.Lib.pow10Tab), (laidN 3, Rows.laid_strconv_ErrRange), (laidN 4, Rows.laid_strconv_ErrSyntax)] W := h0
  have h2 := Go.Lib.tabIs_of_head (g := 2) (by kernel_rfl) (by kernel_rfl) Tryz.underlying208 Tryz.underlying120 (by kernel_rfl) (by kernel_rfl) h.tail.tail
  obtain ⟨a0, s0, hv0, -, -, -⟩ := laid_sentinel (g := 1) h.tail.tail.tail (by kernel_rfl) (by kernel_rfl) Tryz.underlying110 rowErr Tryz.underlying196 Tryz.underlying198 rfl rfl Tryz.underlying9 (by kernel_rfl) (by kernel_rfl)
  obtain ⟨a1, s1, hv1, -, -, -⟩ := laid_sentinel (g := 0) h.tail.tail.tail.tail (by kernel_rfl) (by kernel_rfl) Tryz.underlying110 rowErr Tryz.underlying196 Tryz.underlying198 rfl rfl Tryz.underlying9 (by kernel_rfl) (by kernel_rfl)
  exact ⟨h2, ⟨_, _, hv0⟩, ⟨_, _, hv1⟩⟩
theorem door_met (os : Os) (args : Array Value) : laidMetH Tryz.prog laidL ((World.doorLaid Tryz.prog 4000 os).forCall (fun _ _ => 0) ⟨#[], args, []⟩).memory :=
  laidMetH_of_parts3 (fuel := 8) (laidMet_of_run' 8 (by kernel_rfl) (by kernel_rfl)) (by kernel_rfl) (by kernel_rfl)
end Go.Proofs.YtlnbekaldemebaaGreatDoor.Thw
