/- Written by a program of mine (give.py, over the kit's print) out of the translation: contracts of the Go functions. Lean checks it. -/
import Derived.Test.YtpmnljdhjgjgfaaPrint0
namespace Go.Proofs.Ytpmnljdhjgjgfaa.Print
open Go.RowKit Go.Proofs.YtpmnljdhjgjgfaaW.PrintWords Go.Proofs.YtpmnljdhjgjgfaaW.PrintLast Go.Proofs.YtpmnljdhjgjgfaaW.PrintMore
attribute [local go_sem] max2_int min2_int max_two min_two max_three min_three max_four min_four   -- for this text's walks alone
set_option linter.unusedVariables false
set_option linter.unusedSimpArgs false

-- NOT PRINTED: function 61 (slices_partitionOrdered_string)

-- NOT PRINTED: function 51 (slices_pdqsortOrdered_string)

-- NOT PRINTED: function 48 (slices_Sort_string_string)

-- NOT PRINTED: function 40 (slices_Sorted_string)

-- NOT PRINTED: function 41 (disk_file)

-- NOT PRINTED: function 16 (disk_Disk_List)

-- NOT PRINTED: function 10 (disk_Disk_Crash)

-- NOT PRINTED: function 17 (disk_Disk_Size)

-- NOT PRINTED: function 29 (disk_Disk_Read)

-- NOT PRINTED: function 6 (thwartlaw06_awake)

-- NOT PRINTED: function 11 (thwartlaw06_all)

/-! ### thwartlaw06_DiskSure: function 3 -/
def thwartlaw06_DiskSure.f (a0 : List ByteArray) (a1 : List Bool) (a2 : Int) : Option Bool := some true
theorem thwartlaw06_DiskSure.calls (A0 : Option Addr) (c0 : Nat) (l0 : List ByteArray) (A1 : Option Addr) (c1 : Nat) (l1 : List Bool) (a2 : Int) (r : Bool) (w : World) (hr0 : Kd.string.C w A0 l0.length l0) (hc0 : l0.length ≤ c0) (hr1 : Kd.bool.C w A1 l1.length l1) (hc1 : l1.length ≤ c1) (h : thwartlaw06_DiskSure.f l0 l1 a2 = some r) :
    Calls Try.prog 3 #[.slice A0 l0.length c0, .slice A1 l1.length c1, .int .i64 a2] w fun e w' => e = .returned (.bool r) ∧ Below w.heap.size w w' := by
  cases h
  exact Thw.sure_walk A0 c0 l0 A1 c1 l1 a2 w hr0 hc0 hr1 hc1

/-- THE ONE PURE STATEMENT of thwartlaw06_DiskSure: yours. -/
def thwartlaw06_DiskSure.Pure : Prop := ∀ (l0 : List ByteArray) (l1 : List Bool) (a2 : Int), l0.length * 16 ≤ 140737488351232 → (l0.length ≤ 9223372036854775807 ∧ ∀ e221 ∈ l0, e221.size ≤ 9223372036854775807) → l1.length * 1 ≤ 140737488351232 → (l1.length ≤ 9223372036854775807 ∧ ∀ e222 ∈ l1, True) → (Lit.int .i64 a2).wf = true → thwartlaw06_DiskSure.f l0 l1 a2 = some true
theorem thwartlaw06_DiskSure.walk (P : thwartlaw06_DiskSure.Pure) (A0 : Option Addr) (n0 c0 : Nat) (l0 : List ByteArray) (A1 : Option Addr) (n1 c1 : Nat) (l1 : List Bool) (a2 : Int) (w : World) (K0 : (Kd.slice 9 Kd.string).K w l0 [.slice A0 n0 c0]) (y0 : n0 * 16 ≤ 140737488351232) (G0 : (l0.length ≤ 9223372036854775807 ∧ ∀ e221 ∈ l0, e221.size ≤ 9223372036854775807)) (K1 : (Kd.slice 4 Kd.bool).K w l1 [.slice A1 n1 c1]) (y1 : n1 * 1 ≤ 140737488351232) (G1 : (l1.length ≤ 9223372036854775807 ∧ ∀ e222 ∈ l1, True)) (w2 : (Lit.int .i64 a2).wf = true) :
    Calls Try.prog 3 #[.slice A0 n0 c0, .slice A1 n1 c1, .int .i64 a2] w fun e w' => e = .returned (.bool true) ∧ Below w.heap.size w w' := by
  obtain ⟨A0_, c0_, e0, hc0, hr0⟩ := K0
  simp only [List.cons.injEq, Value.slice.injEq, and_true] at e0
  obtain ⟨rfl, rfl, rfl⟩ := e0
  obtain ⟨A1_, c1_, e1, hc1, hr1⟩ := K1
  simp only [List.cons.injEq, Value.slice.injEq, and_true] at e1
  obtain ⟨rfl, rfl, rfl⟩ := e1
  have h := P l0 l1 a2 y0 G0 y1 G1 w2
  refine (thwartlaw06_DiskSure.calls _ _ l0 _ _ l1 a2 true w hr0 hc0 hr1 hc1 h).mono ?_
  rintro e w' ⟨rfl, hd⟩
  exact ⟨rfl, hd⟩

end Go.Proofs.Ytpmnljdhjgjgfaa.Print
