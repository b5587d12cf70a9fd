/- Written by a program of mine (give.py, over the kit's print) out of the translation: contracts of the Go functions. Lean checks it. -/
import Derived.Test.YtpmnljdhjgjgfaaPrint0
namespace Go.Proofs.Ytpmnljdhjgjgfaa.Print
open Go.RowKit Go.Proofs.YtpmnljdhjgjgfaaW.PrintWords Go.Proofs.YtpmnljdhjgjgfaaW.PrintLast Go.Proofs.YtpmnljdhjgjgfaaW.PrintMore
attribute [local go_sem] max2_int min2_int max_two min_two max_three min_three max_four min_four   -- for this text's walks alone
set_option linter.unusedVariables false
set_option linter.unusedSimpArgs false

-- NOT PRINTED: function 61 (slices_partitionOrdered_string)

-- NOT PRINTED: function 51 (slices_pdqsortOrdered_string)

-- NOT PRINTED: function 48 (slices_Sort_string_string)

-- NOT PRINTED: function 40 (slices_Sorted_string)

-- NOT PRINTED: function 41 (disk_file)

-- NOT PRINTED: function 16 (disk_Disk_List)

-- NOT PRINTED: function 10 (disk_Disk_Crash)

-- NOT PRINTED: function 17 (disk_Disk_Size)

-- NOT PRINTED: function 29 (disk_Disk_Read)

-- NOT PRINTED: function 6 (thwartlaw06_awake)

-- NOT PRINTED: function 13 (disk_Disk_Rename)

-- NOT PRINTED: function 14 (disk_Disk_Remove)

-- NOT PRINTED: function 15 (disk_Disk_Cut)

/-! ### thwartlaw06_DiskRoom: function 4 -/
def thwartlaw06_DiskRoom.ok (o : S37) : Prop := o.f2.size ≤ 9223372036854775807 ∧ o.f3.size ≤ 9223372036854775807 ∧ o.f4.size ≤ 9223372036854775807
instance (o : S37) : Decidable (thwartlaw06_DiskRoom.ok o) := by unfold thwartlaw06_DiskRoom.ok; infer_instance
def thwartlaw06_DiskRoom.f (a0 : Int) (a1 : List S37) : Option Bool := if (∀ o ∈ a1, thwartlaw06_DiskRoom.ok o) then some true else none
theorem thwartlaw06_DiskRoom.calls (a0 : Int) (A1 : Option Addr) (c1 : Nat) (l1 : List S37) (r : Bool) (w : World) (hr1 : k37.C w A1 l1.length l1) (hc1 : l1.length ≤ c1) (h : thwartlaw06_DiskRoom.f a0 l1 = some r) :
    Calls Try.prog 4 #[.int .i64 a0, .slice A1 l1.length c1] w fun e w' => e = .returned (.bool r) ∧ Below w.heap.size w w' := by
  unfold thwartlaw06_DiskRoom.f at h
  split at h
  · rename_i hok
    cases h
    refine Thw.room_walk a0 A1 l1.length c1 (fun i => let o := rd_T37 l1 (i : Int); ⟨o.f0, o.f1, o.f2, o.f3, o.f4⟩) w (fun W hB i hi => ?_) (fun i hi => ?_) hc1
    · obtain ⟨ad, A5, c5, e, h0, h1, h2, h3, h4, h5, _⟩ := at_T37 (Kd.C_below hr1 hB) (i : Int) (by omega) (by omega)
      exact ⟨ad, A5, _, c5, e, h0, h1, h2, h3, h4, h5⟩
    · have e : rd_T37 l1 (i : Int) = l1[i] := by simp [rd_T37, List.getD_eq_getElem?_getD, hi]
      have := hok _ (List.getElem_mem hi)
      rw [← e] at this
      exact this
  · cases h

/-- THE ONE PURE STATEMENT of thwartlaw06_DiskRoom: yours. -/
def thwartlaw06_DiskRoom.Pure : Prop := ∀ (a0 : Int) (l1 : List (S37)), (Lit.int .i64 a0).wf = true → l1.length * 88 ≤ 140737488351232 → (l1.length ≤ 9223372036854775807 ∧ ∀ e221 ∈ l1, ((Lit.int .i64 e221.f0).wf = true ∧ (Lit.int .i64 e221.f1).wf = true ∧ e221.f2.size ≤ 9223372036854775807 ∧ e221.f3.size ≤ 9223372036854775807 ∧ e221.f4.size ≤ 9223372036854775807 ∧ (e221.f5.length ≤ 9223372036854775807 ∧ ∀ e222 ∈ e221.f5, (Lit.int .i64 e222).wf = true))) → thwartlaw06_DiskRoom.f a0 l1 = some true
theorem thwartlaw06_DiskRoom.walk (P : thwartlaw06_DiskRoom.Pure) (a0 : Int) (A1 : Option Addr) (n1 c1 : Nat) (l1 : List (S37)) (w : World) (w0 : (Lit.int .i64 a0).wf = true) (K1 : (Kd.slice 37 k37).K w l1 [.slice A1 n1 c1]) (y1 : n1 * 88 ≤ 140737488351232) (G1 : (l1.length ≤ 9223372036854775807 ∧ ∀ e221 ∈ l1, ((Lit.int .i64 e221.f0).wf = true ∧ (Lit.int .i64 e221.f1).wf = true ∧ e221.f2.size ≤ 9223372036854775807 ∧ e221.f3.size ≤ 9223372036854775807 ∧ e221.f4.size ≤ 9223372036854775807 ∧ (e221.f5.length ≤ 9223372036854775807 ∧ ∀ e222 ∈ e221.f5, (Lit.int .i64 e222).wf = true)))) :
    Calls Try.prog 4 #[.int .i64 a0, .slice A1 n1 c1] w fun e w' => e = .returned (.bool true) ∧ Below w.heap.size w w' := by
  obtain ⟨A1_, c1_, e1, hc1, hr1⟩ := K1
  simp only [List.cons.injEq, Value.slice.injEq, and_true] at e1
  obtain ⟨rfl, rfl, rfl⟩ := e1
  have h := P a0 l1 w0 y1 G1
  refine (thwartlaw06_DiskRoom.calls a0 _ _ l1 true w hr1 hc1 h).mono ?_
  rintro e w' ⟨rfl, hd⟩
  exact ⟨rfl, hd⟩

end Go.Proofs.Ytpmnljdhjgjgfaa.Print
