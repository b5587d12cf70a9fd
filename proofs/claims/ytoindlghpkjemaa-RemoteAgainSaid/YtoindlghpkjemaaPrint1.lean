/- Written by a program of mine (give.py, over the kit's print) out of the translation: contracts of the Go functions. Lean checks it. -/
import Derived.Test.YtoindlghpkjemaaPrint0
namespace Go.Proofs.Ytoindlghpkjemaa.Print
open Go.RowKit Go.Proofs.YtoindlghpkjemaaW.PrintWords Go.Proofs.YtoindlghpkjemaaW.PrintLast Go.Proofs.YtoindlghpkjemaaW.PrintMore
attribute [local go_sem] max2_int min2_int max_two min_two max_three min_three max_four min_four   -- for this text's walks alone
set_option linter.unusedVariables false
set_option linter.unusedSimpArgs false

-- NOT PRINTED: function 9 (remote_New)

-- NOT PRINTED: function 34 (slices_Clone_int_int)

-- NOT PRINTED: function 10 (remote_Remote_Script)

-- NOT PRINTED: function 36 (remote_Remote_call)

-- NOT PRINTED: function 11 (remote_Remote_Put)

-- NOT PRINTED: function 12 (remote_Remote_Get)

-- NOT PRINTED: function 13 (remote_Remote_Calls)

-- NOT PRINTED: function 14 (remote_Remote_PutNew)

-- NOT PRINTED: function 8 (thwartlaw07_awake)

/-! ### thwartlaw07_RemoteWhole: function 3 -/
def thwartlaw07_RemoteWhole.f (a0 : List ByteArray) (a1 : List Int) : Option Bool := some true
theorem thwartlaw07_RemoteWhole.calls (A0 : Option Addr) (c0 : Nat) (l0 : List ByteArray) (A1 : Option Addr) (c1 : Nat) (l1 : List Int) (r : Bool) (w : World) (hr0 : Kd.string.C w A0 l0.length l0) (hc0 : l0.length ≤ c0) (hr1 : (Kd.int .i64).C w A1 l1.length l1) (hc1 : l1.length ≤ c1) (h : thwartlaw07_RemoteWhole.f l0 l1 = some r) :
    Calls Try.prog 3 #[.slice A0 l0.length c0, .slice A1 l1.length c1] w fun e w' => e = .returned (.bool r) ∧ Below w.heap.size w w' := by
  cases h
  exact Thw.whole_walk A0 c0 l0 A1 c1 l1 w hr0 hc0 hr1 hc1

/-- THE ONE PURE STATEMENT of thwartlaw07_RemoteWhole: yours. -/
def thwartlaw07_RemoteWhole.Pure : Prop := ∀ (l0 : List ByteArray) (l1 : List Int), l0.length * 16 ≤ 140737488351232 → (l0.length ≤ 9223372036854775807 ∧ ∀ e101 ∈ l0, e101.size ≤ 9223372036854775807) → l1.length * 8 ≤ 140737488351232 → (l1.length ≤ 9223372036854775807 ∧ ∀ e102 ∈ l1, (Lit.int .i64 e102).wf = true) → thwartlaw07_RemoteWhole.f l0 l1 = some true
theorem thwartlaw07_RemoteWhole.walk (P : thwartlaw07_RemoteWhole.Pure) (A0 : Option Addr) (n0 c0 : Nat) (l0 : List ByteArray) (A1 : Option Addr) (n1 c1 : Nat) (l1 : List Int) (w : World) (K0 : (Kd.slice 9 Kd.string).K w l0 [.slice A0 n0 c0]) (y0 : n0 * 16 ≤ 140737488351232) (G0 : (l0.length ≤ 9223372036854775807 ∧ ∀ e101 ∈ l0, e101.size ≤ 9223372036854775807)) (K1 : (Kd.slice 3 (Kd.int .i64)).K w l1 [.slice A1 n1 c1]) (y1 : n1 * 8 ≤ 140737488351232) (G1 : (l1.length ≤ 9223372036854775807 ∧ ∀ e102 ∈ l1, (Lit.int .i64 e102).wf = true)) :
    Calls Try.prog 3 #[.slice A0 n0 c0, .slice A1 n1 c1] w fun e w' => e = .returned (.bool true) ∧ Below w.heap.size w w' := by
  obtain ⟨A0_, c0_, e0, hc0, hr0⟩ := K0
  simp only [List.cons.injEq, Value.slice.injEq, and_true] at e0
  obtain ⟨rfl, rfl, rfl⟩ := e0
  obtain ⟨A1_, c1_, e1, hc1, hr1⟩ := K1
  simp only [List.cons.injEq, Value.slice.injEq, and_true] at e1
  obtain ⟨rfl, rfl, rfl⟩ := e1
  have h := P l0 l1 y0 G0 y1 G1
  refine (thwartlaw07_RemoteWhole.calls _ _ l0 _ _ l1 true w hr0 hc0 hr1 hc1 h).mono ?_
  rintro e w' ⟨rfl, hd⟩
  exact ⟨rfl, hd⟩

/-! ### thwartlaw07_RemoteAgain: function 4 -/
def thwartlaw07_RemoteAgain.f (a0 : List ByteArray) (a1 : List Int) : Option Bool := some true
theorem thwartlaw07_RemoteAgain.calls (A0 : Option Addr) (c0 : Nat) (l0 : List ByteArray) (A1 : Option Addr) (c1 : Nat) (l1 : List Int) (r : Bool) (w : World) (hr0 : Kd.string.C w A0 l0.length l0) (hc0 : l0.length ≤ c0) (hr1 : (Kd.int .i64).C w A1 l1.length l1) (hc1 : l1.length ≤ c1) (h : thwartlaw07_RemoteAgain.f l0 l1 = some r) :
    Calls Try.prog 4 #[.slice A0 l0.length c0, .slice A1 l1.length c1] w fun e w' => e = .returned (.bool r) ∧ Below w.heap.size w w' := by
  cases h
  exact Thw.again_walk A0 c0 l0 A1 c1 l1 w hr0 hc0 hr1 hc1

/-- THE ONE PURE STATEMENT of thwartlaw07_RemoteAgain: yours. -/
def thwartlaw07_RemoteAgain.Pure : Prop := ∀ (l0 : List ByteArray) (l1 : List Int), l0.length * 16 ≤ 140737488351232 → (l0.length ≤ 9223372036854775807 ∧ ∀ e103 ∈ l0, e103.size ≤ 9223372036854775807) → l1.length * 8 ≤ 140737488351232 → (l1.length ≤ 9223372036854775807 ∧ ∀ e104 ∈ l1, (Lit.int .i64 e104).wf = true) → thwartlaw07_RemoteAgain.f l0 l1 = some true
theorem thwartlaw07_RemoteAgain.walk (P : thwartlaw07_RemoteAgain.Pure) (A0 : Option Addr) (n0 c0 : Nat) (l0 : List ByteArray) (A1 : Option Addr) (n1 c1 : Nat) (l1 : List Int) (w : World) (K0 : (Kd.slice 9 Kd.string).K w l0 [.slice A0 n0 c0]) (y0 : n0 * 16 ≤ 140737488351232) (G0 : (l0.length ≤ 9223372036854775807 ∧ ∀ e103 ∈ l0, e103.size ≤ 9223372036854775807)) (K1 : (Kd.slice 3 (Kd.int .i64)).K w l1 [.slice A1 n1 c1]) (y1 : n1 * 8 ≤ 140737488351232) (G1 : (l1.length ≤ 9223372036854775807 ∧ ∀ e104 ∈ l1, (Lit.int .i64 e104).wf = true)) :
    Calls Try.prog 4 #[.slice A0 n0 c0, .slice A1 n1 c1] w fun e w' => e = .returned (.bool true) ∧ Below w.heap.size w w' := by
  obtain ⟨A0_, c0_, e0, hc0, hr0⟩ := K0
  simp only [List.cons.injEq, Value.slice.injEq, and_true] at e0
  obtain ⟨rfl, rfl, rfl⟩ := e0
  obtain ⟨A1_, c1_, e1, hc1, hr1⟩ := K1
  simp only [List.cons.injEq, Value.slice.injEq, and_true] at e1
  obtain ⟨rfl, rfl, rfl⟩ := e1
  have h := P l0 l1 y0 G0 y1 G1
  refine (thwartlaw07_RemoteAgain.calls _ _ l0 _ _ l1 true w hr0 hc0 hr1 hc1 h).mono ?_
  rintro e w' ⟨rfl, hd⟩
  exact ⟨rfl, hd⟩

end Go.Proofs.Ytoindlghpkjemaa.Print
