/- Written by a program of mine (give.py, over the kit's print) out of the translation: contracts of the Go functions. Lean checks it. -/
import Derived.Test.YtcpjfpbfopkngaaPrint0
namespace Go.Proofs.Ytcpjfpbfopkngaa.Print
open Go.RowKit Go.Proofs.YtcpjfpbfopkngaaW.PrintWords Go.Proofs.YtcpjfpbfopkngaaW.PrintLast Go.Proofs.YtcpjfpbfopkngaaW.PrintMore
attribute [local go_sem] max2_int min2_int max_two min_two max_three min_three max_four min_four   -- for this text's walks alone
set_option linter.unusedVariables false
set_option linter.unusedSimpArgs false

-- NOT PRINTED: function 8 (keydir_New)

-- NOT PRINTED: function 27 (keydir_Dir_next)

-- NOT PRINTED: function 43 (hash_factors)

-- NOT PRINTED: function 32 (hash_Mix)

-- NOT PRINTED: function 33 (hash_Sum)

-- NOT PRINTED: function 28 (hash_Place)

-- NOT PRINTED: function 23 (keydir_Dir_find)

-- NOT PRINTED: function 45 (keydir_slot_45)

-- NOT PRINTED: function 38 (keydir_slot_38)

-- NOT PRINTED: function 39 (keydir_slot_39)

-- NOT PRINTED: function 49 (keydir_slot_49)

-- NOT PRINTED: function 60 (keydir_slot_60)

-- NOT PRINTED: function 50 (keydir_slot_50)

-- NOT PRINTED: function 57 (bits_Len32)

-- NOT PRINTED: function 58 (bits_Len64)

-- NOT PRINTED: function 47 (bits_Len)

-- NOT PRINTED: function 61 (slices_nextPowerOfTwo)

-- NOT PRINTED: function 62 (slices_xorshift_Next)

-- NOT PRINTED: function 51 (keydir_slot_51)

-- NOT PRINTED: function 66 (keydir_slot_66)

-- NOT PRINTED: function 64 (keydir_slot_64)

-- NOT PRINTED: function 63 (keydir_slot_63)

-- NOT PRINTED: function 52 (keydir_slot_52)

-- NOT PRINTED: function 53 (keydir_slot_53)

-- NOT PRINTED: function 54 (keydir_slot_54)

-- NOT PRINTED: function 55 (keydir_slot_55)

-- NOT PRINTED: function 56 (keydir_slot_56)

-- NOT PRINTED: function 46 (keydir_slot_46)

-- NOT PRINTED: function 41 (keydir_slot_41)

-- NOT PRINTED: function 31 (keydir_Dir_rising)

-- NOT PRINTED: function 24 (keydir_Dir_grow)

-- NOT PRINTED: function 10 (keydir_Dir_Put)

-- NOT PRINTED: function 12 (keydir_Dir_Get)

-- NOT PRINTED: function 17 (keydir_Dir_Len)

-- NOT PRINTED: function 18 (keydir_Dir_Cap)

-- NOT PRINTED: function 19 (keydir_Dir_Far)

-- NOT PRINTED: function 30 (keydir_Dir_From)

-- NOT PRINTED: function 21 (thwartlaw10_keys)

-- NOT PRINTED: function 6 (thwartlaw10_awake)

-- NOT PRINTED: function 7 (thwartlaw10_light)

-- NOT PRINTED: function 9 (thwartref10_New)

-- NOT PRINTED: function 16 (thwartref10_Dir_Keys)

-- NOT PRINTED: function 25 (thwartref10_Dir_at)

-- NOT PRINTED: function 34 (thwartref09_Mix)

-- NOT PRINTED: function 35 (thwartref09_Sum)

-- NOT PRINTED: function 29 (thwartref09_Place)

-- NOT PRINTED: function 26 (thwartref10_Dir_lay)

-- NOT PRINTED: function 11 (thwartref10_Dir_Put)

-- NOT PRINTED: function 13 (thwartref10_Dir_Get)

-- NOT PRINTED: function 14 (keydir_Dir_Delete)

-- NOT PRINTED: function 15 (thwartref10_Dir_Delete)

-- NOT PRINTED: function 20 (thwartref10_Dir_Far)

-- NOT PRINTED: function 22 (thwartref06_Strings)

/-! ### thwartlaw10_KeydirPlays: function 3 -/
def thwartlaw10_KeydirPlays.f (a0 : List S33) (a1 : ByteArray) : Option Bool := some true
theorem thwartlaw10_KeydirPlays.calls (A1 : Option Addr) (c1 : Nat) (l1 : List S33) (a1 : ByteArray) (r : Bool) (w : World) (hr1 : k33.C w A1 l1.length l1) (hc1 : l1.length ≤ c1) (h : thwartlaw10_KeydirPlays.f l1 a1 = some r) :
    Calls Try.prog 3 #[.slice A1 l1.length c1, .string a1] w fun e w' => e = .returned (.bool r) ∧ Below w.heap.size w w' := by
  cases h
  refine Thw.plays_walk A1 l1.length c1 (fun i => let o := rd_T33 l1 (i : Int); ⟨o.f0, o.f1, (o.f2.f0, o.f2.f1, o.f2.f2, o.f2.f3)⟩) a1 w (fun i hi => ?_) hc1
  obtain ⟨ad, e, h0, h1, h2, h3, h4, h5⟩ := at_T33 hr1 (i : Int) (by omega) (by omega)
  exact ⟨ad, e, h0, h1, h2, h3, h4, h5⟩

/-- THE ONE PURE STATEMENT of thwartlaw10_KeydirPlays: yours. -/
def thwartlaw10_KeydirPlays.Pure : Prop := ∀ (l0 : List (S33)) (a1 : ByteArray), l0.length * 56 ≤ 140737488351232 → (l0.length ≤ 9223372036854775807 ∧ ∀ e101 ∈ l0, ((Lit.int .i64 e101.f0).wf = true ∧ e101.f1.size ≤ 9223372036854775807 ∧ ((Lit.int .i64 e101.f2.f0).wf = true ∧ (Lit.int .i64 e101.f2.f1).wf = true ∧ (Lit.int .i64 e101.f2.f2).wf = true ∧ (Lit.int .u64 e101.f2.f3).wf = true))) → a1.size ≤ 140737488351232 → thwartlaw10_KeydirPlays.f l0 a1 = some true
theorem thwartlaw10_KeydirPlays.walk (P : thwartlaw10_KeydirPlays.Pure) (A0 : Option Addr) (n0 c0 : Nat) (l0 : List (S33)) (a1 : ByteArray) (w : World) (K0 : (Kd.slice 33 k33).K w l0 [.slice A0 n0 c0]) (y0 : n0 * 56 ≤ 140737488351232) (G0 : (l0.length ≤ 9223372036854775807 ∧ ∀ e101 ∈ l0, ((Lit.int .i64 e101.f0).wf = true ∧ e101.f1.size ≤ 9223372036854775807 ∧ ((Lit.int .i64 e101.f2.f0).wf = true ∧ (Lit.int .i64 e101.f2.f1).wf = true ∧ (Lit.int .i64 e101.f2.f2).wf = true ∧ (Lit.int .u64 e101.f2.f3).wf = true)))) (w1 : a1.size ≤ 140737488351232) :
    Calls Try.prog 3 #[.slice A0 n0 c0, .string a1] w fun e w' => e = .returned (.bool true) ∧ Below w.heap.size w w' := by
  obtain ⟨A0_, c0_, e0, hc0, hr0⟩ := K0
  simp only [List.cons.injEq, Value.slice.injEq, and_true] at e0
  obtain ⟨rfl, rfl, rfl⟩ := e0
  have h := P l0 a1 y0 G0 w1
  refine (thwartlaw10_KeydirPlays.calls _ _ l0 a1 true w hr0 hc0 h).mono ?_
  rintro e w' ⟨rfl, hd⟩
  exact ⟨rfl, hd⟩

end Go.Proofs.Ytcpjfpbfopkngaa.Print
