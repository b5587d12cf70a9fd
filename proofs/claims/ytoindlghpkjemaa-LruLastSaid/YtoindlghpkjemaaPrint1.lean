/- Written by a program of mine (give.py, over the kit's print) out of the translation: contracts of the Go functions. Lean checks it. -/
import Derived.Test.YtoindlghpkjemaaPrint0
namespace Go.Proofs.Ytoindlghpkjemaa.Print
open Go.RowKit Go.Proofs.YtoindlghpkjemaaW.PrintWords Go.Proofs.YtoindlghpkjemaaW.PrintLast Go.Proofs.YtoindlghpkjemaaW.PrintMore
attribute [local go_sem] max2_int min2_int max_two min_two max_three min_three max_four min_four   -- for this text's walks alone
set_option linter.unusedVariables false
set_option linter.unusedSimpArgs false

-- NOT PRINTED: function 24 (lru_New)

-- NOT PRINTED: function 47 (lru_Cache_off)

-- NOT PRINTED: function 48 (lru_Cache_ahead)

-- NOT PRINTED: function 26 (lru_Cache_Get)

-- NOT PRINTED: function 50 (lru_Cache_forget)

-- NOT PRINTED: function 28 (lru_Cache_Put)

-- NOT PRINTED: function 33 (lru_Cache_Blocks)

-- NOT PRINTED: function 30 (lru_Cache_Drop)

-- NOT PRINTED: function 23 (thwartlaw11_awake)

/-! ### thwartlaw11_LruLast: function 7 -/
def thwartlaw11_LruLast.ok (o : S56) : Prop := (Lit.int .i64 o.f1.f0).wf = true ∧ (Lit.int .i64 o.f1.f1).wf = true
instance (o : S56) : Decidable (thwartlaw11_LruLast.ok o) := by unfold thwartlaw11_LruLast.ok; infer_instance
def thwartlaw11_LruLast.f (a0 : Int) (a1 : List S56) : Option Bool := if (∀ o ∈ a1, thwartlaw11_LruLast.ok o) then some true else none
theorem thwartlaw11_LruLast.calls (a0 : Int) (A1 : Option Addr) (c1 : Nat) (l1 : List S56) (r : Bool) (w : World) (hr1 : k56.C w A1 l1.length l1) (hc1 : l1.length ≤ c1) (h : thwartlaw11_LruLast.f a0 l1 = some r) :
    Calls Try.prog 7 #[.int .i64 a0, .slice A1 l1.length c1] w fun e w' => e = .returned (.bool r) ∧ Below w.heap.size w w' := by
  unfold thwartlaw11_LruLast.f at h
  split at h
  · rename_i hok
    cases h
    refine Thw.last_walk a0 A1 l1.length c1 (fun i => let o := rd_T56 l1 (i : Int); ⟨o.f0, (o.f1.f0, o.f1.f1), o.f2⟩) w (fun i hi => ?_) (fun i hi => ?_) hc1
    · obtain ⟨ad, e, h0, h1, h2, h3⟩ := at_T56 hr1 (i : Int) (by omega) (by omega)
      exact ⟨ad, e, h0, h1, h2, h3⟩
    · have e : rd_T56 l1 (i : Int) = l1[i] := by simp [rd_T56, List.getD_eq_getElem?_getD, hi]
      have := hok _ (List.getElem_mem hi)
      rw [← e] at this
      exact this
  · cases h

/-- THE ONE PURE STATEMENT of thwartlaw11_LruLast: yours. -/
def thwartlaw11_LruLast.Pure : Prop := ∀ (a0 : Int) (l1 : List (S56)), (Lit.int .i64 a0).wf = true → l1.length * 40 ≤ 140737488351232 → (l1.length ≤ 9223372036854775807 ∧ ∀ e101 ∈ l1, ((Lit.int .i64 e101.f0).wf = true ∧ ((Lit.int .i64 e101.f1.f0).wf = true ∧ (Lit.int .i64 e101.f1.f1).wf = true) ∧ e101.f2.size ≤ 9223372036854775807)) → thwartlaw11_LruLast.f a0 l1 = some true
theorem thwartlaw11_LruLast.walk (P : thwartlaw11_LruLast.Pure) (a0 : Int) (A1 : Option Addr) (n1 c1 : Nat) (l1 : List (S56)) (w : World) (w0 : (Lit.int .i64 a0).wf = true) (K1 : (Kd.slice 56 k56).K w l1 [.slice A1 n1 c1]) (y1 : n1 * 40 ≤ 140737488351232) (G1 : (l1.length ≤ 9223372036854775807 ∧ ∀ e101 ∈ l1, ((Lit.int .i64 e101.f0).wf = true ∧ ((Lit.int .i64 e101.f1.f0).wf = true ∧ (Lit.int .i64 e101.f1.f1).wf = true) ∧ e101.f2.size ≤ 9223372036854775807))) :
    Calls Try.prog 7 #[.int .i64 a0, .slice A1 n1 c1] w fun e w' => e = .returned (.bool true) ∧ Below w.heap.size w w' := by
  obtain ⟨A1_, c1_, e1, hc1, hr1⟩ := K1
  simp only [List.cons.injEq, Value.slice.injEq, and_true] at e1
  obtain ⟨rfl, rfl, rfl⟩ := e1
  have h := P a0 l1 w0 y1 G1
  refine (thwartlaw11_LruLast.calls a0 _ _ l1 true w hr1 hc1 h).mono ?_
  rintro e w' ⟨rfl, hd⟩
  exact ⟨rfl, hd⟩

end Go.Proofs.Ytoindlghpkjemaa.Print
