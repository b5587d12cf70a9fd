/- Rows of slices that are only read: the elements' rows lie in a world that is fixed. -/
import Derived.Test.YtlfhnpecfkhcpaaHead
namespace Go.Proofs.Ytlfhnpecfkhcpaa.Thw
open Go Go.RowKit Go.Proofs.YtlfhnpecfkhcpaaW.PrintWords Go.Proofs.YtlfhnpecfkhcpaaW.PrintLast Go.Proofs.YtlfhnpecfkhcpaaW.PrintMore
set_option linter.unusedVariables false
set_option linter.unusedSimpArgs false
/-- A slice whose row is read in w0, wherever the slice itself lies. -/
def fixedK {α : Type} (w0 : World) (d : Kd α) : Kd (List α) where
  sz := 1
  E := []
  K := fun _ xs cs => ∃ A c, cs = [.slice A xs.length c] ∧ xs.length ≤ c ∧ d.C w0 A xs.length xs
  M := fun _ _ _ xs cs => ∃ A c, cs = [.slice A xs.length c] ∧ xs.length ≤ c ∧ d.C w0 A xs.length xs
  K_len := by
    rintro w x cs ⟨A, c, rfl, _⟩
    rfl
  K_one := by
    rintro w x cs ⟨A, c, rfl, _⟩ u hu
    rw [List.mem_singleton.1 hu]
    rfl
  K_below := fun _ h => h
  K_of_M := fun h => h
  M_mono := fun _ h => h
  M_bound := fun h => h
  M_move := fun _ h => h
  M_lower := fun _ h => h
section
variable {α : Type} {d : Kd α} {e : Nat} {w0 w : World} {A : Option Addr} {n : Nat} {ls : List (List α)}
theorem fixed_C (h : (fixedK w0 d).C w A n ls) (hb : Below w0.heap.size w0 w) : (Kd.slice e d).C w A n ls := by
  refine ReadsRow.imp_ h (Below.refl _ _) ?_
  rintro p c ⟨A', c', rfl, hl, hC⟩
  exact ⟨A', c', rfl, hl, Kd.C_below hC hb⟩
theorem C_fixed (h : (Kd.slice e d).C w A n ls) : (fixedK w d).C w A n ls := h
theorem C_fixed_in (h : (Kd.slice e d).C w0 A n ls) (hb : Below w0.heap.size w0 w) : (fixedK w0 d).C w A n ls := Kd.C_below (C_fixed h) hb
/-- The literal of no element. -/
theorem fixed_none (w0 W : World) (d : Kd α) (t : TypeId) (base : Nat) (hb : base ≤ W.heap.size) : (fixedK w0 d).R t (W.alloc (.cells #[] t)) base (fun _ => True) (.slice (some ⟨W.heap.size, 0, none⟩) 0 0) [] :=
  ⟨fun _ _ => trivial, [], ⟨rfl, .inr ⟨W.heap.size, 0, #[], rfl, hb, blk_new W _, Nat.le_refl _, by decide, rfl, rfl⟩⟩, rfl, fun j p hp => by simp at hp⟩
/-- The literal of one element. -/
theorem fixed_one (w0 W : World) (d : Kd α) (t : TypeId) (base : Nat) (hb : base ≤ W.heap.size) (A : Option Addr) (c : Nat) (xs : List α) (hc : xs.length ≤ c) (h : d.C w0 A xs.length xs) :
    (fixedK w0 d).R t (W.alloc (.cells #[.slice A xs.length c] t)) base (fun _ => True) (.slice (some ⟨W.heap.size, 0, none⟩) 1 1) [xs] :=
  ⟨fun _ _ => trivial, [.slice A xs.length c], ⟨rfl, .inr ⟨W.heap.size, 1, _, rfl, hb, blk_new W _, Nat.le_refl _, by decide, rfl, rfl⟩⟩, rfl, fun j p hp => by
    match j, hp with
    | 0, hp => cases hp; exact ⟨A, c, rfl, hc, h⟩
    | n + 1, hp => simp at hp⟩
/-- An element of a row of rows. -/
theorem slice_at (h : (Kd.slice e d).C w A n ls) (i : Nat) (xs : List α) (hi : ls[i]? = some xs) :
    ∃ ad A' c', A = some ad ∧ w.cell? (ad.add i) = some (.slice A' xs.length c') ∧ xs.length ≤ c' ∧ d.C w A' xs.length xs := by
  have hlt := (List.getElem?_eq_some_iff.1 hi).1
  obtain ⟨ad, rfl, hc⟩ := h.2.2 (by have := h.1; omega)
  obtain ⟨c, hl, ⟨A', c', rfl, hle, hC⟩, hcell⟩ := hc i xs hi
  refine ⟨ad, A', c', rfl, ?_, hle, hC⟩
  have := hcell 0 _ rfl
  have e1 : i * (Kd.slice e d).sz + 0 = i := by show i * 1 + 0 = i; omega
  rwa [e1] at this
end
end Go.Proofs.Ytlfhnpecfkhcpaa.Thw
