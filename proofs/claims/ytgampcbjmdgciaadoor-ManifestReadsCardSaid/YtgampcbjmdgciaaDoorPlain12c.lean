/- Layer 12 (manifest) in plain words: bytes, and back. No program in sight. -/
import Derived.Test.YtgampcbjmdgciaaDoorPlain12b
namespace Go.Proofs.YtgampcbjmdgciaaDoor.Thw
open Go
set_option linter.unusedVariables false
abbrev Sn := Nat × Nat × Nat
def segB (p : Sn) : Bs := putS p.1 ++ putS p.2.1 ++ putS p.2.2
def segsB (l : List Sn) : Bs := (l.map segB).flatten
def bodyS (v : Nat) (l : List Sn) : Bs := putS v ++ putS l.length ++ segsB l
def Fits (p : Sn) : Prop := p.1 ≤ 999999 ∧ p.2.1 ≤ 1048576 ∧ p.2.2 ≤ 4294967295
theorem tk_put {tm n : Nat} (h : n ≤ tm) (hn : n < 18446744073709551616) (rest : Bs) : tk tm (putS n ++ rest) = some (n, rest) := by
  unfold tk
  rw [takeS_put n hn]
  exact if_pos ⟨rfl, h⟩
theorem tk_of {tm n : Nat} {s r : Bs} (h : tk tm s = some (n, r)) : s = putS n ++ r ∧ n ≤ tm ∧ r.length < s.length := by
  unfold tk at h
  split at h
  · rename_i h1
    simp only [Option.some.injEq, Prod.mk.injEq] at h
    obtain ⟨rfl, rfl⟩ := h
    rcases takeS_told s with h2 | h2 | h2
    · exact ⟨h2.2.1.symm, h1.2, h2.2.2.2.2⟩
    · rw [h2] at h1; exact absurd h1.1 (by decide)
    · rw [h2] at h1; exact absurd h1.1 (by decide)
  · cases h
theorem seg1_put {p : Sn} (h : Fits p) (rest : Bs) : seg1 (segB p ++ rest) = some (p, rest) := by
  obtain ⟨h1, h2, h3⟩ := h
  unfold seg1 segB
  rw [List.append_assoc, List.append_assoc, tk_put h1 (by omega)]
  simp only [Option.bind_some]
  rw [tk_put h2 (by omega)]
  simp only [Option.bind_some]
  rw [tk_put h3 (by omega)]
  rfl
theorem seg1_of {p : Sn} {s r : Bs} (h : seg1 s = some (p, r)) : s = segB p ++ r ∧ Fits p := by
  unfold seg1 at h
  obtain ⟨⟨a, s1⟩, h1, h⟩ := Option.bind_eq_some_iff.1 h
  obtain ⟨⟨b, s2⟩, h2, h⟩ := Option.bind_eq_some_iff.1 h
  obtain ⟨⟨c, s3⟩, h3, h⟩ := Option.bind_eq_some_iff.1 h
  simp only [Option.some.injEq, Prod.mk.injEq] at h
  obtain ⟨rfl, rfl⟩ := h
  obtain ⟨e1, l1, _⟩ := tk_of h1
  obtain ⟨e2, l2, _⟩ := tk_of h2
  obtain ⟨e3, l3, _⟩ := tk_of h3
  simp only at e2 e3
  refine ⟨?_, l1, l2, l3⟩
  rw [e1, e2, e3]
  unfold segB
  simp
theorem segsB_snoc (l : List Sn) (p : Sn) : segsB (l ++ [p]) = segsB l ++ segB p := by
  unfold segsB
  simp
theorem segsN_put : ∀ (k : Nat) (l : List Sn) (rest : Bs), l.length = k → (∀ p ∈ l, Fits p) → segsN k (segsB l ++ rest) = some (l, rest)
  | 0, l, rest, h, _ => by
    have : l = [] := List.eq_nil_of_length_eq_zero h
    subst this
    rfl
  | k + 1, l, rest, h, hf => by
    have hne : l ≠ [] := fun e => by rw [e] at h; cases h
    obtain ⟨m, p, rfl⟩ : ∃ m p, l = m ++ [p] := ⟨l.dropLast, l.getLast hne, (List.dropLast_concat_getLast hne).symm⟩
    have h1 : m.length = k := by simpa using h
    rw [segsB_snoc, List.append_assoc, segsN_next (segsN_put k m (segB p ++ rest) h1 (fun q hq => hf q (List.mem_append_left _ hq))), seg1_put (hf p (by simp))]
    rfl
theorem segsN_of : ∀ (k : Nat) {s r : Bs} {l : List Sn}, segsN k s = some (l, r) → s = segsB l ++ r ∧ l.length = k ∧ ∀ p ∈ l, Fits p
  | 0, s, r, l, h => by
    simp only [segsN, Option.some.injEq, Prod.mk.injEq] at h
    obtain ⟨rfl, rfl⟩ := h
    exact ⟨rfl, rfl, fun p hp => by cases hp⟩
  | k + 1, s, r, l, h => by
    rw [segsN] at h
    obtain ⟨⟨m, s1⟩, h1, h⟩ := Option.bind_eq_some_iff.1 h
    obtain ⟨⟨p, s2⟩, h2, h⟩ := Option.bind_eq_some_iff.1 h
    simp only [Option.some.injEq, Prod.mk.injEq] at h
    obtain ⟨rfl, rfl⟩ := h
    obtain ⟨e1, l1, f1⟩ := segsN_of k h1
    obtain ⟨e2, f2⟩ := seg1_of h2
    simp only at e2
    refine ⟨by rw [e1, e2, segsB_snoc, List.append_assoc], by rw [List.length_append, l1]; rfl, fun q hq => ?_⟩
    rcases List.mem_append.1 hq with h3 | h3
    · exact f1 q h3
    · rw [List.mem_singleton.1 h3]; exact f2
end Go.Proofs.YtgampcbjmdgciaaDoor.Thw
