/- Layer 12 (manifest) in plain words: reading. No program in sight. -/
import Derived.Test.YtgampcbjmdgciaaDoorPlain01
import Derived.Test.YtgampcbjmdgciaaDoorPlain02
namespace Go.Proofs.YtgampcbjmdgciaaDoor.Thw
open Go
set_option linter.unusedVariables false
/-- A number not above one, taken off bytes. -/
def tk (tm : Nat) (s : Bs) : Option (Nat × Bs) := if (takeS s).2.2 = 0 ∧ (takeS s).1 ≤ tm then some ((takeS s).1, (takeS s).2.1) else none
/-- The numbers of one segment. -/
def seg1 (s : Bs) : Option ((Nat × Nat × Nat) × Bs) := (tk 999999 s).bind fun a => (tk 1048576 a.2).bind fun b => (tk 4294967295 b.2).bind fun c => some ((a.1, b.1, c.1), c.2)
def segsN : Nat → Bs → Option (List (Nat × Nat × Nat) × Bs)
  | 0, s => some ([], s)
  | k + 1, s => (segsN k s).bind fun p => (seg1 p.2).bind fun q => some (p.1 ++ [q.1], q.2)
theorem segsN_next {j : Nat} {s t : Bs} {l : List (Nat × Nat × Nat)} (h : segsN j s = some (l, t)) : segsN (j + 1) s = (seg1 t).bind fun q => some (l ++ [q.1], q.2) := by
  rw [segsN, h]
  rfl
theorem segsN_none {j : Nat} {s : Bs} (h : segsN j s = none) : ∀ d, segsN (j + d) s = none
  | 0 => h
  | d + 1 => by
    rw [← Nat.add_assoc, segsN, segsN_none h d]
    rfl
theorem segsN_fail {j k : Nat} {s t : Bs} {l : List (Nat × Nat × Nat)} (h : segsN j s = some (l, t)) (hs : seg1 t = none) (hj : j < k) : segsN k s = none := by
  have h1 : segsN (j + 1) s = none := by rw [segsN_next h, hs]; rfl
  have h2 := segsN_none h1 (k - (j + 1))
  rwa [show j + 1 + (k - (j + 1)) = k by omega] at h2
end Go.Proofs.YtgampcbjmdgciaaDoor.Thw
