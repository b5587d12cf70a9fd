/- Layer 1, the references, said of bytes; halves. -/
import Derived.Test.YtnhmhdconmollaaEv01r
namespace Go.Proofs.Ytnhmhdconmollaa.Thw
open Go Go.RowKit Go.Proofs.Ytnhmhdconmollaa.Print Go.Proofs.YtnhmhdconmollaaW.PrintWords Go.Proofs.YtnhmhdconmollaaW.PrintLast Go.Proofs.YtnhmhdconmollaaW.PrintMore
set_option linter.unusedVariables false
set_option linter.unusedSimpArgs false

theorem ev_rText_B (l : Bs) (h : l.length ≤ 4611686018427387904) : Ev (fun k => thwartref01_Text.f k (B l)) (B (textS l)) := by
  have := ev_rText (B l) (by rw [B_size]; exact h)
  rwa [L_B] at this
theorem ev_rOfText_B (b : Bs) (hb : b.length ≤ 4611686018427387904) : Ev (fun k => thwartref01_OfText.f k (B b)) (OT (ofTextS b)) := by
  have := ev_rOfText (B b) (by rw [B_size]; exact hb)
  rwa [L_B] at this
theorem rhalf (n : Nat) (h : n < 18446744073709551616) : IntKind.u64.wrap (Int.tdiv (n : Int) 2) = ((n / 2 : Nat) : Int) := by
  rw [Int.tdiv_eq_ediv_of_nonneg (by omega), IntKind.wrap_u64]; omega
theorem rodd (n : Nat) : Int.tmod (n : Int) 2 = ((n % 2 : Nat) : Int) := by
  rw [Int.tmod_eq_emod_of_nonneg (by omega)]; omega
end Go.Proofs.Ytnhmhdconmollaa.Thw
