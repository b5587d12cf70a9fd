/- Layer 3, the references: they come to the same plain words. -/
import Derived.Test.YtnhmhdconmollaaPrint5
import Derived.Test.YtnhmhdconmollaaPrint6
import Derived.Test.YtnhmhdconmollaaPrint8
import Derived.Test.YtnhmhdconmollaaEv01s
import Derived.Test.YtnhmhdconmollaaEv03
namespace Go.Proofs.Ytnhmhdconmollaa.Thw
open Go Go.RowKit Go.Proofs.Ytnhmhdconmollaa.Print Go.Proofs.YtnhmhdconmollaaW.PrintWords Go.Proofs.YtnhmhdconmollaaW.PrintLast Go.Proofs.YtnhmhdconmollaaW.PrintMore
set_option linter.unusedVariables false
set_option linter.unusedSimpArgs false

theorem rRight (r : Rec) : thwartref03_Right.f (r.seq : Int) (B r.key) (B r.val) r.gone = some (rightS r) := by
  unfold thwartref03_Right.f rightS
  rw [B_size, B_size, toList_L, L_B]
  by_cases h1 : 1 ≤ r.seq
  case neg => rw [if_neg (by omega)]; simp; omega
  rw [if_pos (by omega), decide_eq_true h1]
  by_cases h2 : r.seq ≤ 1099511627776
  case neg => rw [if_neg (by omega)]; simp; omega
  rw [if_pos (by omega), decide_eq_true h2]
  by_cases h3 : 1 ≤ r.key.length
  case neg => rw [if_neg (by omega)]; simp; omega
  rw [if_pos (by omega), decide_eq_true h3]
  by_cases h4 : r.key.length ≤ 40
  case neg => rw [if_neg (by omega)]; simp; omega
  rw [if_pos (by omega), decide_eq_true h4]
  by_cases h5 : r.val.length ≤ 300
  case neg => rw [if_neg (by omega)]; simp; omega
  rw [if_pos (by omega), decide_eq_true h5]
  cases r.gone
  · rfl
  · rw [if_pos rfl]
    cases r.val <;> rfl
theorem ev_rBytes (r : Rec) : Ev (fun k => thwartref03_Bytes.f k (r.seq : Int) (B r.key) (B r.val) r.gone) (B (bytesS r).1, (bytesS r).2) := by
  unfold thwartref03_Bytes.f
  refine ev_bind_now (rRight r) ?_
  unfold bytesS
  cases hr : rightS r with
  | false =>
    refine ev_bf ?_
    rw [if_neg (by decide)]
    exact Ev.now _
  | true =>
    refine ev_bt ?_
    rw [if_pos rfl]
    obtain ⟨h1, h2, h3, h4, h5, h6⟩ := right_facts hr
    have a := B_textS_le r.key
    have b := B_textS_le r.val
    have c := B_putS_le (2 * r.seq + 1)
    have d := B_putS_le (2 * r.seq)
    have e : IntKind.u64.wrap (2 * (r.seq : Int)) = ((2 * r.seq : Nat) : Int) := by rw [IntKind.wrap_u64]; omega
    have e' : IntKind.u64.wrap (((2 * r.seq : Nat) : Int) + 1) = ((2 * r.seq + 1 : Nat) : Int) := by rw [IntKind.wrap_u64]; omega
    unfold recS
    cases hg : r.gone with
    | true =>
      refine ev_bt ?_
      rw [if_pos rfl]
      rw [e, e']
      refine Ev.bind (ev_rPutS _ (by omega)) ?_
      refine Ev.bind (ev_rText_B _ (by omega)) ?_
      refine ev_if_pos (by omega) ?_
      rw [B_append]
      exact Ev.now _
    | false =>
      refine ev_bf ?_
      rw [if_neg (by decide)]
      rw [e]
      refine Ev.bind (ev_rPutS _ (by omega)) ?_
      refine Ev.bind (ev_rText_B _ (by omega)) ?_
      refine ev_if_pos (by omega) ?_
      refine Ev.bind (ev_rText_B _ (by omega)) ?_
      refine ev_if_pos (by omega) ?_
      rw [B_append, B_append]
      exact Ev.now _
theorem ev_rRead (b : ByteArray) (hb : b.size ≤ 4611686018427387904) : Ev (fun k => thwartref03_Read.f k b) (RD (readS (L b))) := by
  have hl := L_length b
  unfold thwartref03_Read.f
  refine Ev.bind (ev_rTake b hb) ?_
  unfold readS
  have ht := takeS_told (L b)
  generalize hT : takeS (L b) = T at *
  obtain ⟨n, b1, e1⟩ := T
  simp only [TK] at ht ⊢
  by_cases he1 : e1 = 0
  case neg =>
    rw [if_neg he1]
    exact ev_if_neg he1 (Ev.now _)
  rw [if_pos he1]
  refine ev_if_pos he1 ?_
  obtain ⟨_, _, hn, _, h5⟩ : e1 = 0 ∧ putS n ++ b1 = L b ∧ n < 18446744073709551616 ∧ (L b).length ≤ b1.length + 10 ∧ b1.length < (L b).length := by
    rcases ht with h | h | h
    · exact h
    · injection h with _ h; injection h with _ h; exact absurd (h.symm.trans he1) (by decide)
    · injection h with _ h; injection h with _ h; exact absurd (h.symm.trans he1) (by decide)
  have hlen := ofTextS_len b1
  refine Ev.bind (ev_rOfText_B b1 (by omega)) ?_
  generalize hO : ofTextS b1 = O at *
  obtain ⟨key, b2, e2⟩ := O
  simp only [OT] at hlen ⊢
  by_cases he2 : e2 = 0
  case neg =>
    rw [if_neg he2]
    exact ev_if_neg he2 (Ev.now _)
  rw [if_pos he2]
  refine ev_if_pos he2 ?_
  simp only [rhalf n hn]
  by_cases hodd : n % 2 = 1
  · rw [if_pos hodd]
    have ho : Int.tmod (n : Int) 2 = 1 := by rw [rodd, hodd]; rfl
    refine ev_if_pos ho ?_
    rw [show (Int.tmod (n : Int) 2 == 1) = true by rw [ho]; rfl]
    refine ev_bind_now (rRight ⟨n / 2, key, [], true⟩) ?_
    cases rightS ⟨n / 2, key, [], true⟩
    · exact ev_bf (Ev.now _)
    · exact ev_bt (Ev.now _)
  · rw [if_neg hodd]
    have ho : Int.tmod (n : Int) 2 = 0 := by rw [rodd, show n % 2 = 0 by omega]; rfl
    refine ev_if_neg (by rw [ho]; decide) ?_
    rw [show (Int.tmod (n : Int) 2 == 1) = false by rw [ho]; rfl]
    refine Ev.bind (ev_rOfText_B b2 (by omega)) ?_
    generalize hO : ofTextS b2 = O at *
    obtain ⟨val, b3, e3⟩ := O
    simp only [OT] at ⊢
    by_cases he3 : e3 = 0
    case neg =>
      rw [if_neg he3]
      exact ev_if_neg he3 (Ev.now _)
    rw [if_pos he3]
    refine ev_if_pos he3 ?_
    refine ev_bind_now (rRight ⟨n / 2, key, val, false⟩) ?_
    cases rightS ⟨n / 2, key, val, false⟩
    · exact ev_bf (Ev.now _)
    · exact ev_bt (Ev.now _)
end Go.Proofs.Ytnhmhdconmollaa.Thw
