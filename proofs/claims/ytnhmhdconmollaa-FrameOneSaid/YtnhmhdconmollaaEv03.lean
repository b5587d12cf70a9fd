/- Layer 3 (record): what the printed functions come to, in the plain words of Plain03. -/
import Derived.Test.YtnhmhdconmollaaPrint2
import Derived.Test.YtnhmhdconmollaaPrint3
import Derived.Test.YtnhmhdconmollaaPrint4
import Derived.Test.YtnhmhdconmollaaEv01
import Derived.Test.YtnhmhdconmollaaPlain03
import Derived.Laws.BitsAllLaws
namespace Go.Proofs.Ytnhmhdconmollaa.Thw
open Go Go.RowKit Go.Proofs.Ytnhmhdconmollaa.Print Go.Proofs.YtnhmhdconmollaaW.PrintWords Go.Proofs.YtnhmhdconmollaaW.PrintLast Go.Proofs.YtnhmhdconmollaaW.PrintMore
set_option linter.unusedVariables false
set_option linter.unusedSimpArgs false

theorem ev_bt {α : Type} {g f : Nat → Option α} {r : α} (h : Ev g r) : Ev (fun k => if true = true then g k else f k) r := h
theorem ev_bf {α : Type} {g f : Nat → Option α} {r : α} (h : Ev f r) : Ev (fun k => if false = true then g k else f k) r := h
theorem B_isEmpty (l : Bs) : ((B l).toList == ([] : List UInt8)) = decide (l = []) := by rw [toList_L, L_B]; cases l <;> rfl
theorem ev_Right_j (x : Bool) (n : Int) (key val : ByteArray) (g : Bool) : Ev (fun k => record_Right.j0 k x n key val g) (if x = true then false else if g = true then ((val.toList == ([] : List UInt8)) && g) else true) := by
  refine Ev.step (f := fun _ => some (if x = true then false else if g = true then ((val.toList == ([] : List UInt8)) && g) else true)) (fun k => ?_) (Ev.now _)
  rw [record_Right.j0]
  cases x <;> cases g <;> rfl
theorem ev_Right_no (n : Int) (key val : ByteArray) (g : Bool) : Ev (fun k => record_Right.j0 k true n key val g) false := ev_Right_j true n key val g
theorem ev_Right (r : Rec) : Ev (fun k => record_Right.f k (r.seq : Int) (B r.key) (B r.val) r.gone) (rightS r) := by
  unfold record_Right.f
  by_cases h1 : r.seq < 1
  · rw [show rightS r = false by unfold rightS; simp; omega]
    exact ev_if_pos (by omega) (ev_Right_no _ _ _ _)
  refine ev_if_neg (by omega) ?_
  by_cases h2 : r.seq > 1099511627776
  · rw [show rightS r = false by unfold rightS; simp; omega]
    exact ev_if_pos (by omega) (ev_Right_no _ _ _ _)
  refine ev_if_neg (by omega) ?_
  by_cases h3 : r.key = []
  · rw [show rightS r = false by unfold rightS; simp [h3]]
    exact ev_if_pos (by rw [h3, toList_L, L_B]) (ev_Right_no _ _ _ _)
  refine ev_if_neg (by rw [toList_L, L_B]; exact h3) ?_
  have h3' : 1 ≤ r.key.length := List.length_pos_iff.mpr h3
  by_cases h4 : r.key.length > 40
  · rw [show rightS r = false by unfold rightS; simp; omega]
    exact ev_if_pos (by rw [B_size]; omega) (ev_Right_no _ _ _ _)
  refine ev_if_neg (by rw [B_size]; omega) ?_
  have hj := ev_Right_j (decide (((B r.val).size : Int) > 300)) (r.seq : Int) (B r.key) (B r.val) r.gone
  refine cast (congrArg (Ev _) ?_) hj
  rw [B_isEmpty, B_size]
  by_cases h5 : r.val.length > 300
  · rw [show rightS r = false by unfold rightS; simp; omega, if_pos (by simp; omega)]
  · rw [if_neg (by simp; omega)]
    unfold rightS
    rw [decide_eq_true (by omega : 1 ≤ r.seq), decide_eq_true (by omega : r.seq ≤ 1099511627776), decide_eq_true h3', decide_eq_true (by omega : r.key.length ≤ 40), decide_eq_true (by omega : r.val.length ≤ 300)]
    cases r.gone <;> simp
theorem or_one (m : Nat) (h : 2 * m < 18446744073709551616) : Go.bits .or .u64 ((2 * m : Nat) : Int) 1 = ((2 * m + 1 : Nat) : Int) := by
  rw [show (1 : Int) = ((1 : Nat) : Int) from rfl, u64_or_nat (2 * m) 1 (by omega) (by omega)]
  have := Nat.shiftLeft_add_eq_or_of_lt (b := 1) (i := 1) (by decide) m
  rw [Nat.shiftLeft_eq, show m * 2 ^ 1 = 2 * m by omega] at this
  rw [this]
theorem and_one' (n : Nat) (h1 : n < 18446744073709551616) : Go.bits .and .u64 (n : Int) 1 = ((n % 2 : Nat) : Int) := by
  rw [show (1 : Int) = ((1 : Nat) : Int) from rfl, u64_and_nat n 1 (by omega) (by omega), Nat.and_one_is_mod]
theorem B_textS_le (l : Bs) : (B (textS l)).size ≤ 10 + l.length := by rw [B_size]; exact textS_length l
theorem B_putS_le (n : Nat) : (B (putS n)).size ≤ 10 := by rw [B_size]; exact putS_length n
theorem text_B (l : Bs) (h : l.length ≤ 4611686018427387904) : varint_Text.f (B l) = some (B (textS l)) := by
  rw [varint_Text_B _ (by rw [B_size]; exact h), L_B]
theorem ev_Bytes (r : Rec) : Ev (fun k => record_Bytes.f k (r.seq : Int) (B r.key) (B r.val) r.gone) (B (bytesS r).1, (bytesS r).2) := by
  unfold record_Bytes.f
  refine Ev.bind (ev_Right r) ?_
  unfold bytesS
  cases hr : rightS r with
  | false =>
    refine ev_bf ?_
    rw [if_neg (by decide)]
    exact Ev.now _
  | true =>
    refine ev_bt ?_
    rw [if_pos rfl]
    obtain ⟨h1, h2, h3, h4, h5, h6⟩ := right_facts hr
    have a := B_textS_le r.key
    have b := B_textS_le r.val
    have c := B_putS_le (2 * r.seq + 1)
    have d := B_putS_le (2 * r.seq)
    have e : IntKind.u64.wrap ((r.seq : Int) * 2) = ((2 * r.seq : Nat) : Int) := by rw [IntKind.wrap_u64]; omega
    unfold recS
    cases hg : r.gone with
    | true =>
      refine ev_bt ?_
      rw [if_pos rfl]
      rw [e, or_one _ (by omega)]
      refine ev_bind_now (varint_Put_N _ (by omega)) ?_
      refine ev_bind_now (text_B _ (by omega)) ?_
      refine ev_if_pos (by omega) ?_
      rw [B_append]
      exact Ev.now _
    | false =>
      refine ev_bf ?_
      rw [if_neg (by decide)]
      rw [e]
      refine ev_bind_now (varint_Put_N _ (by omega)) ?_
      refine ev_bind_now (text_B _ (by omega)) ?_
      refine ev_if_pos (by omega) ?_
      refine ev_bind_now (text_B _ (by omega)) ?_
      refine ev_if_pos (by omega) ?_
      rw [B_append, B_append]
      exact Ev.now _
def RD (x : Rec × Bs × Int) : Int × ByteArray × ByteArray × Bool × ByteArray × Int := ((x.1.seq : Int), B x.1.key, B x.1.val, x.1.gone, B x.2.1, x.2.2)
theorem ofTextS_len (b : Bs) : (ofTextS b).2.1.length ≤ b.length := by
  rcases ofTextS_told b with ⟨_, _, h⟩ | h | h
  · omega
  · rw [h]; simp
  · rw [h]; simp
theorem ev_OfText_B (b : Bs) (hb : b.length ≤ 4611686018427387904) : Ev (fun k => varint_OfText.f k (B b)) (OT (ofTextS b)) := by
  have := ev_OfText (B b) (by rw [B_size]; exact hb)
  rwa [L_B] at this
theorem ev_Read (b : ByteArray) (hb : b.size ≤ 4611686018427387904) : Ev (fun k => record_Read.f k b) (RD (readS (L b))) := by
  have hl := L_length b
  unfold record_Read.f
  refine Ev.bind (ev_Take b hb) ?_
  unfold readS
  have ht := takeS_told (L b)
  generalize hT : takeS (L b) = T at *
  obtain ⟨n, b1, e1⟩ := T
  simp only [TK] at ht ⊢
  by_cases he1 : e1 = 0
  case neg =>
    rw [if_neg he1]
    exact ev_if_neg he1 (Ev.now _)
  rw [if_pos he1]
  refine ev_if_pos he1 ?_
  obtain ⟨_, _, hn, _, h5⟩ : e1 = 0 ∧ putS n ++ b1 = L b ∧ n < 18446744073709551616 ∧ (L b).length ≤ b1.length + 10 ∧ b1.length < (L b).length := by
    rcases ht with h | h | h
    · exact h
    · injection h with _ h; injection h with _ h; exact absurd (h.symm.trans he1) (by decide)
    · injection h with _ h; injection h with _ h; exact absurd (h.symm.trans he1) (by decide)
  have hlen := ofTextS_len b1
  have hdiv : ((n : Int) / 2) = ((n / 2 : Nat) : Int) := by omega
  simp only [hdiv]
  by_cases hodd : n % 2 = 1
  · have ho : (Go.bits .and .u64 (n : Int) 1 == 1) = true := by rw [and_one' n hn, hodd]; rfl
    refine ev_if_pos ho ?_
    refine Ev.bind (ev_OfText_B b1 (by omega)) ?_
    rw [if_pos hodd]
    generalize hO : ofTextS b1 = O at *
    obtain ⟨key, b2, e2⟩ := O
    simp only [OT] at hlen ⊢
    by_cases he2 : e2 = 0
    case neg =>
      rw [if_neg he2]
      exact ev_if_neg he2 (Ev.now _)
    rw [if_pos he2]
    refine ev_if_pos he2 ?_
    refine Ev.bind (ev_Right ⟨n / 2, key, [], true⟩) ?_
    cases rightS ⟨n / 2, key, [], true⟩
    · exact ev_bf (Ev.now _)
    · exact ev_bt (Ev.now _)
  · have ho : ¬ (Go.bits .and .u64 (n : Int) 1 == 1) = true := by rw [and_one' n hn, show n % 2 = 0 by omega]; decide
    refine ev_if_neg ho ?_
    refine Ev.bind (ev_OfText_B b1 (by omega)) ?_
    rw [if_neg hodd]
    generalize hO : ofTextS b1 = O at *
    obtain ⟨key, b2, e2⟩ := O
    simp only [OT] at hlen ⊢
    by_cases he2 : e2 = 0
    case neg =>
      rw [if_neg he2]
      exact ev_if_neg he2 (Ev.now _)
    rw [if_pos he2]
    refine ev_if_pos he2 ?_
    refine Ev.bind (ev_OfText_B b2 (by omega)) ?_
    generalize hO : ofTextS b2 = O at *
    obtain ⟨val, b3, e3⟩ := O
    simp only [OT] at ⊢
    by_cases he3 : e3 = 0
    case neg =>
      rw [if_neg he3]
      exact ev_if_neg he3 (Ev.now _)
    rw [if_pos he3]
    refine ev_if_pos he3 ?_
    refine Ev.bind (ev_Right ⟨n / 2, key, val, false⟩) ?_
    cases rightS ⟨n / 2, key, val, false⟩
    · exact ev_bf (Ev.now _)
    · exact ev_bt (Ev.now _)
end Go.Proofs.Ytnhmhdconmollaa.Thw
