/- Layer 5 (hint): the entries of bytes, as the program reads them. -/
import Derived.Test.YtdjkkceamldmjaaPrint6
import Derived.Test.YtdjkkceamldmjaaEv05
namespace Go.Proofs.Ytdjkkceamldmjaa.Thw
open Go Go.RowKit Go.Proofs.Ytdjkkceamldmjaa.Print Go.Proofs.YtdjkkceamldmjaaW.PrintWords Go.Proofs.YtdjkkceamldmjaaW.PrintLast Go.Proofs.YtdjkkceamldmjaaW.PrintMore
set_option linter.unusedVariables false
set_option linter.unusedSimpArgs false

def finE (many : Nat) (out : List Ent) (x : Option (List Ent)) : List SE × Int :=
  match x with
  | some l => if (out ++ l).length ≤ 2000 ∧ (out ++ l).length = many then ((out ++ l).map ES, 0) else ([], 2)
  | none => ([], 2)
theorem ev_Take_B (b : Bs) (hb : b.length ≤ 4611686018427387904) : Ev (fun k => varint_Take.f k (B b)) (TK (takeS b)) := by
  have := ev_Take (B b) (by rw [B_size]; exact hb)
  rwa [L_B] at this
theorem takeS_lt (b : Bs) : (takeS b).1 < 18446744073709551616 := by
  rcases takeS_told b with ⟨_, _, h, _⟩ | h | h
  · exact h
  · rw [h]; decide
  · rw [h]; decide
theorem entE_fields (x : Bs × Nat × Nat × Nat) (h1 : x.2.1 < 18446744073709551616) (h2 : x.2.2.1 < 18446744073709551616) :
    hint_entry (B x.1) (x.2.1 : Int) (x.2.2.1 : Int) (x.2.2.2 : Int) = ES (entE x) := by
  obtain ⟨key, a, b, c⟩ := x
  simp only [] at h1 h2 ⊢
  unfold hint_entry ES entE
  simp only []
  have e1 : wrap64 (mn (a : Int) 1048577) = ((min a 1048577 : Nat) : Int) := by
    have : mn (a : Int) 1048577 = ((min a 1048577 : Nat) : Int) := by unfold mn; split <;> omega
    rw [this, wrap64_in (by omega) (by omega)]
  have e2 : wrap64 (mn ((b : Int) / 2) 401) = ((min (b / 2) 401 : Nat) : Int) := by
    have : mn ((b : Int) / 2) 401 = ((min (b / 2) 401 : Nat) : Int) := by unfold mn; split <;> omega
    rw [this, wrap64_in (by omega) (by omega)]
  have e3 : (Go.bits .and .u64 (b : Int) 1 == 1) = decide (b % 2 = 1) := by
    rw [and_one' b h2, Bool.eq_iff_iff, beq_iff_eq, decide_eq_true_eq]
    omega
  rw [e1, e2, e3]
theorem ev_hents (many : Nat) (hm : many < 18446744073709551616) : ∀ (f : Nat) (s : Bs) (out : List Ent), s.length ≤ f → s.length ≤ 1000000000 → out.length ≤ 2000 →
    Ev (fun k => hint_Read.l0 k (many : Int) (B s) (out.map ES)) (finE many out (entsR f s)) := by
  have done : ∀ (s : Bs) (f : Nat) (out : List Ent), s = [] → out.length ≤ 2000 → Ev (fun k => hint_Read.l0 k (many : Int) (B s) (out.map ES)) (finE many out (some [])) := by
    intro s f out hs ho
    subst hs
    refine Ev.step (fun k => by rw [hint_Read.l0]) ?_
    refine ev_if_pos (by rw [toList_L, L_B]) ?_
    unfold finE
    simp only [List.append_nil, List.length_map]
    rw [u64_in (by omega) (by omega)]
    by_cases h : out.length = many
    · refine ev_if_pos (by omega) ?_
      rw [if_pos ⟨ho, h⟩]
      exact Ev.now _
    · refine ev_if_neg (by omega) ?_
      rw [if_neg (fun x => h x.2)]
      exact Ev.now _
  intro f
  induction f with
  | zero =>
    intro s out hs hl ho
    have hz : s = [] := List.length_eq_zero_iff.mp (by omega)
    rw [entsR, if_pos hz]
    exact done s 0 out hz ho
  | succ f ih =>
    intro s out hs hl ho
    rw [entsR]
    by_cases hz : s = []
    · rw [if_pos hz]; exact done s f out hz ho
    rw [if_neg hz]
    refine Ev.step (fun k => by rw [hint_Read.l0]) ?_
    refine ev_if_neg (by rw [toList_L, L_B]; exact hz) ?_
    have l1 := ofTextS_len s
    have l2 := takeS_len (ofTextS s).2.1
    have l3 := takeS_len (takeS (ofTextS s).2.1).2.1
    have l4 := takeS_len (takeS (takeS (ofTextS s).2.1).2.1).2.1
    have g2 := takeS_lt (ofTextS s).2.1
    have g3 := takeS_lt (takeS (ofTextS s).2.1).2.1
    have hraw := rawE_told s
    refine Ev.bind (ev_OfText_B s (by omega)) ?_
    refine Ev.bind (ev_Take_B _ (by omega)) ?_
    refine Ev.bind (ev_Take_B _ (by omega)) ?_
    refine Ev.bind (ev_Take_B _ (by omega)) ?_
    unfold rawE at hraw ⊢
    generalize ofTextS s = T at *
    obtain ⟨key, r1, x1⟩ := T
    simp only [] at l1 l2 l3 l4 g2 g3 hraw ⊢
    generalize takeS r1 = A at *
    obtain ⟨a, r2, x2⟩ := A
    simp only [] at l2 l3 l4 g2 g3 hraw ⊢
    generalize takeS r2 = Bq at *
    obtain ⟨b, r3, x3⟩ := Bq
    simp only [] at l3 l4 g3 hraw ⊢
    generalize takeS r3 = C at *
    obtain ⟨c, r4, x4⟩ := C
    simp only [OT, TK] at l4 hraw ⊢
    have hent := entE_fields (key, a, b, c) g2 g3
    simp only [] at hent
    have hcond : ((x1 == 0 && x2 == 0 && x3 == 0 && x4 == 0) = true) ↔ (x1 = 0 ∧ x2 = 0 ∧ x3 = 0 ∧ x4 = 0) := by
      simp [and_assoc]
    by_cases hc : x1 = 0 ∧ x2 = 0 ∧ x3 = 0 ∧ x4 = 0
    · refine ev_if_pos (hcond.mpr hc) ?_
      have hr := right_E (entE (key, a, b, c))
      have hf : hint_right.f (B key) (wrap64 (mn (a : Int) 1048577)) (wrap64 (mn ((b : Int) / 2) 401)) (c : Int) (Go.bits .and .u64 (b : Int) 1 == 1) = some (rightE (entE (key, a, b, c))) := by
        rw [← hr]
        have h1 := congrArg (fun x : SE => x.f1) hent
        have h2 := congrArg (fun x : SE => x.f2) hent
        have h4 := congrArg (fun x : SE => x.f4) hent
        simp only [hint_entry, ES] at h1 h2 h4
        rw [h1, h2, h4]
        rfl
      refine ev_bind_now hf ?_
      cases hre : rightE (entE (key, a, b, c)) with
      | false =>
        rw [if_neg (fun x => by have := x.2; cases this)]
        exact ev_bf (Ev.now _)
      | true =>
        rw [if_pos ⟨decide_eq_true hc, rfl⟩]
        refine ev_bt ?_
        have hlt := (hraw (decide_eq_true hc) hre).2
        by_cases h2 : out.length = 2000
        · refine ev_if_pos (by rw [List.length_map]; omega) ?_
          have : finE many out ((entsR f r4).bind fun l => some (entE (key, a, b, c) :: l)) = ([], 2) := by
            cases entsR f r4 with
            | none => rfl
            | some l =>
              unfold finE
              simp only [Option.bind_some]
              rw [if_neg (fun x => by have := x.1; rw [List.length_append, List.length_cons] at this; omega)]
          rw [this]
          exact Ev.now _
        · refine ev_if_neg (by rw [List.length_map]; omega) ?_
          refine ev_if_pos (by rw [List.length_map]; omega) ?_
          have := ih r4 (out ++ [entE (key, a, b, c)]) (by omega) (by omega) (by rw [List.length_append]; simp; omega)
          rw [List.map_append, List.map_cons, List.map_nil, ← hent] at this
          refine cast (congrArg (Ev _) ?_) this
          cases entsR f r4 with
          | none => rfl
          | some l =>
            unfold finE
            simp only [Option.bind_some, List.append_assoc, List.singleton_append]
    · refine ev_if_neg (fun x => hc (hcond.mp x)) ?_
      rw [if_neg (fun x => hc (of_decide_eq_true x.1))]
      exact Ev.now _
def HR (x : List Ent × Int) : List SE × Int := (x.1.map ES, x.2)
theorem ev_hRead (b : ByteArray) (hb : b.size ≤ 1000000000) : Ev (fun k => hint_Read.f k b) (HR (readE (L b))) := by
  have hl := L_length b
  unfold hint_Read.f
  refine ev_bind_now (crc_Open_S b (by omega)) ?_
  unfold readE
  have z := openS_len' (L b)
  generalize openS (L b) = P at *
  obtain ⟨s, ok⟩ := P
  simp only [] at z ⊢
  cases ok with
  | false => exact ev_bf (Ev.now _)
  | true =>
    refine ev_bt ?_
    refine Ev.bind (ev_Take_B s (by omega)) ?_
    have z2 := takeS_len s
    have z3 := takeS_lt s
    generalize takeS s = T at *
    obtain ⟨n, r, e⟩ := T
    simp only [TK] at z2 z3 ⊢
    rw [if_pos trivial]
    by_cases he : e = 0
    · rw [if_pos he]
      refine ev_if_pos he ?_
      have := ev_hents n z3 r.length r [] (Nat.le_refl _) (by omega) (by simp)
      refine cast (congrArg (Ev _) ?_) this
      unfold finE HR
      cases entsR r.length r with
      | none => rfl
      | some l =>
        simp only [List.nil_append]
        split <;> rfl
    · rw [if_neg he]
      exact ev_if_neg he (Ev.now _)
end Go.Proofs.Ytdjkkceamldmjaa.Thw
