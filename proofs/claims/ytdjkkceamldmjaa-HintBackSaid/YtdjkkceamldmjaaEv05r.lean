/- Layer 5, the references: entries' bytes, the entries of bytes, Same, and the law's own to and light. -/
import Derived.Test.YtdjkkceamldmjaaPrint12
import Derived.Test.YtdjkkceamldmjaaPrint10
import Derived.Test.YtdjkkceamldmjaaEv05
namespace Go.Proofs.Ytdjkkceamldmjaa.Thw
open Go Go.RowKit Go.Proofs.Ytdjkkceamldmjaa.Print Go.Proofs.YtdjkkceamldmjaaW.PrintWords Go.Proofs.YtdjkkceamldmjaaW.PrintLast Go.Proofs.YtdjkkceamldmjaaW.PrintMore
set_option linter.unusedVariables false
set_option linter.unusedSimpArgs false

theorem ev_one (e : Ent) (hr : rightE e = true) : Ev (fun k => thwartref05_one.f k (B e.key) e.off e.len (e.seq : Int) e.gone) (B (oneE e)) := by
  obtain ⟨h1, h2, h3, h4, h5, h6, h7, h8⟩ := rightE_facts hr
  have q1 := B_textS_le e.key
  have q2 := B_putS_le e.off.toNat
  have q3 := B_putS_le (2 * e.len.toNat + flagN e.gone)
  have q4 := B_putS_le e.seq
  have hg := flagN_le e.gone
  have w1 : IntKind.u64.wrap e.off = ((e.off.toNat : Nat) : Int) := by rw [IntKind.wrap_u64]; omega
  have w2 : IntKind.u64.wrap (2 * IntKind.u64.wrap e.len) = ((2 * e.len.toNat : Nat) : Int) := by rw [IntKind.wrap_u64, IntKind.wrap_u64]; omega
  have w3 : IntKind.u64.wrap (((2 * e.len.toNat : Nat) : Int) + 1) = ((2 * e.len.toNat + 1 : Nat) : Int) := by rw [IntKind.wrap_u64]; omega
  have hone : ((B (textS e.key) ++ B (putS e.off.toNat)) ++ B (putS (2 * e.len.toNat + flagN e.gone))) ++ B (putS e.seq) = B (oneE e) := by unfold oneE; rw [B_append, B_append, B_append]
  have j : Ev (fun k => thwartref05_one.j0 k ((2 * e.len.toNat + flagN e.gone : Nat) : Int) (B e.key) e.off e.len (e.seq : Int) e.gone) (B (oneE e)) := by
    refine Ev.step (fun k => by rw [thwartref05_one.j0]) ?_
    refine Ev.bind (ev_rText_B _ (by omega)) ?_
    rw [w1]
    refine Ev.bind (ev_rPutS _ (by omega)) ?_
    refine ev_if_pos (by omega) ?_
    refine Ev.bind (ev_rPutS _ (by omega)) ?_
    refine ev_if_pos (by omega) ?_
    refine Ev.bind (ev_rPutS _ (by omega)) ?_
    refine ev_if_pos (by omega) ?_
    rw [hone]
    exact Ev.now _
  unfold thwartref05_one.f
  rw [w2, w3]
  cases hgone : e.gone with
  | true =>
    refine ev_bt ?_
    rw [hgone] at j
    exact j
  | false =>
    refine ev_bf ?_
    rw [hgone] at j
    exact j
def finD (n : Nat) (acc : ByteArray) (l : List Ent) : ByteArray × Int := if allRight l = true then (if n ≤ 2000 then (B (sealS (L acc ++ bodyE l)), 0) else (⟨#[]⟩, 1)) else (⟨#[]⟩, 1)
theorem ev_dbytes (l : List Ent) (hn : l.length ≤ 1000000000) : ∀ (d i : Nat) (acc : ByteArray), i + d = l.length → acc.size ≤ 10 + 80 * i →
    Ev (fun k => thwartref05_Bytes.l0 k (l.map EF) acc (i : Int)) (finD l.length acc (l.drop i)) := by
  intro d
  induction d with
  | zero =>
    intro i acc hi ha
    refine Ev.step (fun k => by rw [thwartref05_Bytes.l0]) ?_
    refine ev_if_neg (by rw [List.length_map]; omega) ?_
    rw [List.drop_eq_nil_of_le (by omega)]
    unfold finD
    rw [show allRight ([] : List Ent) = true from rfl, if_pos (rfl : true = true), show bodyE ([] : List Ent) = [] from rfl, List.append_nil]
    by_cases h : l.length ≤ 2000
    · rw [if_pos h]
      refine ev_if_neg (by rw [List.length_map]; omega) ?_
      refine Ev.bind (ev_rSeal _ (by omega)) ?_
      exact Ev.now _
    · rw [if_neg h]
      exact ev_if_pos (by rw [List.length_map]; omega) (Ev.now _)
  | succ d ih =>
    intro i acc hi ha
    have hlt : i < l.length := by omega
    refine Ev.step (fun k => by rw [thwartref05_Bytes.l0]) ?_
    refine ev_if_pos (by rw [List.length_map]; omega) ?_
    refine ev_if_pos (by omega) ?_
    simp only [rd_EF l i hlt]
    refine ev_bind_now (rright_E l[i]) ?_
    rw [drop_at l i hlt]
    cases hr : rightE l[i] with
    | false =>
      have : finD l.length acc (l[i] :: l.drop (i + 1)) = (⟨#[]⟩, 1) := by
        unfold finD allRight
        rw [List.all_cons, hr, Bool.false_and]
        rfl
      rw [this]
      exact ev_bf (Ev.now _)
    | true =>
      have : finD l.length acc (l[i] :: l.drop (i + 1)) = finD l.length (acc ++ B (oneE l[i])) (l.drop (i + 1)) := by
        unfold finD
        rw [L_append, L_B, bodyE, List.append_assoc]
        unfold allRight
        rw [List.all_cons, hr, Bool.true_and]
      rw [this]
      refine ev_bt ?_
      obtain ⟨z1, z2⟩ := oneE_length hr
      have hsz : (B (oneE l[i])).size ≤ 80 := by rw [B_size]; exact z2
      refine Ev.bind (ev_one l[i] hr) ?_
      refine ev_if_pos (by omega) ?_
      rw [wrap64_in (by omega) (by omega)]
      exact ih (i + 1) _ (by omega) (by rw [ByteArray.size_append]; omega)
theorem ev_dBytes (l : List Ent) (hl : l.length ≤ 1000000000) : Ev (fun k => thwartref05_Bytes.f k (l.map EF)) (B (bytesE l).1, (bytesE l).2) := by
  unfold thwartref05_Bytes.f
  rw [List.length_map, u64_in (by omega) (by omega)]
  refine Ev.bind (ev_rPutS _ (by omega)) ?_
  have := ev_dbytes l hl l.length 0 (B (putS l.length)) (by omega) (by have := B_putS_le l.length; omega)
  rw [List.drop_zero] at this
  refine cast (congrArg (Ev _) ?_) this
  unfold finD bytesE
  rw [L_B]
  by_cases h : l.length ≤ 2000
  · rw [if_pos h, if_pos h]
    split <;> rfl
  · rw [if_neg h, if_neg h]
    split <;> rfl
/-! ### Read -/
def finG (b : Bs) (out : List Ent) (x : Option (List Ent)) : List SF × Int :=
  match x with
  | some l => if bytesE (out ++ l) = (b, 0) then ((out ++ l).map EF, 0) else ([], 2)
  | none => ([], 2)
theorem ev_rTake_B (b : Bs) (hb : b.length ≤ 4611686018427387904) : Ev (fun k => thwartref01_Take.f k (B b)) (TK (takeS b)) := by
  have := ev_rTake (B b) (by rw [B_size]; exact hb)
  rwa [L_B] at this
theorem entR_fields (x : Bs × Nat × Nat × Nat) (h1 : x.2.1 ≤ 1048576) (h2 : x.2.2.1 ≤ 1000) :
    (⟨B x.1, wrap64 (x.2.1 : Int), wrap64 (IntKind.u64.wrap (Int.tdiv (x.2.2.1 : Int) 2)), (x.2.2.2 : Int), (Int.tmod (x.2.2.1 : Int) 2 == 1)⟩ : SF) = EF (entR x) := by
  obtain ⟨key, a, b, c⟩ := x
  simp only [] at h1 h2 ⊢
  unfold EF entR
  simp only []
  rw [rhalf b (by omega), rodd, wrap64_in (by omega) (by omega), wrap64_in (by omega) (by omega)]
  congr 1
  rw [Bool.eq_iff_iff, beq_iff_eq, decide_eq_true_eq]
  omega
theorem ev_dents (b0 : ByteArray) : ∀ (f : Nat) (s : Bs) (out : List Ent), s.length ≤ f → out.length + s.length ≤ 1000000 →
    Ev (fun k => thwartref05_Read.l0 k b0 (B s) (out.map EF)) (finG (L b0) out (looseR f s)) := by
  have done : ∀ (s : Bs) (out : List Ent), s = [] → out.length ≤ 1000000 → Ev (fun k => thwartref05_Read.l0 k b0 (B s) (out.map EF)) (finG (L b0) out (some [])) := by
    intro s out hs ho
    subst hs
    refine Ev.step (fun k => by rw [thwartref05_Read.l0]) ?_
    refine ev_if_neg (by rw [B_size]; decide) ?_
    refine Ev.bind (ev_dBytes out (by omega)) ?_
    unfold finG
    simp only [List.append_nil, toList_L, L_B]
    by_cases h : (bytesE out).2 = 0
    · refine ev_if_pos h ?_
      by_cases h2 : (bytesE out).1 = L b0
      · rw [if_pos (Prod.ext h2 h)]
        exact ev_if_pos h2 (Ev.now _)
      · rw [if_neg (fun x => h2 (congrArg Prod.fst x))]
        exact ev_if_neg h2 (Ev.now _)
    · rw [if_neg (fun x => h (congrArg Prod.snd x))]
      exact ev_if_neg h (Ev.now _)
  intro f
  induction f with
  | zero =>
    intro s out hs hl
    have hz : s = [] := List.length_eq_zero_iff.mp (by omega)
    rw [looseR, if_pos hz]
    exact done s out hz (by omega)
  | succ f ih =>
    intro s out hs hl
    rw [looseR]
    by_cases hz : s = []
    · rw [if_pos hz]; exact done s out hz (by omega)
    rw [if_neg hz]
    have hp : 0 < s.length := List.length_pos_iff.mpr hz
    refine Ev.step (fun k => by rw [thwartref05_Read.l0]) ?_
    refine ev_if_pos (by rw [B_size]; omega) ?_
    have l1 := ofTextS_len s
    have t1 := ofTextS_told s
    have l2 := takeS_len (ofTextS s).2.1
    have l3 := takeS_len (takeS (ofTextS s).2.1).2.1
    have l4 := takeS_len (takeS (takeS (ofTextS s).2.1).2.1).2.1
    refine Ev.bind (ev_rOfText_B s (by omega)) ?_
    refine Ev.bind (ev_rTake_B _ (by omega)) ?_
    refine Ev.bind (ev_rTake_B _ (by omega)) ?_
    refine Ev.bind (ev_rTake_B _ (by omega)) ?_
    unfold rawE
    generalize ofTextS s = T at *
    obtain ⟨key, r1, x1⟩ := T
    simp only [] at l1 l2 l3 l4 t1 ⊢
    generalize takeS r1 = A at *
    obtain ⟨a, r2, x2⟩ := A
    simp only [] at l2 l3 l4 ⊢
    generalize takeS r2 = Bq at *
    obtain ⟨b, r3, x3⟩ := Bq
    simp only [] at l3 l4 ⊢
    generalize takeS r3 = C at *
    obtain ⟨c, r4, x4⟩ := C
    simp only [OT, TK] at l4 ⊢
    have no : ∀ P : Prop, ¬ P → [Decidable P] → finG (L b0) out (if decide (x1 = 0 ∧ x2 = 0 ∧ x3 = 0 ∧ x4 = 0) = true ∧ P then (looseR f r4).bind fun l => some (entR (key, a, b, c) :: l) else none) = ([], 2) := by
      intro P hP _
      rw [if_neg (fun x => hP x.2)]
      rfl
    by_cases h1 : x1 = 0
    case neg =>
      rw [if_neg (fun x => h1 (of_decide_eq_true x.1).1)]
      exact ev_if_neg h1 (Ev.now _)
    refine ev_if_pos h1 ?_
    by_cases h2 : x2 = 0
    case neg =>
      rw [if_neg (fun x => h2 (of_decide_eq_true x.1).2.1)]
      exact ev_if_neg h2 (Ev.now _)
    refine ev_if_pos h2 ?_
    by_cases h3 : x3 = 0
    case neg =>
      rw [if_neg (fun x => h3 (of_decide_eq_true x.1).2.2.1)]
      exact ev_if_neg h3 (Ev.now _)
    refine ev_if_pos h3 ?_
    by_cases h4 : x4 = 0
    case neg =>
      rw [if_neg (fun x => h4 (of_decide_eq_true x.1).2.2.2)]
      exact ev_if_neg h4 (Ev.now _)
    refine ev_if_pos h4 ?_
    by_cases h5 : a ≤ 1048576
    case neg =>
      rw [if_neg (fun x => h5 x.2.1)]
      exact ev_if_pos (by omega) (Ev.now _)
    refine ev_if_neg (by omega) ?_
    by_cases h6 : b ≤ 1000
    case neg =>
      rw [if_neg (fun x => h6 x.2.2)]
      exact ev_if_pos (by omega) (Ev.now _)
    refine ev_if_neg (by omega) ?_
    rw [if_pos ⟨decide_eq_true ⟨h1, h2, h3, h4⟩, h5, h6⟩]
    have hlt : r1.length < s.length := by
      rcases t1 with h | h | h
      · exact h.2.2
      · injection h with _ h; injection h with _ h; rw [h1] at h; exact absurd h (by decide)
      · injection h with _ h; injection h with _ h; rw [h1] at h; exact absurd h (by decide)
    refine ev_if_pos (by rw [List.length_map]; omega) ?_
    have hent := entR_fields (key, a, b, c) h5 h6
    simp only [] at hent
    have := ih r4 (out ++ [entR (key, a, b, c)]) (by omega) (by rw [List.length_append]; simp; omega)
    rw [List.map_append, List.map_cons, List.map_nil, ← hent] at this
    refine cast (congrArg (Ev _) ?_) this
    cases looseR f r4 with
    | none => rfl
    | some l =>
      unfold finG
      simp only [Option.bind_some, List.append_assoc, List.singleton_append]
def HD (x : List Ent × Int) : List SF × Int := (x.1.map EF, x.2)
theorem ev_dRead (b : ByteArray) (hb : b.size ≤ 1000000) : Ev (fun k => thwartref05_Read.f k b) (HD (readE (L b))) := by
  rw [← readD_readE]
  have hl := L_length b
  unfold thwartref05_Read.f
  refine Ev.bind (ev_rOpen b (by omega)) ?_
  unfold readD
  have z := openS_len' (L b)
  generalize openS (L b) = P at *
  obtain ⟨s, ok⟩ := P
  simp only [] at z ⊢
  cases ok with
  | false => exact ev_bf (Ev.now _)
  | true =>
    refine ev_bt ?_
    refine Ev.bind (ev_rTake_B s (by omega)) ?_
    have z2 := takeS_len s
    generalize takeS s = T at *
    obtain ⟨n, r, e⟩ := T
    simp only [TK] at z2 ⊢
    rw [if_pos trivial]
    by_cases he : e = 0
    · rw [if_pos he]
      refine ev_if_pos he ?_
      have := ev_dents b r.length r [] (Nat.le_refl _) (by simp; omega)
      refine cast (congrArg (Ev _) ?_) this
      unfold finG HD
      cases looseR r.length r with
      | none => rfl
      | some l =>
        simp only [List.nil_append]
        split <;> rfl
    · rw [if_neg he]
      exact ev_if_neg he (Ev.now _)
end Go.Proofs.Ytdjkkceamldmjaa.Thw
