/- Layer 5 (hint) in plain words: entries' bytes, the entries of bytes. No program in sight. -/
import Derived.Test.YtdjkkceamldmjaaPlain04
namespace Go.Proofs.Ytdjkkceamldmjaa.Thw
open Go
set_option linter.unusedVariables false

structure Ent where
  key : Bs
  off : Int
  len : Int
  seq : Nat
  gone : Bool
deriving DecidableEq
def rightE (e : Ent) : Bool := decide (1 ≤ e.key.length ∧ e.key.length ≤ 40 ∧ 0 ≤ e.off ∧ e.off ≤ 1048576 ∧ 1 ≤ e.len ∧ e.len ≤ 400 ∧ 1 ≤ e.seq ∧ e.seq ≤ 1099511627776)
def flagN (g : Bool) : Nat := if g = true then 1 else 0
def oneE (e : Ent) : Bs := textS e.key ++ putS e.off.toNat ++ putS (2 * e.len.toNat + flagN e.gone) ++ putS e.seq
def bodyE : List Ent → Bs
  | [] => []
  | e :: l => oneE e ++ bodyE l
def allRight (l : List Ent) : Bool := l.all rightE
def bytesE (l : List Ent) : Bs × Int := if l.length ≤ 2000 then (if allRight l = true then (sealS (putS l.length ++ bodyE l), 0) else ([], 1)) else ([], 1)
/-- The entry that bytes begin with, what is behind it, and whether all of it could be taken. -/
def rawE (s : Bs) : (Bs × Nat × Nat × Nat) × Bs × Bool :=
  let t := ofTextS s
  let a := takeS t.2.1
  let b := takeS a.2.1
  let c := takeS b.2.1
  ((t.1, a.1, b.1, c.1), c.2.1, decide (t.2.2 = 0 ∧ a.2.2 = 0 ∧ b.2.2 = 0 ∧ c.2.2 = 0))
def entE (x : Bs × Nat × Nat × Nat) : Ent := ⟨x.1, (min x.2.1 1048577 : Nat), (min (x.2.2.1 / 2) 401 : Nat), x.2.2.2, decide (x.2.2.1 % 2 = 1)⟩
def entR (x : Bs × Nat × Nat × Nat) : Ent := ⟨x.1, (x.2.1 : Int), (x.2.2.1 / 2 : Nat), x.2.2.2, decide (x.2.2.1 % 2 = 1)⟩
/-- Read's loop: the entries, or none if it is no such text. -/
def entsR : Nat → Bs → Option (List Ent)
  | 0, s => if s = [] then some [] else none
  | f + 1, s => if s = [] then some [] else
    if (rawE s).2.2 = true ∧ rightE (entE (rawE s).1) = true then (entsR f (rawE s).2.1).bind fun l => some (entE (rawE s).1 :: l) else none
def readE (b : Bs) : List Ent × Int :=
  if (openS b).2 = true then
    (if (takeS (openS b).1).2.2 = 0 then
      (match entsR (takeS (openS b).1).2.1.length (takeS (openS b).1).2.1 with
       | some l => if l.length ≤ 2000 ∧ l.length = (takeS (openS b).1).1 then (l, 0) else ([], 2)
       | none => ([], 2))
    else ([], 2))
  else ([], 4)

theorem rightE_facts {e : Ent} (h : rightE e = true) : 1 ≤ e.key.length ∧ e.key.length ≤ 40 ∧ 0 ≤ e.off ∧ e.off ≤ 1048576 ∧ 1 ≤ e.len ∧ e.len ≤ 400 ∧ 1 ≤ e.seq ∧ e.seq ≤ 1099511627776 := of_decide_eq_true h
theorem flagN_le (g : Bool) : flagN g ≤ 1 := by unfold flagN; split <;> omega
theorem oneE_length {e : Ent} (h : rightE e = true) : 4 ≤ (oneE e).length ∧ (oneE e).length ≤ 80 := by
  obtain ⟨h1, h2, h3, h4, h5, h6, h7, h8⟩ := rightE_facts h
  unfold oneE
  have a := textS_length e.key
  have a' : 0 < (textS e.key).length := by unfold textS; have := putS_pos e.key.length; simp; omega
  have b := putS_length e.off.toNat
  have b' := putS_pos e.off.toNat
  have c := putS_length (2 * e.len.toNat + flagN e.gone)
  have c' := putS_pos (2 * e.len.toNat + flagN e.gone)
  have d := putS_length e.seq
  have d' := putS_pos e.seq
  simp; omega
theorem rawE_one (e : Ent) (rest : Bs) (h : rightE e = true) : rawE (oneE e ++ rest) = ((e.key, e.off.toNat, 2 * e.len.toNat + flagN e.gone, e.seq), rest, true) := by
  obtain ⟨h1, h2, h3, h4, h5, h6, h7, h8⟩ := rightE_facts h
  have hg := flagN_le e.gone
  unfold rawE oneE
  simp only [List.append_assoc]
  rw [ofTextS_text _ _ (by omega)]
  simp only []
  rw [takeS_put _ (by omega)]
  simp only []
  rw [takeS_put _ (by omega)]
  simp only []
  rw [takeS_put _ (by omega)]
  simp
theorem entE_one (e : Ent) (h : rightE e = true) : entE (e.key, e.off.toNat, 2 * e.len.toNat + flagN e.gone, e.seq) = e := by
  obtain ⟨h1, h2, h3, h4, h5, h6, h7, h8⟩ := rightE_facts h
  obtain ⟨key, off, len, seq, gone⟩ := e
  unfold entE flagN
  simp only [] at h3 h4 h5 h6 ⊢
  cases gone
  · simp only [Ent.mk.injEq, true_and]
    refine ⟨by omega, by simp; omega, by simp⟩
  · simp only [Ent.mk.injEq, true_and]
    refine ⟨by omega, by simp; omega, by first | (simp; done) | (simp; omega)⟩
theorem entR_one (e : Ent) (h : rightE e = true) : entR (e.key, e.off.toNat, 2 * e.len.toNat + flagN e.gone, e.seq) = e := by
  obtain ⟨h1, h2, h3, h4, h5, h6, h7, h8⟩ := rightE_facts h
  obtain ⟨key, off, len, seq, gone⟩ := e
  unfold entR flagN
  simp only [] at h3 h4 h5 h6 ⊢
  cases gone
  · simp only [Ent.mk.injEq, true_and]
    refine ⟨by omega, by simp; omega, by simp⟩
  · simp only [Ent.mk.injEq, true_and]
    refine ⟨by omega, by simp; omega, by first | (simp; done) | (simp; omega)⟩
/-- What is taken for an entry that may be has just that entry's bytes. -/
theorem rawE_told (s : Bs) (h : (rawE s).2.2 = true) (hr : rightE (entE (rawE s).1) = true) : oneE (entE (rawE s).1) ++ (rawE s).2.1 = s ∧ (rawE s).2.1.length < s.length := by
  unfold rawE at h hr ⊢
  simp only [decide_eq_true_eq] at h hr ⊢
  obtain ⟨e1, e2, e3, e4⟩ := h
  have t1 := ofTextS_told s
  generalize ofTextS s = T at *
  obtain ⟨key, r1, x1⟩ := T
  simp only [] at e1 e2 e3 e4 hr ⊢
  have t2 := takeS_told r1
  generalize takeS r1 = A at *
  obtain ⟨a, r2, x2⟩ := A
  simp only [] at e2 e3 e4 hr ⊢
  have t3 := takeS_told r2
  generalize takeS r2 = B at *
  obtain ⟨b, r3, x3⟩ := B
  simp only [] at e3 e4 hr ⊢
  have t4 := takeS_told r3
  generalize takeS r3 = C at *
  obtain ⟨c, r4, x4⟩ := C
  simp only [] at e4 hr ⊢
  subst e1 e2 e3 e4
  obtain ⟨_, p1, p2⟩ : (0 : Int) = 0 ∧ textS key ++ r1 = s ∧ r1.length < s.length := by
    rcases t1 with h | h | h
    · exact h
    · injection h with _ h; injection h with _ h; exact absurd h (by decide)
    · injection h with _ h; injection h with _ h; exact absurd h (by decide)
  obtain ⟨_, q1, _, _, q2⟩ : (0 : Int) = 0 ∧ putS a ++ r2 = r1 ∧ a < 18446744073709551616 ∧ r1.length ≤ r2.length + 10 ∧ r2.length < r1.length := by
    rcases t2 with h | h | h
    · exact h
    · injection h with _ h; injection h with _ h; exact absurd h (by decide)
    · injection h with _ h; injection h with _ h; exact absurd h (by decide)
  obtain ⟨_, u1, _, _, u2⟩ : (0 : Int) = 0 ∧ putS b ++ r3 = r2 ∧ b < 18446744073709551616 ∧ r2.length ≤ r3.length + 10 ∧ r3.length < r2.length := by
    rcases t3 with h | h | h
    · exact h
    · injection h with _ h; injection h with _ h; exact absurd h (by decide)
    · injection h with _ h; injection h with _ h; exact absurd h (by decide)
  obtain ⟨_, v1, _, _, v2⟩ : (0 : Int) = 0 ∧ putS c ++ r4 = r3 ∧ c < 18446744073709551616 ∧ r3.length ≤ r4.length + 10 ∧ r4.length < r3.length := by
    rcases t4 with h | h | h
    · exact h
    · injection h with _ h; injection h with _ h; exact absurd h (by decide)
    · injection h with _ h; injection h with _ h; exact absurd h (by decide)
  obtain ⟨h1, h2, h3, h4, h5, h6, h7, h8⟩ := rightE_facts hr
  unfold entE at h3 h4 h5 h6
  simp only [] at h3 h4 h5 h6
  have ea : (((min a 1048577 : Nat) : Int)).toNat = a := by omega
  have eb : 2 * (((min (b / 2) 401 : Nat) : Int)).toNat + flagN (decide (b % 2 = 1)) = b := by
    unfold flagN
    by_cases hb : b % 2 = 1
    · rw [decide_eq_true hb, if_pos rfl]; omega
    · rw [decide_eq_false hb, if_neg (by decide)]; omega
  refine ⟨?_, by omega⟩
  unfold oneE entE
  simp only []
  rw [ea, eb, List.append_assoc, List.append_assoc, List.append_assoc, v1, u1, q1, p1]
theorem entsR_body : ∀ (l : List Ent) (f : Nat), allRight l = true → (bodyE l).length ≤ f → entsR f (bodyE l) = some l
  | [], 0, _, _ => rfl
  | [], f + 1, _, _ => rfl
  | e :: l, f, h, hf => by
    unfold allRight at h
    rw [List.all_cons, Bool.and_eq_true] at h
    obtain ⟨h1, h2⟩ := h
    obtain ⟨z1, z2⟩ := oneE_length h1
    rw [bodyE, List.length_append] at hf
    match f, hf with
    | 0, hf => omega
    | g + 1, hf =>
      have hne : ¬ (oneE e ++ bodyE l = []) := fun x => by have := congrArg List.length x; rw [List.length_append, List.length_nil] at this; omega
      rw [bodyE, entsR, if_neg hne, rawE_one e _ h1]
      simp only []
      rw [entE_one e h1, if_pos ⟨trivial, h1⟩, entsR_body l g h2 (by omega)]
      rfl
theorem entsR_told : ∀ (f : Nat) (s : Bs) (l : List Ent), s.length ≤ f → entsR f s = some l → bodyE l = s ∧ allRight l = true
  | 0, s, l, hf, h => by
    obtain rfl : s = [] := List.length_eq_zero_iff.mp (by omega)
    cases h; exact ⟨rfl, rfl⟩
  | f + 1, s, l, hf, h => by
    rw [entsR] at h
    by_cases hs : s = []
    · subst hs; rw [if_pos rfl] at h; cases h; exact ⟨rfl, rfl⟩
    rw [if_neg hs] at h
    by_cases hr : (rawE s).2.2 = true ∧ rightE (entE (rawE s).1) = true
    · rw [if_pos hr] at h
      obtain ⟨m, hm, h⟩ := Option.bind_eq_some_iff.mp h
      cases h
      obtain ⟨k1, k2⟩ := rawE_told s hr.1 hr.2
      obtain ⟨k3, k4⟩ := entsR_told f _ m (by omega) hm
      refine ⟨by rw [bodyE, k3, k1], ?_⟩
      unfold allRight at k4 ⊢
      rw [List.all_cons, hr.2, k4]
      rfl
    · rw [if_neg hr] at h; cases h
theorem bytesE_ok {l : List Ent} (h : (bytesE l).2 = 0) : l.length ≤ 2000 ∧ allRight l = true ∧ bytesE l = (sealS (putS l.length ++ bodyE l), 0) := by
  unfold bytesE at h ⊢
  by_cases h1 : l.length ≤ 2000
  · rw [if_pos h1] at h ⊢
    cases h2 : allRight l with
    | true => exact ⟨h1, rfl, rfl⟩
    | false => rw [h2, if_neg (by decide)] at h; exact absurd h (by decide)
  · rw [if_neg h1] at h; exact absurd h (by decide)
theorem readE_bytes (l : List Ent) (h : (bytesE l).2 = 0) : readE (bytesE l).1 = (l, 0) := by
  obtain ⟨h1, h2, h3⟩ := bytesE_ok h
  rw [h3]
  unfold readE
  rw [openS_seal]
  simp only [if_true]
  rw [takeS_put _ (by omega)]
  simp only [if_true]
  rw [entsR_body l _ h2 (Nat.le_refl _)]
  simp only []
  rw [if_pos ⟨h1, trivial⟩]
theorem readE_told (b : Bs) : ((readE b).2 = 0 ∧ bytesE (readE b).1 = (b, 0)) ∨ readE b = ([], 2) ∨ readE b = ([], 4) := by
  unfold readE
  rcases openS_told b with ⟨s, h1, h2⟩ | h1
  · rw [h1]
    simp only [if_true]
    rcases takeS_told s with ⟨k1, k2, k3, k4, k5⟩ | k1 | k1
    · rw [if_pos k1]
      generalize takeS s = T at *
      obtain ⟨n, r, e⟩ := T
      simp only [] at k1 k2 k3 k4 k5 ⊢
      cases hl : entsR r.length r with
      | none => exact .inr (.inl rfl)
      | some l =>
        simp only []
        by_cases hn : l.length ≤ 2000 ∧ l.length = n
        · rw [if_pos hn]
          obtain ⟨m1, m2⟩ := entsR_told _ r l (Nat.le_refl _) hl
          refine .inl ⟨rfl, ?_⟩
          unfold bytesE
          rw [if_pos hn.1, if_pos m2, hn.2, m1, k2, h2]
        · rw [if_neg hn]; exact .inr (.inl rfl)
    · rw [k1]; exact .inr (.inl rfl)
    · rw [k1]; exact .inr (.inl rfl)
  · rw [h1]; exact .inr (.inr rfl)
/-- The document's way: taken loosely, and then the bytes must be these. -/
def looseR : Nat → Bs → Option (List Ent)
  | 0, s => if s = [] then some [] else none
  | f + 1, s => if s = [] then some [] else
    if (rawE s).2.2 = true ∧ (rawE s).1.2.1 ≤ 1048576 ∧ (rawE s).1.2.2.1 ≤ 1000 then (looseR f (rawE s).2.1).bind fun l => some (entR (rawE s).1 :: l) else none
def readD (b : Bs) : List Ent × Int :=
  if (openS b).2 = true then
    (if (takeS (openS b).1).2.2 = 0 then
      (match looseR (takeS (openS b).1).2.1.length (takeS (openS b).1).2.1 with
       | some l => if bytesE l = (b, 0) then (l, 0) else ([], 2)
       | none => ([], 2))
    else ([], 2))
  else ([], 4)
theorem looseR_body : ∀ (l : List Ent) (f : Nat), allRight l = true → (bodyE l).length ≤ f → looseR f (bodyE l) = some l
  | [], 0, _, _ => rfl
  | [], f + 1, _, _ => rfl
  | e :: l, f, h, hf => by
    unfold allRight at h
    rw [List.all_cons, Bool.and_eq_true] at h
    obtain ⟨h1, h2⟩ := h
    obtain ⟨z1, z2⟩ := oneE_length h1
    obtain ⟨_, _, h3, h4, h5, h6, _, _⟩ := rightE_facts h1
    have hg := flagN_le e.gone
    rw [bodyE, List.length_append] at hf
    match f, hf with
    | 0, hf => omega
    | g + 1, hf =>
      have hne : ¬ (oneE e ++ bodyE l = []) := fun x => by have := congrArg List.length x; rw [List.length_append, List.length_nil] at this; omega
      rw [bodyE, looseR, if_neg hne, rawE_one e _ h1]
      simp only []
      rw [entR_one e h1, if_pos ⟨trivial, by omega, by omega⟩, looseR_body l g h2 (by omega)]
      rfl
theorem readD_readE (b : Bs) : readD b = readE b := by
  rcases readE_told b with ⟨h1, h2⟩ | h1
  · -- what Read tells has these bytes: the document finds the same
    have hok : (bytesE (readE b).1).2 = 0 := by rw [h2]
    obtain ⟨k1, k2, k3⟩ := bytesE_ok hok
    rw [h2] at k3
    have hb : b = sealS (putS (readE b).1.length ++ bodyE (readE b).1) := congrArg Prod.fst k3
    unfold readD
    have ho : openS b = (putS (readE b).1.length ++ bodyE (readE b).1, true) := by
      conv => lhs; rw [hb]
      rw [openS_seal]
    rw [ho]
    simp only [if_true]
    rw [takeS_put _ (by omega)]
    simp only [if_true]
    rw [looseR_body _ _ k2 (Nat.le_refl _)]
    simp only []
    rw [if_pos h2]
    exact Prod.ext rfl h1.symm
  · -- Read tells an error: so does the document
    unfold readD
    have h1' := h1
    unfold readE at h1
    by_cases ho : (openS b).2 = true
    · rw [if_pos ho] at h1 ⊢
      by_cases ht : (takeS (openS b).1).2.2 = 0
      · rw [if_pos ht]
        have e2 : readE b = ([], 2) := by
          rcases h1' with h | h
          · exact h
          · exfalso
            unfold readE at h
            rw [if_pos ho, if_pos ht] at h
            revert h
            split
            · split
              · intro h; injection h with _ h; exact absurd h (by decide)
              · intro h; injection h with _ h; exact absurd h (by decide)
            · intro h; injection h with _ h; exact absurd h (by decide)
        rw [e2]
        split
        · rename_i l hl
          by_cases hb : bytesE l = (b, 0)
          · exfalso
            have := readE_bytes l (by rw [hb])
            rw [hb] at this
            simp only [] at this
            rw [e2] at this
            injection this with _ h
            exact absurd h (by decide)
          · rw [if_neg hb]
        · rfl
      · rw [if_neg ht] at h1 ⊢
        unfold readE
        rw [if_pos ho, if_neg ht]
    · rw [if_neg ho]
      unfold readE
      rw [if_neg ho]
end Go.Proofs.Ytdjkkceamldmjaa.Thw
