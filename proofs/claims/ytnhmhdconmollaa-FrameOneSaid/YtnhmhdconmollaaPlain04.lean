/- Layer 4 (frame) in plain words: a batch's bytes, the batch that bytes begin with, all of them. No program in sight. -/
import Derived.Test.YtnhmhdconmollaaPlain02
import Derived.Test.YtnhmhdconmollaaPlain03
namespace Go.Proofs.Ytnhmhdconmollaa.Thw
open Go
set_option linter.unusedVariables false

def fitsS (l : List Rec) : Bool := decide (1 ≤ l.length) && decide (l.length ≤ 16)
def frameS (l : List Rec) : Bs × Int := if fitsS l = true then (if (allS l).2 = 0 then (textS (sealS (allS l).1), 0) else ([], (allS l).2)) else ([], 1)
def takeF (b : Bs) : List Rec × Int × Int :=
  if (ofTextS b).2.2 = 0 then
    (if (openS (ofTextS b).1).2 = true then
      (if (listS (openS (ofTextS b).1).1).2 = 0 then
        (if fitsS (listS (openS (ofTextS b).1).1).1 = true then ((listS (openS (ofTextS b).1).1).1, (b.length : Int) - ((ofTextS b).2.1.length : Int), 0) else ([], 0, 2))
      else ([], 0, 2))
    else ([], 0, 4))
  else ([], 0, (ofTextS b).2.2)
def scanR : Nat → Bs → List (List Rec) × Nat
  | 0, _ => ([], 0)
  | f + 1, b => if (takeF b).2.2 = 0 then ((takeF b).1 :: (scanR f (b.drop (takeF b).2.1.toNat)).1, (takeF b).2.1.toNat + (scanR f (b.drop (takeF b).2.1.toNat)).2) else ([], 0)
def scanS (b : Bs) : List (List Rec) × Nat := scanR b.length b

theorem fits_facts {l : List Rec} (h : fitsS l = true) : 1 ≤ l.length ∧ l.length ≤ 16 := by
  unfold fitsS at h
  simpa using h
theorem frameS_ok {l : List Rec} (h : (frameS l).2 = 0) : fitsS l = true ∧ (allS l).2 = 0 ∧ frameS l = (textS (sealS (allS l).1), 0) := by
  unfold frameS at h ⊢
  cases hf : fitsS l with
  | false => rw [hf, if_neg (by decide)] at h; exact absurd h (by decide)
  | true =>
    rw [hf, if_pos rfl] at h
    by_cases ha : (allS l).2 = 0
    · exact ⟨rfl, ha, by rw [if_pos rfl, if_pos ha]⟩
    · rw [if_neg ha] at h; exact absurd h ha
theorem frameS_bad {l : List Rec} (h : (frameS l).2 ≠ 0) : frameS l = ([], 1) := by
  unfold frameS at h ⊢
  cases hf : fitsS l with
  | false => rfl
  | true =>
    rw [hf, if_pos rfl] at h
    rw [if_pos rfl]
    rcases allS_right l with ⟨h1, _⟩ | h1
    · rw [if_pos h1] at h; exact absurd rfl h
    · rw [h1, if_neg (by decide)]
theorem seal_len {l : List Rec} (h : fitsS l = true) : (sealS (allS l).1).length ≤ 7000 := by
  have h1 := allS_length l
  have h2 := fits_facts h
  rw [sealS_length]
  omega
theorem takeF_frame (l : List Rec) (rest : Bs) (h : (frameS l).2 = 0) : takeF ((frameS l).1 ++ rest) = (l, ((frameS l).1.length : Int), 0) := by
  obtain ⟨h1, h2, h3⟩ := frameS_ok h
  have hz := seal_len h1
  rw [h3]
  unfold takeF
  rw [ofTextS_text _ _ (by omega), openS_seal, listS_all l h2]
  simp only [if_true, h1]
  simp
theorem takeF_cut (l : List Rec) (c : Nat) (h : (frameS l).2 = 0) (hc : c < (frameS l).1.length) : takeF ((frameS l).1.take c) = ([], 0, 3) := by
  obtain ⟨h1, h2, h3⟩ := frameS_ok h
  have hz := seal_len h1
  rw [h3] at hc ⊢
  unfold takeF
  rw [ofTextS_cut _ (by omega) _ hc]
  rfl
theorem frameS_length {l : List Rec} (h : (frameS l).2 = 0) : 0 < (frameS l).1.length ∧ (frameS l).1.length ≤ 7100 := by
  obtain ⟨h1, h2, h3⟩ := frameS_ok h
  have hz := seal_len h1
  have ht := textS_length (sealS (allS l).1)
  rw [h3]
  refine ⟨?_, by show (textS _).length ≤ _; omega⟩
  show 0 < (textS _).length
  unfold textS
  have := putS_pos (sealS (allS l).1).length
  simp; omega
/-- What Take tells of any bytes. -/
def FrameTold (b : Bs) (x : List Rec × Int × Int) : Prop :=
  (x.2.2 = 0 ∧ (frameS x.1).2 = 0 ∧ ∃ rest, (frameS x.1).1 ++ rest = b ∧ x.2.1 = ((frameS x.1).1.length : Int)) ∨ (x.1 = [] ∧ x.2.1 = 0 ∧ x.2.2 ≠ 0)
theorem takeF_told (b : Bs) : FrameTold b (takeF b) := by
  unfold takeF
  rcases ofTextS_told b with ⟨h1, h2, h3⟩ | h1 | h1
  · rw [if_pos h1]
    generalize hO : ofTextS b = O at *
    obtain ⟨t, rest, e⟩ := O
    simp only [] at h1 h2 h3 ⊢
    rcases openS_told t with ⟨s, k1, k2⟩ | k1
    · rw [k1]
      simp only [if_true]
      rcases listS_told s with ⟨m1, m2, m3⟩ | m1 | m1
      · rw [if_pos m1]
        cases hf : fitsS (listS s).1 with
        | false => exact .inr ⟨rfl, rfl, show (2 : Int) ≠ 0 by decide⟩
        | true =>
          have hfr : frameS (listS s).1 = (textS t, 0) := by
            unfold frameS
            rw [hf, if_pos rfl, m2, if_pos rfl]
            show (textS (sealS s), (0 : Int)) = _
            rw [k2]
          refine .inl ⟨rfl, ?_, rest, ?_, ?_⟩
          · show (frameS (listS s).1).2 = 0
            rw [hfr]
          · show (frameS (listS s).1).1 ++ rest = b
            rw [hfr]; exact h2
          · show (b.length : Int) - (rest.length : Int) = ((frameS (listS s).1).1.length : Int)
            rw [hfr, ← h2]
            simp
      · rw [m1]; exact .inr ⟨rfl, rfl, show (2 : Int) ≠ 0 by decide⟩
      · rw [m1]; exact .inr ⟨rfl, rfl, show (2 : Int) ≠ 0 by decide⟩
    · rw [k1]; exact .inr ⟨rfl, rfl, show (4 : Int) ≠ 0 by decide⟩
  · rw [h1]; exact .inr ⟨rfl, rfl, show (2 : Int) ≠ 0 by decide⟩
  · rw [h1]; exact .inr ⟨rfl, rfl, show (3 : Int) ≠ 0 by decide⟩
theorem takeF_range (b : Bs) : 0 ≤ (takeF b).2.1 ∧ (takeF b).2.1 ≤ b.length ∧ ((takeF b).2.2 = 0 → 0 < (takeF b).2.1) ∧ (takeF b).1.length ≤ 16 := by
  rcases takeF_told b with ⟨h1, h2, rest, h3, h4⟩ | ⟨h1, h2, h3⟩
  · obtain ⟨k1, k2⟩ := frameS_length h2
    have : ((frameS (takeF b).1).1 ++ rest).length = b.length := by rw [h3]
    rw [List.length_append] at this
    exact ⟨by omega, by omega, fun _ => by omega, (fits_facts (frameS_ok h2).1).2⟩
  · exact ⟨by omega, by omega, fun h => absurd h h3, by rw [h1]; simp⟩
def framesS (ls : List (List Rec)) : Bs := (ls.map fun l => (frameS l).1).flatten
theorem scanR_frames : ∀ (ls : List (List Rec)) (tail : Bs) (f : Nat), (∀ l ∈ ls, (frameS l).2 = 0) → (takeF tail).2.2 ≠ 0 → (framesS ls ++ tail).length ≤ f →
    scanR f (framesS ls ++ tail) = (ls, (framesS ls).length)
  | [], tail, 0, _, _, _ => rfl
  | [], tail, f + 1, _, ht, _ => by
    show scanR (f + 1) tail = _
    rw [scanR, if_neg ht]
    rfl
  | l :: ls, tail, f, h, ht, hf => by
    have hl := h l (by simp)
    obtain ⟨h1, h2⟩ := frameS_length hl
    have e : framesS (l :: ls) ++ tail = (frameS l).1 ++ (framesS ls ++ tail) := by simp [framesS]
    rw [e] at hf ⊢
    rw [List.length_append] at hf
    match f, hf with
    | 0, hf => omega
    | f + 1, hf =>
      rw [scanR, takeF_frame l _ hl]
      simp only [if_true, Int.toNat_natCast, List.drop_left]
      rw [scanR_frames ls tail f (fun x hx => h x (by simp [hx])) ht (by omega)]
      simp [framesS]
theorem scanR_len : ∀ (f : Nat) (b : Bs), (scanR f b).1.length ≤ b.length ∧ (scanR f b).2 ≤ b.length ∧ ∀ l ∈ (scanR f b).1, l.length ≤ 16
  | 0, b => by simp [scanR]
  | f + 1, b => by
    rw [scanR]
    obtain ⟨h1, h2, h3, h4⟩ := takeF_range b
    by_cases h : (takeF b).2.2 = 0
    · rw [if_pos h]
      have h3 := h3 h
      obtain ⟨k1, k2, k3⟩ := scanR_len f (b.drop (takeF b).2.1.toNat)
      rw [List.length_drop] at k1 k2
      refine ⟨by simp only [List.length_cons]; omega, by show _ + _ ≤ _; omega, fun l hl => ?_⟩
      rcases List.mem_cons.mp hl with rfl | hl
      · exact h4
      · exact k3 l hl
    · rw [if_neg h]; simp
end Go.Proofs.Ytnhmhdconmollaa.Thw
