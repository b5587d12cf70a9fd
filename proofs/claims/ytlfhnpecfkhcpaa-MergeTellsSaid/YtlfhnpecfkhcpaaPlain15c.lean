/- Layer 15 (merge) in plain words: what is merged before, in front of and behind others. No program in sight. -/
import Derived.Test.YtlfhnpecfkhcpaaPlain15b
namespace Go.Proofs.Ytlfhnpecfkhcpaa.Thw
open Go
set_option linter.unusedVariables false
section
variable {α : Type} (key : α → ByteArray) (num : α → Int)
theorem insN_front : ∀ (L : List α) (r : α), (∀ x ∈ L, ltK key r x) → insN key num L r = r :: L
  | [], r, _ => rfl
  | x :: L, r, h => by
    have h1 := h x (by simp)
    have h2 : ¬ (key x).data.toList < (key r).data.toList := fun h3 => List.lt_irrefl _ (List.lt_trans h1 h3)
    have h4 : ¬ key x = key r := fun e => by unfold ltK at h1; rw [e] at h1; exact List.lt_irrefl _ h1
    rw [insN, if_neg h2, if_neg h4]
theorem insN_filter (p : α → Bool) : ∀ (L : List α) (r : α), L.Pairwise (ltK key) → p r = true → (∀ x ∈ L, p x = false → num x ≤ num r) → (insN key num L r).filter p = insN key num (L.filter p) r
  | [], r, _, hr, _ => by simp [insN, hr]
  | x :: L, r, hp, hr, hx => by
    have hp0 := hp
    rw [List.pairwise_cons] at hp
    have hrest : ∀ y ∈ L, p y = false → num y ≤ num r := fun y hy => hx y (by simp [hy])
    by_cases h1 : (key x).data.toList < (key r).data.toList
    · rw [insN, if_pos h1, List.filter_cons, List.filter_cons, insN_filter p L r hp.2 hr hrest]
      cases hpx : p x with
      | true => rw [if_pos rfl, if_pos rfl, insN, if_pos h1]
      | false => rw [if_neg (by simp), if_neg (by simp)]
    · by_cases h2 : key x = key r
      · have hfr : ∀ y ∈ L.filter p, ltK key r y := fun y hy => by
          have := hp.1 y (List.mem_filter.1 hy).1
          unfold ltK at this ⊢
          rwa [h2] at this
        rw [insN, if_neg h1, if_pos h2]
        cases hpx : p x with
        | true =>
          rw [List.filter_cons, if_pos hpx, insN, if_neg h1, if_pos h2]
          split
          · rw [List.filter_cons, if_pos hr]
          · rw [List.filter_cons, if_pos hpx]
        | false =>
          rw [if_pos (hx x (by simp) hpx), List.filter_cons, if_pos hr, List.filter_cons, if_neg (by simp [hpx]), insN_front key num _ _ hfr]
      · have hlt := ltK_tri (key := key) h1 h2
        have hfr : ∀ y ∈ (x :: L).filter p, ltK key r y := fun y hy => by
          rcases List.mem_cons.1 (List.mem_filter.1 hy).1 with rfl | hy
          · exact hlt
          · exact ltK_trans hlt (hp.1 y hy)
        rw [insN, if_neg h1, if_neg h2, List.filter_cons, if_pos hr, insN_front key num _ _ hfr]
theorem fold_filter (p : α → Bool) : ∀ (b L : List α), L.Pairwise (ltK key) → (∀ r ∈ b, p r = true) → (∀ x ∈ L, p x = false → ∀ r ∈ b, num x ≤ num r) → (b.foldl (insN key num) L).filter p = b.foldl (insN key num) (L.filter p)
  | [], L, _, _, _ => rfl
  | r :: b, L, hL, hb, hx => by
    rw [List.foldl_cons, List.foldl_cons, ← insN_filter key num p L r hL (hb r (by simp)) (fun x h1 h2 => hx x h1 h2 r (by simp))]
    obtain ⟨h1, h2⟩ := insN_sorted key num L r hL
    refine fold_filter p b _ h1 (fun s hs => hb s (by simp [hs])) (fun x hm hpx s hs => ?_)
    rcases h2 x hm with rfl | hm
    · rw [hb x (by simp)] at hpx
      cases hpx
    · exact hx x hm hpx s (by simp [hs])
theorem mem_newestL : ∀ (l : List α) (x : α), x ∈ newestL key num l → x ∈ l := by
  have : ∀ (l L : List α), L.Pairwise (ltK key) → ∀ x ∈ l.foldl (insN key num) L, x ∈ l ∨ x ∈ L := by
    intro l
    induction l with
    | nil => intro L _ x hx; exact .inr hx
    | cons r l ih =>
      intro L hL x hx
      obtain ⟨h1, h2⟩ := insN_sorted key num L r hL
      rcases ih _ h1 x hx with h | h
      · exact .inl (by simp [h])
      · rcases h2 x h with rfl | h
        · exact .inl (by simp)
        · exact .inr h
  intro l x hx
  rcases this l [] List.Pairwise.nil x hx with h | h
  · exact h
  · cases h
/-- What is gone may be left out before newer ones come. -/
theorem newestL_bare (p : α → Bool) (a b : List α) (h : ∀ x ∈ a, ∀ r ∈ b, num x < num r) :
    (newestL key num ((newestL key num a).filter p ++ b)).filter p = (newestL key num (a ++ b)).filter p := by
  classical
  have hs := newestL_sorted key num a
  let q : α → Bool := fun x => p x || decide (∃ r ∈ b, num r ≤ num x)
  have hq : ∀ x ∈ newestL key num a, q x = p x := fun x hx => by
    have h1 := mem_newestL key num a x hx
    have : ¬ ∃ r ∈ b, num r ≤ num x := fun ⟨r, hr, h2⟩ => by have := h x h1 r hr; omega
    simp only [q, decide_eq_false this, Bool.or_false]
  have e1 : (newestL key num a).filter p = (newestL key num a).filter q := List.filter_congr (fun x hx => (hq x hx).symm)
  have hsf : ((newestL key num a).filter q).Pairwise (ltK key) := hs.filter _
  have e2 : newestL key num ((newestL key num a).filter q) = (newestL key num a).filter q := by
    have := fold_sorted key num ((newestL key num a).filter q) [] hsf
    exact this
  have e3 := fold_filter key num q b (newestL key num a) hs (fun r hr => by
      have : ∃ s ∈ b, num s ≤ num r := ⟨r, hr, Int.le_refl _⟩
      simp only [q, decide_eq_true this, Bool.or_true]) (fun x hx _ r hr => Int.le_of_lt (h x (mem_newestL key num a x hx) r hr))
  rw [e1, newestL_append, e2, ← e3, newestL_append, List.filter_filter]
  refine List.filter_congr (fun x _ => ?_)
  show (p x && (p x || _)) = p x
  cases p x <;> rfl
/-- The one that a key has. -/
def lkL (L : List α) (k : ByteArray) : Option α := L.find? fun x => decide (key x = k)
def op2 : Option α → Option α → Option α
  | none, b => b
  | some x, none => some x
  | some x, some r => if num x ≤ num r then some r else some x
theorem op2_none (a : Option α) : op2 num a none = a := by cases a <;> rfl
theorem op2_assoc (a b c : Option α) : op2 num (op2 num a b) c = op2 num a (op2 num b c) := by
  cases a with
  | none => rfl
  | some x =>
    cases b with
    | none => cases c <;> rfl
    | some y =>
      cases c with
      | none => rw [op2_none, op2_none]
      | some z =>
        simp only [op2]
        by_cases h1 : num x ≤ num y <;> by_cases h2 : num y ≤ num z
        · rw [if_pos h1, if_pos h2]; dsimp only; rw [if_pos h2, if_pos (by omega)]
        · rw [if_pos h1, if_neg h2]; dsimp only; rw [if_neg h2, if_pos h1]
        · rw [if_neg h1, if_pos h2]
        · rw [if_neg h1, if_neg h2]; dsimp only; rw [if_neg h1, if_neg (by omega)]
theorem lkL_insN : ∀ (L : List α) (r : α) (k : ByteArray), L.Pairwise (ltK key) → lkL key (insN key num L r) k = op2 num (lkL key L k) (if key r = k then some r else none)
  | [], r, k, _ => by
    simp only [lkL, insN, List.find?_nil]
    by_cases h : key r = k
    · rw [List.find?_cons_of_pos (by simpa using h), if_pos h]; rfl
    · rw [List.find?_cons_of_neg (by simpa using h), if_neg h]; rfl
  | x :: L, r, k, hp => by
    have hp0 := hp
    rw [List.pairwise_cons] at hp
    have ih := lkL_insN L r k hp.2
    unfold lkL at ih ⊢
    by_cases h1 : (key x).data.toList < (key r).data.toList
    · rw [insN, if_pos h1]
      by_cases hx : key x = k
      · have hr : ¬ key r = k := fun e => by rw [hx, ← e] at h1; exact List.lt_irrefl _ h1
        rw [List.find?_cons_of_pos (by simpa using hx), List.find?_cons_of_pos (by simpa using hx), if_neg hr]
        rfl
      · rw [List.find?_cons_of_neg (by simpa using hx), List.find?_cons_of_neg (by simpa using hx), ih]
    · by_cases h2 : key x = key r
      · rw [insN, if_neg h1, if_pos h2]
        by_cases hr : key r = k
        · have hx : key x = k := h2.trans hr
          rw [List.find?_cons_of_pos (l := L) (by simpa using hx), if_pos hr]
          simp only [op2]
          split
          · rw [List.find?_cons_of_pos (by simpa using hr)]
          · rw [List.find?_cons_of_pos (by simpa using hx)]
        · have hx : ¬ key x = k := fun e => hr (h2.symm.trans e)
          rw [List.find?_cons_of_neg (l := L) (by simpa using hx), if_neg hr, op2_none]
          split
          · rw [List.find?_cons_of_neg (by simpa using hr)]
          · rw [List.find?_cons_of_neg (by simpa using hx)]
      · have hlt := ltK_tri (key := key) h1 h2
        rw [insN, if_neg h1, if_neg h2]
        by_cases hr : key r = k
        · rw [List.find?_cons_of_pos (by simpa using hr), if_pos hr]
          have : List.find? (fun x => decide (key x = k)) (x :: L) = none := by
            rw [List.find?_eq_none]
            intro y hy
            have h3 : ltK key r y := by
              rcases List.mem_cons.1 hy with rfl | hy
              · exact hlt
              · exact ltK_trans hlt (hp.1 y hy)
            simp only [decide_eq_true_eq]
            intro e
            unfold ltK at h3
            rw [hr, e] at h3
            exact List.lt_irrefl _ h3
          rw [this]
          rfl
        · rw [List.find?_cons_of_neg (by simpa using hr), if_neg hr, op2_none]
theorem lkL_fold : ∀ (l L : List α) (k : ByteArray), L.Pairwise (ltK key) → lkL key (l.foldl (insN key num) L) k = op2 num (lkL key L k) (lkL key (newestL key num l) k) := by
  have hnil : ∀ (l : List α) (k : ByteArray) (L : List α), L.Pairwise (ltK key) → ∃ b : Option α, ∀ L : List α, L.Pairwise (ltK key) → lkL key (l.foldl (insN key num) L) k = op2 num (lkL key L k) b := by
    intro l
    induction l with
    | nil => intro k L hL; exact ⟨none, fun L _ => (op2_none num _).symm⟩
    | cons r l ih =>
      intro k L hL
      obtain ⟨b, hb⟩ := ih k L hL
      refine ⟨op2 num (if key r = k then some r else none) b, fun L hL => ?_⟩
      rw [List.foldl_cons, hb _ (insN_sorted key num L r hL).1, lkL_insN key num L r k hL, op2_assoc]
  intro l L k hL
  obtain ⟨b, hb⟩ := hnil l k L hL
  rw [hb L hL]
  have := hb [] List.Pairwise.nil
  unfold newestL
  rw [this]
  rfl
theorem lkL_ext {L M : List α} (hL : L.Pairwise (ltK key)) (hM : M.Pairwise (ltK key)) (h : ∀ k, lkL key L k = lkL key M k) : L = M := by
  have hlk : ∀ {L : List α}, L.Pairwise (ltK key) → ∀ x, x ∈ L ↔ lkL key L (key x) = some x := by
    intro L hL x
    constructor
    · intro hx
      unfold lkL
      cases hf : L.find? fun y => decide (key y = key x) with
      | none => exact absurd (List.find?_eq_none.1 hf x hx) (by simp)
      | some y =>
        have h1 := List.find?_some hf
        have h2 := List.mem_of_find?_eq_some hf
        rw [sorted_inj key hL h2 hx (by simpa using h1)]
    · intro hf
      exact List.mem_of_find?_eq_some hf
  have hmem : ∀ x, x ∈ L ↔ x ∈ M := fun x => by rw [hlk hL, hlk hM, h]
  have hnd : ∀ {L : List α}, L.Pairwise (ltK key) → L.Nodup := fun hL => List.Pairwise.imp (fun {a b} hab e => by unfold ltK at hab; rw [e] at hab; exact List.lt_irrefl _ hab) hL
  have hperm : L.Perm M := (List.perm_ext_iff_of_nodup (hnd hL) (hnd hM)).2 hmem
  exact perm_sorted_eq key L M hperm hM (List.Pairwise.imp (fun {a b} hab h2 => List.lt_irrefl _ (List.lt_trans hab h2)) hL)
/-- Merged before, behind elder ones: the same as at once. -/
theorem newestL_elder (e l : List α) : newestL key num (e ++ newestL key num l) = newestL key num (e ++ l) := by
  refine lkL_ext key (newestL_sorted key num _) (newestL_sorted key num _) fun k => ?_
  rw [newestL_append, newestL_append, lkL_fold key num _ _ k (newestL_sorted key num _), lkL_fold key num l _ k (newestL_sorted key num _), newestL_idem]
end
end Go.Proofs.Ytlfhnpecfkhcpaa.Thw
