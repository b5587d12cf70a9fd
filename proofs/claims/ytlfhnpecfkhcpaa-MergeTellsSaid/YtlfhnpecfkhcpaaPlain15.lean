/- Layer 15 (merge) in plain words: the newest of each key, by rising keys. No program in sight. -/
import Derived.Test.YtlfhnpecfkhcpaaObjM
namespace Go.Proofs.Ytlfhnpecfkhcpaa.Thw
open Go
set_option linter.unusedVariables false
section
variable {α : Type} (key : α → ByteArray) (num : α → Int)
abbrev ltK (x y : α) : Prop := (key x).data.toList < (key y).data.toList
def insN : List α → α → List α
  | [], r => [r]
  | x :: l, r => if (key x).data.toList < (key r).data.toList then x :: insN l r else if key x = key r then (if num x ≤ num r then r :: l else x :: l) else r :: x :: l
def newestL (l : List α) : List α := l.foldl (insN key num) []
def stepM (m : List (ByteArray × α)) (r : α) : List (ByteArray × α) := match look m (key r) with
  | none => put m (key r) r
  | some x => if num x ≤ num r then put m (key r) r else m
def tabM (l : List α) : List (ByteArray × α) := l.foldl (stepM key num) []
theorem tabM_step (l : List α) (i : Nat) (h : i < l.length) : tabM key num (l.take (i + 1)) = stepM key num (tabM key num (l.take i)) l[i] := by
  unfold tabM
  rw [List.take_succ_eq_append_getElem h, List.foldl_append]
  rfl
theorem put_length {κ β : Type} [DecidableEq κ] (m : List (κ × β)) (k : κ) (v : β) : (put m k v).length ≤ m.length + 1 := by
  unfold put
  split <;> simp
theorem tabM_length (l : List α) : (tabM key num l).length ≤ l.length := by
  have : ∀ (l : List α) (m : List (ByteArray × α)), (l.foldl (stepM key num) m).length ≤ m.length + l.length := by
    intro l
    induction l with
    | nil => intro m; simp
    | cons r l ih =>
      intro m
      have h1 : (stepM key num m r).length ≤ m.length + 1 := by
        unfold stepM
        split
        · exact put_length _ _ _
        · split
          · exact put_length _ _ _
          · omega
      have := ih (stepM key num m r)
      rw [List.foldl_cons, List.length_cons]
      omega
  have := this l []
  simpa [tabM] using this
theorem ba_ext {a b : ByteArray} (h : a.data.toList = b.data.toList) : a = b := by
  cases a; cases b
  exact congrArg ByteArray.mk (Array.toList_inj.1 h)
variable {key}
theorem ltK_irrefl (x : α) : ¬ ltK key x x := List.lt_irrefl _
theorem ltK_trans {x y z : α} (h : ltK key x y) (h' : ltK key y z) : ltK key x z := List.lt_trans h h'
theorem ltK_tri {x y : α} (h : ¬ ltK key x y) (h' : ¬ key x = key y) : ltK key y x := by
  rcases List.le_iff_lt_or_eq.1 (List.not_lt.1 h) with h2 | h2
  · exact h2
  · exact absurd (ba_ext h2).symm h'
variable (key)
theorem insN_new : ∀ (L : List α) (r : α), (∀ x ∈ L, key x ≠ key r) → (insN key num L r).Perm (r :: L)
  | [], r, _ => List.Perm.refl _
  | x :: L, r, h => by
    rw [insN]
    split
    · exact ((insN_new L r (fun y hy => h y (by simp [hy]))).cons x).trans (List.Perm.swap r x L)
    · rw [if_neg (h x (by simp))]
theorem insN_old : ∀ (L : List α) (r x : α), L.Pairwise (ltK key) → x ∈ L → key x = key r → insN key num L r = if num x ≤ num r then L.map (fun y => if key y = key r then r else y) else L
  | [], r, x, _, h, _ => absurd h (by simp)
  | y :: L, r, x, hp, hx, he => by
    rw [List.pairwise_cons] at hp
    rw [insN]
    rcases List.mem_cons.1 hx with rfl | hx
    · rw [if_neg (by rw [he]; exact List.lt_irrefl _), if_pos he]
      have e : L.map (fun y => if key y = key r then r else y) = L := by
        conv => rhs; rw [← List.map_id L]
        refine List.map_congr_left fun z hz => ?_
        have h1 := hp.1 z hz
        rw [if_neg (fun e => by unfold ltK at h1; rw [he, ← e] at h1; exact List.lt_irrefl _ h1)]
        rfl
      split
      · rw [List.map_cons, if_pos he, e]
      · rfl
    · have h1 := hp.1 x hx
      unfold ltK at h1
      rw [he] at h1
      rw [if_pos h1, insN_old L r x hp.2 hx he]
      have hne : ¬ key y = key r := fun e => by rw [e] at h1; exact List.lt_irrefl _ h1
      split
      · rw [List.map_cons, if_neg hne]
      · rfl
theorem insN_sorted : ∀ (L : List α) (r : α), L.Pairwise (ltK key) → (insN key num L r).Pairwise (ltK key) ∧ ∀ y ∈ insN key num L r, y = r ∨ y ∈ L
  | [], r, _ => by simp [insN]
  | x :: L, r, hp => by
    have hp0 := hp
    rw [List.pairwise_cons] at hp
    rw [insN]
    split
    · rename_i h
      obtain ⟨h1, h2⟩ := insN_sorted L r hp.2
      refine ⟨List.pairwise_cons.2 ⟨fun y hy => ?_, h1⟩, fun y hy => ?_⟩
      · rcases h2 y hy with rfl | hy
        · exact h
        · exact hp.1 y hy
      · rcases List.mem_cons.1 hy with rfl | hy
        · simp
        · rcases h2 y hy with rfl | hy
          · simp
          · simp [hy]
    · rename_i h
      split
      · rename_i he
        split
        · refine ⟨List.pairwise_cons.2 ⟨fun y hy => ?_, hp.2⟩, fun y hy => ?_⟩
          · have := hp.1 y hy
            unfold ltK at this ⊢
            rwa [he] at this
          · rcases List.mem_cons.1 hy with rfl | hy
            · simp
            · simp [hy]
        · exact ⟨hp0, fun y hy => Or.inr hy⟩
      · rename_i he
        have hlt := ltK_tri (key := key) h he
        refine ⟨List.pairwise_cons.2 ⟨fun y hy => ?_, hp0⟩, fun y hy => ?_⟩
        · rcases List.mem_cons.1 hy with rfl | hy
          · exact hlt
          · exact ltK_trans hlt (hp.1 y hy)
        · rcases List.mem_cons.1 hy with rfl | hy
          · simp
          · exact Or.inr hy
theorem newestL_sorted (l : List α) : (newestL key num l).Pairwise (ltK key) := by
  have : ∀ (l : List α) (L : List α), L.Pairwise (ltK key) → (l.foldl (insN key num) L).Pairwise (ltK key) := by
    intro l
    induction l with
    | nil => intro L h; exact h
    | cons r l ih => intro L h; exact ih _ (insN_sorted key num L r h).1
  exact this l [] List.Pairwise.nil
structure TabOk (m : List (ByteArray × α)) (L : List α) : Prop where
  own : ∀ p ∈ m, p.1 = key p.2
  perm : (m.map (·.2)).Perm L
  sorted : L.Pairwise (ltK key)
theorem look_mem {β : Type} {m : List (ByteArray × β)} {k : ByteArray} {x : β} (h : look m k = some x) : (k, x) ∈ m := by
  unfold look at h
  cases hf : m.find? fun p => decide (p.1 = k) with
  | none => rw [hf] at h; cases h
  | some p =>
    rw [hf] at h
    have h1 := List.find?_some hf
    have h2 := List.mem_of_find?_eq_some hf
    simp at h h1
    obtain ⟨a, b⟩ := p
    simp at h h1
    subst h h1
    exact h2
theorem look_nomem {β : Type} {m : List (ByteArray × β)} {k : ByteArray} (h : look m k = none) : ∀ p ∈ m, p.1 ≠ k := by
  intro p hp e
  have h1 := look_some_of_any m k
  rw [h] at h1
  have := List.any_eq_false.1 h1.symm p hp
  simp [e] at this
theorem tab_step {m : List (ByteArray × α)} {L : List α} (h : TabOk key m L) (r : α) : TabOk key (stepM key num m r) (insN key num L r) := by
  have hs := (insN_sorted key num L r h.sorted).1
  unfold stepM
  cases hl : look m (key r) with
  | none =>
    have hn := look_nomem hl
    have e : put m (key r) r = m ++ [(key r, r)] := put_none hn
    simp only [e]
    refine ⟨fun p hp => ?_, ?_, hs⟩
    · rcases List.mem_append.1 hp with hp | hp
      · exact h.own p hp
      · simp at hp; subst hp; rfl
    · have hne : ∀ x ∈ L, key x ≠ key r := by
        intro x hx e
        have := h.perm.mem_iff.2 hx
        obtain ⟨p, hp, rfl⟩ := List.mem_map.1 this
        exact hn p hp (by rw [h.own p hp]; exact e)
      rw [List.map_append]
      refine List.Perm.trans ?_ (insN_new key num L r hne).symm
      refine List.perm_append_comm.trans ?_
      exact h.perm.cons r
  | some x =>
    have hm := look_mem hl
    have hk : key x = key r := (h.own _ hm).symm
    have hx : x ∈ L := h.perm.mem_iff.1 (List.mem_map.2 ⟨_, hm, rfl⟩)
    have ho := insN_old key num L r x h.sorted hx hk
    simp only []
    by_cases hle : num x ≤ num r
    · rw [if_pos hle] at ho ⊢
      have hany : m.any (fun p => decide (p.1 = key r)) = true := List.any_eq_true.2 ⟨_, hm, by simp⟩
      have e : put m (key r) r = m.map (fun p => if p.1 = key r then (key r, r) else p) := by unfold put; rw [if_pos hany]
      rw [e]
      refine ⟨fun p hp => ?_, ?_, hs⟩
      · obtain ⟨q, hq, rfl⟩ := List.mem_map.1 hp
        split
        · rfl
        · exact h.own q hq
      · rw [ho, List.map_map]
        have e2 : m.map ((fun p : ByteArray × α => p.2) ∘ fun p => if p.1 = key r then (key r, r) else p) = (m.map (·.2)).map (fun y => if key y = key r then r else y) := by
          rw [List.map_map]
          refine List.map_congr_left fun p hp => ?_
          have := h.own p hp
          simp only [Function.comp]
          by_cases hc : p.1 = key r
          · rw [if_pos hc, if_pos (by rw [← this]; exact hc)]
          · rw [if_neg hc, if_neg (by rw [← this]; exact hc)]
        rw [e2]
        exact h.perm.map _
    · rw [if_neg hle] at ho ⊢
      rw [ho]
      exact h
theorem tab_ok (l : List α) : TabOk key (tabM key num l) (newestL key num l) := by
  have : ∀ (l : List α) (m : List (ByteArray × α)) (L : List α), TabOk key m L → TabOk key (l.foldl (stepM key num) m) (l.foldl (insN key num) L) := by
    intro l
    induction l with
    | nil => intro m L h; exact h
    | cons r l ih => intro m L h; exact ih _ _ (tab_step key num h r)
  exact this l [] [] ⟨fun p hp => absurd hp (by simp), List.Perm.refl _, List.Pairwise.nil⟩
theorem sorted_inj {L : List α} (h : L.Pairwise (ltK key)) {a b : α} (ha : a ∈ L) (hb : b ∈ L) (e : key a = key b) : a = b := by
  induction L with
  | nil => exact absurd ha (by simp)
  | cons x L ih =>
    rw [List.pairwise_cons] at h
    rcases List.mem_cons.1 ha with e1 | ha' <;> rcases List.mem_cons.1 hb with e2 | hb'
    · rw [e1, e2]
    · have := h.1 b hb'; unfold ltK at this; rw [← e1, e] at this; exact absurd this (List.lt_irrefl _)
    · have := h.1 a ha'; unfold ltK at this; rw [← e2, e] at this; exact absurd this (List.lt_irrefl _)
    · exact ih h.2 ha' hb'
theorem perm_sorted_eq : ∀ (D L : List α), D.Perm L → L.Pairwise (ltK key) → D.Pairwise (fun x y => ¬ ltK key y x) → D = L
  | [], L, hp, _, _ => hp.symm.eq_nil.symm
  | x :: D, [], hp, _, _ => absurd hp.eq_nil (by simp)
  | x :: D, y :: L, hp, hL, hD => by
    have hL0 := hL
    rw [List.pairwise_cons] at hL hD
    have hxy : x = y := by
      have hx : x ∈ y :: L := hp.mem_iff.1 (by simp)
      have hy : y ∈ x :: D := hp.mem_iff.2 (by simp)
      rcases List.mem_cons.1 hx with h | h
      · exact h
      · have h1 := hL.1 x h
        rcases List.mem_cons.1 hy with h2 | h2
        · exact h2.symm
        · exact absurd h1 (hD.1 y h2)
    subst hxy
    rw [perm_sorted_eq D L (hp.cons_inv) hL.2 hD.2]
theorem newest_of_tab (l D : List α) (hp : D.Perm ((tabM key num l).map (·.2))) (hs : D.Pairwise fun x y => ¬ (key y).data.toList < (key x).data.toList) : D = newestL key num l := by
  have h := tab_ok key num l
  exact perm_sorted_eq key D _ (hp.trans h.perm) h.sorted hs
end
end Go.Proofs.Ytlfhnpecfkhcpaa.Thw
