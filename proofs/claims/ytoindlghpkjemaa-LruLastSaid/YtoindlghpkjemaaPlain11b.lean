/- Layer 11 (lru) in plain words: what LruLast keeps of its own says what the cache keeps. No program in sight. -/
import Derived.Test.YtoindlghpkjemaaPlain11
namespace Go.Proofs.Ytoindlghpkjemaa.Thw
open Go
set_option linter.unusedVariables false
set_option linter.unusedSimpArgs false
structure LastInv (X : Row2) (used : List Bk) (T : List (Bk × ByteArray)) : Prop where
  keys : keysOf X = used.reverse
  txt : ∀ q ∈ X, look T q.1 = some q.2
def nextU (used : List Bk) (B : Bk) : List Bk := used.filter fun b => decide (b ≠ B)
theorem keysOf_del (X : Row2) (B : Bk) : keysOf (del X B) = (keysOf X).filter fun b => decide (b ≠ B) := by
  unfold keysOf del
  rw [List.filter_map]
  rfl
theorem look_mem2 {X : Row2} {B : Bk} {s : ByteArray} (h : look X B = some s) : (B, s) ∈ X := by
  unfold look at h
  obtain ⟨p, hp, rfl⟩ := Option.map_eq_some_iff.1 h
  have hk : p.1 = B := by simpa using List.find?_some hp
  rw [← hk]; exact List.mem_of_find?_eq_some hp
theorem look_keys {X : Row2} {B : Bk} : (look X B).isSome = decide (B ∈ keysOf X) := by
  rw [look_some_of_any, Bool.eq_iff_iff, List.any_eq_true, decide_eq_true_eq]
  simp [keysOf, List.mem_map]
theorem nextU_length {used : List Bk} (hn : used.Nodup) (B : Bk) : (nextU used B).length + (if B ∈ used then 1 else 0) = used.length := by
  induction used with
  | nil => simp [nextU]
  | cons a l ih =>
    have ih := ih (List.nodup_cons.1 hn).2
    unfold nextU at ih ⊢
    rw [List.filter_cons]
    by_cases h : a = B
    · subst h
      have hl : a ∉ l := (List.nodup_cons.1 hn).1
      rw [if_neg hl] at ih
      simp at ih ⊢
      omega
    · rw [if_pos (by simpa using h)]
      have hh : (B ∈ a :: l) ↔ B ∈ l := by
        simp only [List.mem_cons]
        exact ⟨fun x => x.elim (fun e => absurd e.symm h) id, Or.inr⟩
      simp only [hh, List.length_cons]
      omega
theorem LastInv.nodup {X : Row2} {used : List Bk} {T : List (Bk × ByteArray)} (h : LastInv X used T) (hn : (keysOf X).Nodup) : used.Nodup := by
  rw [h.keys] at hn
  exact (List.reverse_perm used).nodup_iff.1 hn
theorem LastInv.is {X : Row2} {used : List Bk} {T : List (Bk × ByteArray)} (h : LastInv X used T) (hn : (keysOf X).Nodup) (B : Bk) : (look X B).isSome = decide ((nextU used B).length < used.length) := by
  rw [look_keys, Bool.eq_iff_iff, decide_eq_true_eq, decide_eq_true_eq, h.keys, List.mem_reverse]
  have := nextU_length (h.nodup hn) B
  constructor
  · intro hb; rw [if_pos hb] at this; omega
  · intro hb
    by_cases hm : B ∈ used
    · exact hm
    · rw [if_neg hm] at this; omega
theorem keys_next {X : Row2} {used : List Bk} (h : keysOf X = used.reverse) (B : Bk) : keysOf (del X B) = (nextU used B).reverse := by
  rw [keysOf_del, h, nextU, List.filter_reverse]
theorem LastInv.get {X : Row2} {used : List Bk} {T : List (Bk × ByteArray)} (h : LastInv X used T) {B : Bk} {s : ByteArray} (hl : look X B = some s) : LastInv (getD2 X B) (nextU used B ++ [B]) T ∧ look T B = some s := by
  have ht := h.txt _ (look_mem2 hl)
  simp only at ht
  refine ⟨⟨?_, fun q hq => ?_⟩, ht⟩
  · simp only [getD2, hl]
    show B :: keysOf (del X B) = _
    rw [keys_next h.keys]
    simp
  · simp only [getD2, hl] at hq
    rcases List.mem_cons.1 hq with rfl | hq
    · exact ht
    · exact h.txt q (List.mem_filter.1 hq).1
theorem LastInv.put {X : Row2} {used : List Bk} {T : List (Bk × ByteArray)} {most : Int} (h : LastInv X used T) (hm : 1 ≤ most) (hl : (used.length : Int) ≤ most) (B : Bk) (S : ByteArray) :
    LastInv (putD X most B S) (if ((nextU used B ++ [B]).length : Int) > most then (nextU used B ++ [B]).drop 1 else nextU used B ++ [B]) (put T B S) := by
  have hk : keysOf (putD X most B S) = ((nextU used B ++ [B]).reverse).take most.toNat := by
    unfold putD keysOf
    rw [List.map_take, List.map_cons]
    have := keys_next h.keys B
    unfold keysOf at this
    rw [this]
    simp
  refine ⟨?_, fun q hq => ?_⟩
  · rw [hk]
    have hle : (nextU used B).length ≤ used.length := List.length_filter_le _ _
    have hlen : (nextU used B ++ [B]).length = (nextU used B).length + 1 := by simp
    split
    · rename_i hgt
      have hmost : most.toNat = (nextU used B ++ [B]).length - 1 := by omega
      rw [hmost, List.take_reverse]
      congr 1
      congr 1
      omega
    · rename_i hgt
      rw [List.take_of_length_le (by rw [List.length_reverse]; omega)]
  · have hq2 := List.mem_of_mem_take hq
    rcases List.mem_cons.1 hq2 with rfl | hq2
    · exact look_put_same ..
    · obtain ⟨h1, h2⟩ := List.mem_filter.1 hq2
      have hne : B ≠ q.1 := fun e => by simp [e] at h2
      rw [look_put_other _ hne]
      exact h.txt q h1
theorem nextU_take_succ (used : List Bk) (B : Bk) {k : Nat} (hk : k < used.length) : nextU (used.take (k + 1)) B = if used[k] ≠ B then nextU (used.take k) B ++ [used[k]] else nextU (used.take k) B := by
  unfold nextU
  rw [List.take_succ_eq_append_getElem hk, List.filter_append, List.filter_cons]
  by_cases h : used[k] = B
  · simp [h]
  · simp [h]
end Go.Proofs.Ytoindlghpkjemaa.Thw
