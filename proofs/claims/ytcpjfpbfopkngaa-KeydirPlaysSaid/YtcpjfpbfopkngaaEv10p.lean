/- Layer 10: what Put and Delete come to, in plain words. No program in sight. -/
import Derived.Test.YtcpjfpbfopkngaaEv10h
namespace Go.Proofs.Ytcpjfpbfopkngaa.Thw
open Go Go.RowKit Go.Proofs.YtcpjfpbfopkngaaW.PrintWords Go.Proofs.YtcpjfpbfopkngaaW.PrintLast Go.Proofs.YtcpjfpbfopkngaaW.PrintMore
set_option linter.unusedVariables false
set_option linter.unusedSimpArgs false
/-! ### the slots that have keys -/
def liv (T : List Slt) : List Slt := T.filter fun x => !gn x
def lv1 (s : Slt) : List Slt := if gn s = true then [] else [s]
theorem cnt_liv (T : List Slt) : cnt T = (liv T).length := rfl
theorem liv_cons (s : Slt) (T : List Slt) : liv (s :: T) = lv1 s ++ liv T := by
  unfold liv lv1
  rw [List.filter_cons]
  cases gn s <;> rfl
theorem liv_split : ∀ (T : List Slt) (i : Nat) (hi : i < T.length), (liv T).Perm (lv1 T[i] ++ liv (T.eraseIdx i))
  | s :: T, 0, _ => by
    rw [liv_cons]
    exact List.Perm.refl _
  | s :: T, i + 1, hi => by
    rw [liv_cons, List.eraseIdx_cons_succ, liv_cons]
    have hi' : i < T.length := by simpa using hi
    have h := liv_split T i hi'
    have h2 := h.append_left (lv1 s)
    refine h2.trans ?_
    show (lv1 s ++ (lv1 T[i] ++ _)).Perm (lv1 T[i] ++ (lv1 s ++ _))
    rw [← List.append_assoc, ← List.append_assoc]
    exact List.Perm.append_right _ List.perm_append_comm
theorem erase_set (T : List Slt) (i : Nat) (s : Slt) : (T.set i s).eraseIdx i = T.eraseIdx i := by
  induction T generalizing i with
  | nil => rfl
  | cons x T ih =>
    cases i with
    | zero => rfl
    | succ i => rw [List.set_cons_succ, List.eraseIdx_cons_succ, List.eraseIdx_cons_succ, ih]
theorem liv_set (T : List Slt) (i : Nat) (hi : i < T.length) (s : Slt) : (liv (T.set i s)).Perm (lv1 s ++ liv (T.eraseIdx i)) := by
  have h := liv_split (T.set i s) i (by rw [List.length_set]; exact hi)
  rw [erase_set] at h
  simpa using h
theorem lv1_on {s : Slt} (h : s.2.2 = true) : lv1 s = [s] := by unfold lv1 gn; rw [h]; rfl
theorem lv1_off {s : Slt} (h : s.2.2 = false) : lv1 s = [] := by unfold lv1 gn; rw [h]; rfl
theorem occ_some {T : List Slt} {i : Nat} {k : ByteArray} (h : occ T i = some k) : ∃ hi : i < T.length, T[i].2.2 = true ∧ T[i].1 = k := by
  unfold occ at h
  rcases Nat.lt_or_ge i T.length with hi | hi
  · rw [List.getElem?_eq_getElem hi] at h
    simp only at h
    split at h
    · rename_i h1
      injection h with h
      exact ⟨hi, h1, h⟩
    · cases h
  · rw [List.getElem?_eq_none hi] at h
    cases h
theorem occ_none {T : List Slt} {i : Nat} (hi : i < T.length) (h : occ T i = none) : T[i].2.2 = false := by
  rw [occ_at hi] at h
  cases hb : T[i].2.2 with
  | false => rfl
  | true => rw [hb] at h; cases h
theorem liv_mem {T : List Slt} {s : Slt} : s ∈ liv T ↔ s ∈ T ∧ s.2.2 = true := by
  unfold liv gn
  rw [List.mem_filter]
  simp
/-- No two slots have one key. -/
theorem liv_nodup {T : List Slt} {n : Nat} {hm : ByteArray → Nat} (hn : n = T.length) (hG : Good (occ T) n hm) : ((liv T).map (·.1)).Nodup := by
  subst hn
  have h1 : T.Pairwise fun a b => (!gn a) = true → (!gn b) = true → a.1 ≠ b.1 := by
    rw [List.pairwise_iff_getElem]
    intro i j hi hj hij ha hb e
    have hga : T[i].2.2 = true := by simpa [gn] using ha
    have hgb : T[j].2.2 = true := by simpa [gn] using hb
    have ea : occ T i = some T[i].1 := by rw [occ_at hi, if_pos hga]
    have eb : occ T j = some T[i].1 := by rw [occ_at hj, if_pos hgb, e]
    have := hG.inj hi hj ea eb
    omega
  unfold liv List.Nodup
  rw [List.pairwise_map, List.pairwise_filter]
  exact h1
/-! ### what is told of a key -/
def kvS (s : Slt) : ByteArray × Loc4 := (s.1, s.2.1)
def lk (T : List Slt) (k : ByteArray) : Option Loc4 := look ((liv T).map kvS) k
theorem look_iff {α : Type} {m : List (ByteArray × α)} (hn : (m.map (·.1)).Nodup) (k : ByteArray) (v : α) : look m k = some v ↔ (k, v) ∈ m := by
  induction m with
  | nil => simp [look_nil]
  | cons p m ih =>
    rw [List.map_cons, List.nodup_cons] at hn
    rw [look_cons, List.mem_cons]
    by_cases h : p.1 = k
    · rw [if_pos h]
      constructor
      · intro e; injection e with e; exact Or.inl (by rw [← h, ← e])
      · rintro (e | e)
        · rw [← e]
        · exact absurd (by rw [h]; exact List.mem_map_of_mem (f := (·.1)) e) hn.1
    · rw [if_neg h, ih hn.2]
      constructor
      · exact Or.inr
      · rintro (e | e)
        · exact absurd (by rw [← e]) h
        · exact e
theorem look_perm {α : Type} {m m' : List (ByteArray × α)} (hp : m.Perm m') (hn : (m.map (·.1)).Nodup) (k : ByteArray) : look m k = look m' k := by
  have hn' : (m'.map (·.1)).Nodup := (hp.map _).nodup_iff.1 hn
  apply Option.ext
  intro v
  show look m k = some v ↔ look m' k = some v
  rw [look_iff hn, look_iff hn', hp.mem_iff]
theorem kvS_fst (L : List Slt) : (L.map kvS).map (·.1) = L.map (·.1) := by rw [List.map_map]; rfl
theorem lk_perm {T : List Slt} {L : List Slt} (hp : (liv T).Perm L) (hn : ((liv T).map (·.1)).Nodup) (k : ByteArray) : lk T k = look (L.map kvS) k :=
  look_perm (hp.map kvS) (by rw [kvS_fst]; exact hn) k
theorem lk_none_of {T : List Slt} {k : ByteArray} (h : ∀ i, i < T.length → occ T i ≠ some k) : lk T k = none := by
  unfold lk
  refine look_none fun p hp => ?_
  obtain ⟨s, hs, rfl⟩ := List.mem_map.1 hp
  obtain ⟨hs1, hs2⟩ := liv_mem.1 hs
  obtain ⟨i, hi, rfl⟩ := List.getElem_of_mem hs1
  intro e
  exact h i hi (by rw [occ_at hi, if_pos hs2]; exact congrArg some e)
theorem lk_some_of {T : List Slt} {n : Nat} {hm : ByteArray → Nat} (hn : n = T.length) (hG : Good (occ T) n hm) {i : Nat} (hi : i < T.length) (h : T[i].2.2 = true) : lk T T[i].1 = some T[i].2.1 := by
  unfold lk
  rw [look_iff (by rw [kvS_fst]; exact liv_nodup hn hG)]
  exact List.mem_map.2 ⟨T[i], liv_mem.2 ⟨List.getElem_mem hi, h⟩, rfl⟩
structure Inv (T : List Slt) (m b : Nat) : Prop where
  pow : ∃ j, 3 ≤ j ∧ T.length = 2 ^ j
  good : Good (occ T) T.length (hmK T.length)
  many : cnt T = m
  half : 2 * m ≤ T.length
  size : T.length ≤ 8 ∨ T.length ≤ 4 * b
  le : m ≤ b
  clean : ∀ s ∈ T, s.2.2 = false → s = zS
  keys : ∀ s ∈ T, s.1.size ≤ 100
section
variable {T T' : List Slt} {m m' b : Nat}
theorem Inv.pos (h : Inv T m b) : 0 < T.length := by
  obtain ⟨j, _, e⟩ := h.pow
  rw [e]; exact Nat.two_pow_pos j
theorem Inv.gap (h : Inv T m b) : Gap (occ T) T.length := gap_of_cnt (by have := h.many; have := h.half; have := h.pos; omega)
theorem Inv.le' (h : Inv T m b) {b' : Nat} (hb : b ≤ b') : Inv T m b' := ⟨h.pow, h.good, h.many, h.half, by have := h.size; omega, Nat.le_trans h.le hb, h.clean, h.keys⟩
theorem Inv.small (h : Inv T m b) (hb : b ≤ 250) : T.length ≤ 1000 := by have := h.size; omega
theorem Inv.exp (h : Inv T m b) (hb : b ≤ 250) : ∃ j, 3 ≤ j ∧ j ≤ 10 ∧ T.length = 2 ^ j := by
  obtain ⟨j, h1, h2⟩ := h.pow
  refine ⟨j, h1, ?_, h2⟩
  apply Classical.byContradiction
  intro hj
  have h3 : 2 ^ 11 ≤ 2 ^ j := Nat.pow_le_pow_right (by omega) (by omega)
  have h4 := h.small hb
  rw [h2] at h4
  have : (2 : Nat) ^ 11 = 2048 := by decide
  omega
theorem Inv.two (h : Inv T m b) (k : ByteArray) : (occ T (fnd (occ T) T.length (hmK T.length k) k) = none ∧ lk T k = none) ∨
    (occ T (fnd (occ T) T.length (hmK T.length k) k) = some k ∧ ∃ hi : fnd (occ T) T.length (hmK T.length k) k < T.length, T[fnd (occ T) T.length (hmK T.length k) k].2.2 = true ∧ T[fnd (occ T) T.length (hmK T.length k) k].1 = k ∧ lk T k = some T[fnd (occ T) T.length (hmK T.length k) k].2.1) := by
  rcases fnd_two (k := k) (hmK_lt k h.pos) h.gap with h1 | h1
  · exact Or.inl ⟨h1, lk_none_of (h.good.absent (by rw [h1]; exact fun e => by cases e))⟩
  · obtain ⟨hi, h2, h3⟩ := occ_some h1
    refine Or.inr ⟨h1, hi, h2, h3, ?_⟩
    have := lk_some_of rfl h.good hi h2
    rw [h3] at this
    exact this
theorem Inv.start : Inv (List.replicate 8 zS) 0 0 := by
  have ho : occ (List.replicate 8 zS) = fun _ => none := by
    funext i
    unfold occ
    rcases Nat.lt_or_ge i 8 with h | h
    · rw [List.getElem?_replicate_of_lt h]; rfl
    · rw [List.getElem?_eq_none (by simpa using h)]
  refine ⟨⟨3, by omega, rfl⟩, by rw [ho]; exact Good.nothing, cnt_zero 8, by simp, Or.inl (by simp), Nat.le_refl _, fun s hs _ => List.eq_of_mem_replicate hs, fun s hs => by rw [List.eq_of_mem_replicate hs]; decide⟩
theorem lk_start (k : ByteArray) : lk (List.replicate 8 zS) k = none := rfl
end
/-! ### all slots are laid anew -/
theorem lay_occ {U : List Slt} {s : Slt} (h0 : 0 < U.length) (hs : s.2.2 = true) : occ (lay U s) = upd' (occ U) (fnd (occ U) U.length (hmK U.length s.1) s.1) (some s.1) := occ_set_s (fnd_lt h0) s hs
theorem lay_liv {U : List Slt} {s : Slt} (h0 : 0 < U.length) (hs : s.2.2 = true) (he : occ U (fnd (occ U) U.length (hmK U.length s.1) s.1) = none) : (liv (lay U s)).Perm (s :: liv U) := by
  have hi : fnd (occ U) U.length (hmK U.length s.1) s.1 < U.length := fnd_lt h0
  have h1 := liv_set U _ hi s
  have h2 := liv_split U _ hi
  rw [lv1_off (occ_none hi he), List.nil_append] at h2
  rw [lv1_on hs] at h1
  exact h1.trans (List.Perm.cons _ h2.symm)
theorem lay_clean {U : List Slt} {s : Slt} (hs : s.2.2 = true) (hc : ∀ x ∈ U, x.2.2 = false → x = zS) : ∀ x ∈ lay U s, x.2.2 = false → x = zS := by
  intro x hx hg
  rcases List.mem_or_eq_of_mem_set hx with h | h
  · exact hc x h hg
  · rw [h, hs] at hg; cases hg
theorem absent_of_liv {U : List Slt} {k : ByteArray} (h : k ∉ (liv U).map (·.1)) {i : Nat} : occ U i ≠ some k := by
  intro e
  obtain ⟨hi, h1, h2⟩ := occ_some e
  exact h (List.mem_map.2 ⟨U[i], liv_mem.2 ⟨List.getElem_mem hi, h1⟩, h2⟩)
theorem lays {n : Nat} : ∀ (L U : List Slt), U.length = n → Good (occ U) n (hmK n) → cnt U + L.length < n → (∀ s ∈ L, s.2.2 = true) → ((L ++ liv U).map (·.1)).Nodup → (∀ x ∈ U, x.2.2 = false → x = zS) →
    Good (occ (L.foldl lay U)) n (hmK n) ∧ (liv (L.foldl lay U)).Perm (L ++ liv U) ∧ ∀ x ∈ L.foldl lay U, x.2.2 = false → x = zS
  | [], U, hl, hG, hc, hs, hn, hz => ⟨hG, List.Perm.refl _, hz⟩
  | s :: L, U, hl, hG, hc, hs, hn, hz => by
    have h0 : 0 < U.length := by omega
    have hs0 := hs s List.mem_cons_self
    rw [List.cons_append, List.map_cons, List.nodup_cons] at hn
    have hk : s.1 ∉ (liv U).map (·.1) := fun e => hn.1 (by rw [List.map_append, List.mem_append]; exact Or.inr e)
    rw [List.length_cons] at hc
    have hgap : Gap (occ U) U.length := gap_of_cnt (by omega)
    have he : occ U (fnd (occ U) U.length (hmK U.length s.1) s.1) = none := by
      rcases fnd_two (k := s.1) (hmK_lt s.1 h0) hgap with h1 | h1
      · exact h1
      · exact absurd h1 (absent_of_liv hk)
    have hp := lay_liv h0 hs0 he
    have hG' : Good (occ (lay U s)) n (hmK n) := by
      rw [lay_occ h0 hs0]
      subst hl
      exact hG.put (fun k => hmK_lt k h0) hgap he
    have hc' : cnt (lay U s) = cnt U + 1 := by rw [cnt_liv, hp.length_eq, List.length_cons, ← cnt_liv]
    have hperm : (L ++ liv (lay U s)).Perm (s :: (L ++ liv U)) := (hp.append_left L).trans List.perm_middle
    rw [List.foldl_cons]
    obtain ⟨r1, r2, r3⟩ := lays L (lay U s) (by rw [lay_length, hl]) hG' (by omega) (fun x hx => hs x (List.mem_cons_of_mem _ hx)) ((hperm.map _).nodup_iff.2 (by rw [List.map_cons, List.nodup_cons]; exact hn)) (lay_clean hs0 hz)
    exact ⟨r1, r2.trans hperm, r3⟩
theorem ris_nodup {T L : List Slt} (h : Ris T L) {n : Nat} {hm : ByteArray → Nat} (hn : n = T.length) (hG : Good (occ T) n hm) : (L.map (·.1)).Nodup := (h.1.map _).nodup_iff.2 (liv_nodup hn hG)
theorem layAll_all {T L : List Slt} {m b : Nat} (h : Inv T m b) (hr : Ris T L) : Good (occ (layAll (2 * T.length) L)) (2 * T.length) (hmK (2 * T.length)) ∧ (liv (layAll (2 * T.length) L)).Perm (liv T) ∧ ∀ x ∈ layAll (2 * T.length) L, x.2.2 = false → x = zS := by
  have hz : occ (List.replicate (2 * T.length) zS) = fun _ => none := by
    funext i
    unfold occ
    rcases Nat.lt_or_ge i (2 * T.length) with h | h
    · rw [List.getElem?_replicate_of_lt h]; rfl
    · rw [List.getElem?_eq_none (by simpa using h)]
  have hl0 : liv (List.replicate (2 * T.length) zS) = [] := by
    rw [← List.length_eq_zero_iff, ← cnt_liv, cnt_zero]
  have hlen : L.length = m := by rw [hr.1.length_eq, ← h.many]; rfl
  have h1 := lays L (List.replicate (2 * T.length) zS) (List.length_replicate ..) (by rw [hz]; exact Good.nothing) (by rw [cnt_zero]; have := h.half; have := h.pos; omega) (fun s hs => (ris_mem hr hs).2) (by rw [hl0, List.append_nil]; exact ris_nodup hr rfl h.good) (fun x hx _ => List.eq_of_mem_replicate hx)
  rw [hl0, List.append_nil] at h1
  exact ⟨h1.1, h1.2.1.trans hr.1, h1.2.2⟩
theorem lk_cons_put {T R : List Slt} {k : ByteArray} {l : Loc4} {U : List Slt} (hU : ((liv U).map (·.1)).Nodup) (hp : (liv U).Perm ((k, l, true) :: R)) (k' : ByteArray) : lk U k' = if k = k' then some l else look (R.map kvS) k' := by
  rw [lk_perm hp hU, List.map_cons, look_cons]
  rfl
theorem lay_keys {U : List Slt} {s : Slt} {B : Nat} (hs : s.1.size ≤ B) (h : ∀ x ∈ U, x.1.size ≤ B) : ∀ x ∈ lay U s, x.1.size ≤ B := by
  intro x hx
  rcases List.mem_or_eq_of_mem_set hx with h1 | h1
  · exact h x h1
  · rw [h1]; exact hs
theorem layAll_keys {T L : List Slt} {B n : Nat} (hL : ∀ s ∈ L, s.1.size ≤ B) : ∀ x ∈ layAll n L, x.1.size ≤ B := by
  have : ∀ (L U : List Slt), (∀ s ∈ L, s.1.size ≤ B) → (∀ s ∈ U, s.1.size ≤ B) → ∀ x ∈ L.foldl lay U, x.1.size ≤ B := by
    intro L
    induction L with
    | nil => exact fun U _ h => h
    | cons s L ih => exact fun U h1 h2 => by rw [List.foldl_cons]; exact ih _ (fun x hx => h1 x (List.mem_cons_of_mem _ hx)) (lay_keys (h1 s List.mem_cons_self) h2)
  exact this L _ hL (fun s hs => by rw [List.eq_of_mem_replicate hs]; show (0 : Nat) ≤ B; omega)
set_option maxHeartbeats 800000 in
theorem Inv.put {T T' : List Slt} {m m' b : Nat} {k : ByteArray} {l : Loc4} (h : Inv T m b) (hk : k.size ≤ 100) (hp : PutTo T m (k, l, true) T' m') : Inv T' m' (b + 1) ∧ ∀ k', lk T' k' = if k = k' then some l else lk T k' := by
  have h0 := h.pos
  have hnd := liv_nodup rfl h.good
  rcases hp with ⟨he, rfl, rfl⟩ | ⟨he, rfl, ⟨hlt, rfl⟩ | ⟨hlt, L, hr, rfl⟩⟩
  · have he' : occ T (fnd (occ T) T.length (hmK T.length k) k) = some k := he
    obtain ⟨hi, h1, h2⟩ := occ_some he'
    have hoc : occ (lay T (k, l, true)) = occ T := by
      rw [lay_occ h0 rfl]
      funext j
      unfold upd'
      split
      · rename_i e; rw [e]; exact he.symm
      · rfl
    have hsp := liv_split T _ hi
    rw [lv1_on h1] at hsp
    have hst := liv_set T _ hi (k, l, true)
    rw [lv1_on rfl] at hst
    have hst' : (liv (lay T (k, l, true))).Perm ((k, l, true) :: liv (T.eraseIdx (fnd (occ T) T.length (hmK T.length k) k))) := hst
    have hG' : Good (occ (lay T (k, l, true))) (lay T (k, l, true)).length (hmK (lay T (k, l, true)).length) := by rw [hoc, lay_length]; exact h.good
    refine ⟨⟨by rw [lay_length]; exact h.pow, hG', ?_, by rw [lay_length]; exact h.half, by rw [lay_length]; have := h.size; omega, by have := h.le; omega, lay_clean rfl h.clean, lay_keys hk h.keys⟩, fun k' => ?_⟩
    · rw [← h.many, cnt_liv, cnt_liv, hst'.length_eq, hsp.length_eq]; rfl
    · rw [lk_cons_put (T := T) (liv_nodup rfl hG') hst', lk_perm hsp hnd, List.singleton_append, List.map_cons, look_cons]
      by_cases e : k = k'
      · rw [if_pos e, if_pos e]
      · rw [if_neg e, if_neg e, if_neg (by show ¬ (kvS T[fnd (occ T) T.length (hmK T.length k) k]).1 = k'; unfold kvS; rw [h2]; exact e)]
  · have he' : occ T (fnd (occ T) T.length (hmK T.length k) k) = none := he
    have hst := lay_liv (s := (k, l, true)) h0 rfl he'
    have hG' : Good (occ (lay T (k, l, true))) (lay T (k, l, true)).length (hmK (lay T (k, l, true)).length) := by
      rw [lay_occ h0 rfl, lay_length]
      exact h.good.put (fun k => hmK_lt k h0) h.gap he'
    refine ⟨⟨by rw [lay_length]; exact h.pow, hG', ?_, by rw [lay_length]; exact hlt, by rw [lay_length]; have := h.size; omega, by have := h.le; omega, lay_clean rfl h.clean, lay_keys hk h.keys⟩, fun k' => ?_⟩
    · rw [← h.many, cnt_liv, hst.length_eq]; rfl
    · rw [lk_cons_put (T := T) (liv_nodup rfl hG') hst]
      rfl
  · have he' : occ T (fnd (occ T) T.length (hmK T.length k) k) = none := he
    have hnone : k ∉ (liv T).map (·.1) := by
      intro hm
      obtain ⟨s, hs, e⟩ := List.mem_map.1 hm
      obtain ⟨hs1, hs2⟩ := liv_mem.1 hs
      obtain ⟨i, hi, rfl⟩ := List.getElem_of_mem hs1
      exact h.good.absent (by rw [he']; exact fun e => by cases e) i hi (by rw [occ_at hi, if_pos hs2]; exact congrArg some e)
    obtain ⟨g1, g2, g3⟩ := layAll_all h hr
    have hl2 : (layAll (2 * T.length) L).length = 2 * T.length := layAll_length _ _
    have h02 : 0 < (layAll (2 * T.length) L).length := by omega
    have hc2 : cnt (layAll (2 * T.length) L) = m := by rw [cnt_liv, g2.length_eq, ← cnt_liv, h.many]
    have hgap2 : Gap (occ (layAll (2 * T.length) L)) (layAll (2 * T.length) L).length := gap_of_cnt (by have := h.half; omega)
    have he2 : occ (layAll (2 * T.length) L) (fnd (occ (layAll (2 * T.length) L)) (layAll (2 * T.length) L).length (hmK (layAll (2 * T.length) L).length k) k) = none := by
      rcases fnd_two (k := k) (hmK_lt k h02) hgap2 with h1 | h1
      · exact h1
      · exact absurd h1 (absent_of_liv (fun e => hnone ((g2.map _).mem_iff.1 e)))
    have hst := lay_liv (s := (k, l, true)) h02 rfl he2
    have hst2 := hst.trans (List.Perm.cons _ g2)
    have hG' : Good (occ (lay (layAll (2 * T.length) L) (k, l, true))) (lay (layAll (2 * T.length) L) (k, l, true)).length (hmK (lay (layAll (2 * T.length) L) (k, l, true)).length) := by
      rw [lay_occ h02 rfl, lay_length]
      rw [hl2] at *
      exact g1.put (fun k => hmK_lt k (by omega)) hgap2 he2
    refine ⟨⟨?_, hG', ?_, ?_, ?_, by have := h.le; omega, lay_clean rfl g3, lay_keys hk (layAll_keys (T := T) fun s hs => h.keys s (ris_mem hr hs).1)⟩, fun k' => ?_⟩
    · rw [lay_length, hl2]
      obtain ⟨j, h3, e⟩ := h.pow
      exact ⟨j + 1, by omega, by rw [e, Nat.pow_succ]; omega⟩
    · rw [← h.many, cnt_liv, hst2.length_eq]; rfl
    · rw [lay_length, hl2]; have := h.half; omega
    · rw [lay_length, hl2]; have := h.le; omega
    · rw [lk_cons_put (T := T) (liv_nodup rfl hG') hst2]
      rfl
/-! ### a deletion -/
theorem reT_liv {U : List Slt} {j : Nat} {s : Slt} (hs : U[j]? = some s) (ho : s.2.2 = true) (he : occ (U.set j zS) (fnd (occ (U.set j zS)) U.length (hmK U.length s.1) s.1) = none) : (liv (reT U j)).Perm (liv U) := by
  obtain ⟨hj, e⟩ := List.getElem?_eq_some_iff.1 hs
  have h0 : 0 < U.length := by omega
  unfold reT
  rw [hs]
  show (liv ((U.set j zS).set (fnd (occ (U.set j zS)) U.length (hmK U.length s.1) s.1) s)).Perm (liv U)
  have hl : (U.set j zS).length = U.length := List.length_set
  have h1 := lay_liv (U := U.set j zS) (s := s) (by rw [hl]; exact h0) ho (by rw [hl]; exact he)
  unfold lay at h1
  rw [hl] at h1
  refine h1.trans ?_
  have h2 := liv_set U j hj zS
  have h3 := liv_split U j hj
  rw [lv1_off (s := zS) rfl, List.nil_append] at h2
  rw [e, lv1_on ho] at h3
  exact (List.Perm.cons s h2).trans h3.symm
theorem dl_liv {T : List Slt} {i0 m : Nat} (hG : Good (occ T) T.length (hmK T.length)) (hi0 : i0 < T.length) (hr : RunAt T i0 m) : ∀ t, t < m → (liv (dl T i0 t)).Perm (liv (T.set i0 zS)) := by
  obtain ⟨hm1, hmn, hfull, hend⟩ := hr
  have hn0 : 0 < T.length := by omega
  intro t
  induction t with
  | zero => exact fun _ => List.Perm.refl _
  | succ t ih =>
    intro ht
    obtain ⟨hM, hs⟩ := dl_mid hG hi0 hm1 hmn hfull hend t (by omega)
    obtain ⟨s, hs1, hs2⟩ := hs ht
    have hlt : (i0 + (t + 1)) % T.length < (dl T i0 t).length := by rw [dl_length]; exact Nat.mod_lt _ hn0
    have hsx : (dl T i0 t)[(i0 + (t + 1)) % T.length] = s := by rw [List.getElem?_eq_getElem hlt] at hs1; injection hs1
    have hk : occ (dl T i0 t) ((i0 + (t + 1)) % T.length) = some s.1 := by rw [occ_at hlt, hsx, if_pos hs2]
    obtain ⟨h4, _, _⟩ := hM.step (fun k => Nat.mod_lt _ hn0) hi0 ht hmn hG hend hk
    rw [← occ_set_z hlt] at h4
    rw [dl]
    exact (reT_liv hs1 hs2 (by rw [dl_length]; exact h4)).trans (ih (by omega))
theorem reT_clean {U : List Slt} {j : Nat} (h : ∀ x ∈ U, x.2.2 = false → x = zS) : ∀ x ∈ reT U j, x.2.2 = false → x = zS := by
  intro x hx hg
  rcases reT_mem hx with h1 | h1
  · exact h x h1 hg
  · exact h1
theorem dl_clean {T : List Slt} {i0 : Nat} (h : ∀ x ∈ T, x.2.2 = false → x = zS) (t : Nat) : ∀ x ∈ dl T i0 t, x.2.2 = false → x = zS := by
  intro x hx hg
  rcases dl_mem t hx with h1 | h1
  · exact h x h1 hg
  · exact h1
theorem Inv.del {T : List Slt} {m b : Nat} {k : ByteArray} {r : Nat} (h : Inv T m b) (ho : occ T (fnd (occ T) T.length (hmK T.length k) k) = some k) (hr : RunAt T (fnd (occ T) T.length (hmK T.length k) k) r) :
    1 ≤ m ∧ Inv (dl T (fnd (occ T) T.length (hmK T.length k) k) (r - 1)) (m - 1) (b + 1) ∧ ∀ k', lk (dl T (fnd (occ T) T.length (hmK T.length k) k) (r - 1)) k' = if k = k' then none else lk T k' := by
  generalize hi0 : fnd (occ T) T.length (hmK T.length k) k = i0 at ho hr ⊢
  obtain ⟨hi, h1, h2⟩ := occ_some ho
  have hnd := liv_nodup rfl h.good
  obtain ⟨hm1, hmn, hfull, hend⟩ := id hr
  have hp1 := dl_liv h.good hi hr (r - 1) (by omega)
  have hp2 := liv_set T i0 hi zS
  rw [lv1_off (s := zS) rfl, List.nil_append] at hp2
  have hp := hp1.trans hp2
  have hsp := liv_split T i0 hi
  rw [lv1_on h1, List.singleton_append] at hsp
  have hM := (dl_mid h.good hi hm1 hmn hfull hend (r - 1) (by omega)).1
  rw [show r - 1 + 1 = r by omega] at hM
  have hG' := hM.done
  have hm : m = (liv (T.eraseIdx i0)).length + 1 := by rw [← h.many, cnt_liv, hsp.length_eq, List.length_cons]
  have hG2 : Good (occ (dl T i0 (r - 1))) (dl T i0 (r - 1)).length (hmK (dl T i0 (r - 1)).length) := by rw [dl_length]; exact hG'
  refine ⟨by omega, ⟨by rw [dl_length]; exact h.pow, hG2, ?_, by rw [dl_length]; have := h.half; omega, by rw [dl_length]; have := h.size; omega, by have := h.le; omega, dl_clean h.clean _, fun s hs => ?_⟩, fun k' => ?_⟩
  · rw [cnt_liv, hp.length_eq]; omega
  · rcases dl_mem _ hs with h3 | h3
    · exact h.keys s h3
    · rw [h3]; decide
  · rw [lk_perm hp (liv_nodup rfl hG2), lk_perm hsp hnd, List.map_cons, look_cons]
    have hk1 : (kvS T[i0]).1 = k := h2
    rw [hk1]
    by_cases e : k = k'
    · rw [if_pos e, ← e]
      refine look_none fun p hp => ?_
      have hnd2 := (hsp.map (·.1)).nodup_iff.1 hnd
      rw [List.map_cons, List.nodup_cons, h2] at hnd2
      intro e2
      refine hnd2.1 ?_
      rw [← kvS_fst, ← e2]
      exact List.mem_map_of_mem (f := (·.1)) hp
    · rw [if_neg e, if_neg e]
end Go.Proofs.Ytcpjfpbfopkngaa.Thw
