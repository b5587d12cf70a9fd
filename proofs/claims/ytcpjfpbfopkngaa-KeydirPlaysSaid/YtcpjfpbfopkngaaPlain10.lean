/- Layer 10 (keydir) in plain words: places, the first place at which a search stops, what Put and Delete leave. No program in sight. -/
namespace Go.Proofs.Ytcpjfpbfopkngaa.Thw
set_option linter.unusedVariables false
section
variable {κ : Type} [DecidableEq κ]
/-- A search for k stops here: no key, or k itself. -/
def stp (f : Nat → Option κ) (k : κ) (i : Nat) : Bool := match f i with
  | none => true
  | some k' => decide (k' = k)
/-- How far behind its home h a search goes among n places. -/
def dst (f : Nat → Option κ) (n h : Nat) (k : κ) : Nat := (List.range n).findIdx fun d => stp f k ((h + d) % n)
def fnd (f : Nat → Option κ) (n h : Nat) (k : κ) : Nat := (h + dst f n h k) % n
def upd' (f : Nat → Option κ) (i : Nat) (v : Option κ) : Nat → Option κ := fun j => if j = i then v else f j
def Gap (f : Nat → Option κ) (n : Nat) : Prop := ∃ g, g < n ∧ f g = none
/-- Each key is found where it stands. -/
def Good (f : Nat → Option κ) (n : Nat) (hm : κ → Nat) : Prop := ∀ i, i < n → ∀ k, f i = some k → fnd f n (hm k) k = i
variable {f : Nat → Option κ} {n h : Nat} {k : κ}
theorem stp_none {i : Nat} (hf : f i = none) : stp f k i = true := by unfold stp; rw [hf]
theorem stp_some {i : Nat} {k' : κ} (hf : f i = some k') : stp f k i = decide (k' = k) := by unfold stp; rw [hf]
theorem stp_not {i : Nat} (hs : stp f k i = false) : ∃ k', f i = some k' ∧ k' ≠ k := by
  unfold stp at hs
  cases hf : f i with
  | none => rw [hf] at hs; cases hs
  | some k' => rw [hf] at hs; exact ⟨k', rfl, of_decide_eq_false hs⟩
theorem dst_lt (hh : h < n) (hg : Gap f n) : dst f n h k < n := by
  obtain ⟨g, hgn, hf⟩ := hg
  unfold dst
  have : (List.range n).findIdx (fun d => stp f k ((h + d) % n)) < (List.range n).length := by
    rw [List.findIdx_lt_length]
    refine ⟨(g + n - h) % n, List.mem_range.2 (Nat.mod_lt _ (by omega)), ?_⟩
    have e : (h + (g + n - h) % n) % n = g := by
      rw [Nat.add_mod_mod, show h + (g + n - h) = g + n by omega, Nat.add_mod_right]
      exact Nat.mod_eq_of_lt hgn
    rw [e]
    exact stp_none hf
  rwa [List.length_range] at this
theorem dst_before {d : Nat} (hd : d < dst f n h k) : stp f k ((h + d) % n) = false := by
  unfold dst at hd
  have hl : (List.range n).findIdx (fun d => stp f k ((h + d) % n)) ≤ (List.range n).length := List.findIdx_le_length
  have h1 := List.not_of_lt_findIdx hd
  simpa using h1
theorem dst_stops (hl : dst f n h k < n) : stp f k (fnd f n h k) = true := by
  unfold fnd
  have hl' : (List.range n).findIdx (fun d => stp f k ((h + d) % n)) < (List.range n).length := by rw [List.length_range]; exact hl
  have h1 := List.findIdx_getElem (w := hl')
  unfold dst
  simpa using h1
theorem dst_eq {d : Nat} (hd : d < n) (hs : stp f k ((h + d) % n) = true) (hb : ∀ d', d' < d → stp f k ((h + d') % n) = false) : dst f n h k = d := by
  unfold dst
  have hd' : d < (List.range n).length := by rw [List.length_range]; exact hd
  rw [List.findIdx_eq hd']
  refine ⟨by simpa using hs, fun j hj => ?_⟩
  have := hb j hj
  simpa using this
theorem fnd_lt (hn : 0 < n) : fnd f n h k < n := Nat.mod_lt _ hn
/-- What is found: the key, or an empty place. -/
theorem fnd_two (hh : h < n) (hg : Gap f n) : f (fnd f n h k) = none ∨ f (fnd f n h k) = some k := by
  have hs := dst_stops (dst_lt (k := k) hh hg)
  unfold stp at hs
  cases hf : f (fnd f n h k) with
  | none => exact Or.inl rfl
  | some k' => rw [hf] at hs; exact Or.inr (by rw [of_decide_eq_true hs])
/-- Where another table holds the same up to the place that was found, and stops there, the same is found. -/
theorem fnd_same {f' : Nat → Option κ} (hl : dst f n h k < n) (hb : ∀ d, d < dst f n h k → stp f' k ((h + d) % n) = false) (hs : stp f' k (fnd f n h k) = true) : dst f' n h k = dst f n h k ∧ fnd f' n h k = fnd f n h k := by
  have e := dst_eq hl hs hb
  exact ⟨e, by unfold fnd; rw [e]⟩
theorem Good.absent {hm : κ → Nat} (hG : Good f n hm) (hk : f (fnd f n (hm k) k) ≠ some k) : ∀ i, i < n → f i ≠ some k := by
  intro i hi hf
  have := hG i hi k hf
  rw [this] at hk
  exact hk hf
theorem Good.inj {hm : κ → Nat} (hG : Good f n hm) {i j : Nat} (hi : i < n) (hj : j < n) (h1 : f i = some k) (h2 : f j = some k) : i = j := (hG i hi k h1).symm.trans (hG j hj k h2)
/-- One more key at an empty place p that a search for it comes to: all others are found as before. -/
theorem keep_at {p : Nat} {k' : κ} (hp : f p = none) (hl : dst f n h k < n) (hne : fnd f n h k ≠ p) : dst (upd' f p (some k')) n h k = dst f n h k ∧ fnd (upd' f p (some k')) n h k = fnd f n h k := by
  refine fnd_same hl (fun d hd => ?_) ?_
  · have h1 := dst_before hd
    obtain ⟨k2, h2, h3⟩ := stp_not h1
    have h4 : (h + d) % n ≠ p := fun e => by rw [e, hp] at h2; cases h2
    rw [stp_some (k' := k2) (by unfold upd'; rw [if_neg h4]; exact h2)]
    exact decide_eq_false h3
  · have h1 := dst_stops hl
    have e : upd' f p (some k') (fnd f n h k) = f (fnd f n h k) := by unfold upd'; rw [if_neg hne]
    unfold stp at h1 ⊢
    rw [e]
    exact h1
theorem new_at (hh : h < n) (hg : Gap f n) (hp : f (fnd f n h k) = none) : fnd (upd' f (fnd f n h k) (some k)) n h k = fnd f n h k ∧ dst (upd' f (fnd f n h k) (some k)) n h k = dst f n h k := by
  have := fnd_same (f := f) (f' := upd' f (fnd f n h k) (some k)) (n := n) (h := h) (k := k) (dst_lt hh hg) (fun d hd => ?_) ?_
  · exact ⟨this.2, this.1⟩
  · have h1 := dst_before hd
    obtain ⟨k2, h2, h3⟩ := stp_not h1
    have h4 : (h + d) % n ≠ fnd f n h k := fun e => by rw [e, hp] at h2; cases h2
    rw [stp_some (k' := k2) (by unfold upd'; rw [if_neg h4]; exact h2)]
    exact decide_eq_false h3
  · rw [stp_some (k' := k) (by unfold upd'; rw [if_pos rfl])]
    exact decide_eq_true rfl
theorem Good.put {hm : κ → Nat} (hG : Good f n hm) (hh : ∀ k, hm k < n) (hg : Gap f n) (hp : f (fnd f n (hm k) k) = none) : Good (upd' f (fnd f n (hm k) k) (some k)) n hm := by
  intro i hi k' hf
  by_cases e : i = fnd f n (hm k) k
  · unfold upd' at hf
    rw [if_pos e] at hf
    injection hf with hf
    subst hf
    rw [(new_at (hh k) hg hp).1, e]
  · have hf' : f i = some k' := by unfold upd' at hf; rwa [if_neg e] at hf
    have h1 := hG i hi k' hf'
    rw [(keep_at hp (dst_lt (hh k') hg) (by rw [h1]; exact e)).2, h1]
theorem Good.nothing {hm : κ → Nat} : Good (fun _ => none : Nat → Option κ) n hm := fun i _ k hf => by cases hf
/-! ### a key goes: those behind it are laid anew, one by one -/
structure Mid (f0 f : Nat → Option κ) (n i0 m t : Nat) (hm : κ → Nat) : Prop where
  tail : ∀ u, t ≤ u → u ≤ m → f ((i0 + u) % n) = f0 ((i0 + u) % n)
  good : ∀ i, i < n → ∀ k, f i = some k → (∃ u, t ≤ u ∧ u < m ∧ i = (i0 + u) % n) ∨ fnd f n (hm k) k = i
  inj : ∀ i j, i < n → j < n → ∀ k, f i = some k → f j = some k → i = j
theorem Mid.start {f0 : Nat → Option κ} {hm : κ → Nat} {i0 m : Nat} (hG : Good f0 n hm) (hh : ∀ k, hm k < n) (hi0 : i0 < n) (hm1 : 1 ≤ m) (hmn : m < n) (hfull : ∀ u, u < m → f0 ((i0 + u) % n) ≠ none) (hend : f0 ((i0 + m) % n) = none) :
    Mid f0 (upd' f0 i0 none) n i0 m 1 hm := by
  have hn0 : 0 < n := by omega
  have hg : Gap f0 n := ⟨_, Nat.mod_lt _ hn0, hend⟩
  have hne : ∀ u, 1 ≤ u → u ≤ m → (i0 + u) % n ≠ i0 := by
    intro u h1 h2 e
    rcases Nat.lt_or_ge (i0 + u) n with h3 | h3
    · rw [Nat.mod_eq_of_lt h3] at e; omega
    · rw [Nat.mod_eq_sub_mod h3, Nat.mod_eq_of_lt (by omega)] at e; omega
  refine ⟨fun u h1 h2 => by unfold upd'; rw [if_neg (hne u h1 h2)], fun i hi k hf => ?_, fun i j hi hj k h1 h2 => ?_⟩
  · by_cases e : i = i0
    · subst e; unfold upd' at hf; rw [if_pos rfl] at hf; cases hf
    have hf' : f0 i = some k := by unfold upd' at hf; rwa [if_neg e] at hf
    have h1 := hG i hi k hf'
    by_cases hpath : ∃ d, d < dst f0 n (hm k) k ∧ (hm k + d) % n = i0
    · -- from i0 on all places up to i have keys
      obtain ⟨d, hd, hd2⟩ := hpath
      left
      have hl := dst_lt (k := k) (hh k) hg
      have hx : i = (i0 + (dst f0 n (hm k) k - d)) % n := by
        rw [← hd2, Nat.mod_add_mod, show hm k + d + (dst f0 n (hm k) k - d) = hm k + dst f0 n (hm k) k by omega]
        exact h1.symm
      refine ⟨dst f0 n (hm k) k - d, by omega, ?_, hx⟩
      rcases Nat.lt_or_ge (dst f0 n (hm k) k - d) m with h3 | h3
      · exact h3
      · exfalso
        have e2 : (i0 + m) % n = (hm k + (d + m)) % n := by rw [← hd2, Nat.mod_add_mod]; congr 1; omega
        rcases Nat.lt_or_ge (d + m) (dst f0 n (hm k) k) with h4 | h4
        · obtain ⟨k2, h5, _⟩ := stp_not (dst_before h4)
          rw [← e2, hend] at h5
          cases h5
        · have h6 : d + m = dst f0 n (hm k) k := by omega
          rw [h6] at e2
          have h7 : f0 ((i0 + m) % n) = some k := by rw [e2]; unfold fnd at h1; rw [h1]; exact hf'
          rw [hend] at h7
          cases h7
    · right
      have := fnd_same (f := f0) (f' := upd' f0 i0 none) (n := n) (h := hm k) (k := k) (dst_lt (hh k) hg) (fun d hd => ?_) ?_
      · rw [this.2, h1]
      · obtain ⟨k2, h2, h3⟩ := stp_not (dst_before hd)
        have h4 : (hm k + d) % n ≠ i0 := fun e => hpath ⟨d, hd, e⟩
        rw [stp_some (k' := k2) (by unfold upd'; rw [if_neg h4]; exact h2)]
        exact decide_eq_false h3
      · rw [h1, stp_some (k' := k) hf]
        exact decide_eq_true rfl
  · have h1' : f0 i = some k := by unfold upd' at h1; split at h1; cases h1; exact h1
    have h2' : f0 j = some k := by unfold upd' at h2; split at h2; cases h2; exact h2
    exact hG.inj hi hj h1' h2'
/-- One of those behind it is taken out and laid anew. -/
theorem Mid.step {f0 f : Nat → Option κ} {hm : κ → Nat} {i0 m t : Nat} (hM : Mid f0 f n i0 m t hm) (hh : ∀ k, hm k < n) (hi0 : i0 < n) (htm : t < m) (hmn : m < n) (hG0 : Good f0 n hm) (hend : f0 ((i0 + m) % n) = none) {k : κ} (hk : f ((i0 + t) % n) = some k) :
    let f1 := upd' f ((i0 + t) % n) none
    f1 (fnd f1 n (hm k) k) = none ∧ Gap f1 n ∧ Mid f0 (upd' f1 (fnd f1 n (hm k) k) (some k)) n i0 m (t + 1) hm := by
  intro f1
  have hn0 : 0 < n := by omega
  have hj : (i0 + t) % n < n := Nat.mod_lt _ hn0
  have huv : ∀ u v, u ≤ m → v ≤ m → (i0 + u) % n = (i0 + v) % n → u = v := by
    intro u v hu hv e
    rcases Nat.lt_or_ge (i0 + u) n with h1 | h1 <;> rcases Nat.lt_or_ge (i0 + v) n with h2 | h2
    · rw [Nat.mod_eq_of_lt h1, Nat.mod_eq_of_lt h2] at e; omega
    · rw [Nat.mod_eq_of_lt h1, Nat.mod_eq_sub_mod h2, Nat.mod_eq_of_lt (by omega)] at e; omega
    · rw [Nat.mod_eq_of_lt h2, Nat.mod_eq_sub_mod h1, Nat.mod_eq_of_lt (by omega)] at e; omega
    · rw [Nat.mod_eq_sub_mod h1, Nat.mod_eq_sub_mod h2, Nat.mod_eq_of_lt (by omega), Nat.mod_eq_of_lt (by omega)] at e; omega
  have f1at : ∀ i, i ≠ (i0 + t) % n → f1 i = f i := fun i hi => by show upd' f _ none i = f i; unfold upd'; rw [if_neg hi]
  have f1j : f1 ((i0 + t) % n) = none := by show upd' f _ none _ = none; unfold upd'; rw [if_pos rfl]
  have hg1 : Gap f1 n := ⟨_, hj, f1j⟩
  have hab : ∀ i, i < n → f1 i ≠ some k := by
    intro i hi hf
    by_cases e : i = (i0 + t) % n
    · rw [e, f1j] at hf; cases hf
    · rw [f1at i e] at hf
      exact e (hM.inj i _ hi hj k hf hk)
  have hp : f1 (fnd f1 n (hm k) k) = none := by
    rcases fnd_two (k := k) (hh k) hg1 with h1 | h1
    · exact h1
    · exact absurd h1 (hab _ (fnd_lt hn0))
  refine ⟨hp, hg1, ?_⟩
  have hf0j : f0 ((i0 + t) % n) = some k := by rw [← hM.tail t (Nat.le_refl _) (Nat.le_of_lt htm)]; exact hk
  have hg0 : Gap f0 n := ⟨_, Nat.mod_lt _ hn0, hend⟩
  have hpath0 := hG0 _ hj k hf0j
  -- the place found is none of those that are still to come
  have hpn : ∀ u, t + 1 ≤ u → u ≤ m → fnd f1 n (hm k) k ≠ (i0 + u) % n := by
    intro u hu1 hu2 e
    have hne : (i0 + u) % n ≠ (i0 + t) % n := fun e2 => by have := huv u t hu2 (by omega) e2; omega
    have h1 : f1 ((i0 + u) % n) = f0 ((i0 + u) % n) := by rw [f1at _ hne]; exact hM.tail u (by omega) hu2
    rw [e, h1] at hp
    -- an empty place of f0 that a search for k in f1 comes to before j
    have hd1 : dst f1 n (hm k) k ≤ dst f0 n (hm k) k := by
      rcases Nat.lt_or_ge (dst f0 n (hm k) k) (dst f1 n (hm k) k) with h2 | h2
      · have h3 := dst_before h2
        have h4 : (hm k + dst f0 n (hm k) k) % n = (i0 + t) % n := hpath0
        rw [h4, stp_none f1j] at h3
        cases h3
      · exact h2
    rcases Nat.lt_or_ge (dst f1 n (hm k) k) (dst f0 n (hm k) k) with h2 | h2
    · obtain ⟨k2, h3, _⟩ := stp_not (dst_before h2)
      have h4 : (hm k + dst f1 n (hm k) k) % n = (i0 + u) % n := e
      rw [h4, hp] at h3
      cases h3
    · have h3 : dst f1 n (hm k) k = dst f0 n (hm k) k := by omega
      have h4 : fnd f1 n (hm k) k = fnd f0 n (hm k) k := by unfold fnd; rw [h3]
      rw [h4, hpath0] at e
      exact hne e.symm
  refine ⟨fun u h1 h2 => ?_, fun i hi k' hf => ?_, fun i j' hi hj' k' h1 h2 => ?_⟩
  · have hne : (i0 + u) % n ≠ (i0 + t) % n := fun e2 => by have := huv u t h2 (by omega) e2; omega
    have e : upd' f1 (fnd f1 n (hm k) k) (some k) ((i0 + u) % n) = f1 ((i0 + u) % n) := by unfold upd'; rw [if_neg (fun e => hpn u h1 h2 e.symm)]
    rw [e, f1at _ hne]
    exact hM.tail u (by omega) h2
  · by_cases e : i = fnd f1 n (hm k) k
    · right
      have hkk : k' = k := by unfold upd' at hf; rw [if_pos e] at hf; injection hf with hf; exact hf.symm
      subst hkk
      rw [(new_at (hh k') hg1 hp).1, e]
    · have hf1 : f1 i = some k' := by unfold upd' at hf; rwa [if_neg e] at hf
      have hij : i ≠ (i0 + t) % n := fun e2 => by rw [e2, f1j] at hf1; cases hf1
      have hfi : f i = some k' := by rw [← f1at i hij]; exact hf1
      rcases hM.good i hi k' hfi with ⟨u, hu1, hu2, hu3⟩ | hgood
      · left
        refine ⟨u, ?_, hu2, hu3⟩
        rcases Nat.lt_or_ge t u with h3 | h3
        · exact h3
        · have : u = t := by omega
          rw [this] at hu3
          exact absurd hu3 hij
      · have hendf : f ((i0 + m) % n) = none := by rw [hM.tail m (Nat.le_of_lt htm) (Nat.le_refl _)]; exact hend
        have hgf : Gap f n := ⟨_, Nat.mod_lt _ hn0, hendf⟩
        by_cases hpath : ∃ d, d < dst f n (hm k') k' ∧ (hm k' + d) % n = (i0 + t) % n
        · obtain ⟨d, hd, hd2⟩ := hpath
          left
          have hx : i = (i0 + (t + (dst f n (hm k') k' - d))) % n := by
            have e3 : (i0 + (t + (dst f n (hm k') k' - d))) % n = ((i0 + t) % n + (dst f n (hm k') k' - d)) % n := by rw [Nat.mod_add_mod]; congr 1; omega
            rw [e3, ← hd2, Nat.mod_add_mod, show hm k' + d + (dst f n (hm k') k' - d) = hm k' + dst f n (hm k') k' by omega]
            exact hgood.symm
          refine ⟨t + (dst f n (hm k') k' - d), by omega, ?_, hx⟩
          rcases Nat.lt_or_ge (t + (dst f n (hm k') k' - d)) m with h3 | h3
          · exact h3
          · exfalso
            have e2 : (i0 + m) % n = (hm k' + (d + (m - t))) % n := by
              have e3 : (i0 + m) % n = ((i0 + t) % n + (m - t)) % n := by rw [Nat.mod_add_mod]; congr 1; omega
              rw [e3, ← hd2, Nat.mod_add_mod]; congr 1; omega
            rcases Nat.lt_or_ge (d + (m - t)) (dst f n (hm k') k') with h4 | h4
            · obtain ⟨k2, h5, _⟩ := stp_not (dst_before h4)
              rw [← e2, hendf] at h5
              cases h5
            · have h6 : d + (m - t) = dst f n (hm k') k' := by omega
              rw [h6] at e2
              have h7 : f ((i0 + m) % n) = some k' := by rw [e2]; unfold fnd at hgood; rw [hgood]; exact hfi
              rw [hendf] at h7
              cases h7
        · right
          have s1 := fnd_same (f := f) (f' := f1) (n := n) (h := hm k') (k := k') (dst_lt (hh k') hgf) (fun d hd => by
            obtain ⟨k2, h2, h3⟩ := stp_not (dst_before hd)
            have h4 : (hm k' + d) % n ≠ (i0 + t) % n := fun e => hpath ⟨d, hd, e⟩
            rw [stp_some (k' := k2) (by rw [f1at _ h4]; exact h2)]
            exact decide_eq_false h3) (by
            rw [hgood, stp_some (k' := k') hf1]
            exact decide_eq_true rfl)
          have s2 := keep_at (f := f1) (k' := k) hp (dst_lt (k := k') (hh k') hg1) (by rw [s1.2, hgood]; exact e)
          rw [s2.2, s1.2, hgood]
  · have hcase : ∀ i, upd' f1 (fnd f1 n (hm k) k) (some k) i = some k' → (i = fnd f1 n (hm k) k ∧ k' = k) ∨ (i ≠ fnd f1 n (hm k) k ∧ f1 i = some k') := by
      intro i h
      unfold upd' at h
      by_cases e : i = fnd f1 n (hm k) k
      · rw [if_pos e] at h; injection h with h; exact Or.inl ⟨e, h.symm⟩
      · rw [if_neg e] at h; exact Or.inr ⟨e, h⟩
    have hback : ∀ i, f1 i = some k' → f i = some k' := fun i h => by
      have hij : i ≠ (i0 + t) % n := fun e2 => by rw [e2, f1j] at h; cases h
      rw [← f1at i hij]; exact h
    rcases hcase i h1 with ⟨e1, e2⟩ | ⟨e1, e2⟩ <;> rcases hcase j' h2 with ⟨e3, e4⟩ | ⟨e3, e4⟩
    · rw [e1, e3]
    · rw [e2] at e4; exact absurd e4 (hab _ hj')
    · rw [e4] at e2; exact absurd e2 (hab _ hi)
    · exact hM.inj i j' hi hj' k' (hback i e2) (hback j' e4)
theorem Mid.done {f0 f : Nat → Option κ} {hm : κ → Nat} {i0 m : Nat} (hM : Mid f0 f n i0 m m hm) : Good f n hm := by
  intro i hi k hf
  rcases hM.good i hi k hf with ⟨u, h1, h2, _⟩ | h
  · omega
  · exact h
end
end Go.Proofs.Ytcpjfpbfopkngaa.Thw
