/- The same as Row, with the size of every slice that is read, those inside too (what a reading may weigh). -/
import Derived.Test.YtlnbekaldemebaaGreatDoorRow
namespace Go.Proofs.YtlnbekaldemebaaGreatDoor.Thw
open Go Go.RowKit Go.WideShapes Go.Proofs.YtlnbekaldemebaaGreatDoorW.PrintWords
set_option linter.unusedVariables false
set_option linter.unusedSimpArgs false
def OkW {H : Type} (P : Program) (t : TypeId) (d : DataW H) : Prop := ∀ n ∈ d.weights P t, n ≤ reachBytes
theorem weights_mem_all {H : Type} {P : Program} {e : TypeId} {d : DataW H} {n : Nat} (hn : n ∈ d.weights P e) : ∀ {l : List (DataW H)}, d ∈ l → n ∈ DataW.weightsAll P e l
  | [], h => by simp at h
  | x :: l, h => by
    simp only [DataW.weightsAll, List.mem_append]
    rcases List.mem_cons.1 h with rfl | h
    · exact Or.inl hn
    · exact Or.inr (weights_mem_all hn h)
/-- What is read at type t, if it is light, is of kind d, and good. -/
def RdsW {α : Type} (P : Program) (d : Kd α) (t : TypeId) (G : α → Prop) : Prop :=
  ∀ {H : Type} (enc : TypeId × Value → H) (w : World) (base : Nat) (spare : Nat → Bool) (fuel : Nat) (cs : List Value) (x : DataW H × List MemPlace),
    DataW.trod enc P w base spare true fuel t cs = some x → OkW P t x.1 → ∃ y, d.K w y cs ∧ G y
theorem Rds.light {α : Type} {P : Program} {d : Kd α} {t : TypeId} {G : α → Prop} (h : Rds P d t G) : RdsW P d t G := fun enc w base spare fuel cs x hx _ => h enc w base spare fuel cs x hx
theorem RdsW.int {P : Program} {t : TypeId} {k : IntKind} (h : P.underlying t = some (.int k)) : RdsW P (Kd.int k) t (fun n => (Lit.int k n).wf = true) := Rds.light (Rds.int h)
theorem RdsW.bool {P : Program} {t : TypeId} (h : P.underlying t = some .bool) : RdsW P Kd.bool t (fun _ => True) := Rds.light (Rds.bool h)
theorem RdsW.string {P : Program} {t : TypeId} (h : P.underlying t = some .string) : RdsW P Kd.string t (fun s => s.size ≤ 9223372036854775807) := Rds.light (Rds.string h)
theorem RdsW.slice {α : Type} {P : Program} {d : Kd α} {t e : TypeId} {G : α → Prop} (h : P.underlying t = some (.slice e)) (b : Nat) (hb : P.bytesOf e = b) (hd : RdsW P d e G) (hsz : d.sz = P.cellsOf e) :
    RdsW P (Kd.slice e d) t (fun xs => xs.length ≤ 9223372036854775807 ∧ xs.length * b ≤ 140737488351232 ∧ ∀ x ∈ xs, G x) := by
  intro H enc w base spare fuel cs x hx hw
  rcases Deep.open_slice h hx with ⟨rfl, _⟩ | ⟨a, len, cap, m, n, D, Pl, rfl, _, hl, hm, hmm, hxe, hel⟩
  · exact ⟨[], ⟨none, 0, rfl, Nat.le_refl _, rfl, by simp, by simp⟩, by simp, by simp, by simp⟩
  · subst hxe
    have hwl : len * b ≤ 140737488351232 := by
      have h1 := hw ((((List.range len).map D).length + ((List.range (m - len)).map fun j => D (len + j)).length) * P.bytesOf e) (by simp [DataW.weights, h])
      simp only [List.length_map, List.length_range] at h1
      have h4 : reachBytes = 140737488351232 := by decide
      rw [h4, hb] at h1
      exact Nat.le_trans (Nat.mul_le_mul_right b (Nat.le_add_right len (m - len))) h1
    have hwe : ∀ i, i < len → OkW P e (D i) := fun i hi k hk => hw k (by
      simp only [DataW.weights, h, List.mem_cons, List.mem_append]
      exact Or.inr (Or.inl (weights_mem_all hk (List.mem_map.2 ⟨i, List.mem_range.2 hi, rfl⟩))))
    have hle : len ≤ m := by rw [hmm]; split <;> omega
    have key : ∀ i, i < len → ∃ y, d.K w y ((w.cells? base (a.add (i * P.cellsOf e)) (P.cellsOf e)).getD []) ∧ G y := by
      intro i hi
      obtain ⟨cs', h1, h2⟩ := hel i (by omega)
      rw [h1]
      exact hd enc w base spare n cs' _ h2 (hwe i hi)
    have hal : ∀ k, k ≤ len → ∃ ys : List α, ys.length = k ∧ ∀ i y, ys[i]? = some y → d.K w y ((w.cells? base (a.add (i * P.cellsOf e)) (P.cellsOf e)).getD []) ∧ G y := by
      intro k
      induction k with
      | zero => intro _; exact ⟨[], rfl, by simp⟩
      | succ k ih =>
        intro hk
        obtain ⟨ys, hy, hz⟩ := ih (by omega)
        obtain ⟨y, h1, h2⟩ := key k (by omega)
        refine ⟨ys ++ [y], by simp [hy], fun i z hi => ?_⟩
        rcases Nat.lt_or_ge i ys.length with h3 | h3
        · rw [List.getElem?_append_left h3] at hi
          exact hz i z hi
        · rw [List.getElem?_append_right h3] at hi
          have : i - ys.length = 0 := by
            rcases Nat.eq_zero_or_pos (i - ys.length) with h4 | h4
            · exact h4
            · rw [List.getElem?_eq_none (by simp; omega)] at hi; cases hi
          rw [this] at hi
          simp at hi
          subst hi
          obtain rfl : i = k := by omega
          exact ⟨h1, h2⟩
    obtain ⟨ys, hy, hz⟩ := hal len (Nat.le_refl _)
    have hcap : cap ≤ 9223372036854775807 := by simpa [maxLen] using hm
    have hmax : len ≤ 9223372036854775807 := by omega
    refine ⟨ys, ⟨some a, cap, by rw [hy], by omega, rfl, by omega, fun hp => ⟨a, rfl, fun j p hj => ?_⟩⟩, by omega, by rw [hy]; exact hwl, fun x hx => ?_⟩
    · obtain ⟨h1, h2⟩ := hz j p hj
      have hjl : j < len := by
        rw [← hy]
        rcases Nat.lt_or_ge j ys.length with h1 | h1
        · exact h1
        · rw [List.getElem?_eq_none h1] at hj; cases hj
      obtain ⟨cs', h3, _⟩ := hel j (by omega)
      rw [h3] at h1
      obtain ⟨h4, h5⟩ := cell_of_cells? h3
      refine ⟨cs', by rw [h4, hsz], h1, fun i u hu => ?_⟩
      rw [hsz, ← Deep.add_add]
      exact h5 i u hu
    · obtain ⟨i, hi, rfl⟩ := List.mem_iff_getElem.1 hx
      exact (hz i _ (List.getElem?_eq_getElem hi)).2
/-- Some fields of a struct, from an offset on. -/
def RFW {α : Type} (P : Program) (d : Kd α) (l : List (Nat × TypeId)) (off : Nat) (G : α → Prop) : Prop :=
  ∀ {H : Type} (enc : TypeId × Value → H) (w : World) (base : Nat) (spare : Nat → Bool) (n : Nat) (cs : List Value),
    (∀ p ∈ l, ∃ x, DataW.trod enc P w base spare true n p.2 ((cs.drop p.1).take (P.cellsOf p.2)) = some x ∧ OkW P p.2 x.1) → ∃ y, d.K w y ((cs.drop off).take d.sz) ∧ G y
theorem RFW.one {α : Type} {P : Program} {d : Kd α} {t : TypeId} {off : Nat} {G : α → Prop} (h : RdsW P d t G) (hsz : d.sz = P.cellsOf t) : RFW P d [(off, t)] off G := by
  intro H enc w base spare n cs hl
  obtain ⟨x, hx, hw⟩ := hl (off, t) (by simp)
  rw [hsz]
  exact h enc w base spare n _ x hx hw
theorem RFW.pair {α β : Type} {P : Program} {a : Kd α} {b : Kd β} {t : TypeId} {off off2 : Nat} {l : List (Nat × TypeId)} {G : α → Prop} {G2 : β → Prop} (h : RdsW P a t G) (hsz : a.sz = P.cellsOf t) (h2 : RFW P b l off2 G2) (ho : off2 = off + a.sz) :
    RFW P (Kd.pair a b) ((off, t) :: l) off (fun x => G x.1 ∧ G2 x.2) := by
  intro H enc w base spare n cs hl
  obtain ⟨x, hx, hw⟩ := hl (off, t) (by simp)
  obtain ⟨y, hy, gy⟩ := h enc w base spare n _ x hx hw
  obtain ⟨z, hz, gz⟩ := h2 enc w base spare n cs (fun p hp => hl p (by simp [hp]))
  refine ⟨(y, z), ⟨(cs.drop off).take a.sz, (cs.drop off2).take b.sz, ?_, by rw [hsz]; exact hy, hz⟩, gy, gz⟩
  rw [ho, ← List.drop_drop]
  exact List.take_add ..
theorem RdsW.struct {α β : Type} {P : Program} {d : Kd α} {t : TypeId} {fs : Array Field} {G : α → Prop} {f : β → α} {g : α → β} (h : P.underlying t = some (.struct fs)) (hd : RFW P d (fs.toList.map fun q => (q.offset, q.type)) 0 G) (hsz : d.sz = P.cellsOf t) (hfg : ∀ x, f (g x) = x) :
    RdsW P (Kd.iso d f) t (fun y => G (f y)) := by
  intro H enc w base spare fuel cs x hx hw
  obtain ⟨xs, n, _, hxe, hlen, hxl, hfs⟩ := DataW.trod_struct h hx
  subst hxe
  obtain ⟨y, hy, gy⟩ := hd enc w base spare n cs (fun p hp => by
    obtain ⟨q, hq, rfl⟩ := List.mem_map.1 hp
    obtain ⟨i, hi, rfl⟩ := List.mem_iff_getElem.1 hq
    have hi2 : i < fs.size := by simpa using hi
    refine ⟨xs[i]'(by omega), ?_, fun k hk => hw k ?_⟩
    · rw [hfs i _ (by simp [Array.getElem?_eq_getElem hi2])]
      exact List.getElem?_eq_getElem (by omega)
    · simp only [DataW.weights, h]
      refine DataW.weights_mem_each (j := i) (t := fs.toList[i].type) (d := (xs[i]'(by omega)).1) ?_ ?_ k hk
      · rw [List.getElem?_map, List.getElem?_eq_getElem hi]; rfl
      · rw [List.getElem?_map, List.getElem?_eq_getElem (by omega)]; rfl)
  refine ⟨g y, ?_, by show G (f (g y)); rw [hfg]; exact gy⟩
  rw [List.drop_zero, List.take_of_length_le (by omega)] at hy
  show d.K w (f (g y)) cs
  rw [hfg]; exact hy
theorem RdsW.trod {α : Type} {P : Program} {d : Kd α} {t : TypeId} {G : α → Prop} (h : RdsW P d t G) {H : Type} {enc : TypeId × Value → H} {w : World} {base : Nat} {spare : Nat → Bool} {v : Value} {x : DataW H} {p : List MemPlace}
    (hx : DataW.Trod enc P w base spare true t v x p) {ts : List TypeId} {ds : List (DataW H)} (hz : (DataW.weightsEach P ts ds).all (· ≤ reachBytes) = true) (j : Nat) (ht : ts[j]? = some t) (hd : ds[j]? = some x) : ∃ y, d.K w y v.cells.toList ∧ G y := by
  obtain ⟨fuel, hf⟩ := hx
  exact h enc w base spare fuel _ _ hf (fun n hn => by
    have := List.all_eq_true.1 hz n (DataW.weights_mem_each ht hd n hn)
    simpa using this)
end Go.Proofs.YtlnbekaldemebaaGreatDoor.Thw
