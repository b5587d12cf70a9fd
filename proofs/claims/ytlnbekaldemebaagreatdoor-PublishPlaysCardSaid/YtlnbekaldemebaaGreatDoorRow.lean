/- From what a row reads (DataW.trod) to what the printed contracts ask (Kd.K, Kd.C): for whole numbers, bools, strings, structs and slices of these, nested. -/
import Derived.Test.YtlnbekaldemebaaGreatDoorWWords
import Derived.Deep.Slices
import Derived.ChangeArms
import Derived.WideShapes
import Derived.SizedLaws
import Derived.OpenShut
namespace Go.Proofs.YtlnbekaldemebaaGreatDoor.Thw
open Go Go.RowKit Go.WideShapes Go.Proofs.YtlnbekaldemebaaGreatDoorW.PrintWords
set_option linter.unusedVariables false
set_option linter.unusedSimpArgs false

/-- What is read at type t is of kind d, and good. -/
def Rds {α : Type} (P : Program) (d : Kd α) (t : TypeId) (G : α → Prop) : Prop :=
  ∀ {H : Type} (enc : TypeId × Value → H) (w : World) (base : Nat) (spare : Nat → Bool) (fuel : Nat) (cs : List Value) (x : DataW H × List MemPlace),
    DataW.trod enc P w base spare true fuel t cs = some x → ∃ y, d.K w y cs ∧ G y
theorem Rds.int {P : Program} {t : TypeId} {k : IntKind} (h : P.underlying t = some (.int k)) : Rds P (Kd.int k) t (fun n => (Lit.int k n).wf = true) := by
  intro H enc w base spare fuel cs x hx
  obtain ⟨n, rfl, _, hw⟩ := DataW.trod_int h hx
  exact ⟨n, rfl, hw⟩
theorem Rds.bool {P : Program} {t : TypeId} (h : P.underlying t = some .bool) : Rds P Kd.bool t (fun _ => True) := by
  intro H enc w base spare fuel cs x hx
  obtain ⟨b, rfl, _⟩ := DataW.trod_bool h hx
  exact ⟨b, rfl, trivial⟩
theorem Rds.string {P : Program} {t : TypeId} (h : P.underlying t = some .string) : Rds P Kd.string t (fun s => s.size ≤ 9223372036854775807) := by
  intro H enc w base spare fuel cs x hx
  obtain ⟨s, rfl, _, hs⟩ := DataW.trod_string h hx
  exact ⟨s, rfl, by simpa [maxLen] using hs⟩
theorem cell_of_cells? {w : World} {base : Nat} {a : Addr} {n : Nat} {cs : List Value} (h : w.cells? base a n = some cs) : cs.length = n ∧ ∀ i u, cs[i]? = some u → w.cell? (a.add i) = some u := by
  obtain ⟨_, hl, hc⟩ := World.cells?_some h
  refine ⟨hl, fun i u hu => ?_⟩
  have hi : i < n := by
    rw [← hl]
    rcases Nat.lt_or_ge i cs.length with h1 | h1
    · exact h1
    · rw [List.getElem?_eq_none h1] at hu; cases hu
  rw [hc i hi, hu]
theorem Rds.slice {α : Type} {P : Program} {d : Kd α} {t e : TypeId} {G : α → Prop} (h : P.underlying t = some (.slice e)) (hd : Rds P d e G) (hsz : d.sz = P.cellsOf e) :
    Rds P (Kd.slice e d) t (fun xs => xs.length ≤ 9223372036854775807 ∧ ∀ x ∈ xs, G x) := by
  intro H enc w base spare fuel cs x hx
  rcases Deep.open_slice h hx with ⟨rfl, _⟩ | ⟨a, len, cap, m, n, D, Pl, rfl, _, hl, hm, hmm, _, hel⟩
  · exact ⟨[], ⟨none, 0, rfl, Nat.le_refl _, rfl, by simp, by simp⟩, by simp, by simp⟩
  · have hle : len ≤ m := by rw [hmm]; split <;> omega
    have key : ∀ i, i < len → ∃ y, d.K w y ((w.cells? base (a.add (i * P.cellsOf e)) (P.cellsOf e)).getD []) ∧ G y := by
      intro i hi
      obtain ⟨cs', h1, h2⟩ := hel i (by omega)
      rw [h1]
      exact hd enc w base spare n cs' _ h2
    have hal : ∀ k, k ≤ len → ∃ ys : List α, ys.length = k ∧ ∀ i y, ys[i]? = some y → d.K w y ((w.cells? base (a.add (i * P.cellsOf e)) (P.cellsOf e)).getD []) ∧ G y := by
      intro k
      induction k with
      | zero => intro _; exact ⟨[], rfl, by simp⟩
      | succ k ih =>
        intro hk
        obtain ⟨ys, hy, hz⟩ := ih (by omega)
        obtain ⟨y, h1, h2⟩ := key k (by omega)
        refine ⟨ys ++ [y], by simp [hy], fun i z hi => ?_⟩
        rcases Nat.lt_or_ge i ys.length with h3 | h3
        · rw [List.getElem?_append_left h3] at hi
          exact hz i z hi
        · rw [List.getElem?_append_right h3] at hi
          have : i - ys.length = 0 := by
            rcases Nat.eq_zero_or_pos (i - ys.length) with h4 | h4
            · exact h4
            · rw [List.getElem?_eq_none (by simp; omega)] at hi; cases hi
          rw [this] at hi
          simp at hi
          subst hi
          obtain rfl : i = k := by omega
          exact ⟨h1, h2⟩
    obtain ⟨ys, hy, hz⟩ := hal len (Nat.le_refl _)
    have hcap : cap ≤ 9223372036854775807 := by simpa [maxLen] using hm
    have hmax : len ≤ 9223372036854775807 := by omega
    refine ⟨ys, ⟨some a, cap, by rw [hy], by omega, rfl, by omega, fun hp => ⟨a, rfl, fun j p hj => ?_⟩⟩, by omega, fun x hx => ?_⟩
    · obtain ⟨h1, h2⟩ := hz j p hj
      have hjl : j < len := by
        rw [← hy]
        rcases Nat.lt_or_ge j ys.length with h1 | h1
        · exact h1
        · rw [List.getElem?_eq_none h1] at hj; cases hj
      obtain ⟨cs', h3, _⟩ := hel j (by omega)
      rw [h3] at h1
      obtain ⟨h4, h5⟩ := cell_of_cells? h3
      refine ⟨cs', by rw [h4, hsz], h1, fun i u hu => ?_⟩
      rw [hsz, ← Deep.add_add]
      exact h5 i u hu
    · obtain ⟨i, hi, rfl⟩ := List.mem_iff_getElem.1 hx
      exact (hz i _ (List.getElem?_eq_getElem hi)).2
/-- Some fields of a struct, from an offset on. -/
def RF {α : Type} (P : Program) (d : Kd α) (l : List (Nat × TypeId)) (off : Nat) (G : α → Prop) : Prop :=
  ∀ {H : Type} (enc : TypeId × Value → H) (w : World) (base : Nat) (spare : Nat → Bool) (n : Nat) (cs : List Value),
    (∀ p ∈ l, ∃ x, DataW.trod enc P w base spare true n p.2 ((cs.drop p.1).take (P.cellsOf p.2)) = some x) → ∃ y, d.K w y ((cs.drop off).take d.sz) ∧ G y
theorem RF.one {α : Type} {P : Program} {d : Kd α} {t : TypeId} {off : Nat} {G : α → Prop} (h : Rds P d t G) (hsz : d.sz = P.cellsOf t) : RF P d [(off, t)] off G := by
  intro H enc w base spare n cs hl
  obtain ⟨x, hx⟩ := hl (off, t) (by simp)
  rw [hsz]
  exact h enc w base spare n _ x hx
theorem RF.pair {α β : Type} {P : Program} {a : Kd α} {b : Kd β} {t : TypeId} {off off2 : Nat} {l : List (Nat × TypeId)} {G : α → Prop} {G2 : β → Prop} (h : Rds P a t G) (hsz : a.sz = P.cellsOf t) (h2 : RF P b l off2 G2) (ho : off2 = off + a.sz) :
    RF P (Kd.pair a b) ((off, t) :: l) off (fun x => G x.1 ∧ G2 x.2) := by
  intro H enc w base spare n cs hl
  obtain ⟨x, hx⟩ := hl (off, t) (by simp)
  obtain ⟨y, hy, gy⟩ := h enc w base spare n _ x hx
  obtain ⟨z, hz, gz⟩ := h2 enc w base spare n cs (fun p hp => hl p (by simp [hp]))
  refine ⟨(y, z), ⟨(cs.drop off).take a.sz, (cs.drop off2).take b.sz, ?_, by rw [hsz]; exact hy, hz⟩, gy, gz⟩
  rw [ho, ← List.drop_drop]
  exact List.take_add ..
theorem Rds.struct {α β : Type} {P : Program} {d : Kd α} {t : TypeId} {fs : Array Field} {G : α → Prop} {f : β → α} {g : α → β} (h : P.underlying t = some (.struct fs)) (hd : RF P d (fs.toList.map fun q => (q.offset, q.type)) 0 G) (hsz : d.sz = P.cellsOf t) (hfg : ∀ x, f (g x) = x) :
    Rds P (Kd.iso d f) t (fun y => G (f y)) := by
  intro H enc w base spare fuel cs x hx
  obtain ⟨xs, n, _, _, hlen, hxl, hfs⟩ := DataW.trod_struct h hx
  obtain ⟨y, hy, gy⟩ := hd enc w base spare n cs (fun p hp => by
    obtain ⟨q, hq, rfl⟩ := List.mem_map.1 hp
    obtain ⟨i, hi, rfl⟩ := List.mem_iff_getElem.1 hq
    have hi2 : i < fs.size := by simpa using hi
    refine ⟨xs[i]'(by omega), ?_⟩
    rw [hfs i _ (by simp [Array.getElem?_eq_getElem hi2])]
    exact List.getElem?_eq_getElem (by omega))
  refine ⟨g y, ?_, by show G (f (g y)); rw [hfg]; exact gy⟩
  rw [List.drop_zero, List.take_of_length_le (by omega)] at hy
  show d.K w (f (g y)) cs
  rw [hfg]; exact hy
theorem Rds.trod {α : Type} {P : Program} {d : Kd α} {t : TypeId} {G : α → Prop} (h : Rds P d t G) {H : Type} {enc : TypeId × Value → H} {w : World} {base : Nat} {spare : Nat → Bool} {v : Value} {x : DataW H} {p : List MemPlace}
    (hx : DataW.Trod enc P w base spare true t v x p) : ∃ y, d.K w y v.cells.toList ∧ G y := by
  obtain ⟨fuel, hf⟩ := hx
  exact h enc w base spare fuel _ _ hf
theorem sized_row {H : Type} {P : Program} {ts : List TypeId} {ds : List (DataW H)} (h : (DataW.weightsEach P ts ds).all (· ≤ reachBytes) = true) {j : Nat} {t e : TypeId} {d : DataW H} (ht : ts[j]? = some t) (hd : ds[j]? = some d)
    (hu : P.underlying t = some (.slice e)) {b : Nat} (hb : P.bytesOf e = b) {enc : TypeId × Value → H} {w : World} {base : Nat} {spare : Nat → Bool} {held : Bool} {A : Option Addr} {n c : Nat} {p : List MemPlace}
    (hx : DataW.Trod enc P w base spare held t (.slice A n c) d p) : n * b ≤ 140737488351232 := by
  obtain ⟨fuel, hf⟩ := hx
  rcases Deep.open_slice hu hf with ⟨h1, _⟩ | ⟨a, len, cap, m, n', D, Pl, h1, _, _, _, _, h2, _⟩
  · simp [Value.cells] at h1
    obtain ⟨_, rfl, _⟩ := h1
    omega
  · simp [Value.cells] at h1
    obtain ⟨_, rfl, _⟩ := h1
    simp only [Prod.mk.injEq] at h2
    obtain ⟨rfl, _⟩ := h2
    have h3 := sized_slice h ht hd hu
    simp only [List.length_map, List.length_range] at h3
    rw [hb] at h3
    have h4 : reachBytes = 140737488351232 := by decide
    rw [h4] at h3
    exact Nat.le_trans (Nat.mul_le_mul_right b (Nat.le_add_right n (m - n))) h3
end Go.Proofs.YtlnbekaldemebaaGreatDoor.Thw
