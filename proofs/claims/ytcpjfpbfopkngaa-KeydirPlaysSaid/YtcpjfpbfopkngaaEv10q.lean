/- Layer 10: the methods of a directory, in terms of what it tells of each key. -/
import Derived.Test.YtcpjfpbfopkngaaEv10n
import Derived.Test.YtcpjfpbfopkngaaEv10p
namespace Go.Proofs.Ytcpjfpbfopkngaa.Thw
open Go Go.RowKit Go.Proofs.YtcpjfpbfopkngaaW.PrintWords Go.Proofs.YtcpjfpbfopkngaaW.PrintLast Go.Proofs.YtcpjfpbfopkngaaW.PrintMore
set_option linter.unusedVariables false
set_option linter.unusedSimpArgs false
/-! ### how far -/
theorem length_le_of_mem {α : Type} [DecidableEq α] : ∀ (l1 l2 : List α), l1.Nodup → (∀ x ∈ l1, x ∈ l2) → l1.length ≤ l2.length
  | [], l2, _, _ => Nat.zero_le _
  | a :: l1, l2, hn, hs => by
    rw [List.nodup_cons] at hn
    have ha := hs a List.mem_cons_self
    have hp := List.perm_cons_erase ha
    have h1 := length_le_of_mem l1 (l2.erase a) hn.2 (fun x hx => by
      have hx2 := hp.mem_iff.1 (hs x (List.mem_cons_of_mem _ hx))
      rcases List.mem_cons.1 hx2 with e | e
      · rw [e] at hx; exact absurd hx hn.1
      · exact e)
    rw [hp.length_eq, List.length_cons, List.length_cons]
    omega
theorem Inv.home {T : List Slt} {m b : Nat} (h : Inv T m b) {k : ByteArray} (ho : occ T (fnd (occ T) T.length (hmK T.length k) k) = some k) :
    (fnd (occ T) T.length (hmK T.length k) k + T.length - hmK T.length k) % T.length = dst (occ T) T.length (hmK T.length k) k ∧ dst (occ T) T.length (hmK T.length k) k < m := by
  have hh := hmK_lt k h.pos
  have hd := dst_lt (k := k) hh h.gap
  refine ⟨walk_dist hh hd, ?_⟩
  generalize hhm : hmK T.length k = hm at *
  generalize hdd : dst (occ T) T.length hm k = d at *
  have hfull : ∀ u, u ≤ d → ∃ k', occ T ((hm + u) % T.length) = some k' := by
    intro u hu
    rcases Nat.lt_or_ge u d with h1 | h1
    · obtain ⟨k', h2, _⟩ := stp_not (dst_before (f := occ T) (n := T.length) (h := hm) (k := k) (by rw [hdd]; exact h1))
      exact ⟨k', h2⟩
    · have : u = d := by omega
      refine ⟨k, ?_⟩
      rw [this, ← hdd]
      exact ho
  have hlt : ∀ u, (hm + u) % T.length < T.length := fun u => Nat.mod_lt _ h.pos
  have hinj : ∀ u v, u < v → v ≤ d → (hm + u) % T.length ≠ (hm + v) % T.length := by
    intro u v h1 h2 e
    rcases Nat.lt_or_ge (hm + u) T.length with h3 | h3 <;> rcases Nat.lt_or_ge (hm + v) T.length with h4 | h4
    · rw [Nat.mod_eq_of_lt h3, Nat.mod_eq_of_lt h4] at e; omega
    · rw [Nat.mod_eq_of_lt h3, Nat.mod_eq_sub_mod h4, Nat.mod_eq_of_lt (by omega)] at e; omega
    · omega
    · rw [Nat.mod_eq_sub_mod h3, Nat.mod_eq_sub_mod h4, Nat.mod_eq_of_lt (by omega), Nat.mod_eq_of_lt (by omega)] at e; omega
  have hkey : ∀ u, u ≤ d → occ T ((hm + u) % T.length) = some (T[(hm + u) % T.length]'(hlt u)).1 := by
    intro u hu
    obtain ⟨k', h1⟩ := hfull u hu
    obtain ⟨_, h2, h3⟩ := occ_some h1
    rw [h1, h3]
  have h5 := length_le_of_mem ((List.range (d + 1)).map fun u => (T[(hm + u) % T.length]'(hlt u)).1) ((liv T).map (·.1)) (by
      unfold List.Nodup
      rw [List.pairwise_map, List.pairwise_iff_getElem]
      intro i j hi hj hij e
      simp only [List.getElem_range] at e
      rw [List.length_range] at hi hj
      have e1 := hkey i (by omega)
      have e2 := hkey j (by omega)
      rw [← e] at e2
      exact hinj i j hij (by omega) (h.good.inj (hlt i) (hlt j) e1 e2)) (by
      intro x hx
      obtain ⟨u, hu, rfl⟩ := List.mem_map.1 hx
      rw [List.mem_range] at hu
      refine List.mem_map.2 ⟨_, liv_mem.2 ⟨List.getElem_mem (hlt u), ?_⟩, rfl⟩
      obtain ⟨_, h2, _⟩ := occ_some (hkey u (by omega))
      exact h2)
  rw [List.length_map, List.length_range, List.length_map, ← cnt_liv, h.many] at h5
  omega
/-! ### the methods -/
theorem size_big {k : ByteArray} (h : k.size ≤ 100) : k.size ≤ 4611686018427387904 := Nat.le_trans h (by decide)
def PutIn (w : World) (A : Nat → Prop) (p : Nat) (T : List Slt) (m b : Nat) (k : ByteArray) (l : Loc4) (e : Ending) (w' : World) : Prop :=
  e = .returned (.tuple #[]) ∧ ∃ (T' : List Slt) (m' : Nat) (A' : Nat → Prop), PutTo T m (k, l, true) T' m' ∧ DirAt w' A' p T' m' ∧ Frm A w w' ∧ (∀ k, A' k → A k ∨ w.heap.size ≤ k) ∧ Inv T' m' (b + 1) ∧ ∀ k', lk T' k' = if k = k' then some l else lk T k'
theorem inv_Put (w : World) (A : Nat → Prop) (p : Nat) (T : List Slt) (m b : Nat) (h : DirAt w A p T m) (hi : Inv T m b) (hb : b ≤ 250) (k : ByteArray) (hk : k.size ≤ 100) (l0 l1 l2 l3 : Int) :
    Calls Try.prog 10 #[.pointer (some ⟨p, 0, none⟩), .string k, .agg #[.int .i64 l0, .int .i64 l1, .int .i64 l2, .int .u64 l3]] w (PutIn w A p T m b k (l0, l1, l2, l3)) := by
  obtain ⟨j, _, hj, hT⟩ := hi.exp hb
  refine (dir_Put.calls w A p T m h (by have := hi.le; omega) j (by omega) hT hi.gap k (size_big hk) (fun s hs => size_big (hi.keys s hs)) l0 l1 l2 l3).mono ?_
  rintro e w' ⟨rfl, T', m', A', h1, h2, h3, h4⟩
  obtain ⟨h5, h6⟩ := hi.put hk h1
  exact ⟨rfl, T', m', A', h1, h2, h3, h4, h5, h6⟩
def zL : Loc4 := (0, 0, 0, 0)
def lkV (T : List Slt) (k : ByteArray) : Loc4 := (lk T k).getD zL
theorem inv_Get (w : World) (A : Nat → Prop) (p : Nat) (T : List Slt) (m b : Nat) (h : DirAt w A p T m) (hi : Inv T m b) (hb : b ≤ 250) (k : ByteArray) (hk : k.size ≤ 100) :
    Calls Try.prog 12 #[.pointer (some ⟨p, 0, none⟩), .string k] w fun e w' => e = .returned (.tuple #[LocV (lkV T k), .bool (lk T k).isSome]) ∧ Below w.heap.size w w' := by
  obtain ⟨j, _, hj, hT⟩ := hi.exp hb
  refine (dir_Get.calls w A p T m h j (by omega) hT hi.gap k (size_big hk)).mono ?_
  rintro e w' ⟨rfl, hb⟩
  refine ⟨?_, hb⟩
  have hlt : fnd (occ T) T.length (hmK T.length k) k < T.length := fnd_lt hi.pos
  rcases hi.two k with ⟨h1, h2⟩ | ⟨h1, _, h2, h3, h4⟩
  · have h5 := occ_none hlt h1
    have h6 := hi.clean _ (List.getElem_mem hlt) h5
    unfold atT lkV
    rw [List.getElem?_eq_getElem hlt, h6, h2]
    rfl
  · unfold atT lkV
    rw [List.getElem?_eq_getElem hlt, h4]
    simp only [Option.getD_some, Option.isSome_some, h2]
def DelIn (w : World) (A : Nat → Prop) (p : Nat) (T : List Slt) (m b : Nat) (k : ByteArray) (e : Ending) (w' : World) : Prop :=
  e = .returned (.bool (lk T k).isSome) ∧ Frm A w w' ∧ ∃ (T' : List Slt) (m' : Nat), DirAt w' A p T' m' ∧ Inv T' m' (b + 1) ∧ (∀ k', lk T' k' = if k = k' then none else lk T k') ∧
    ((lk T k = none ∧ T' = T) ∨ (occ T (fnd (occ T) T.length (hmK T.length k) k) = some k ∧ ∃ r, RunAt T (fnd (occ T) T.length (hmK T.length k) k) r ∧ T' = dl T (fnd (occ T) T.length (hmK T.length k) k) (r - 1)))
theorem inv_Delete (w : World) (A : Nat → Prop) (p : Nat) (T : List Slt) (m b : Nat) (h : DirAt w A p T m) (hi : Inv T m b) (hb : b ≤ 250) (k : ByteArray) (hk : k.size ≤ 100) :
    Calls Try.prog 14 #[.pointer (some ⟨p, 0, none⟩), .string k] w (DelIn w A p T m b k) := by
  obtain ⟨j, _, hj, hT⟩ := hi.exp hb
  refine (dir_Delete.calls w A p T m h j (by omega) hT hi.good hi.gap k (size_big hk) (fun s hs => size_big (hi.keys s hs))).mono ?_
  rintro e w' (⟨h1, rfl, h2, h3⟩ | ⟨h1, rfl, r, h2, h3, h4⟩)
  · rcases hi.two k with ⟨h5, h6⟩ | ⟨h5, _⟩
    · refine ⟨by rw [h6]; rfl, h3, T, m, h2, hi.le' (by omega), fun k' => ?_, Or.inl ⟨h6, rfl⟩⟩
      by_cases e : k = k'
      · rw [if_pos e, ← e, h6]
      · rw [if_neg e]
    · rw [h1] at h5; cases h5
  · obtain ⟨h5, h6, h7⟩ := hi.del h1 h2
    have h8 : wrap64 ((m : Int) - 1) = ((m - 1 : Nat) : Int) := by
      have := hi.le
      rw [show ((m : Int) - 1) = ((m - 1 : Nat) : Int) by omega]
      unfold wrap64
      omega
    rw [h8] at h3
    refine ⟨?_, h4, _, _, h3, h6, h7, Or.inr ⟨h1, r, h2, rfl⟩⟩
    rcases hi.two k with ⟨h9, _⟩ | ⟨h9, _, _, _, h10⟩
    · rw [h1] at h9; cases h9
    · rw [h10]; rfl
def farN (T : List Slt) (k : ByteArray) : Nat := if (lk T k).isSome then dst (occ T) T.length (hmK T.length k) k else 0
theorem inv_Far (w : World) (A : Nat → Prop) (p : Nat) (T : List Slt) (m b : Nat) (h : DirAt w A p T m) (hi : Inv T m b) (hb : b ≤ 250) (k : ByteArray) (hk : k.size ≤ 100) :
    Calls Try.prog 19 #[.pointer (some ⟨p, 0, none⟩), .string k] w fun e w' => e = .returned (.tuple #[.int .i64 (farN T k : Nat), .bool (lk T k).isSome]) ∧ Below w.heap.size w w' := by
  obtain ⟨j, _, hj, hT⟩ := hi.exp hb
  refine (dir_Far.calls w A p T m h j (by omega) hT hi.gap k (size_big hk)).mono ?_
  rintro e w' ⟨h1 | h1, hb⟩
  · obtain ⟨h1, rfl⟩ := h1
    refine ⟨?_, hb⟩
    rcases hi.two k with ⟨_, h2⟩ | ⟨h2, _⟩
    · unfold farN; rw [h2]; rfl
    · rw [h1] at h2; cases h2
  · obtain ⟨h1, rfl⟩ := h1
    refine ⟨?_, hb⟩
    rcases hi.two k with ⟨h2, _⟩ | ⟨_, _, _, _, h2⟩
    · rw [h1] at h2; cases h2
    · unfold farN
      rw [h2, (hi.home h1).1]
      rfl
theorem farN_lt {T : List Slt} {m b : Nat} (hi : Inv T m b) (k : ByteArray) : ((lk T k).isSome = true → farN T k < m) ∧ ((lk T k).isSome = false → farN T k = 0) ∧ farN T k < T.length := by
  unfold farN
  rcases hi.two k with ⟨h1, h2⟩ | ⟨h1, _, _, _, h2⟩
  · rw [h2]
    exact ⟨(fun h => by cases h), fun _ => rfl, hi.pos⟩
  · rw [h2]
    refine ⟨fun _ => (hi.home h1).2, (fun h => by cases h), ?_⟩
    have h3 := (hi.home h1).2
    have h4 := hi.half
    show dst (occ T) T.length (hmK T.length k) k < T.length
    omega
end Go.Proofs.Ytcpjfpbfopkngaa.Thw
