/- Layer 11 (lru) in plain words: what the cache's calls do to its row of items, and that they do what the document says. No program in sight. -/
import Derived.Test.YtoindlghpkjemaaObjM
namespace Go.Proofs.Ytoindlghpkjemaa.Thw
open Go
set_option linter.unusedVariables false
set_option linter.unusedSimpArgs false

structure It where
  seg : Int
  n : Int
  s : ByteArray
  newer : Int
  older : Int
def It.blk (x : It) : Int × Int := (x.seg, x.n)
def It.zero : It := ⟨0, 0, ⟨#[]⟩, 0, 0⟩
def upd (f : Nat → It) (i : Nat) (x : It) : Nat → It := fun j => if j = i then x else f j
theorem upd_same (f : Nat → It) (i : Nat) (x : It) : upd f i x i = x := if_pos rfl
theorem upd_other (f : Nat → It) {i j : Nat} (x : It) (h : j ≠ i) : upd f i x j = f j := if_neg h
def setN (f : Nat → It) (i : Nat) (v : Int) : Nat → It := upd f i { f i with newer := v }
def setO (f : Nat → It) (i : Nat) (v : Int) : Nat → It := upd f i { f i with older := v }

/-- A piece of the row: from f on to t, what is behind it is nxt; ahead of it is prev. -/
def Sg (it : Nat → It) : Int → List Nat → Int → Int → Int → Prop
  | prev, [], f, t, nxt => f = nxt ∧ t = prev
  | prev, i :: l, f, t, nxt => f = (i : Int) ∧ (it i).newer = prev ∧ Sg it (i : Int) l (it i).older t nxt
theorem Sg.append {it : Nat → It} : ∀ (a b : List Nat) (prev f t nxt : Int), Sg it prev (a ++ b) f t nxt ↔ ∃ m u, Sg it prev a f u m ∧ Sg it u b m t nxt
  | [], b, prev, f, t, nxt => by
    simp only [List.nil_append, Sg]
    constructor
    · intro h; exact ⟨f, prev, ⟨rfl, rfl⟩, h⟩
    · rintro ⟨m, u, ⟨rfl, rfl⟩, h⟩; exact h
  | i :: a, b, prev, f, t, nxt => by
    simp only [List.cons_append, Sg, Sg.append a b]
    constructor
    · rintro ⟨h1, h2, m, u, h3, h4⟩; exact ⟨m, u, ⟨h1, h2, h3⟩, h4⟩
    · rintro ⟨m, u, ⟨h1, h2, h3⟩, h4⟩; exact ⟨h1, h2, m, u, h3, h4⟩
theorem Sg.congr {it it' : Nat → It} : ∀ {l : List Nat} {prev f t nxt : Int}, (∀ i ∈ l, (it' i).newer = (it i).newer ∧ (it' i).older = (it i).older) → Sg it prev l f t nxt → Sg it' prev l f t nxt
  | [], _, _, _, _, _, h => h
  | i :: l, prev, f, t, nxt, hc, ⟨h1, h2, h3⟩ => by
    obtain ⟨c1, c2⟩ := hc i (List.mem_cons_self ..)
    exact ⟨h1, by rw [c1, h2], by rw [c2]; exact Sg.congr (fun j hj => hc j (List.mem_cons_of_mem _ hj)) h3⟩
theorem Sg.upd {it : Nat → It} {l : List Nat} {prev f t nxt : Int} {i : Nat} {x : It} (hi : i ∉ l) (h : Sg it prev l f t nxt) : Sg (Thw.upd it i x) prev l f t nxt :=
  h.congr fun j hj => by
    have : j ≠ i := fun e => hi (e ▸ hj)
    rw [upd_other _ _ this]; exact ⟨rfl, rfl⟩
theorem Sg.snoc {it : Nat → It} {a : List Nat} {p : Nat} {prev f t nxt : Int} : Sg it prev (a ++ [p]) f t nxt ↔ t = (p : Int) ∧ (it p).older = nxt ∧ Sg it prev a f (it p).newer (p : Int) := by
  rw [Sg.append]
  simp only [Sg]
  constructor
  · rintro ⟨m, u, h1, rfl, rfl, h2, rfl⟩; exact ⟨rfl, h2, h1⟩
  · rintro ⟨rfl, h2, h1⟩; exact ⟨_, _, h1, rfl, rfl, h2, rfl⟩
/-- The last one's older turned. -/
theorem Sg.setOlder {it : Nat → It} {a : List Nat} {p : Nat} {prev f t nxt : Int} (v : Int) (hp : p ∉ a) (h : Sg it prev (a ++ [p]) f t nxt) : Sg (setO it p v) prev (a ++ [p]) f t v := by
  rw [Sg.snoc] at h ⊢
  obtain ⟨h1, h2, h3⟩ := h
  refine ⟨h1, by simp [setO, upd_same], ?_⟩
  rw [show (setO it p v p).newer = (it p).newer by simp [setO, upd_same]]
  exact h3.upd hp
/-- The first one's newer turned. -/
theorem Sg.setNewer {it : Nat → It} {b : List Nat} {q : Nat} {prev f t nxt : Int} (v : Int) (hq : q ∉ b) (h : Sg it prev (q :: b) f t nxt) : Sg (setN it q v) v (q :: b) f t nxt := by
  obtain ⟨h1, h2, h3⟩ := h
  refine ⟨h1, by simp [setN, upd_same], ?_⟩
  rw [show (setN it q v q).older = (it q).older by simp [setN, upd_same]]
  exact h3.upd hq
theorem Sg.first {it : Nat → It} {l : List Nat} {prev f t nxt : Int} (h : Sg it prev l f t nxt) : f = match l with | [] => nxt | i :: _ => (i : Int) := by
  cases l with
  | nil => exact h.1
  | cons i l => exact h.1

structure Lc where
  most : Int
  it : Nat → It
  fl : List Int
  m : List ((Int × Int) × Int)
  first : Int
  last : Int
def Lc.off (c : Lc) (i : Nat) : Lc :=
  let x := c.it i
  let c1 : Lc := if x.newer = -1 then { c with first := x.older } else { c with it := setO c.it x.newer.toNat x.older }
  if x.older = -1 then { c1 with last := x.newer } else { c1 with it := setN c1.it x.older.toNat x.newer }
def Lc.ahead (c : Lc) (i : Nat) : Lc :=
  let f := upd c.it i { c.it i with newer := -1, older := c.first }
  if c.first = -1 then { c with it := f, last := i, first := i } else { c with it := setN f c.first.toNat i, first := i }
def Lc.forget (c : Lc) (i : Nat) : Lc :=
  let c1 := c.off i
  { c1 with m := del c1.m (c1.it i).blk, it := upd c1.it i It.zero, fl := c1.fl ++ [(i : Int)] }
/-- The row's indices are l. -/
def Lc.Row (c : Lc) (l : List Nat) : Prop := l.Nodup ∧ Sg c.it (-1) l c.first c.last (-1)
theorem Lc.off_other (c : Lc) (i : Nat) : (c.off i).m = c.m ∧ (c.off i).fl = c.fl ∧ (c.off i).most = c.most := by
  unfold Lc.off
  simp only
  split <;> split <;> exact ⟨rfl, rfl, rfl⟩
theorem Lc.off_it (c : Lc) (i j : Nat) : ((c.off i).it j).blk = (c.it j).blk ∧ ((c.off i).it j).s = (c.it j).s := by
  have k1 : ∀ (f : Nat → It) (a : Nat) (v : Int) (j : Nat), (setN f a v j).blk = (f j).blk ∧ (setN f a v j).s = (f j).s := by
    intro f a v j; unfold setN upd It.blk; split <;> simp_all
  have k2 : ∀ (f : Nat → It) (a : Nat) (v : Int) (j : Nat), (setO f a v j).blk = (f j).blk ∧ (setO f a v j).s = (f j).s := by
    intro f a v j; unfold setO upd It.blk; split <;> simp_all
  unfold Lc.off
  simp only
  split <;> split <;> simp [k1, k2]
/-- An item is taken off. -/
theorem Lc.off_row {c : Lc} {a b : List Nat} {i : Nat} (h : c.Row (a ++ i :: b)) : (c.off i).Row (a ++ b) := by
  obtain ⟨hn, hs⟩ := h
  have hn2 : (a ++ b).Nodup := hn.sublist (List.Sublist.append_left (List.sublist_cons_self i b) a)
  have hia : i ∉ a := fun hi => (List.nodup_append.1 hn).2.2 i hi i (List.mem_cons_self ..) rfl
  have hib : i ∉ b := (List.nodup_cons.1 (List.nodup_append.1 hn).2.1).1
  have hab : ∀ x ∈ a, x ∉ b := fun x hx hb => (List.nodup_append.1 hn2).2.2 x hx x hb rfl
  refine ⟨hn2, ?_⟩
  rw [Sg.append] at hs
  obtain ⟨m, u, h1, h2, h3, h4⟩ := hs
  have hf := h4.first
  subst h2
  rw [Sg.append]
  -- what is ahead
  rcases List.eq_nil_or_concat a with rfl | ⟨a', p, ea⟩
  · obtain ⟨e1, e2⟩ := h1
    subst e2
    cases b with
    | nil =>
      obtain ⟨e3, e4⟩ := h4
      unfold Lc.off
      simp only [h3, e3, if_true]
      exact ⟨_, _, ⟨rfl, rfl⟩, rfl, rfl⟩
    | cons q b =>
      have hq : q ∉ b := (List.nodup_cons.1 (List.nodup_cons.1 (List.nodup_append.1 hn).2.1).2).1
      have hf2 : (c.it i).older = (q : Int) := hf
      have hne : ¬ ((q : Int) = -1) := by omega
      unfold Lc.off
      simp only [h3, hf2, if_true, if_neg hne, Int.toNat_natCast]
      refine ⟨_, _, ⟨rfl, rfl⟩, ?_⟩
      rw [hf2] at h4
      exact h4.setNewer _ hq
  · rw [List.concat_eq_append] at ea
    subst ea
    have hu := (Sg.snoc.1 h1).1
    have hpa : p ∉ a' := fun hp => by
      have := (List.nodup_append.1 hn2).1
      exact (List.nodup_append.1 this).2.2 p hp p (List.mem_singleton_self p) rfl
    have hne : ¬ ((p : Int) = -1) := by omega
    rw [hu] at h3 h1
    cases b with
    | nil =>
      obtain ⟨e3, e4⟩ := h4
      unfold Lc.off
      simp only [h3, e3, if_true, if_neg hne, Int.toNat_natCast]
      exact ⟨-1, (p : Int), h1.setOlder _ hpa, rfl, rfl⟩
    | cons q b =>
      have hq : q ∉ b := (List.nodup_cons.1 (List.nodup_cons.1 (List.nodup_append.1 hn).2.1).2).1
      have hf2 : (c.it i).older = (q : Int) := hf
      have hne2 : ¬ ((q : Int) = -1) := by omega
      unfold Lc.off
      simp only [h3, hf2, if_neg hne, if_neg hne2, Int.toNat_natCast]
      rw [hf2] at h4
      have hqa : q ∉ a' ++ [p] := fun hx => hab q hx (List.mem_cons_self ..)
      have hpb : p ∉ q :: b := fun hx => hab p (by simp) hx
      exact ⟨(q : Int), (p : Int), (h1.setOlder _ hpa).upd hqa, (h4.upd (x := { c.it p with older := (q : Int) }) hpb).setNewer _ hq⟩
/-- An item is laid ahead of all. -/
theorem Lc.ahead_row {c : Lc} {l : List Nat} {i : Nat} (h : c.Row l) (hi : i ∉ l) : (c.ahead i).Row (i :: l) := by
  obtain ⟨hn, hs⟩ := h
  refine ⟨List.nodup_cons.2 ⟨hi, hn⟩, ?_⟩
  have hf := hs.first
  cases l with
  | nil =>
    obtain ⟨e1, e2⟩ := hs
    unfold Lc.ahead
    simp only [e1, if_true]
    exact ⟨rfl, by simp [upd_same], by simp [upd_same], rfl⟩
  | cons q l =>
    have hf2 : c.first = (q : Int) := hf
    have hq : q ∉ l := (List.nodup_cons.1 hn).1
    have hne : ¬ ((q : Int) = -1) := by omega
    have hqi : i ≠ q := fun e => hi (e ▸ List.mem_cons_self ..)
    unfold Lc.ahead
    simp only [hf2, if_neg hne, Int.toNat_natCast]
    rw [hf2] at hs
    refine ⟨rfl, ?_, ?_⟩
    · simp [setN, upd_other _ _ hqi, upd_same]
    · rw [show (setN (upd c.it i { c.it i with newer := -1, older := (q : Int) }) q (i : Int) i).older = (q : Int) by simp [setN, upd_other _ _ hqi, upd_same]]
      exact (hs.upd hi).setNewer _ hq
theorem Lc.ahead_other (c : Lc) (i : Nat) : (c.ahead i).m = c.m ∧ (c.ahead i).fl = c.fl ∧ (c.ahead i).most = c.most := by
  unfold Lc.ahead
  simp only
  split <;> exact ⟨rfl, rfl, rfl⟩
theorem Lc.ahead_it (c : Lc) (i j : Nat) : ((c.ahead i).it j).blk = (c.it j).blk ∧ ((c.ahead i).it j).s = (c.it j).s := by
  unfold Lc.ahead
  simp only
  split <;> · unfold It.blk; simp only [setN, upd]; repeat' split
              all_goals simp_all

abbrev Bk := Int × Int
abbrev Row2 := List (Bk × ByteArray)
structure Lc.Ok (c : Lc) (l fs : List Nat) : Prop where
  row : c.Row l
  fl : c.fl = fs.map (fun i : Nat => (i : Int))
  nd : (l ++ fs).Nodup
  bd : ∀ i ∈ l ++ fs, i < 64
  len : ((l.length + fs.length : Nat) : Int) = c.most
  most : 1 ≤ c.most ∧ c.most ≤ 64
  map : ∀ b i, look c.m b = some i ↔ ∃ j ∈ l, i = (j : Int) ∧ (c.it j).blk = b
/-- What the document would say. -/
def Lc.abs (c : Lc) (l : List Nat) : Row2 := l.map fun i => ((c.it i).blk, (c.it i).s)
theorem Lc.Ok.inj {c : Lc} {l fs : List Nat} (h : c.Ok l fs) {i j : Nat} (hi : i ∈ l) (hj : j ∈ l) (e : (c.it i).blk = (c.it j).blk) : i = j := by
  have h1 := (h.map (c.it i).blk (i : Int)).2 ⟨i, hi, rfl, rfl⟩
  have h2 := (h.map (c.it i).blk (j : Int)).2 ⟨j, hj, rfl, e.symm⟩
  rw [h1] at h2
  have := Option.some.inj h2
  omega
theorem Lc.abs_congr {c c' : Lc} {l : List Nat} (h : ∀ i ∈ l, (c'.it i).blk = (c.it i).blk ∧ (c'.it i).s = (c.it i).s) : c'.abs l = c.abs l :=
  List.map_congr_left fun i hi => by rw [(h i hi).1, (h i hi).2]
theorem Lc.Ok.del {c : Lc} {a b fs : List Nat} {i : Nat} (h : c.Ok (a ++ i :: b) fs) : Thw.del (c.abs (a ++ i :: b)) (c.it i).blk = c.abs (a ++ b) := by
  have hn := h.row.1
  have k : ∀ j ∈ a ++ b, (c.it j).blk ≠ (c.it i).blk := fun j hj e => by
    have hj2 : j ∈ a ++ i :: b := by
      rcases List.mem_append.1 hj with x | x
      · exact List.mem_append_left _ x
      · exact List.mem_append_right _ (List.mem_cons_of_mem _ x)
    have := h.inj hj2 (by simp) e
    subst this
    rcases List.mem_append.1 hj with x | x
    · exact (List.nodup_append.1 hn).2.2 j x j (List.mem_cons_self ..) rfl
    · exact (List.nodup_cons.1 (List.nodup_append.1 hn).2.1).1 x
  unfold Thw.del Lc.abs
  rw [List.map_append, List.map_cons, List.filter_append, List.filter_cons, if_neg (by simp), ← List.filter_append, ← List.map_append]
  refine List.filter_eq_self.2 fun q hq => ?_
  obtain ⟨j, hj, rfl⟩ := List.mem_map.1 hq
  simpa using k j hj
theorem Lc.Ok.look {c : Lc} {l fs : List Nat} (h : c.Ok l fs) (b : Bk) : (look c.m b = none ∧ Thw.look (c.abs l) b = none) ∨ ∃ a i d, l = a ++ i :: d ∧ (c.it i).blk = b ∧ Thw.look c.m b = some (i : Int) ∧ Thw.look (c.abs l) b = some (c.it i).s := by
  by_cases hx : ∃ i ∈ l, (c.it i).blk = b
  · obtain ⟨i, hi, hb⟩ := hx
    obtain ⟨a, d, rfl⟩ := List.append_of_mem hi
    refine Or.inr ⟨a, i, d, rfl, hb, (h.map b i).2 ⟨i, hi, rfl, hb⟩, ?_⟩
    unfold Lc.abs
    rw [List.map_append, look_append, List.map_cons, look_cons, if_pos hb, look_none, Option.none_or]
    intro q hq e
    obtain ⟨j, hj, rfl⟩ := List.mem_map.1 hq
    have := h.inj (List.mem_append_left _ hj) hi (e.trans hb.symm)
    subst this
    exact (List.nodup_append.1 h.row.1).2.2 j hj j (List.mem_cons_self ..) rfl
  · refine Or.inl ⟨?_, look_none fun q hq e => ?_⟩
    · cases hl : Thw.look c.m b with
      | none => rfl
      | some i =>
        obtain ⟨j, hj, _, hb⟩ := (h.map b i).1 hl
        exact absurd ⟨j, hj, hb⟩ hx
    · obtain ⟨j, hj, rfl⟩ := List.mem_map.1 hq
      exact hx ⟨j, hj, e⟩
theorem nodup_move {a b : List Nat} {i : Nat} {fs : List Nat} (h : ((a ++ i :: b) ++ fs).Nodup) : ((a ++ b) ++ (fs ++ [i])).Nodup := by
  have p : ((a ++ b) ++ (fs ++ [i])).Perm ((a ++ i :: b) ++ fs) := by
    have p1 : ((a ++ b) ++ (fs ++ [i])).Perm (i :: ((a ++ b) ++ fs)) := by
      rw [← List.append_assoc]
      exact List.perm_append_comm
    exact p1.trans ((List.perm_middle (l₁ := a) (l₂ := b) (a := i)).symm.append_right fs)
  exact p.nodup_iff.2 h
theorem Lc.Ok.forget {c : Lc} {a b fs : List Nat} {i : Nat} (h : c.Ok (a ++ i :: b) fs) : (c.forget i).Ok (a ++ b) (fs ++ [i]) ∧ (c.forget i).abs (a ++ b) = c.abs (a ++ b) ∧ (c.forget i).most = c.most := by
  have hn := h.row.1
  have hi : i ∉ a ++ b := fun hx => (List.nodup_append.1 (nodup_move h.nd)).2.2 i hx i (by simp) rfl
  have hr := Lc.off_row h.row
  obtain ⟨o1, o2, o3⟩ := c.off_other i
  have hit := fun j => c.off_it i j
  have hu : ∀ j ∈ a ++ b, (c.forget i).it j = (c.off i).it j := fun j hj => upd_other _ _ (fun e => hi (e ▸ hj))
  refine ⟨⟨⟨hr.1, hr.2.upd hi⟩, ?_, nodup_move h.nd, ?_, ?_, ?_, ?_⟩, Lc.abs_congr fun j hj => ?_, o3⟩
  · show (c.off i).fl ++ [(i : Int)] = _
    rw [o2, h.fl]; simp
  · intro j hj
    refine h.bd j ?_
    rcases List.mem_append.1 hj with x | x
    · rcases List.mem_append.1 x with x | x
      · exact List.mem_append_left _ (List.mem_append_left _ x)
      · exact List.mem_append_left _ (List.mem_append_right _ (List.mem_cons_of_mem _ x))
    · rcases List.mem_append.1 x with x | x
      · exact List.mem_append_right _ x
      · rw [List.mem_singleton.1 x]; simp
  · show _ = (c.off i).most
    rw [o3, ← h.len]; simp; omega
  · show 1 ≤ (c.off i).most ∧ (c.off i).most ≤ 64
    rw [o3]; exact h.most
  · intro bk v
    show Thw.look (Thw.del (c.off i).m ((c.off i).it i).blk) bk = some v ↔ ∃ j ∈ a ++ b, v = (j : Int) ∧ ((c.forget i).it j).blk = bk
    rw [o1, (hit i).1]
    by_cases e : (c.it i).blk = bk
    · subst e
      rw [look_del_same]
      constructor
      · intro x; cases x
      · rintro ⟨j, hj, _, hb⟩
        rw [hu j hj, (hit j).1] at hb
        have hj2 : j ∈ a ++ i :: b := by
          rcases List.mem_append.1 hj with x | x
          · exact List.mem_append_left _ x
          · exact List.mem_append_right _ (List.mem_cons_of_mem _ x)
        have := h.inj hj2 (by simp) hb
        subst this
        exact absurd hj hi
    · rw [look_del_other _ e, h.map]
      constructor
      · rintro ⟨j, hj, hv, hb⟩
        have hj2 : j ∈ a ++ b := by
          rcases List.mem_append.1 hj with x | x
          · exact List.mem_append_left _ x
          · rcases List.mem_cons.1 x with rfl | x
            · exact absurd hb e
            · exact List.mem_append_right _ x
        exact ⟨j, hj2, hv, by rw [hu j hj2, (hit j).1]; exact hb⟩
      · rintro ⟨j, hj, hv, hb⟩
        rw [hu j hj, (hit j).1] at hb
        refine ⟨j, ?_, hv, hb⟩
        rcases List.mem_append.1 hj with x | x
        · exact List.mem_append_left _ x
        · exact List.mem_append_right _ (List.mem_cons_of_mem _ x)
  · rw [hu j hj]; exact hit j
theorem Lc.Ok.touch {c : Lc} {a b fs : List Nat} {i : Nat} (h : c.Ok (a ++ i :: b) fs) : ((c.off i).ahead i).Ok (i :: (a ++ b)) fs ∧ ((c.off i).ahead i).abs (i :: (a ++ b)) = ((c.it i).blk, (c.it i).s) :: c.abs (a ++ b) ∧ ((c.off i).ahead i).most = c.most := by
  have hi : i ∉ a ++ b := fun hx => (List.nodup_append.1 (nodup_move h.nd)).2.2 i hx i (by simp) rfl
  have hr := Lc.ahead_row (Lc.off_row h.row) hi
  obtain ⟨o1, o2, o3⟩ := c.off_other i
  obtain ⟨p1, p2, p3⟩ := (c.off i).ahead_other i
  have hit : ∀ j, (((c.off i).ahead i).it j).blk = (c.it j).blk ∧ (((c.off i).ahead i).it j).s = (c.it j).s := fun j =>
    ⟨((c.off i).ahead_it i j).1.trans (c.off_it i j).1, ((c.off i).ahead_it i j).2.trans (c.off_it i j).2⟩
  have hm : ∀ j, j ∈ i :: (a ++ b) ↔ j ∈ a ++ i :: b := fun j => by simp; constructor <;> (rintro (x | x | x) <;> simp [x])
  refine ⟨⟨hr, by rw [p2, o2]; exact h.fl, ?_, fun j hj => ?_, ?_, ?_, fun bk v => ?_⟩, ?_, p3.trans o3⟩
  · have p : ((i :: (a ++ b)) ++ fs).Perm ((a ++ i :: b) ++ fs) := (List.perm_middle (l₁ := a) (l₂ := b) (a := i)).symm.append_right fs
    exact p.nodup_iff.2 h.nd
  · refine h.bd j ?_
    rcases List.mem_append.1 hj with x | x
    · exact List.mem_append_left _ ((hm j).1 x)
    · exact List.mem_append_right _ x
  · rw [p3, o3, ← h.len]; simp; omega
  · rw [p3, o3]; exact h.most
  · rw [p1, o1, h.map]
    constructor
    · rintro ⟨j, hj, hv, hb⟩; exact ⟨j, (hm j).2 hj, hv, by rw [(hit j).1]; exact hb⟩
    · rintro ⟨j, hj, hv, hb⟩; exact ⟨j, (hm j).1 hj, hv, by rw [(hit j).1] at hb; exact hb⟩
  · have e := Lc.abs_congr (c := c) (c' := (c.off i).ahead i) (l := i :: (a ++ b)) fun j _ => hit j
    rw [e]; rfl
/-- What a Put does of the cache. -/
def Lc.room (c : Lc) (b : Bk) : Lc :=
  let c1 := match look c.m b with | some i => c.forget i.toNat | none => c
  if c1.fl = [] then c1.forget c1.last.toNat else c1
def Lc.lay (c : Lc) (b : Bk) (s : ByteArray) : Lc :=
  let i := (c.fl.getLastD 0).toNat
  ({ c with fl := c.fl.dropLast, it := upd c.it i ⟨b.1, b.2, s, 0, 0⟩, m := put c.m b (i : Int) } : Lc).ahead i
def Lc.put (c : Lc) (b : Bk) (s : ByteArray) : Lc := (c.room b).lay b s
theorem Lc.Ok.gone {c : Lc} {l fs : List Nat} (h : c.Ok l fs) (b : Bk) : ∃ l' fs', (match Thw.look c.m b with | some i => c.forget i.toNat | none => c).Ok l' fs' ∧ (match Thw.look c.m b with | some i => c.forget i.toNat | none => c).abs l' = Thw.del (c.abs l) b ∧ (match Thw.look c.m b with | some i => c.forget i.toNat | none => c).most = c.most ∧ Thw.look (match Thw.look c.m b with | some i => c.forget i.toNat | none => c).m b = none := by
  rcases h.look b with ⟨h1, h2⟩ | ⟨a, i, d, rfl, hb, h1, h2⟩
  · rw [h1]
    refine ⟨l, fs, h, ?_, rfl, h1⟩
    refine (List.filter_eq_self.2 fun q hq => ?_).symm
    by_cases e : q.1 = b
    · exfalso
      have := look_some_of_any (c.abs l) b
      rw [h2] at this
      have h3 := List.any_eq_false.1 this.symm q hq
      simp [e] at h3
    · simpa using e
  · rw [h1]
    obtain ⟨k1, k2, k3⟩ := h.forget
    refine ⟨a ++ d, fs ++ [i], k1, ?_, k3, ?_⟩
    · rw [← hb, h.del]; exact k2
    · show Thw.look (Thw.del (c.off i).m ((c.off i).it i).blk) b = none
      rw [(c.off_it i i).1, hb, look_del_same]
theorem Lc.Ok.room {c : Lc} {l fs : List Nat} (h : c.Ok l fs) (b : Bk) : ∃ l' fs' p, (c.room b).Ok l' (fs' ++ [p]) ∧ (c.room b).abs l' = (Thw.del (c.abs l) b).take (c.most.toNat - 1) ∧ (c.room b).most = c.most ∧ Thw.look (c.room b).m b = none := by
  obtain ⟨l1, fs1, h1, h2, h3, h4⟩ := h.gone b
  unfold Lc.room
  simp only
  generalize (match Thw.look c.m b with | some i => c.forget i.toNat | none => c) = c1 at h1 h2 h3 h4
  have hmo := h1.most
  have hlen := h1.len
  have habs : (c1.abs l1).length = l1.length := by simp [Lc.abs]
  rcases List.eq_nil_or_concat fs1 with e | ⟨fs2, p, e⟩
  · subst e
    have hf : c1.fl = [] := by rw [h1.fl]; rfl
    rw [if_pos hf]
    rcases List.eq_nil_or_concat l1 with e | ⟨l2, q, e⟩
    · subst e; simp at hlen; omega
    rw [List.concat_eq_append] at e
    subst e
    have hq : c1.last = (q : Int) := (Sg.snoc.1 h1.row.2).1
    rw [hq, Int.toNat_natCast]
    obtain ⟨k1, k2, k3⟩ := h1.forget (b := [])
    rw [List.append_nil] at k1 k2
    refine ⟨l2, [], q, k1, ?_, k3.trans h3, ?_⟩
    · rw [k2, ← h2, ← h3, ← hlen]
      simp [Lc.abs]
    · show Thw.look (Thw.del (c1.off q).m ((c1.off q).it q).blk) b = none
      rw [(c1.off_it q q).1, (c1.off_other q).1]
      by_cases e : (c1.it q).blk = b
      · rw [e, look_del_same]
      · rw [look_del_other _ e]; exact h4
  · rw [List.concat_eq_append] at e
    subst e
    rw [if_neg (by rw [h1.fl]; simp)]
    refine ⟨l1, fs2, p, h1, ?_, h3, h4⟩
    rw [← h2, List.take_of_length_le]
    rw [habs]
    simp at hlen
    omega
theorem Lc.Ok.lay {c1 : Lc} {l1 fs1 : List Nat} {p : Nat} (h1 : c1.Ok l1 (fs1 ++ [p])) (b : Bk) (s : ByteArray) (h4 : Thw.look c1.m b = none) : (c1.lay b s).Ok (p :: l1) fs1 ∧ (c1.lay b s).abs (p :: l1) = (b, s) :: c1.abs l1 ∧ (c1.lay b s).most = c1.most := by
  have hm := h1.most
  have hp : p ∉ l1 := fun hx => (List.nodup_append.1 h1.nd).2.2 p hx p (by simp) rfl
  have hfl : c1.fl.getLastD 0 = (p : Int) := by rw [h1.fl]; simp
  have hfd : c1.fl.dropLast = fs1.map (fun i : Nat => (i : Int)) := by rw [h1.fl]; simp
  unfold Lc.lay
  simp only [hfl, hfd, Int.toNat_natCast]
  generalize hc : ({ c1 with fl := fs1.map (fun i : Nat => (i : Int)), it := upd c1.it p ⟨b.1, b.2, s, 0, 0⟩, m := Thw.put c1.m b (p : Int) } : Lc) = c2
  have e1 : c2.it = upd c1.it p ⟨b.1, b.2, s, 0, 0⟩ := by rw [← hc]
  have e2 : c2.m = Thw.put c1.m b (p : Int) := by rw [← hc]
  have e3 : c2.fl = fs1.map (fun i : Nat => (i : Int)) := by rw [← hc]
  have e4 : c2.most = c1.most := by rw [← hc]
  have e5 : c2.Row l1 := by rw [← hc]; exact ⟨h1.row.1, h1.row.2.upd hp⟩
  have hu : ∀ j ∈ l1, c2.it j = c1.it j := fun j hj => by rw [e1]; exact upd_other _ _ (fun e => hp (e ▸ hj))
  have hself : c2.it p = ⟨b.1, b.2, s, 0, 0⟩ := by rw [e1, upd_same]
  obtain ⟨p1, p2, p3⟩ := c2.ahead_other p
  have hit := fun j => c2.ahead_it p j
  refine ⟨⟨Lc.ahead_row e5 hp, by rw [p2, e3], ?_, fun j hj => ?_, ?_, ?_, fun bk v => ?_⟩, ?_, by rw [p3, e4]⟩
  · have q : ((p :: l1) ++ fs1).Perm (l1 ++ (fs1 ++ [p])) := by
      rw [← List.append_assoc]
      exact (List.perm_append_comm (l₁ := l1 ++ fs1) (l₂ := [p])).symm
    exact q.nodup_iff.2 h1.nd
  · refine h1.bd j ?_
    rcases List.mem_append.1 hj with x | x
    · rcases List.mem_cons.1 x with rfl | x
      · simp
      · exact List.mem_append_left _ x
    · exact List.mem_append_right _ (List.mem_append_left _ x)
  · rw [p3, e4, ← h1.len]; simp; omega
  · rw [p3, e4]; exact hm
  · rw [p1, e2]
    by_cases e : b = bk
    · subst e
      rw [look_put_same]
      constructor
      · intro x; cases x
        exact ⟨p, List.mem_cons_self .., rfl, by rw [(hit p).1, hself]; rfl⟩
      · rintro ⟨j, hj, rfl, hb⟩
        rcases List.mem_cons.1 hj with rfl | hj
        · rfl
        · exfalso
          rw [(hit j).1, hu j hj] at hb
          have := (h1.map b (j : Int)).2 ⟨j, hj, rfl, hb⟩
          rw [h4] at this; cases this
    · rw [look_put_other _ e, h1.map]
      constructor
      · rintro ⟨j, hj, hv, hb⟩; exact ⟨j, List.mem_cons_of_mem _ hj, hv, by rw [(hit j).1, hu j hj]; exact hb⟩
      · rintro ⟨j, hj, hv, hb⟩
        rcases List.mem_cons.1 hj with rfl | hj
        · rw [(hit j).1, hself] at hb; exact absurd hb e
        · rw [(hit j).1, hu j hj] at hb; exact ⟨j, hj, hv, hb⟩
  · have e6 : (c2.ahead p).abs (p :: l1) = c2.abs (p :: l1) := Lc.abs_congr fun j _ => hit j
    have e7 : c2.abs l1 = c1.abs l1 := Lc.abs_congr fun j hj => by rw [hu j hj]; exact ⟨rfl, rfl⟩
    rw [e6]
    show ((c2.it p).blk, (c2.it p).s) :: c2.abs l1 = _
    rw [e7, hself]
    rfl
theorem Lc.Ok.put {c : Lc} {l fs : List Nat} (h : c.Ok l fs) (b : Bk) (s : ByteArray) : ∃ l' fs', (c.put b s).Ok l' fs' ∧ (c.put b s).abs l' = ((b, s) :: Thw.del (c.abs l) b).take c.most.toNat ∧ (c.put b s).most = c.most := by
  obtain ⟨l1, fs1, p, h1, h2, h3, h4⟩ := h.room b
  obtain ⟨k1, k2, k3⟩ := h1.lay b s h4
  refine ⟨p :: l1, fs1, k1, ?_, k3.trans h3⟩
  show ((c.room b).lay b s).abs (p :: l1) = _
  rw [k2, h2]
  have hx := h.most
  obtain ⟨k, hk⟩ : ∃ k, c.most.toNat = k + 1 := ⟨c.most.toNat - 1, by omega⟩
  rw [hk, List.take_succ_cons]
  rfl
theorem Lc.Ok.room2 {c1 : Lc} {l1 fs1 : List Nat} (h1 : c1.Ok l1 fs1) (b : Bk) (h4 : Thw.look c1.m b = none) :
    (∃ (l2 : List Nat) (q : Nat), fs1 = [] ∧ l1 = l2 ++ [q] ∧ c1.last = (q : Int) ∧ (c1.forget q).Ok l2 [q] ∧ (c1.forget q).abs l2 = (c1.abs l1).take (c1.most.toNat - 1) ∧ (c1.forget q).most = c1.most ∧ Thw.look (c1.forget q).m b = none) ∨
    (∃ (fs2 : List Nat) (p : Nat), fs1 = fs2 ++ [p] ∧ (c1.abs l1).take (c1.most.toNat - 1) = c1.abs l1) := by
  have hmo := h1.most
  have hlen := h1.len
  have habs : (c1.abs l1).length = l1.length := by simp [Lc.abs]
  rcases List.eq_nil_or_concat fs1 with e | ⟨fs2, p, e⟩
  · subst e
    rcases List.eq_nil_or_concat l1 with e | ⟨l2, q, e⟩
    · subst e; simp at hlen; omega
    rw [List.concat_eq_append] at e
    subst e
    have hq : c1.last = (q : Int) := (Sg.snoc.1 h1.row.2).1
    obtain ⟨k1, k2, k3⟩ := h1.forget (b := [])
    rw [List.append_nil] at k1 k2
    refine Or.inl ⟨l2, q, rfl, rfl, hq, k1, ?_, k3, ?_⟩
    · rw [k2, ← hlen]
      simp [Lc.abs]
    · show Thw.look (Thw.del (c1.off q).m ((c1.off q).it q).blk) b = none
      rw [(c1.off_it q q).1, (c1.off_other q).1]
      by_cases e : (c1.it q).blk = b
      · rw [e, look_del_same]
      · rw [look_del_other _ e]; exact h4
  · rw [List.concat_eq_append] at e
    refine Or.inr ⟨fs2, p, e, ?_⟩
    subst e
    rw [List.take_of_length_le]
    rw [habs]
    simp at hlen
    omega
/-- What a Drop does. -/
def Lc.drop1 (c : Lc) (b : Bk) : Lc := match look c.m b with | some i => c.forget i.toNat | none => c
theorem Lc.Ok.drop1 {c : Lc} {l fs : List Nat} (h : c.Ok l fs) (b : Bk) : ∃ l' fs', (c.drop1 b).Ok l' fs' ∧ (c.drop1 b).abs l' = Thw.del (c.abs l) b ∧ (c.drop1 b).most = c.most := by
  obtain ⟨l', fs', h1, h2, h3, _⟩ := h.gone b
  exact ⟨l', fs', h1, h2, h3⟩
def Lc.drops (c : Lc) : List Bk → Lc
  | [] => c
  | b :: l => (c.drop1 b).drops l
def keysOf (A : Row2) : List Bk := A.map (·.1)
theorem Lc.Ok.keys {c : Lc} {l fs : List Nat} (h : c.Ok l fs) : (keysOf (c.abs l)).Nodup := by
  unfold keysOf Lc.abs
  rw [List.map_map, List.Nodup, List.pairwise_map]
  refine (List.Pairwise.imp_of_mem ?_ h.row.1)
  intro i j hi hj hne e
  exact hne (h.inj hi hj e)
/-- The document's calls. -/
def dropD (A : Row2) (seg : Int) : Row2 := A.filter fun p => decide (p.1.1 ≠ seg)
def getD2 (A : Row2) (b : Bk) : Row2 := match look A b with | some s => (b, s) :: del A b | none => A
def putD (A : Row2) (most : Int) (b : Bk) (s : ByteArray) : Row2 := ((b, s) :: del A b).take most.toNat
end Go.Proofs.Ytoindlghpkjemaa.Thw
