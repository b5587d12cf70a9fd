/- Maps in memory as lists of entries; and what a call may have changed, as a set of blocks. No program in sight. -/
import Derived.Maps.RangeWalk
import Derived.Below
import Derived.Carry
import Derived.Deep.Draws
import Derived.StillTailTactics
namespace Go.Proofs.YtlnbekaldemebaaGreatDoor.Thw
open Go Go.RowKit
set_option linter.unusedVariables false
set_option linter.unusedSimpArgs false

/-- From w to w' nothing has changed but the blocks of S and what is new. -/
structure Frm (S : Nat → Prop) (w w' : World) : Prop where
 os : w'.os = w.os
 tape : w'.tape = w.tape
 output : w'.output = w.output
 size : w.heap.size ≤ w'.heap.size
 block : ∀ k, k < w.heap.size → ¬ S k → w'.heap[k]? = w.heap[k]?
def None' (_ : Nat) : Prop := False
theorem Frm.refl (S : Nat → Prop) (w : World) : Frm S w w := ⟨rfl, rfl, rfl, Nat.le_refl _, fun _ _ _ => rfl⟩
theorem Frm.trans {S S' T : Nat → Prop} {a b c : World} (h : Frm S a b) (k : Frm S' b c) (h1 : ∀ i, i < a.heap.size → S i → T i) (h2 : ∀ i, i < a.heap.size → S' i → T i) : Frm T a c :=
 ⟨k.os.trans h.os, k.tape.trans h.tape, k.output.trans h.output, Nat.le_trans h.size k.size, fun i hi hn =>
  (k.block i (Nat.lt_of_lt_of_le hi h.size) (fun x => hn (h2 i hi x))).trans (h.block i hi (fun x => hn (h1 i hi x)))⟩
theorem Frm.andThen {S S' : Nat → Prop} {a b c : World} (h : Frm S a b) (k : Frm S' b c) (hs : ∀ i, S' i → S i ∨ a.heap.size ≤ i) : Frm S a c :=
 h.trans k (fun _ _ x => x) (fun i hi x => (hs i x).resolve_right (by omega))
theorem Frm.mono {S S' : Nat → Prop} {a b : World} (h : Frm S a b) (hs : ∀ i, i < a.heap.size → S i → S' i) : Frm S' a b := ⟨h.os, h.tape, h.output, h.size, fun i hi hn => h.block i hi (fun x => hn (hs i hi x))⟩
theorem Frm.of_below {B : Nat} {a b : World} (h : Below B a b) : Frm (fun k => B ≤ k) a b := ⟨h.os, h.tape, h.output, h.size, fun i _ hn => h.block i (by simp at hn; omega)⟩
theorem Frm.of_new {S : Nat → Prop} {a b : World} (h : Below a.heap.size a b) : Frm S a b := ⟨h.os, h.tape, h.output, h.size, fun i hi _ => h.block i hi⟩
theorem Frm.below {S : Nat → Prop} {B : Nat} {a b : World} (h : Frm S a b) (hB : B ≤ a.heap.size) (hs : ∀ i, i < a.heap.size → S i → B ≤ i) : Below B a b :=
 ⟨h.os, h.tape, h.output, h.size, fun i hi => h.block i (by omega) (fun x => by have := hs i (by omega) x; omega)⟩
theorem Frm.alloc {S : Nat → Prop} {a w : World} (h : Frm S a w) (o : Obj) : Frm S a (w.alloc o) :=
 h.trans (S' := None') ⟨rfl, rfl, rfl, by simp, fun k hk _ => Below.heap_alloc _ _ _ hk⟩ (fun _ _ x => x) (fun _ _ x => x.elim)
theorem Frm.drew {S : Nat → Prop} {a w : World} (h : Frm S a w) : Frm S a w.drew := ⟨h.os, h.tape, h.output, h.size, h.block⟩
theorem Frm.drewN {S : Nat → Prop} {a w : World} (h : Frm S a w) (n : Nat) : Frm S a (w.drewN n) := ⟨h.os, h.tape, h.output, h.size, h.block⟩
theorem Frm.setCell {S : Nat → Prop} {a w : World} (h : Frm S a w) {p : Addr} (hp : S p.block ∨ a.heap.size ≤ p.block) (u : Value) : Frm S a (w.setCell p u) :=
 h.andThen (S' := fun k => k = p.block) ⟨rfl, rfl, rfl, by simp [World.setCell], fun k hk hn => Below.heap_setCell _ _ _ _ hn⟩ (fun i e => by rw [e]; exact hp)
theorem Frm.set {S : Nat → Prop} {a w : World} (h : Frm S a w) {b : Nat} (hb : S b ∨ a.heap.size ≤ b) (o : Obj) : Frm S a (ChangeMaps.setBlock w b o) :=
 h.andThen (S' := fun k => k = b) ⟨rfl, rfl, rfl, by simp [ChangeMaps.setBlock], fun k hk hn => by
  show (w.heap.setIfInBounds b o)[k]? = _
  rw [Array.getElem?_setIfInBounds_ne (fun e => hn e.symm)]⟩ (fun i e => by rw [e]; exact hb)
/-- A block out of reach stays. -/
theorem Frm.keeps {S : Nat → Prop} {a b : World} (h : Frm S a b) {k : Nat} {o : Obj} (hk : a.heap[k]? = some o) (hn : ¬ S k) : b.heap[k]? = some o :=
 (h.block k (Array.getElem?_eq_some_iff.1 hk).1 hn).trans hk
theorem lt_of_block {w : World} {k : Nat} {o : Obj} (hk : w.heap[k]? = some o) : k < w.heap.size := (Array.getElem?_eq_some_iff.1 hk).1

/-! ### lists of entries -/
section
variable {κ α : Type} [DecidableEq κ]
def look (m : List (κ × α)) (k : κ) : Option α := (m.find? fun p => decide (p.1 = k)).map (·.2)
def put (m : List (κ × α)) (k : κ) (v : α) : List (κ × α) := if m.any (fun p => decide (p.1 = k)) then m.map (fun p => if p.1 = k then (k, v) else p) else m ++ [(k, v)]
def del (m : List (κ × α)) (k : κ) : List (κ × α) := m.filter fun p => decide (p.1 ≠ k)
theorem look_cons (p : κ × α) (m : List (κ × α)) (k : κ) : look (p :: m) k = if p.1 = k then some p.2 else look m k := by
 unfold look
 rw [List.find?_cons]
 by_cases h : p.1 = k
 ·simp [h]
 ·simp [h]
theorem look_nil (k : κ) : look ([] : List (κ × α)) k = none := rfl
theorem look_append (m m' : List (κ × α)) (k : κ) : look (m ++ m') k = (look m k).or (look m' k) := by
 induction m with
 | nil => simp [look_nil]
 | cons p m ih =>
  rw [List.cons_append, look_cons, look_cons, ih]
  by_cases h : p.1 = k
  ·simp [h]
  ·simp [h]
theorem look_rep (m : List (κ × α)) (k : κ) (v : α) (k' : κ) : look (m.map fun p => if p.1 = k then (k, v) else p) k' = if k = k' then (if (m.any fun p => decide (p.1 = k)) then some v else none) else look m k' := by
 induction m with
 | nil => by_cases h : k = k' <;> simp [look_nil, h]
 | cons p m ih =>
  rw [List.map_cons, look_cons, ih, look_cons]
  by_cases h1 : p.1 = k
  ·by_cases h2 : k = k'
   ·subst h2; simp [h1]
   ·simp [h1, h2]
  ·by_cases h2 : k = k'
   ·subst h2; rw [if_neg h1, if_neg h1, if_pos rfl, if_pos rfl, List.any_cons, decide_eq_false h1, Bool.false_or]
   ·simp [h1, h2]
theorem look_some_of_any (m : List (κ × α)) (k : κ) : (look m k).isSome = m.any fun p => decide (p.1 = k) := by
 induction m with
 | nil => rfl
 | cons p m ih =>
  rw [look_cons, List.any_cons]
  by_cases h : p.1 = k
  ·simp [h]
  ·simp [h, ih]
theorem look_put_same (m : List (κ × α)) (k : κ) (v : α) : look (put m k v) k = some v := by
 unfold put
 split
 ·rename_i h
  rw [look_rep, if_pos rfl, if_pos h]
 ·rename_i h
  have : look m k = none := by
   have h2 := look_some_of_any m k
   rw [Bool.eq_false_iff.2 h] at h2
   simpa using h2
  rw [look_append, this, look_cons]
  simp
theorem look_put_other (m : List (κ × α)) {k k' : κ} (h : k ≠ k') (v : α) : look (put m k v) k' = look m k' := by
 unfold put
 split
 ·rw [look_rep, if_neg h]
 ·rw [look_append, look_cons]
  simp [h, look_nil]
theorem look_del_same (m : List (κ × α)) (k : κ) : look (del m k) k = none := by
 unfold look del
 rw [List.find?_eq_none.2 (fun p hp => by simpa using (List.mem_filter.1 hp).2)]
 rfl
theorem look_del_other (m : List (κ × α)) {k k' : κ} (h : k ≠ k') : look (del m k) k' = look m k' := by
 unfold del
 induction m with
 | nil => rfl
 | cons p m ih =>
  rw [List.filter_cons]
  by_cases h1 : p.1 = k
  ·have h2 : p.1 ≠ k' := fun e => h (h1.symm.trans e)
   rw [if_neg (by simpa using h1), ih, look_cons, if_neg h2]
  ·rw [if_pos (by simpa using h1), look_cons, ih, look_cons]
end

section
variable {κ α : Type} {P : Program} {kt : TypeId} {kv : κ → Value} {ev : α → Value}
/-- Block b of w is a map with these entries, in this order. -/
def MapOf (P : Program) (kt : TypeId) (kv : κ → Value) (ev : α → Value) (w : World) (b : Nat) (m : List (κ × α)) : Prop :=
 ∃ es clock, w.heap[b]? = some (.map es clock) ∧ MapKept.Stamped es clock ∧ es.toList.map (fun e => (e.key, e.val)) = m.map (fun p => (kv p.1, ev p.2)) ∧ ∀ p ∈ m, ∃ l, keyOf P kt (kv p.1) = some l
variable {w : World} {b : Nat} {m : List (κ × α)}
theorem MapOf.lt (h : MapOf P kt kv ev w b m) : b < w.heap.size := by
 obtain ⟨es, clock, hb, _⟩ := h
 exact lt_of_block hb
theorem MapOf.frm {S : Nat → Prop} {w' : World} (h : MapOf P kt kv ev w b m) (hf : Frm S w w') (hn : ¬ S b) : MapOf P kt kv ev w' b m := by
 obtain ⟨es, clock, hb, r⟩ := h
 exact ⟨es, clock, hf.keeps hb hn, r⟩
theorem MapOf.alloc (h : MapOf P kt kv ev w b m) (o : Obj) : MapOf P kt kv ev (w.alloc o) b m := h.frm (S := None') ((Frm.refl _ w).alloc o) (fun x => x.elim)
theorem MapOf.drew (h : MapOf P kt kv ev w b m) : MapOf P kt kv ev w.drew b m := h
theorem MapOf.made (w : World) : MapOf P kt kv ev (w.alloc (.map #[] 0)) w.heap.size [] :=
 ⟨#[], 0, (MapKept.heap_alloc w _).1, MapKept.stamped_empty 0, rfl, by simp⟩
theorem MapOf.not_cells {m : List (κ × α)} (h : MapOf P kt kv ev w b m) {c : Array Value} {e : TypeId} {f : Nat × Nat} : w.heap[b]? ≠ some (.cells c e f) := by
 obtain ⟨es, clock, hb, r⟩ := h
 rw [hb]; intro h; cases h
/-- What is there of entry number j. -/
theorem entries_at {es : Array MapEntry} (h : es.toList.map (fun e => (e.key, e.val)) = m.map (fun p => (kv p.1, ev p.2))) (j : Nat) :
  (es.toList[j]?).map (fun e => (e.key, e.val)) = (m[j]?).map (fun p => (kv p.1, ev p.2)) := by
 have := congrArg (fun l => l[j]?) h
 simpa using this
theorem entries_keys {es : Array MapEntry} (h : es.toList.map (fun e => (e.key, e.val)) = m.map (fun p => (kv p.1, ev p.2))) : es.toList.map (·.key) = m.map (fun p => kv p.1) := by
 have := congrArg (fun l => l.map Prod.fst) h
 simpa [Function.comp_def] using this
theorem MapOf.nodup (h : MapOf P kt kv ev w b m) : (m.map (·.1)).Nodup := by
 obtain ⟨es, clock, hb, hst, hm, hk⟩ := h
 have h3 := hst.2.2
 rw [entries_keys hm] at h3
 rw [List.Nodup, List.pairwise_map] at h3 ⊢
 exact h3.imp (fun hne e => hne (by rw [e]))
theorem entries_readable {es : Array MapEntry} (h : es.toList.map (fun e => (e.key, e.val)) = m.map (fun p => (kv p.1, ev p.2))) (hk : ∀ p ∈ m, ∃ l, keyOf P kt (kv p.1) = some l) : ∀ e ∈ es.toList, ∃ l, keyOf P kt e.key = some l := by
 intro e he
 have : e.key ∈ es.toList.map (·.key) := List.mem_map.2 ⟨e, he, rfl⟩
 rw [entries_keys h] at this
 obtain ⟨p, hp, ee⟩ := List.mem_map.1 this
 rw [← ee]; exact hk p hp
variable [DecidableEq κ] (inj : ∀ a b, kv a = kv b → a = b) (K : Go.Maps.Keyed P kt)
include inj K
omit [DecidableEq κ] in
/-- The search in the entries. -/
theorem find_entries {es : Array MapEntry} (w : World) (h : es.toList.map (fun e => (e.key, e.val)) = m.map (fun p => (kv p.1, ev p.2))) (hk : ∀ p ∈ m, ∃ l, keyOf P kt (kv p.1) = some l) {k : κ} (hkey : ∃ l, keyOf P kt (kv k) = some l) :
  ((Instr.findKey kt (kv k) es.toList).run P w = .ok none w ∧ (∀ p ∈ m, p.1 ≠ k) ∧ ∀ e ∈ es.toList, e.key ≠ kv k) ∨
  ∃ j v e, (Instr.findKey kt (kv k) es.toList).run P w = .ok (some (j, ev v)) w ∧ m[j]? = some (k, v) ∧ es.toList[j]? = some e ∧ e.key = kv k := by
 obtain ⟨l, hl⟩ := hkey
 rcases K.find w hl es.toList (entries_readable h hk) with ⟨h1, h2⟩ | ⟨j, e, h1, h2, h3⟩
 ·refine Or.inl ⟨h1, fun p hp ee => ?_, h2⟩
  have : kv p.1 ∈ es.toList.map (·.key) := by rw [entries_keys h]; exact List.mem_map.2 ⟨p, hp, rfl⟩
  obtain ⟨e, he, ek⟩ := List.mem_map.1 this
  exact h2 e he (by rw [ek, ee])
 ·have ea := entries_at h j
  rw [h2] at ea
  cases hm : m[j]? with
  | none => rw [hm] at ea; simp at ea
  | some p =>
   rw [hm] at ea
   simp only [Option.map_some, Option.some.injEq, Prod.mk.injEq] at ea
   have ek : p.1 = k := inj _ _ (by rw [← ea.1, h3])
   refine Or.inr ⟨j, p.2, e, by rw [h1, ea.2], by rw [← ek]; exact hm, h2, h3⟩
omit inj K in
theorem look_at {j : Nat} {k : κ} {v : α} (hn : (m.map (·.1)).Nodup) (h : m[j]? = some (k, v)) : look m k = some v := by
 unfold look
 induction m generalizing j with
 | nil => simp at h
 | cons p l ih =>
  simp only [List.map_cons, List.nodup_cons] at hn
  cases j with
  | zero => simp only [List.getElem?_cons_zero, Option.some.injEq] at h; subst h; simp [List.find?_cons]
  | succ j =>
   simp only [List.getElem?_cons_succ] at h
   have hne : p.1 ≠ k := fun e => hn.1 (by rw [e]; exact List.mem_map.2 ⟨(k, v), List.mem_of_getElem? h, rfl⟩)
   rw [List.find?_cons, decide_eq_false hne]
   exact ih hn.2 h
omit inj K in
theorem look_none {k : κ} (h : ∀ p ∈ m, p.1 ≠ k) : look m k = none := by
 unfold look
 rw [List.find?_eq_none.2 (fun p hp => by simpa using h p hp)]
 rfl
/-- 'm[k]', with ok or without. -/
theorem MapOf.lookup (h : MapOf P kt kv ev w b m) {t e : TypeId} (ht : P.underlying t = some (.map kt e)) {k : κ} (hkey : ∃ l, keyOf P kt (kv k) = some l) {z : Value} (hz : (zeroValue e).run P w = .ok z w) (ok : Bool) :
  (Instr.lookup t (.map (some b)) (kv k) ok).run P w = .ok (if ok then .tuple #[((look m k).map ev).getD z, .bool (look m k).isSome] else ((look m k).map ev).getD z) w := by
 have hnd := h.nodup
 obtain ⟨es, clock, hb, hst, hm, hk⟩ := h
 obtain ⟨l, hl⟩ := hkey
 rcases find_entries inj K w hm hk ⟨l, hl⟩ with ⟨h1, h2, _⟩ | ⟨j, v, e0, h1, h2, _, _⟩
 ·rw [look_none h2]
  simp [Instr.lookup, run_underlying ht, MapKept.run_getObj_map hb, K.check w _ hl, h1, hz, Result.andThen]
  all_goals (cases ok <;> rfl)
 ·rw [look_at hnd h2]
  simp [Instr.lookup, run_underlying ht, MapKept.run_getObj_map hb, K.check w _ hl, h1, Result.andThen]
  all_goals (cases ok <;> rfl)
omit inj K in
theorem put_at {j : Nat} {k : κ} {v v' : α} (hn : (m.map (·.1)).Nodup) (h : m[j]? = some (k, v)) : put m k v' = m.set j (k, v') := by
 unfold put
 rw [if_pos (List.any_eq_true.2 ⟨(k, v), List.mem_of_getElem? h, by simp⟩)]
 induction m generalizing j with
 | nil => simp at h
 | cons p l ih =>
  simp only [List.map_cons, List.nodup_cons] at hn
  cases j with
  | zero =>
   simp only [List.getElem?_cons_zero, Option.some.injEq] at h
   subst h
   simp only [List.map_cons, if_true, List.set_cons_zero, List.cons.injEq, true_and]
   have : ∀ q ∈ l, (if q.1 = k then (k, v') else q) = q := fun q hq => if_neg (fun e => hn.1 (by rw [← e]; exact List.mem_map.2 ⟨q, hq, rfl⟩))
   rw [List.map_congr_left this]; simp
  | succ j =>
   simp only [List.getElem?_cons_succ] at h
   have hne : p.1 ≠ k := fun e => hn.1 (by rw [e]; exact List.mem_map.2 ⟨(k, v), List.mem_of_getElem? h, rfl⟩)
   simp only [List.map_cons, if_neg hne, List.set_cons_succ]
   rw [ih hn.2 h]
omit inj K in
theorem put_none {k : κ} {v' : α} (h : ∀ p ∈ m, p.1 ≠ k) : put m k v' = m ++ [(k, v')] := by
 unfold put
 rw [if_neg (by simp; exact fun x hx => h _ hx rfl)]
/-- 'm[k] = v'. -/
theorem MapOf.update (h : MapOf P kt kv ev w b m) {t e : TypeId} (ht : P.underlying t = some (.map kt e)) {k : κ} (hkey : ∃ l, keyOf P kt (kv k) = some l) (v : α) :
  ∃ w', (Instr.mapUpdate t (.map (some b)) (kv k) (ev v)).run P w = .ok () w' ∧ MapOf P kt kv ev w' b (put m k v) ∧ Frm (fun i => i = b) w w' ∧ w'.heap.size = w.heap.size := by
 have hnd := h.nodup
 obtain ⟨es, clock, hb, hst, hm, hk⟩ := h
 obtain ⟨l, hl⟩ := hkey
 rcases find_entries inj K w hm hk ⟨l, hl⟩ with ⟨h1, h2, h3⟩ | ⟨j, v0, e0, h1, h2, h3, h4⟩
 ·refine ⟨ChangeMaps.setBlock w b (.map (es.push { key := kv k, val := ev v, born := clock }) (clock + 1)), ?_, ⟨_, _, ChangeMaps.heap_setBlock_same hb _, MapKept.stamped_push hst h3, ?_, ?_⟩, (Frm.refl (fun i => i = b) w).set (Or.inl rfl) _, by simp [ChangeMaps.setBlock]⟩
  ·simp [Instr.mapUpdate, run_underlying ht, MapKept.run_getObj_map hb, K.check w _ hl, h1, Result.andThen, setObj, Sem.run, hb, ChangeMaps.setBlock]
  ·rw [put_none h2]; simp [hm]
  ·rw [put_none h2]
   intro p hp
   rcases List.mem_append.1 hp with hp | hp
   ·exact hk p hp
   ·simp only [List.mem_singleton] at hp; subst hp; exact ⟨l, hl⟩
 ·have hj : es[j]? = some e0 := by rw [← h3]; simp
  refine ⟨ChangeMaps.setBlock w b (.map (es.modify j fun e => { e with key := kv k, val := ev v }) clock), ?_, ⟨_, _, ChangeMaps.heap_setBlock_same hb _, MapKept.stamped_modify hst j _ (fun _ _ => rfl) (fun e he hee => by rw [hj] at hee; cases hee; exact h4.symm), ?_, ?_⟩, (Frm.refl (fun i => i = b) w).set (Or.inl rfl) _, by simp [ChangeMaps.setBlock]⟩
  ·simp [Instr.mapUpdate, run_underlying ht, MapKept.run_getObj_map hb, K.check w _ hl, h1, Result.andThen, hj, h4, K.stays w hl, setObj, Sem.run, hb, ChangeMaps.setBlock]
  ·rw [put_at hnd h2]
   apply List.ext_getElem?
   intro i
   have ei := entries_at hm i
   simp only [List.getElem?_map, Array.getElem?_toList, Array.getElem?_modify, List.getElem?_set] at ei ⊢
   by_cases hij : j = i
   ·subst hij
    rw [hj]
    have : j < m.length := (List.getElem?_eq_some_iff.1 h2).1
    simp [this]
   ·simp [hij, ei]
  ·rw [put_at hnd h2]
   intro p hp
   rcases List.mem_or_eq_of_mem_set hp with hp | hp
   ·exact hk p hp
   ·subst hp; exact ⟨l, hl⟩
omit inj K in
theorem del_at {j : Nat} {k : κ} {v : α} (hn : (m.map (·.1)).Nodup) (h : m[j]? = some (k, v)) : del m k = m.eraseIdx j := by
 unfold del
 induction m generalizing j with
 | nil => simp at h
 | cons p l ih =>
  simp only [List.map_cons, List.nodup_cons] at hn
  cases j with
  | zero =>
   simp only [List.getElem?_cons_zero, Option.some.injEq] at h
   subst h
   rw [List.filter_cons, if_neg (by simp), List.eraseIdx_cons_zero]
   exact List.filter_eq_self.2 (fun q hq => by simp only [ne_eq, decide_eq_true_eq]; exact fun e => hn.1 (by rw [← e]; exact List.mem_map.2 ⟨q, hq, rfl⟩))
  | succ j =>
   simp only [List.getElem?_cons_succ] at h
   have hne : p.1 ≠ k := fun e => hn.1 (by rw [e]; exact List.mem_map.2 ⟨(k, v), List.mem_of_getElem? h, rfl⟩)
   rw [List.filter_cons, if_pos (by simpa using hne), List.eraseIdx_cons_succ, ih hn.2 h]
omit inj K in
theorem del_none {k : κ} (h : ∀ p ∈ m, p.1 ≠ k) : del m k = m := List.filter_eq_self.2 (fun q hq => by simpa using h q hq)
/-- 'delete(m, k)'. -/
theorem MapOf.delete (h : MapOf P kt kv ev w b m) {t e ty kt' : TypeId} (ht : P.underlying t = some (.map kt e)) {k : κ} (hkey : ∃ l, keyOf P kt (kv k) = some l) :
  ∃ w', (Builtin.delete_ #[t, kt'] ty #[.map (some b), kv k]).run P w = .ok (.tuple #[]) w' ∧ MapOf P kt kv ev w' b (del m k) ∧ Frm (fun i => i = b) w w' ∧ w'.heap.size = w.heap.size := by
 have hnd := h.nodup
 obtain ⟨es, clock, hb, hst, hm, hk⟩ := h
 obtain ⟨l, hl⟩ := hkey
 rcases find_entries inj K w hm hk ⟨l, hl⟩ with ⟨h1, h2, h3⟩ | ⟨j, v0, e0, h1, h2, h3, h4⟩
 ·refine ⟨ChangeMaps.setBlock w b (.map es clock), ?_, ⟨_, _, ChangeMaps.heap_setBlock_same hb _, hst, by rw [del_none h2]; exact hm, by rw [del_none h2]; exact hk⟩, (Frm.refl (fun i => i = b) w).set (Or.inl rfl) _, by simp [ChangeMaps.setBlock]⟩
  simp [Builtin.delete_, run_underlying ht, MapKept.run_getObj_map hb, K.check w _ hl, h1, Result.andThen, setObj, Sem.run, hb, ChangeMaps.setBlock]
 ·refine ⟨ChangeMaps.setBlock w b (.map (es.eraseIdxIfInBounds j) clock), ?_, ⟨_, _, ChangeMaps.heap_setBlock_same hb _, MapKept.stamped_erase hst j, ?_, ?_⟩, (Frm.refl (fun i => i = b) w).set (Or.inl rfl) _, by simp [ChangeMaps.setBlock]⟩
  ·simp [Builtin.delete_, run_underlying ht, MapKept.run_getObj_map hb, K.check w _ hl, h1, Result.andThen, setObj, Sem.run, hb, ChangeMaps.setBlock]
  ·rw [del_at hnd h2]
   have hjs : j < es.size := by have := (List.getElem?_eq_some_iff.1 h3).1; simpa using this
   rw [Array.eraseIdxIfInBounds, dif_pos hjs, Array.toList_eraseIdx, ChangeMaps.map_eraseIdx, hm, ← ChangeMaps.map_eraseIdx]
  ·rw [del_at hnd h2]
   exact fun p hp => hk p ((List.eraseIdx_sublist _ _).subset hp)
section
variable {ops : Array Oper} {rest : List Oper} {o : Oper} {a : Act} {Q : Exit → Act → World → Prop}
/-- 'm[k] = v' in a walk. -/
theorem wpList_mapUpdate_of (w : World) (hg : o.guard = none) (mo x v : Operand) (t e : TypeId) (hop : o.op = Op.mapUpdate t mo x v) (ht : P.underlying t = some (.map kt e)) (b : Nat) (m : List (κ × α)) (hm : a.eval mo = .map (some b)) (h : MapOf P kt kv ev w b m)
  (k : κ) (hx : a.eval x = kv k) (hkey : ∃ l, keyOf P kt (kv k) = some l) (y : α) (hv : a.eval v = ev y)
  (hK : ∀ w', MapOf P kt kv ev w' b (put m k y) → Frm (fun i => i = b) w w' → w'.heap.size = w.heap.size → wpList P ops Q rest (a.put o.dst undef) w') : wpList P ops Q (o :: rest) a w := by
 refine wpList_plain hg fun K' hK' => ?_
 obtain ⟨w', hrun, r1, r2, r3⟩ := h.update inj K ht hkey y
 unfold Oper.wp
 simp [execOp, hop, hm, hx, hv, hrun, Result.andThen]
 exact hK' _ _ (hK w' r1 r2 r3)
/-- 'delete(m, k)' in a walk. -/
theorem wpList_delete_of (w : World) (hg : o.guard = none) (mo x : Operand) (t e kt' : TypeId) (hop : o.op = Op.call { callee := Callee.builtin Builtin.delete, args := #[mo, x], argTypes := #[t, kt'] }) (ht : P.underlying t = some (.map kt e)) (b : Nat) (m : List (κ × α)) (hm : a.eval mo = .map (some b)) (h : MapOf P kt kv ev w b m)
  (k : κ) (hx : a.eval x = kv k) (hkey : ∃ l, keyOf P kt (kv k) = some l)
  (hK : ∀ w', MapOf P kt kv ev w' b (del m k) → Frm (fun i => i = b) w w' → w'.heap.size = w.heap.size → wpList P ops Q rest (a.put o.dst (.tuple #[])) w') : wpList P ops Q (o :: rest) a w := by
 refine wpList_plain hg fun K' hK' => ?_
 obtain ⟨w', hrun, r1, r2, r3⟩ := h.delete inj K ht hkey (ty := o.type) (kt' := kt')
 unfold Oper.wp
 simp [execOp, hop, resolve, invoke, builtin, hm, hx, hrun, Result.andThen]
 exact hK' _ _ (hK w' r1 r2 r3)
end
omit [DecidableEq κ] inj K in
/-- 'len(m)'. -/
theorem MapOf.len (h : MapOf P kt kv ev w b m) {t e ty : TypeId} (ht : P.underlying t = some (.map kt e)) : (Builtin.len_ #[t] ty #[.map (some b)]).run P w = .ok (.int .i64 m.length) w := by
 obtain ⟨es, clock, hb, hst, hm, hk⟩ := h
 have hl : es.size = m.length := by have := congrArg List.length hm; simpa using this
 simp [Builtin.len_, run_underlying ht, MapKept.run_getObj_map hb, hl, goInt]

theorem MapOf.found (h : MapOf P kt kv ev w b m) {t e : TypeId} (ht : P.underlying t = some (.map kt e)) {k : κ} (hkey : ∃ l, keyOf P kt (kv k) = some l) {z : Value} (hz : (zeroValue e).run P w = .ok z w) {v : α} (hl : look m k = some v) :
  (Instr.lookup t (.map (some b)) (kv k) true).run P w = .ok (.tuple #[ev v, .bool true]) w := by
 rw [h.lookup inj K ht hkey hz true, hl]; rfl
theorem MapOf.absent (h : MapOf P kt kv ev w b m) {t e : TypeId} (ht : P.underlying t = some (.map kt e)) {k : κ} (hkey : ∃ l, keyOf P kt (kv k) = some l) {z : Value} (hz : (zeroValue e).run P w = .ok z w) (hl : look m k = none) :
  (Instr.lookup t (.map (some b)) (kv k) true).run P w = .ok (.tuple #[z, .bool false]) w := by
 rw [h.lookup inj K ht hkey hz true, hl]; rfl
/-! ### ranging -/
omit [DecidableEq κ] inj K
/-- Block r is an iterator over the map in block b: what is still to come is rest. -/
def MapIt (P : Program) (kt : TypeId) (kv : κ → Value) (ev : α → Value) (w : World) (r b : Nat) (m rest : List (κ × α)) : Prop :=
 ∃ es clock since seen c0, w.heap[b]? = some (.map es clock) ∧ MapKept.Stamped es clock ∧ es.toList.map (fun e => (e.key, e.val)) = m.map (fun p => (kv p.1, ev p.2)) ∧ (∀ p ∈ m, ∃ l, keyOf P kt (kv p.1) = some l) ∧
  w.heap[r]? = some (.mapIter (some b) since seen c0) ∧ (∀ x ∈ es.toList, x.born < since) ∧ since ≤ c0 ∧ since ≤ clock ∧ (leftOf es seen).toList.map (fun e => (e.key, e.val)) = rest.map (fun p => (kv p.1, ev p.2))
variable {r : Nat} {rest : List (κ × α)}
theorem MapIt.map (h : MapIt P kt kv ev w r b m rest) : MapOf P kt kv ev w b m := by
 obtain ⟨es, clock, since, seen, c0, hb, hst, hm, hk, _⟩ := h
 exact ⟨es, clock, hb, hst, hm, hk⟩
theorem MapIt.ne (h : MapIt P kt kv ev w r b m rest) : r ≠ b := by
 obtain ⟨es, clock, since, seen, c0, hb, hst, hm, hk, hr, _⟩ := h
 intro e
 rw [e, hb] at hr
 cases hr
theorem MapIt.lt (h : MapIt P kt kv ev w r b m rest) : r < w.heap.size := by
 obtain ⟨es, clock, since, seen, c0, hb, hst, hm, hk, hr, _⟩ := h
 exact lt_of_block hr
theorem MapIt.frm {S : Nat → Prop} {w' : World} (h : MapIt P kt kv ev w r b m rest) (hf : Frm S w w') (hn : ¬ S b) (hn' : ¬ S r) : MapIt P kt kv ev w' r b m rest := by
 obtain ⟨es, clock, since, seen, c0, hb, hst, hm, hk, hr, x⟩ := h
 exact ⟨es, clock, since, seen, c0, hf.keeps hb hn, hst, hm, hk, hf.keeps hr hn', x⟩
theorem MapIt.alloc (h : MapIt P kt kv ev w r b m rest) (o : Obj) : MapIt P kt kv ev (w.alloc o) r b m rest := h.frm (S := None') ((Frm.refl _ w).alloc o) (fun x => x.elim) (fun x => x.elim)
theorem MapOf.range (h : MapOf P kt kv ev w b m) {t e : TypeId} (ht : P.underlying t = some (.map kt e)) :
  ∃ w', (Instr.range t (.map (some b))).run P w = .ok (.pointer (some ⟨w.heap.size, 0, none⟩)) w' ∧ MapIt P kt kv ev w' w.heap.size b m m ∧ Frm None' w w' ∧ w'.heap.size = w.heap.size + 1 := by
 have hlt := h.lt
 obtain ⟨es, clock, hb, hst, hm, hk⟩ := h
 refine ⟨_, run_range_map w t kt e b es clock ht hb, ⟨es, clock, clock, #[], clock, ((MapKept.heap_alloc w _).2 b hlt).trans hb, hst, hm, hk, (MapKept.heap_alloc w _).1, hst.1, Nat.le_refl _, Nat.le_refl _, ?_⟩, (Frm.refl _ w).alloc _, by simp⟩
 rw [← hm]
 simp only [leftOf, Array.toList_filter]
 rw [List.filter_eq_self.2 (by simp)]
theorem MapIt.next (h : MapIt P kt kv ev w r b m rest) (ty : TypeId) :
  (rest = [] ∧ (Instr.next (.pointer (some ⟨r, 0, none⟩)) false ty).run P w = .ok (.tuple #[.bool false]) w) ∨
  ∃ l1 p l2 w', rest = l1 ++ p :: l2 ∧ (Instr.next (.pointer (some ⟨r, 0, none⟩)) false ty).run P w = .ok (.tuple #[.bool true, kv p.1, ev p.2]) w' ∧ MapIt P kt kv ev w' r b m (l1 ++ l2) ∧ Frm (fun i => i = r) w w' ∧ w'.heap.size = w.heap.size ∧
   (Instr.entry (.pointer (some ⟨r, 0, none⟩))).run P w' = .ok (.tuple #[kv p.1, ev p.2]) w' := by
 have hne := h.ne
 obtain ⟨es, clock, since, seen, c0, hb, hst, hm, hk, hr, hold, hsc, hsk, hl⟩ := h
 rcases run_next_at (P := P) w ty r b since c0 seen es clock hr hb hold hsc with ⟨h0, hrun⟩ | ⟨e, he, w1, hal, hrun⟩
 ·left
  refine ⟨?_, hrun⟩
  have := congrArg List.length hl
  simp [h0] at this
  exact List.eq_nil_of_length_eq_zero this.symm
 ·right
  obtain ⟨i, hi, hie⟩ := List.mem_iff_getElem.1 he
  have hi' : i < rest.length := by have := congrArg List.length hl; simp at this hi; omega
  have hp : (kv (rest[i]).1, ev (rest[i]).2) = (e.key, e.val) := by
   have := congrArg (fun l => l[i]?) hl
   simp only [List.getElem?_map, List.getElem?_eq_getElem hi, List.getElem?_eq_getElem hi', Option.map_some, hie, Option.some.injEq] at this
   exact this.symm
  have hp1 := congrArg Prod.fst hp
  have hp2 := congrArg Prod.snd hp
  simp only at hp1 hp2
  have hr1 : w1.heap[r]? = some (.mapIter (some b) since seen c0) := by rcases hal with rfl | rfl <;> exact hr
  have hb1 : w1.heap[b]? = some (.map es clock) := by rcases hal with rfl | rfl <;> exact hb
  have hrs := lt_of_block hr1
  have hr2 : (ChangeMaps.setBlock w1 r (.mapIter (some b) since (seen.push e.born) clock)).heap[r]? = some (.mapIter (some b) since (seen.push e.born) clock) := by
   simp [ChangeMaps.setBlock, hrs]
  have hb2 : (ChangeMaps.setBlock w1 r (.mapIter (some b) since (seen.push e.born) clock)).heap[b]? = some (.map es clock) := by
   show (w1.heap.setIfInBounds r _)[b]? = _
   rw [Array.getElem?_setIfInBounds_ne hne]; exact hb1
  have hmem : e ∈ es.toList := by
   have : e ∈ (leftOf es seen).toList := he
   unfold leftOf at this
   simp only [Array.toList_filter, List.mem_filter] at this
   exact this.1
  refine ⟨rest.take i, rest[i], rest.drop (i + 1), _, ?_, by rw [hp1, hp2]; exact hrun, ⟨es, clock, since, seen.push e.born, clock, hb2, hst, hm, hk, hr2, hold, hsk, hsk, ?_⟩, ?_, ?_, ?_⟩
  ·rw [← List.drop_eq_getElem_cons hi', List.take_append_drop]
  ·have hnd : ((leftOf es seen).toList.map (·.born)).Nodup := by
    unfold leftOf
    simp only [Array.toList_filter]
    exact (List.filter_sublist.map _).nodup hst.2.1
   have e1 : (leftOf es (seen.push e.born)).toList = (leftOf es seen).toList.filter (fun x => !(x.born == e.born)) := by
    unfold leftOf
    simp only [Array.toList_filter, List.filter_filter]
    refine List.filter_congr (fun x _ => ?_)
    simp only [Array.contains_push, Bool.not_or, Bool.and_comm]
   have e2 : (leftOf es seen).toList.filter (fun x => !(x.born == e.born)) = (leftOf es seen).toList.take i ++ (leftOf es seen).toList.drop (i + 1) := by
    have hsplit : (leftOf es seen).toList = (leftOf es seen).toList.take i ++ e :: (leftOf es seen).toList.drop (i + 1) := by
     conv => lhs; rw [← List.take_append_drop i (leftOf es seen).toList]
     rw [List.drop_eq_getElem_cons hi, hie]
    generalize (leftOf es seen).toList.take i = A at hsplit ⊢
    generalize (leftOf es seen).toList.drop (i + 1) = C at hsplit ⊢
    rw [hsplit] at hnd ⊢
    simp only [List.map_append, List.map_cons, List.nodup_append, List.nodup_cons, List.mem_map, List.mem_cons] at hnd
    rw [List.filter_append, List.filter_cons, if_neg (by simp)]
    rw [List.filter_eq_self.2 (fun x hx => ?_), List.filter_eq_self.2 (fun x hx => ?_)]
    ·simp only [Bool.not_eq_true', beq_eq_false_iff_ne, ne_eq]
     exact fun ee => hnd.2.1.1 ⟨x, hx, ee⟩
    ·simp only [Bool.not_eq_true', beq_eq_false_iff_ne, ne_eq]
     exact fun ee => hnd.2.2 x.born ⟨x, hx, rfl⟩ e.born (Or.inl rfl) ee
   rw [e1, e2, List.map_append, List.map_take, List.map_drop, hl, List.map_append, List.map_take, List.map_drop]
  ·have h1 : Frm (fun i => i = r) w w1 := by rcases hal with rfl | rfl; exact Frm.refl _ _; exact (Frm.refl _ _).drew
   exact h1.set (Or.inl rfl) _
  ·rcases hal with rfl | rfl <;> simp [ChangeMaps.setBlock]
  ·rw [hp1, hp2]
   exact run_entry_at _ r b since seen es clock e hr2 hb2 hmem hst.2.1
section
variable {ops : Array Oper} {tail : List Oper} {o : Oper} {a : Act} {Q : Exit → Act → World → Prop}
end
end
/-- A region that draws its order, all of whose operations but those behind the first n only read: what is known of the world is told as F, the world gets a name. -/
theorem region_tail {P : Program} {id : Nat} {Q : Exit → Act → World → Prop} {a : Act} {w : World} {l : List Oper} (n : Nat) (hm : P.follows .mixedOrders = true) (hB : Region.lexTailB .any l.toArray n = true) (F : World → Prop) (hF : F w.drew)
  (h : ∀ w2, F w2 → wpStill P l.toArray w2 (fun a' => wpList P l.toArray Q (l.drop n) a' w2) (l.take n) a) : (Code.region id l.toArray true).wp P Q a w := wp_region_still_tail n hm hB (h _ hF)
/-- .. all of whose operations only read. -/
theorem region_still {P : Program} {id : Nat} {Q : Exit → Act → World → Prop} {a : Act} {w : World} {l : List Oper} (hm : P.follows .mixedOrders = true) (hB : Region.lexB .any l.toArray = true) (F : World → Prop) (hF : F w.drew)
  (h : ∀ w2, F w2 → wpStill P l.toArray w2 (fun a' => Q .normal a' w2) l a) : (Code.region id l.toArray true).wp P Q a w := wp_region_still_lit hm hB (h _ hF)
/-- A walk over operations that only read, shut: nothing looks into it. -/
structure WS (P : Program) (ops : Array Oper) (w : World) (Q : Act → Prop) (l : List Oper) (a : Act) : Prop where mk :: (out : wpStill P ops w Q l a)
/-- An operation whose guard is off. -/
theorem ws_skip {P : Program} {ops : Array Oper} {w : World} {Q : Act → Prop} {a a' : Act} {o : Oper} {rest : List Oper} (hw : Region.wanted o (yielded ops a.tmps) = false) (ha : a.put o.dst undef = a') (h : WS P ops w Q rest a') : WS P ops w Q (o :: rest) a := by
 subst ha
 refine ⟨wpStill_step fun K hK => ?_⟩
 rw [hw, if_neg (by simp)]
 exact hK _ h.out
/-- .. is on. -/
theorem ws_want {P : Program} {ops : Array Oper} {w : World} {Q : Act → Prop} {a a' : Act} {o : Oper} {rest : List Oper} {v : Value} (hw : Region.wanted o (yielded ops a.tmps) = true) (hrun : (execOp a.eval o).run P w = .ok (.value v) w) (ha : a.put o.dst v = a') (h : WS P ops w Q rest a') : WS P ops w Q (o :: rest) a := by
 subst ha
 refine ⟨wpStill_step fun K hK => ?_⟩
 rw [if_pos hw, Oper.still, hrun, Oper.stillUpon_value]
 exact hK _ h.out
theorem ws_nil {P : Program} {ops : Array Oper} {w : World} {Q : Act → Prop} {a : Act} (h : Q a) : WS P ops w Q [] a := ⟨h⟩
/-- A world gets a name. -/
theorem rebase {P : Program} {f : FuncId} {args : Array Value} {R : Ending → World → Prop} {w : World} (F : World → Prop) (hF : F w) (h : ∀ w2, F w2 → Calls P f args w2 R) : Calls P f args w R := h w hF
theorem MapOf.ne {κ α : Type} {P : Program} {kt : TypeId} {kv : κ → Value} {ev : α → Value} {w : World} {b r : Nat} {m : List (κ × α)} (h : MapOf P kt kv ev w b m) {c : Array Value} {e : TypeId} {f : Nat × Nat} (hb : w.heap[r]? = some (.cells c e f)) : r ≠ b := by
 rintro rfl
 exact h.not_cells hb
end Go.Proofs.YtlnbekaldemebaaGreatDoor.Thw
