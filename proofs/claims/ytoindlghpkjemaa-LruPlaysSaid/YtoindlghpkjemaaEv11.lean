/- Layer 11: the cache in memory, and what its calls do to it. -/
import Derived.Test.YtoindlghpkjemaaEv07
import Derived.Test.YtoindlghpkjemaaPlain11
import Derived.Deep.CutRange
import Derived.Deep.CutBlock
import Derived.RegionTactic
import Derived.BigRegion
namespace Go.Proofs.Ytoindlghpkjemaa.Thw
open Go Go.RowKit Go.Proofs.YtoindlghpkjemaaW.PrintWords Go.Proofs.YtoindlghpkjemaaW.PrintLast Go.Proofs.YtoindlghpkjemaaW.PrintMore
set_option linter.unusedVariables false
set_option linter.unusedSimpArgs false

/-- Item i of the cells. -/
structure ItC (arr : Array Value) (i : Nat) (x : It) : Prop where
  c0 : arr[1 + i * 5]? = some (.int .i64 x.seg)
  c1 : arr[1 + i * 5 + 1]? = some (.int .i64 x.n)
  c2 : arr[1 + i * 5 + 2]? = some (.string x.s)
  c3 : arr[1 + i * 5 + 3]? = some (.int .i64 x.newer)
  c4 : arr[1 + i * 5 + 4]? = some (.int .i64 x.older)
structure LruArr (arr : Array Value) (c : Lc) (fv mv : Value) : Prop where
  size : arr.size = 325
  most : arr[0]? = some (.int .i64 c.most)
  item : ∀ i, i < 64 → ItC arr i (c.it i)
  free : arr[321]? = some fv
  at_ : arr[322]? = some mv
  first : arr[323]? = some (.int .i64 c.first)
  last : arr[324]? = some (.int .i64 c.last)
def bkV (b : Bk) : Value := .agg #[.int .i64 b.1, .int .i64 b.2]
def LruAt (w : World) (A : Nat → Prop) (p : Nat) (c : Lc) : Prop :=
  ∃ arr fv mb, A p ∧ A mb ∧ w.heap[p]? = some (.cells arr 91) ∧ LruArr arr c fv (.map (some mb)) ∧ MapOf Try.prog 54 bkV (Value.int .i64) w mb c.m ∧ (Kd.int .i64).R 3 w 0 A fv c.fl
theorem arr_cell {w : World} {p t : Nat} {arr : Array Value} (h : w.heap[p]? = some (.cells arr t)) (k : Nat) : w.cell? ⟨p, k, none⟩ = arr[k]? ∧ w.frozen? ⟨p, k, none⟩ = false := by
  refine ⟨?_, ?_⟩ <;> simp [World.cell?, World.frozen?, h]
theorem LruArr.setFirst {arr : Array Value} {c : Lc} {fv mv : Value} (h : LruArr arr c fv mv) (v : Int) : LruArr (arr.setIfInBounds 323 (.int .i64 v)) { c with first := v } fv mv := by
  obtain ⟨hs, h0, h1, h2, h3, h4, h5⟩ := h
  have k : ∀ j, j ≠ 323 → (arr.setIfInBounds 323 (.int .i64 v))[j]? = arr[j]? := fun j hj => Array.getElem?_setIfInBounds_ne (fun e => hj e.symm)
  refine ⟨by simpa using hs, by rw [k _ (by omega)]; exact h0, fun i hi => ?_, by rw [k _ (by omega)]; exact h2, by rw [k _ (by omega)]; exact h3, by simp [hs], by rw [k _ (by omega)]; exact h5⟩
  obtain ⟨i0, i1, i2, i3, i4⟩ := h1 i hi
  exact ⟨by rw [k _ (by omega)]; exact i0, by rw [k _ (by omega)]; exact i1, by rw [k _ (by omega)]; exact i2, by rw [k _ (by omega)]; exact i3, by rw [k _ (by omega)]; exact i4⟩
theorem LruArr.setLast {arr : Array Value} {c : Lc} {fv mv : Value} (h : LruArr arr c fv mv) (v : Int) : LruArr (arr.setIfInBounds 324 (.int .i64 v)) { c with last := v } fv mv := by
  obtain ⟨hs, h0, h1, h2, h3, h4, h5⟩ := h
  have k : ∀ j, j ≠ 324 → (arr.setIfInBounds 324 (.int .i64 v))[j]? = arr[j]? := fun j hj => Array.getElem?_setIfInBounds_ne (fun e => hj e.symm)
  refine ⟨by simpa using hs, by rw [k _ (by omega)]; exact h0, fun i hi => ?_, by rw [k _ (by omega)]; exact h2, by rw [k _ (by omega)]; exact h3, by rw [k _ (by omega)]; exact h4, by simp [hs]⟩
  obtain ⟨i0, i1, i2, i3, i4⟩ := h1 i hi
  exact ⟨by rw [k _ (by omega)]; exact i0, by rw [k _ (by omega)]; exact i1, by rw [k _ (by omega)]; exact i2, by rw [k _ (by omega)]; exact i3, by rw [k _ (by omega)]; exact i4⟩
/-- The list of the free ones has another value. -/
theorem LruArr.setFree {arr : Array Value} {c : Lc} {fv mv : Value} (h : LruArr arr c fv mv) (v : Value) (fl : List Int) : LruArr (arr.setIfInBounds 321 v) { c with fl := fl } v mv := by
  obtain ⟨hs, h0, h1, h2, h3, h4, h5⟩ := h
  have k : ∀ j, j ≠ 321 → (arr.setIfInBounds 321 v)[j]? = arr[j]? := fun j hj => Array.getElem?_setIfInBounds_ne (fun e => hj e.symm)
  refine ⟨by simpa using hs, by rw [k _ (by omega)]; exact h0, fun i hi => ?_, by simp [hs], by rw [k _ (by omega)]; exact h3, by rw [k _ (by omega)]; exact h4, by rw [k _ (by omega)]; exact h5⟩
  obtain ⟨i0, i1, i2, i3, i4⟩ := h1 i hi
  exact ⟨by rw [k _ (by omega)]; exact i0, by rw [k _ (by omega)]; exact i1, by rw [k _ (by omega)]; exact i2, by rw [k _ (by omega)]; exact i3, by rw [k _ (by omega)]; exact i4⟩
theorem LruArr.setN {arr : Array Value} {c : Lc} {fv mv : Value} (h : LruArr arr c fv mv) {j : Nat} (hj : j < 64) (v : Int) : LruArr (arr.setIfInBounds (1 + j * 5 + 3) (.int .i64 v)) { c with it := Thw.setN c.it j v } fv mv := by
  obtain ⟨hs, h0, h1, h2, h3, h4, h5⟩ := h
  have k : ∀ q, q ≠ 1 + j * 5 + 3 → (arr.setIfInBounds (1 + j * 5 + 3) (.int .i64 v))[q]? = arr[q]? := fun q hq => Array.getElem?_setIfInBounds_ne (fun e => hq e.symm)
  refine ⟨by simpa using hs, by rw [k _ (by omega)]; exact h0, fun i hi => ?_, by rw [k _ (by omega)]; exact h2, by rw [k _ (by omega)]; exact h3, by rw [k _ (by omega)]; exact h4, by rw [k _ (by omega)]; exact h5⟩
  obtain ⟨i0, i1, i2, i3, i4⟩ := h1 i hi
  by_cases e : i = j
  · subst e
    simp only [Thw.setN, upd_same]
    exact ⟨by rw [k _ (by omega)]; exact i0, by rw [k _ (by omega)]; exact i1, by rw [k _ (by omega)]; exact i2, by rw [Array.getElem?_setIfInBounds_self_of_lt (by omega)], by rw [k _ (by omega)]; exact i4⟩
  · simp only [Thw.setN]
    rw [upd_other _ _ e]
    exact ⟨by rw [k _ (by omega)]; exact i0, by rw [k _ (by omega)]; exact i1, by rw [k _ (by omega)]; exact i2, by rw [k _ (by omega)]; exact i3, by rw [k _ (by omega)]; exact i4⟩
theorem LruArr.setO {arr : Array Value} {c : Lc} {fv mv : Value} (h : LruArr arr c fv mv) {j : Nat} (hj : j < 64) (v : Int) : LruArr (arr.setIfInBounds (1 + j * 5 + 4) (.int .i64 v)) { c with it := Thw.setO c.it j v } fv mv := by
  obtain ⟨hs, h0, h1, h2, h3, h4, h5⟩ := h
  have k : ∀ q, q ≠ 1 + j * 5 + 4 → (arr.setIfInBounds (1 + j * 5 + 4) (.int .i64 v))[q]? = arr[q]? := fun q hq => Array.getElem?_setIfInBounds_ne (fun e => hq e.symm)
  refine ⟨by simpa using hs, by rw [k _ (by omega)]; exact h0, fun i hi => ?_, by rw [k _ (by omega)]; exact h2, by rw [k _ (by omega)]; exact h3, by rw [k _ (by omega)]; exact h4, by rw [k _ (by omega)]; exact h5⟩
  obtain ⟨i0, i1, i2, i3, i4⟩ := h1 i hi
  by_cases e : i = j
  · subst e
    simp only [Thw.setO, upd_same]
    exact ⟨by rw [k _ (by omega)]; exact i0, by rw [k _ (by omega)]; exact i1, by rw [k _ (by omega)]; exact i2, by rw [k _ (by omega)]; exact i3, by rw [Array.getElem?_setIfInBounds_self_of_lt (by omega)]⟩
  · simp only [Thw.setO]
    rw [upd_other _ _ e]
    exact ⟨by rw [k _ (by omega)]; exact i0, by rw [k _ (by omega)]; exact i1, by rw [k _ (by omega)]; exact i2, by rw [k _ (by omega)]; exact i3, by rw [k _ (by omega)]; exact i4⟩
section
variable {w w' : World} {A A' S : Nat → Prop} {p : Nat} {c c' : Lc}
theorem LruAt.lt (h : LruAt w A p c) : p < w.heap.size := by
  obtain ⟨arr, fv, mb, a1, a2, hb, ha, hm, hq⟩ := h
  exact blk_lt hb
theorem LruAt.own (h : LruAt w A p c) : A p := by
  obtain ⟨arr, fv, mb, a1, a2, hb, ha, hm, hq⟩ := h
  exact a1
theorem LruAt.mono (h : LruAt w A p c) (hA : ∀ k, k < w.heap.size → A k → A' k) : LruAt w A' p c := by
  obtain ⟨arr, fv, mb, a1, a2, hb, ha, hm, hq⟩ := h
  exact ⟨arr, fv, mb, hA _ (blk_lt hb) a1, hA _ hm.lt a2, hb, ha, hm, Kd.R_mono (Kd.R_bound hq) (fun k hk => hA k hk.2.2.1 hk.1)⟩
theorem LruAt.frm (h : LruAt w A p c) (hf : Frm S w w') (hn : ∀ k, k < w.heap.size → A k → ¬ S k) : LruAt w' A p c := by
  obtain ⟨arr, fv, mb, a1, a2, hb, ha, hm, hq⟩ := h
  exact ⟨arr, fv, mb, a1, a2, hf.keeps hb (hn _ (blk_lt hb) a1), ha, hm.frm hf (hn _ hm.lt a2), Kd.R_step hq (fun k ho hlt => hf.block k hlt (hn k hlt ho))⟩
theorem LruAt.below (h : LruAt w A p c) (hb : Below w.heap.size w w') : LruAt w' A p c := h.frm (S := None') (Frm.of_new hb) (fun _ _ _ x => x)
theorem LruAt.alloc (h : LruAt w A p c) (o : Obj) : LruAt (w.alloc o) A p c := h.frm (S := None') ((Frm.refl _ w).alloc o) (fun _ _ _ x => x)
theorem LruAt.drew (h : LruAt w A p c) : LruAt w.drew A p c := h.frm (S := None') (Frm.refl _ w).drew (fun _ _ _ x => x)
theorem LruAt.bound (h : LruAt w A p c) : LruAt w (fun k => A k ∧ k < w.heap.size) p c := h.mono fun _ hk ha => ⟨ha, hk⟩
/-- A cell is written. -/
theorem LruAt.store (h : LruAt w A p c) (k : Nat) (v : Value) (hs : ∀ arr fv mv, LruArr arr c fv mv → LruArr (arr.setIfInBounds k v) c' fv mv) (hfl : c'.fl = c.fl) (hm' : c'.m = c.m) : LruAt (w.setCell ⟨p, k, none⟩ v) A p c' := by
  obtain ⟨arr, fv, mb, a1, a2, hb, ha, hm, hq⟩ := h
  refine ⟨_, fv, mb, a1, a2, blk_set hb k v, hs _ _ _ ha, ?_, ?_⟩
  · rw [hm']; exact hm.frm ((Frm.refl (fun i => i = p) _).setCell (Or.inl rfl) _) (fun e => (MapOf.ne hm hb) e.symm)
  · rw [hfl]; exact Kd.R_set hq hb (by decide) k v
theorem LruAt.setFirst (h : LruAt w A p c) (v : Int) : LruAt (w.setCell ⟨p, 323, none⟩ (.int .i64 v)) A p { c with first := v } := h.store 323 _ (fun _ _ _ h => h.setFirst v) rfl rfl
theorem LruAt.setLast (h : LruAt w A p c) (v : Int) : LruAt (w.setCell ⟨p, 324, none⟩ (.int .i64 v)) A p { c with last := v } := h.store 324 _ (fun _ _ _ h => h.setLast v) rfl rfl
theorem LruAt.setN (h : LruAt w A p c) {j : Nat} (hj : j < 64) (v : Int) : LruAt (w.setCell ⟨p, 1 + j * 5 + 3, none⟩ (.int .i64 v)) A p { c with it := Thw.setN c.it j v } := h.store _ _ (fun _ _ _ h => h.setN hj v) rfl rfl
theorem LruAt.setO (h : LruAt w A p c) {j : Nat} (hj : j < 64) (v : Int) : LruAt (w.setCell ⟨p, 1 + j * 5 + 4, none⟩ (.int .i64 v)) A p { c with it := Thw.setO c.it j v } := h.store _ _ (fun _ _ _ h => h.setO hj v) rfl rfl
/-- What there is to be read. -/
theorem LruAt.see (h : LruAt w A p c) : w.cell? ⟨p, 0, none⟩ = some (.int .i64 c.most) ∧ w.cell? ⟨p, 323, none⟩ = some (.int .i64 c.first) ∧ w.cell? ⟨p, 324, none⟩ = some (.int .i64 c.last) ∧ ∀ k, w.frozen? ⟨p, k, none⟩ = false := by
  obtain ⟨arr, fv, mb, a1, a2, hb, ha, hm, hq⟩ := h
  exact ⟨(arr_cell hb 0).1.trans ha.most, (arr_cell hb _).1.trans ha.first, (arr_cell hb _).1.trans ha.last, fun k => (arr_cell hb k).2⟩
theorem LruAt.item (h : LruAt w A p c) {i : Nat} (hi : i < 64) : w.cell? ⟨p, 1 + i * 5, none⟩ = some (.int .i64 (c.it i).seg) ∧ w.cell? ⟨p, 1 + i * 5 + 1, none⟩ = some (.int .i64 (c.it i).n) ∧ w.cell? ⟨p, 1 + i * 5 + 2, none⟩ = some (.string (c.it i).s) ∧
    w.cell? ⟨p, 1 + i * 5 + 3, none⟩ = some (.int .i64 (c.it i).newer) ∧ w.cell? ⟨p, 1 + i * 5 + 4, none⟩ = some (.int .i64 (c.it i).older) := by
  obtain ⟨arr, fv, mb, a1, a2, hb, ha, hm, hq⟩ := h
  obtain ⟨i0, i1, i2, i3, i4⟩ := ha.item i hi
  exact ⟨(arr_cell hb _).1.trans i0, (arr_cell hb _).1.trans i1, (arr_cell hb _).1.trans i2, (arr_cell hb _).1.trans i3, (arr_cell hb _).1.trans i4⟩
theorem LruAt.parts (h : LruAt w A p c) : ∃ fv mb, A mb ∧ w.cell? ⟨p, 321, none⟩ = some fv ∧ w.cell? ⟨p, 322, none⟩ = some (.map (some mb)) ∧ MapOf Try.prog 54 bkV (Value.int .i64) w mb c.m ∧ (Kd.int .i64).R 3 w 0 (fun k => A k ∧ k ≠ p) fv c.fl ∧ mb ≠ p := by
  obtain ⟨arr, fv, mb, a1, a2, hb, ha, hm, hq⟩ := h
  exact ⟨fv, mb, a2, (arr_cell hb _).1.trans ha.free, (arr_cell hb _).1.trans ha.at_, hm, Kd.R_types hq hb (by decide), fun e => (MapOf.ne hm hb) e.symm⟩
end
def Ref1 (v : Int) : Prop := v = -1 ∨ ∃ j : Nat, j < 64 ∧ v = (j : Int)
theorem cells2' {w : World} {s : Nat} {v0 v1 : Value} {t : TypeId} (h : w.heap[s]? = some (.cells #[v0, v1] t)) :
    w.cell? ⟨s, 0, none⟩ = some v0 ∧ w.cell? ⟨s, 1, none⟩ = some v1 ∧ ∀ i, w.frozen? ⟨s, i, none⟩ = false := by
  refine ⟨?_, ?_, fun i => ?_⟩ <;> simp [World.cell?, World.frozen?, h]
theorem cells5' {w : World} {s : Nat} {v0 v1 v2 v3 v4 : Value} {t : TypeId} (h : w.heap[s]? = some (.cells #[v0, v1, v2, v3, v4] t)) :
    w.cell? ⟨s, 0, none⟩ = some v0 ∧ w.cell? ⟨s, 1, none⟩ = some v1 ∧ w.cell? ⟨s, 2, none⟩ = some v2 ∧ w.cell? ⟨s, 3, none⟩ = some v3 ∧ w.cell? ⟨s, 4, none⟩ = some v4 ∧ ∀ i, w.frozen? ⟨s, i, none⟩ = false := by
  refine ⟨?_, ?_, ?_, ?_, ?_, fun i => ?_⟩ <;> simp [World.cell?, World.frozen?, h]
set_option maxHeartbeats 3200000 in
set_option maxRecDepth 100000 in
theorem lru_off.calls (w : World) (A : Nat → Prop) (p : Nat) (c : Lc) (h : LruAt w A p c) (i : Nat) (hi : i < 64) (hn : Ref1 (c.it i).newer) (ho : Ref1 (c.it i).older) :
    Calls Try.prog 47 #[.pointer (some ⟨p, 0, none⟩), .int .i64 i] w fun e w' => e = .returned (.tuple #[]) ∧ LruAt w' A p (c.off i) ∧ Frm A w w' := by
  have HL := Aside0.mk h
  have HO := Aside0.mk h.own
  have hlt := h.lt
  obtain ⟨i0, i1, i2, i3, i4⟩ := h.item hi
  obtain ⟨s0, s1, s2, s3⟩ := h.see
  clear h
  rcases hn with hn | ⟨j, hj, hn⟩ <;> rcases ho with ho | ⟨q, hq, ho⟩
  · rw [hn] at i3
    rw [ho] at i4
    go_enter Try.func47, Try.ntmps47
    go_wp2_with fail
    go_end0
    refine ⟨rfl, ?_, ((((Frm.refl A w).setCell (p := ⟨p, 323, none⟩) (Or.inl HO.out) (.int .i64 (-1))).setCell (p := ⟨p, 324, none⟩) (Or.inl HO.out) (.int .i64 (-1))).alloc (.cells #[.int .i64 (c.it i).seg, .int .i64 (c.it i).n, .string (c.it i).s, .int .i64 (-1), .int .i64 (-1)] 88))⟩
    have e : c.off i = { c with first := -1, last := -1 } := by
      unfold Lc.off
      simp [hn, ho]
    rw [e]
    exact (((HL.out).setFirst (-1)).setLast (-1)).alloc (.cells #[.int .i64 (c.it i).seg, .int .i64 (c.it i).n, .string (c.it i).s, .int .i64 (-1), .int .i64 (-1)] 88)
  · rw [hn] at i3
    rw [ho] at i4
    go_enter Try.func47, Try.ntmps47
    go_wp2_with fail
    clear i0 i1 i2 i3 i4 s0 s1 s2 s3

    refine region_tail 9 (by kernel_rfl) (by kernel_rfl) (fun W => W.heap[w.heap.size]? = some (.cells #[.int .i64 (c.it i).seg, .int .i64 (c.it i).n, .string (c.it i).s, .int .i64 (-1), .int .i64 q] 88) ∧ LruAt W A p { c with first := q } ∧ Frm A w W) ⟨blk_drew (by have := blk_new (w.setCell ⟨p, 323, none⟩ (.int .i64 q)) (.cells #[.int .i64 (c.it i).seg, .int .i64 (c.it i).n, .string (c.it i).s, .int .i64 (-1), .int .i64 q] 88); simpa using this), (((HL.out).setFirst q).alloc (.cells #[.int .i64 (c.it i).seg, .int .i64 (c.it i).n, .string (c.it i).s, .int .i64 (-1), .int .i64 q] 88)).drew, (((Frm.refl A w).setCell (p := ⟨p, 323, none⟩) (Or.inl HO.out) (.int .i64 q)).alloc (.cells #[.int .i64 (c.it i).seg, .int .i64 (c.it i).n, .string (c.it i).s, .int .i64 (-1), .int .i64 q] 88)).drew⟩ ?_
    skip
    rintro w4 ⟨x4, l4, f4⟩
    obtain ⟨d0, d1, d2, d3, d4, dr⟩ := cells5' x4
    obtain ⟨j0, j1, j2, j3, j4⟩ := l4.item hq
    obtain ⟨s0, s1, s2, s3⟩ := l4.see
    have X4 := Aside0.mk x4
    have L4 := Aside0.mk l4
    have F4 := Aside0.mk f4
    clear x4 l4 f4
    have z0 : 0 ≤ (q : Int) := by omega
    have z1 : (q : Int) < 64 := by omega
    simp only [List.take_succ_cons, List.take_zero, List.drop_succ_cons, List.drop_zero]
    repeat still_step
    refine wpStill_nil ?_
    go_wp2_with fail
    clear j0 j1 j2 j3 j4 s0 s1 s2 s3 d0 d1 d2 d3 d4 dr z0 z1
    go_wp2_with fail
    go_end0
    refine ⟨rfl, ?_, (F4.out.setCell (p := ⟨p, 1 + q * 5 + 3, none⟩) (Or.inl HO.out) (.int .i64 (-1)))⟩
    have e : c.off i = { c with first := q, it := Thw.setN c.it q (-1) } := by
      unfold Lc.off
      simp [hn, ho]
    rw [e]
    exact L4.out.setN hq (-1)
  · rw [hn] at i3
    rw [ho] at i4
    go_enter Try.func47, Try.ntmps47
    go_wp2_with fail
    clear i0 i1 i2 i3 i4 s0 s1 s2 s3

    refine region_tail 9 (by kernel_rfl) (by kernel_rfl) (fun W => W.heap[w.heap.size]? = some (.cells #[.int .i64 (c.it i).seg, .int .i64 (c.it i).n, .string (c.it i).s, .int .i64 j, .int .i64 (-1)] 88) ∧ LruAt W A p c ∧ Frm A w W) ⟨blk_drew (blk_new w (.cells #[.int .i64 (c.it i).seg, .int .i64 (c.it i).n, .string (c.it i).s, .int .i64 j, .int .i64 (-1)] 88)), ((HL.out).alloc (.cells #[.int .i64 (c.it i).seg, .int .i64 (c.it i).n, .string (c.it i).s, .int .i64 j, .int .i64 (-1)] 88)).drew, ((Frm.refl A w).alloc (.cells #[.int .i64 (c.it i).seg, .int .i64 (c.it i).n, .string (c.it i).s, .int .i64 j, .int .i64 (-1)] 88)).drew⟩ ?_
    skip
    rintro w2 ⟨x2, l2, f2⟩
    obtain ⟨d0, d1, d2, d3, d4, dr⟩ := cells5' x2
    obtain ⟨j0, j1, j2, j3, j4⟩ := l2.item hj
    obtain ⟨s0, s1, s2, s3⟩ := l2.see
    have X2 := Aside0.mk x2
    have L2 := Aside0.mk l2
    have F2 := Aside0.mk f2
    clear x2 l2 f2
    have z0 : 0 ≤ (j : Int) := by omega
    have z1 : (j : Int) < 64 := by omega
    simp only [List.take_succ_cons, List.take_zero, List.drop_succ_cons, List.drop_zero]
    repeat still_step
    refine wpStill_nil ?_
    go_wp2_with fail
    clear j0 j1 j2 j3 j4 s0 s1 s2 s3 d0 d1 d2 d3 d4 dr z0 z1
    have hx3 := blk_far X2.out (p := ⟨p, 1 + j * 5 + 4, none⟩) (by simpa using (Nat.ne_of_lt hlt).symm) (.int .i64 (-1))
    obtain ⟨d0, d1, d2, d3, d4, dr⟩ := cells5' hx3
    obtain ⟨s0, s1, s2, s3⟩ := (L2.out.setO hj (-1)).see
    go_wp2_with fail
    go_end0
    refine ⟨rfl, ?_, ((F2.out.setCell (p := ⟨p, 1 + j * 5 + 4, none⟩) (Or.inl HO.out) (.int .i64 (-1))).setCell (p := ⟨p, 324, none⟩) (Or.inl HO.out) (.int .i64 j))⟩
    have e : c.off i = { c with last := j, it := Thw.setO c.it j (-1) } := by
      unfold Lc.off
      simp [hn, ho]
    rw [e]
    exact (L2.out.setO hj (-1)).setLast j
  · rw [hn] at i3
    rw [ho] at i4
    go_enter Try.func47, Try.ntmps47
    go_wp2_with fail
    clear i0 i1 i2 i3 i4 s0 s1 s2 s3

    refine region_tail 9 (by kernel_rfl) (by kernel_rfl) (fun W => W.heap[w.heap.size]? = some (.cells #[.int .i64 (c.it i).seg, .int .i64 (c.it i).n, .string (c.it i).s, .int .i64 j, .int .i64 q] 88) ∧ LruAt W A p c ∧ Frm A w W) ⟨blk_drew (blk_new w (.cells #[.int .i64 (c.it i).seg, .int .i64 (c.it i).n, .string (c.it i).s, .int .i64 j, .int .i64 q] 88)), ((HL.out).alloc (.cells #[.int .i64 (c.it i).seg, .int .i64 (c.it i).n, .string (c.it i).s, .int .i64 j, .int .i64 q] 88)).drew, ((Frm.refl A w).alloc (.cells #[.int .i64 (c.it i).seg, .int .i64 (c.it i).n, .string (c.it i).s, .int .i64 j, .int .i64 q] 88)).drew⟩ ?_
    skip
    rintro w2 ⟨x2, l2, f2⟩
    obtain ⟨d0, d1, d2, d3, d4, dr⟩ := cells5' x2
    obtain ⟨j0, j1, j2, j3, j4⟩ := l2.item hj
    obtain ⟨s0, s1, s2, s3⟩ := l2.see
    have X2 := Aside0.mk x2
    have L2 := Aside0.mk l2
    have F2 := Aside0.mk f2
    clear x2 l2 f2
    have z0 : 0 ≤ (j : Int) := by omega
    have z1 : (j : Int) < 64 := by omega
    simp only [List.take_succ_cons, List.take_zero, List.drop_succ_cons, List.drop_zero]
    repeat still_step
    refine wpStill_nil ?_
    go_wp2_with fail
    clear j0 j1 j2 j3 j4 s0 s1 s2 s3 d0 d1 d2 d3 d4 dr z0 z1
    have hx3 := blk_far X2.out (p := ⟨p, 1 + j * 5 + 4, none⟩) (by simpa using (Nat.ne_of_lt hlt).symm) (.int .i64 q)
    obtain ⟨d0, d1, d2, d3, d4, dr⟩ := cells5' hx3
    obtain ⟨s0, s1, s2, s3⟩ := (L2.out.setO hj q).see
    go_wp2_with fail
    clear s0 s1 s2 s3
    clear d0 d1 d2 d3 d4 dr
    refine region_tail 9 (by kernel_rfl) (by kernel_rfl) (fun W => W.heap[w.heap.size]? = some (.cells #[.int .i64 (c.it i).seg, .int .i64 (c.it i).n, .string (c.it i).s, .int .i64 j, .int .i64 q] 88) ∧ LruAt W A p { c with it := Thw.setO c.it j q } ∧ Frm A w W) ⟨blk_drew hx3, (L2.out.setO hj q).drew, (F2.out.setCell (p := ⟨p, 1 + j * 5 + 4, none⟩) (Or.inl HO.out) (.int .i64 q)).drew⟩ ?_
    clear hx3
    rintro w4 ⟨x4, l4, f4⟩
    obtain ⟨d0, d1, d2, d3, d4, dr⟩ := cells5' x4
    obtain ⟨j0, j1, j2, j3, j4⟩ := l4.item hq
    obtain ⟨s0, s1, s2, s3⟩ := l4.see
    have X4 := Aside0.mk x4
    have L4 := Aside0.mk l4
    have F4 := Aside0.mk f4
    clear x4 l4 f4
    have z0 : 0 ≤ (q : Int) := by omega
    have z1 : (q : Int) < 64 := by omega
    simp only [List.take_succ_cons, List.take_zero, List.drop_succ_cons, List.drop_zero]
    repeat still_step
    refine wpStill_nil ?_
    go_wp2_with fail
    clear j0 j1 j2 j3 j4 s0 s1 s2 s3 d0 d1 d2 d3 d4 dr z0 z1
    go_wp2_with fail
    go_end0
    refine ⟨rfl, ?_, (F4.out.setCell (p := ⟨p, 1 + q * 5 + 3, none⟩) (Or.inl HO.out) (.int .i64 j))⟩
    have e : c.off i = { c with it := Thw.setN (Thw.setO c.it j q) q j } := by
      unfold Lc.off
      simp [hn, ho]
    rw [e]
    exact L4.out.setN hq j
end Go.Proofs.Ytoindlghpkjemaa.Thw
