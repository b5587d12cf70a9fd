/- Layer 11: forget. -/
import Derived.Test.YtoindlghpkjemaaEv11b
namespace Go.Proofs.Ytoindlghpkjemaa.Thw
open Go Go.RowKit Go.Proofs.YtoindlghpkjemaaW.PrintWords Go.Proofs.YtoindlghpkjemaaW.PrintLast Go.Proofs.YtoindlghpkjemaaW.PrintMore
set_option linter.unusedVariables false
set_option linter.unusedSimpArgs false
def It.fld (x : It) : Nat → Value
  | 0 => .int .i64 x.seg
  | 1 => .int .i64 x.n
  | 2 => .string x.s
  | 3 => .int .i64 x.newer
  | _ => .int .i64 x.older
theorem ItC.all {arr : Array Value} {i : Nat} {x : It} (h : ItC arr i x) : ∀ r, r < 5 → arr[1 + i * 5 + r]? = some (x.fld r)
  | 0, _ => h.c0
  | 1, _ => h.c1
  | 2, _ => h.c2
  | 3, _ => h.c3
  | 4, _ => h.c4
  | _ + 5, h => by omega
theorem ItC.mk' {arr : Array Value} {i : Nat} {x : It} (h : ∀ r, r < 5 → arr[1 + i * 5 + r]? = some (x.fld r)) : ItC arr i x :=
  ⟨h 0 (by omega), h 1 (by omega), h 2 (by omega), h 3 (by omega), h 4 (by omega)⟩
theorem upd_upd (f : Nat → It) (i : Nat) (x y : It) : upd (upd f i x) i y = upd f i y := by
  funext j
  unfold upd
  split <;> rfl
theorem LruArr.setF {arr : Array Value} {c : Lc} {fv mv : Value} (h : LruArr arr c fv mv) {j : Nat} (hj : j < 64) (q : Nat) (hq : q < 5) (v : Value) (x : It) (hx : ∀ r, r < 5 → x.fld r = if r = q then v else (c.it j).fld r) : LruArr (arr.setIfInBounds (1 + j * 5 + q) v) { c with it := upd c.it j x } fv mv := by
  obtain ⟨hs, h0, h1, h2, h3, h4, h5⟩ := h
  have k : ∀ z, z ≠ 1 + j * 5 + q → (arr.setIfInBounds (1 + j * 5 + q) v)[z]? = arr[z]? := fun z hz => Array.getElem?_setIfInBounds_ne (fun e => hz e.symm)
  refine ⟨by simpa using hs, by rw [k _ (by omega)]; exact h0, fun i hi => ItC.mk' fun r hr => ?_, by rw [k _ (by omega)]; exact h2, by rw [k _ (by omega)]; exact h3, by rw [k _ (by omega)]; exact h4, by rw [k _ (by omega)]; exact h5⟩
  have hc := (h1 i hi).all r hr
  by_cases e : i = j
  · subst e
    show _ = some ((upd c.it i x i).fld r)
    rw [upd_same, hx r hr]
    by_cases er : r = q
    · subst er
      rw [if_pos rfl, Array.getElem?_setIfInBounds_self_of_lt (by omega)]
    · rw [if_neg er, k _ (by omega)]; exact hc
  · show _ = some ((upd c.it j x i).fld r)
    rw [upd_other _ _ e, k _ (by omega)]; exact hc
theorem LruAt.setItem {w : World} {A : Nat → Prop} {p : Nat} {c : Lc} (h : LruAt w A p c) {i : Nat} (hi : i < 64) (x : It) :
    LruAt (((((w.setCell ⟨p, 1 + i * 5, none⟩ (.int .i64 x.seg)).setCell ⟨p, 1 + i * 5 + 1, none⟩ (.int .i64 x.n)).setCell ⟨p, 1 + i * 5 + 2, none⟩ (.string x.s)).setCell ⟨p, 1 + i * 5 + 3, none⟩ (.int .i64 x.newer)).setCell ⟨p, 1 + i * 5 + 4, none⟩ (.int .i64 x.older)) A p { c with it := upd c.it i x } := by
  have s : ∀ {w : World} {c : Lc} (h : LruAt w A p c) (q : Nat) (hq : q < 5) (v : Value) (y : It), (∀ r, r < 5 → y.fld r = if r = q then v else (c.it i).fld r) → LruAt (w.setCell ⟨p, 1 + i * 5 + q, none⟩ v) A p { c with it := upd c.it i y } :=
    fun h q hq v y hy => h.store _ _ (fun _ _ _ ha => ha.setF hi q hq v y hy) rfl rfl
  have five : ∀ (P : Nat → Prop), P 0 → P 1 → P 2 → P 3 → P 4 → ∀ r, r < 5 → P r := fun P a b c d e r hr => by
    match r, hr with
    | 0, _ => exact a
    | 1, _ => exact b
    | 2, _ => exact c
    | 3, _ => exact d
    | 4, _ => exact e
  have h1 := s h 0 (by omega) (.int .i64 x.seg) { c.it i with seg := x.seg } (five _ rfl rfl rfl rfl rfl)
  have h2 := s h1 1 (by omega) (.int .i64 x.n) { c.it i with seg := x.seg, n := x.n } (by simp only [upd_same]; exact five _ rfl rfl rfl rfl rfl)
  have h3 := s h2 2 (by omega) (.string x.s) { c.it i with seg := x.seg, n := x.n, s := x.s } (by simp only [upd_same]; exact five _ rfl rfl rfl rfl rfl)
  have h4 := s h3 3 (by omega) (.int .i64 x.newer) { x with older := (c.it i).older } (by simp only [upd_same]; exact five _ rfl rfl rfl rfl rfl)
  have h5 := s h4 4 (by omega) (.int .i64 x.older) x (by simp only [upd_same]; exact five _ rfl rfl rfl rfl rfl)
  simp only [upd_upd] at h5
  exact h5
section
variable {w w' : World} {A A' S : Nat → Prop} {p : Nat} {c c' : Lc}
/-- The map has turned. -/
theorem LruAt.mapTo (h : LruAt w A p c) {mb : Nat} (hc : w.cell? ⟨p, 322, none⟩ = some (.map (some mb))) {m : List (Bk × Int)} (hm : MapOf Try.prog 54 bkV (Value.int .i64) w' mb m) (hf : Frm (fun i => i = mb) w w') : LruAt w' A p { c with m := m } := by
  obtain ⟨arr, fv, mb', a1, a2, hb, ha, hm', hq⟩ := h
  have e := (arr_cell hb 322).1.trans ha.at_
  rw [hc] at e
  obtain rfl : mb = mb' := by simpa using e
  obtain ⟨es, cl, hes, _⟩ := hm'
  exact ⟨arr, fv, mb, a1, a2, hf.keeps hb (fun e => by rw [e] at hb; rw [hes] at hb; cases hb), { ha with }, hm, Kd.R_mono (Kd.R_step (Kd.R_bound hq) (fun k hk hlt => hf.block k hlt (fun e => by obtain ⟨_, _, _, q, _, cs, hcs⟩ := hk; rw [e, hes] at hcs; cases hcs))) (fun _ hk => hk.1)⟩
/-- The row of the free ones has turned. -/
theorem LruAt.regrown (h : LruAt w A p c) {fv : Value} (hfv : w.cell? ⟨p, 321, none⟩ = some fv) {w1 : World} (hg : w.grownBy w1 fv.ownBlock) {v1 : Value} {fl : List Int} (hR : (Kd.int .i64).R 3 w1 0 (gr A w) v1 fl) : LruAt (w1.setCell ⟨p, 321, none⟩ v1) (gr A w) p { c with fl := fl } ∧ Frm A w (w1.setCell ⟨p, 321, none⟩ v1) ∧ w1.cell? ⟨p, 321, none⟩ = some fv ∧ ∀ k, w1.frozen? ⟨p, k, none⟩ = false := by
  obtain ⟨arr, fv', mb, a1, a2, hb, ha, hm, hq⟩ := h
  have e := (arr_cell hb 321).1.trans ha.free
  rw [hfv] at e
  obtain rfl : fv = fv' := by simpa using e
  have hqb := Kd.R_bound (Kd.R_types hq hb (by decide))
  have hne : ∀ k, fv.ownBlock = some k → A k ∧ k ≠ p ∧ k ≠ mb := fun k hk => by
    obtain ⟨⟨h1, h2⟩, _, _, q, _, cs, hcs⟩ := hqb.1 k hk
    refine ⟨h1, h2, ?_⟩
    rintro rfl
    obtain ⟨es, cl, hes, _⟩ := hm
    rw [hes] at hcs; cases hcs
  have hbp : w1.heap[p]? = some (.cells arr 91) := (hg.block p (blk_lt hb) (fun e => (hne p e.symm).2.1 rfl)).trans hb
  have hm1 : w1.heap[mb]? = w.heap[mb]? := hg.block mb hm.lt (fun e => (hne mb e.symm).2.2 rfl)
  have hfr : Frm A w w1 := ⟨hg.os, hg.tape, hg.output, hg.size, fun k hk hn => hg.block k hk (fun e => hn (hne k e.symm).1)⟩
  refine ⟨⟨_, v1, mb, Or.inl a1, Or.inl a2, blk_set hbp 321 v1, ha.setFree v1 fl, ?_, Kd.R_set hR hbp (by decide) 321 v1⟩, hfr.setCell (Or.inl a1) _, (arr_cell hbp 321).1.trans ha.free, fun k => (arr_cell hbp k).2⟩
  exact (hm.at' hm1).frm ((Frm.refl (fun i => i = p) _).setCell (Or.inl rfl) _) (fun e => (MapOf.ne hm hb) e.symm)
end
set_option maxHeartbeats 3200000 in
set_option maxRecDepth 100000 in
theorem lru_forget.calls (w : World) (A : Nat → Prop) (p : Nat) (c : Lc) (h : LruAt w A p c) (i : Nat) (hi : i < 64) (hn : Ref1 (c.it i).newer) (ho : Ref1 (c.it i).older) (hk : BkOk (c.it i).blk) (hl : c.fl.length ≤ 1000) :
    Calls Try.prog 50 #[.pointer (some ⟨p, 0, none⟩), .int .i64 i] w fun e w' => e = .returned (.tuple #[]) ∧ LruAt w' (gr A w) p (c.forget i) ∧ Frm A w w' := by
  have HO := Aside0.mk h.own
  have HK := Aside0.mk hk
  have HOFF := Aside0.mk (lru_off.calls w A p c h i hi hn ho)
  have z0 : 0 ≤ (i : Int) := by omega
  have z1 : (i : Int) < 64 := by omega
  clear h hn ho hk
  go_enter Try.func50, Try.ntmps50
  go_wp2_with fail
  refine HOFF.out.mono ?_
  rintro e w1 ⟨rfl, h1, f1⟩
  have H1 := Aside0.mk h1
  have F1 := Aside0.mk f1
  clear h1 f1
  go_wp2_with fail
  refine region_tail 11 (by kernel_rfl) (by kernel_rfl) (fun W => LruAt W A p (c.off i) ∧ Frm A w W) ⟨H1.out.drew, F1.out.drew⟩ ?_
  rintro w2 ⟨l2, f2⟩
  obtain ⟨fv, mb, amb, q1, q2, q3, q4, q5⟩ := l2.parts
  obtain ⟨j0, j1, j2, j3, j4⟩ := l2.item hi
  obtain ⟨s0, s1, s2, s3⟩ := l2.see
  have L2 := Aside0.mk l2
  have F2 := Aside0.mk f2
  have M2 := Aside0.mk q3
  have Q2 := Aside0.mk q2
  have AM := Aside0.mk amb
  have hbk := (c.off_it i i).1
  have HB := Aside0.mk (show BkOk ((c.off i).it i).blk by rw [hbk]; exact HK.out)
  clear l2 f2 q3 q4 hbk
  simp only [List.take_succ_cons, List.take_zero, List.drop_succ_cons, List.drop_zero]
  repeat still_step
  refine wpStill_nil ?_
  refine wpList_delete_of bkInj bkKeyed w2 rfl _ _ 86 3 _ rfl Try.underlying86 mb (c.off i).m rfl M2.out ((c.off i).it i).blk rfl (bkOk _ HB.out) ?_
  rintro w3 m3 f3 z3
  have L3 := Aside0.mk (L2.out.mapTo Q2.out m3 f3)
  have F3 := Aside0.mk (F2.out.andThen f3 (fun k e => by rw [e]; exact Or.inl AM.out))
  clear m3 f3 z3 q1 q2 q5 j0 j1 j2 j3 j4 s0 s1 s2 s3
  obtain ⟨j0, j1, j2, j3, j4⟩ := L3.out.item hi
  obtain ⟨s0, s1, s2, s3⟩ := L3.out.see
  go_upto_region 3 with (fail)
  have h4 := L3.out.setItem hi It.zero
  have f4 : Frm A w _ := ((((F3.out.setCell (p := ⟨p, 1 + i * 5, none⟩) (Or.inl HO.out) (.int .i64 0)).setCell (p := ⟨p, 1 + i * 5 + 1, none⟩) (Or.inl HO.out) (.int .i64 0)).setCell (p := ⟨p, 1 + i * 5 + 2, none⟩) (Or.inl HO.out) (.string ⟨#[]⟩)).setCell (p := ⟨p, 1 + i * 5 + 3, none⟩) (Or.inl HO.out) (.int .i64 0)).setCell (p := ⟨p, 1 + i * 5 + 4, none⟩) (Or.inl HO.out) (.int .i64 0)
  simp only [It.zero] at h4
  generalize ((((w3.setCell ⟨p, 1 + i * 5, none⟩ (.int .i64 0)).setCell ⟨p, 1 + i * 5 + 1, none⟩ (.int .i64 0)).setCell ⟨p, 1 + i * 5 + 2, none⟩ (.string ⟨#[]⟩)).setCell ⟨p, 1 + i * 5 + 3, none⟩ (.int .i64 0)).setCell ⟨p, 1 + i * 5 + 4, none⟩ (.int .i64 0) = w4 at h4 f4 ⊢
  have H4 := Aside0.mk h4
  have F4 := Aside0.mk f4
  clear h4 f4 j0 j1 j2 j3 j4 s0 s1 s2 s3 HOFF
  obtain ⟨s0, s1, s2, s3⟩ := H4.out.see
  obtain ⟨fv, mb, amb, q1, q2, q3, q4, q5⟩ := H4.out.parts
  have hfl : (c.off i).fl = c.fl := (c.off_other i).2.1
  obtain ⟨A0, c0, rfl⟩ := Kd.R_slice q4
  have R4 := Aside0.mk (Kd.R_mono (Kd.R_alloc q4 (.cells #[.int .i64 i] 3)) (fun k hk => (Or.inl hk.1 : gr A (w4.alloc (.cells #[.int .i64 i] 3)) k)))
  have hlit : (Kd.int .i64).C (w4.alloc (.cells #[.int .i64 i] 3)) (some ⟨w4.heap.size, 0, none⟩) 1 [(i : Int)] := by
    have R0 : (Kd.int .i64).R 3 (w4.alloc (.cells #[.int .i64 i] 3)) w4.heap.size (fun _ => True) (.slice (some ⟨w4.heap.size, 0, none⟩) 1 1) [(i : Int)] :=
      Kd.R_of_own (own_lit_of (enc := Value.int .i64) w4 w4.heap.size 3 [(i : Int)] (Nat.le_refl _) (by simp)) (fun _ _ => trivial)
    obtain ⟨A1, c1, e1, _, hC1⟩ := Kd.R_reads R0
    simp only [Value.slice.injEq, List.length_singleton] at e1
    obtain ⟨rfl, _, _⟩ := e1
    exact hC1
  have HLIT := Aside0.mk hlit
  have HLEN := Aside0.mk (show ((c.off i).fl.length + 1) * 8 ≤ 140737488355328 by rw [hfl]; omega)
  have QF := Aside0.mk q1
  clear q2 q3 q4 q5 hfl hlit
  go_wp2_with (at_builtin; refine Kd.R_append_row (Value.int .i64) 0 (w0 := w4.alloc (.cells #[.int .i64 i] 3)) 0 rfl (.tmp 28) (.tmp 30) 23 3 (.int .i64 0) 8 rfl Try.underlying23 intinfo rfl (by decide) (.slice A0 (c.off i).fl.length c0) (c.off i).fl [(i : Int)] (some ⟨w4.heap.size, 0, none⟩) 1 1 (gr A (w4.alloc (.cells #[.int .i64 i] 3))) rfl rfl (fun k hk => Or.inr hk) R4.out HLIT.out (Below.refl _ _) (Nat.zero_le _) HLEN.out ?_; intro v1 w5 hR hB hg hat; obtain ⟨A1, c1, rfl⟩ := Kd.R_slice hR; obtain ⟨h6, f6, x6, y6⟩ := (H4.out.alloc (.cells #[.int .i64 i] 3)).regrown ((World.cell?_of_block (a := ⟨p, 321, none⟩) (Below.heap_alloc w4 _ p H4.out.lt)).trans QF.out) hg hR; simp only [List.length_append, List.length_singleton] at h6 f6; have H6 := Aside0.mk h6; have F6 := Aside0.mk f6; clear hR hB hg hat h6 f6)
  go_end0
  refine ⟨rfl, ?_, (F4.out.alloc _).andThen F6.out (fun k hk => Or.inl hk)⟩
  have e : c.forget i = { most := (c.off i).most, it := upd (c.off i).it i It.zero, fl := (c.off i).fl ++ [(i : Int)], m := del (c.off i).m ((c.off i).it i).blk, first := (c.off i).first, last := (c.off i).last } := rfl
  rw [e]
  exact H6.out.mono fun k _ hk => hk.imp id (fun hk => Nat.le_trans (by have := F4.out.size; simp; omega) hk)
end Go.Proofs.Ytoindlghpkjemaa.Thw
