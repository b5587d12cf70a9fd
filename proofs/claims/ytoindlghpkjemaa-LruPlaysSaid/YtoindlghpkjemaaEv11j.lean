/- Layer 11: the document's cache in memory, and what its calls do to it. -/
import Derived.Test.YtoindlghpkjemaaEv11h
namespace Go.Proofs.Ytoindlghpkjemaa.Thw
open Go Go.RowKit Go.Proofs.YtoindlghpkjemaaW.PrintWords Go.Proofs.YtoindlghpkjemaaW.PrintLast Go.Proofs.YtoindlghpkjemaaW.PrintMore
attribute [local go_sem] max2_int min2_int max_two min_two
set_option linter.unusedVariables false
set_option linter.unusedSimpArgs false
abbrev kI : Kd (Bk × ByteArray) := Kd.pair kB Kd.string
theorem infoI : (Try.prog.info? 95).map (fun i => (i.zero, i.size, i.bytes)) = some (some (.agg #[.int .i64 0, .int .i64 0, .string ⟨#[]⟩]), 3, 32) := by kernel_rfl
theorem kI_M (w : World) (base : Nat) (ok : Nat → Prop) (q : Bk × ByteArray) : kI.M w base ok q [.int .i64 q.1.1, .int .i64 q.1.2, .string q.2] := ⟨[.int .i64 q.1.1, .int .i64 q.1.2], [.string q.2], rfl, kB_M w base ok q.1, rfl⟩
theorem C_itAt {w : World} {A : Option Addr} {xs : Row2} (h : kI.C w A xs.length xs) {k : Nat} (hk : k < xs.length) : ∃ ad, A = some ad ∧ w.cell? (ad.add (k * 3)) = some (.int .i64 xs[k].1.1) ∧ w.cell? ⟨(ad.add (k * 3)).block, (ad.add (k * 3)).off + 1, none⟩ = some (.int .i64 xs[k].1.2) ∧ w.cell? ⟨(ad.add (k * 3)).block, (ad.add (k * 3)).off + 2, none⟩ = some (.string xs[k].2) := by
  obtain ⟨ad, c, e, hl, hK, hc⟩ := ReadsRow.get_ h (((0, 0), ⟨#[]⟩) : Bk × ByteArray) (k : Int) (by omega) (by omega)
  obtain ⟨c1, c2, e2, ⟨c3, c4, e4, h3, h4⟩, h2⟩ := hK
  have hx : xs.getD k ((0, 0), ⟨#[]⟩) = xs[k] := by simp [hk, List.getD_eq_getElem?_getD]
  have h3' : c3 = [Value.int .i64 (xs.getD k ((0, 0), ⟨#[]⟩)).1.1] := h3
  have h4' : c4 = [Value.int .i64 (xs.getD k ((0, 0), ⟨#[]⟩)).1.2] := h4
  have h2' : c2 = [Value.string (xs.getD k ((0, 0), ⟨#[]⟩)).2] := h2
  rw [hx] at h3' h4' h2'
  subst h3' h4' h2' e4 e2
  have hc' : ∀ (j : Nat) u, (([Value.int .i64 xs[k].1.1] ++ [Value.int .i64 xs[k].1.2]) ++ [Value.string xs[k].2])[j]? = some u → w.cell? (ad.add (k * 3 + j)) = some u := hc
  exact ⟨ad, e, hc' 0 _ rfl, by rw [← add_field _ _ 1 (by omega)]; exact hc' 1 _ rfl, by rw [← add_field _ _ 2 (by omega)]; exact hc' 2 _ rfl⟩
/-- The document's cache at block g: it says X. -/
structure RfL (w : World) (A : Nat → Prop) (g : Nat) (X : Row2) (most : Int) : Prop where
  own : A g
  old : ∀ k, A k → k < w.heap.size
  is : ∃ v, w.heap[g]? = some (.cells #[.int .i64 most, v] 66) ∧ kI.R 95 w 0 (fun k => A k ∧ k ≠ g) v X
theorem RfL.frm {w w' : World} {A S : Nat → Prop} {g : Nat} {X : Row2} {most : Int} (h : RfL w A g X most) (hf : Frm S w w') (hn : ∀ k, k < w.heap.size → A k → ¬ S k) : RfL w' A g X most := by
  obtain ⟨h1, h2, v, h3, h4⟩ := h
  exact ⟨h1, fun k hk => Nat.lt_of_lt_of_le (h2 k hk) hf.size, v, hf.keeps h3 (hn _ (blk_lt h3) h1), Kd.R_step h4 (fun k hk hlt => hf.block k hlt (hn k hlt hk.1))⟩
theorem RfL.below {w w' : World} {A : Nat → Prop} {g : Nat} {X : Row2} {most : Int} (h : RfL w A g X most) (hb : Below w.heap.size w w') : RfL w' A g X most := h.frm (S := None') (Frm.of_new hb) (fun _ _ _ x => x)
/-- It has another row. -/
theorem RfL.turned {w w1 : World} {A : Nat → Prop} {g : Nat} {X Y : Row2} {most : Int} (h : RfL w A g X most) (hb : Below w.heap.size w w1) {v : Value} (hR : kI.R 95 w1 0 (fun k => (A k ∨ w.heap.size ≤ k) ∧ k ≠ g) v Y) : RfL (w1.setCell ⟨g, 1, none⟩ v) (nA A w w1) g Y most ∧ Frm A w (w1.setCell ⟨g, 1, none⟩ v) := by
  obtain ⟨h1, h2, v0, h3, h4⟩ := h
  have hg := blk_below h3 hb
  refine ⟨⟨⟨Or.inl h1, blk_lt hg⟩, fun k hk => by simpa [World.setCell] using hk.2, v, by simpa using blk_set hg 1 v, ?_⟩, (Frm.of_new hb).setCell (Or.inl h1) _⟩
  refine Kd.R_mono (Kd.R_far (Kd.R_bound hR) (p := ⟨g, 1, none⟩) (fun k hk => hk.1.2) v) (fun k hk => ?_)
  exact ⟨⟨hk.1.1, hk.2.2.1⟩, hk.1.2⟩
def NewPostR (most : Int) (w : World) (e : Ending) (w' : World) : Prop :=
  (¬ (1 ≤ most ∧ most ≤ 64) ∧ e = .returned (.tuple #[.pointer none, .int .i64 1]) ∧ w = w') ∨
  ((1 ≤ most ∧ most ≤ 64) ∧ ∃ g, e = .returned (.tuple #[.pointer (some ⟨g, 0, none⟩), .int .i64 0]) ∧ RfL w' (fun k => w.heap.size ≤ k ∧ k < w'.heap.size) g [] most ∧ Below w.heap.size w w')
set_option maxHeartbeats 3200000 in
set_option maxRecDepth 100000 in
theorem rf_New (most : Int) (w : World) : Calls Try.prog 25 #[.int .i64 most] w (NewPostR most w) := by
  by_cases h1 : 1 ≤ most
  case neg =>
    have d1 : decide (most < 1) = true := decide_eq_true (by omega)
    go_enter Try.func25, Try.ntmps25
    go_wp2_with fail
    go_ret2
    exact Or.inl ⟨by omega, rfl, rfl⟩
  have d1 : decide (most < 1) = false := decide_eq_false (by omega)
  by_cases h64 : most ≤ 64
  case neg =>
    have d2 : decide (64 < most) = true := decide_eq_true (by omega)
    go_enter Try.func25, Try.ntmps25
    go_wp2_with fail
    go_ret2
    exact Or.inl ⟨by omega, rfl, rfl⟩
  have d2 : decide (64 < most) = false := decide_eq_false (by omega)
  go_enter Try.func25, Try.ntmps25
  go_wp2_with fail
  go_ret2
  exact Or.inr ⟨⟨h1, h64⟩, _, rfl, ⟨⟨Nat.le_refl _, by simp⟩, fun k hk => hk.2, _, blk_new w _, Kd.R_nil _ _ _ _ _⟩, (Below.refl _ _).alloc (Nat.le_refl _) _⟩
theorem del_take_succ (X : Row2) (b : Bk) {k : Nat} (hk : k < X.length) : del (X.take (k + 1)) b = if X[k].1 ≠ b then del (X.take k) b ++ [X[k]] else del (X.take k) b := by
  unfold del
  rw [List.take_succ_eq_append_getElem hk, List.filter_append, List.filter_cons]
  by_cases h : X[k].1 = b
  · simp [h]
  · simp [h]
def WoPost (w : World) (Y : Row2) (e : Ending) (w' : World) : Prop := ∃ v, e = .returned v ∧ kI.R 95 w' w.heap.size (fun _ => True) v Y ∧ Below w.heap.size w w'
set_option maxHeartbeats 6400000 in
set_option maxRecDepth 100000 in
theorem rf_without (w : World) (A : Nat → Prop) (g : Nat) (X : Row2) (most : Int) (h : RfL w A g X most) (hl : X.length ≤ 1000) (b : Bk) : Calls Try.prog 49 #[.pointer (some ⟨g, 0, none⟩), bkV b] w (WoPost w (del X b)) := by
  obtain ⟨b1, b2⟩ := b
  show Calls Try.prog 49 #[.pointer (some ⟨g, 0, none⟩), .agg #[.int .i64 b1, .int .i64 b2]] w (WoPost w (del X (b1, b2)))
  have H := Aside0.mk h
  clear h
  obtain ⟨wb, hwb⟩ : ∃ wb, w.alloc (.cells #[.int .i64 b1, .int .i64 b2] 54) = wb := ⟨_, rfl⟩
  have BB := Aside0.mk (show Below w.heap.size w wb by rw [← hwb]; exact (Below.refl _ _).alloc (Nat.le_refl _) _)
  have hxb : wb.heap[w.heap.size]? = some (.cells #[.int .i64 b1, .int .i64 b2] 54) := by rw [← hwb]; exact blk_new _ _
  have XB := Aside0.mk hxb
  have HWB := Aside0.mk hwb
  have HWS := Aside0.mk (show wb.heap.size = w.heap.size + 1 by rw [← hwb]; simp)
  clear hxb hwb
  go_enter Try.func49, Try.ntmps49
  go_upto_region 1 with (fail)
  rw [HWB.out]
  clear HWB
  go_wp2_with fail
  go_loopw [5, 6] (fun v5 v6 wr => ∃ k : Nat, k ≤ X.length ∧ v6 = .int .i64 k ∧ Aside0 (kI.R 95 wr w.heap.size (fun k => k ≠ w.heap.size) v5 (del (X.take k) (b1, b2))) ∧ Aside0 (Below wb.heap.size wb wr)) (fun _ v6 _ => X.length - (intOf v6).toNat)
  case atStart => exact ⟨0, Nat.zero_le _, rfl, ⟨Kd.R_nil _ _ _ _ _⟩, ⟨Below.refl _ _⟩⟩
  case round =>
    obtain ⟨k, hk, rfl, HR, HB⟩ := hrel
    obtain ⟨A5, c5, rfl⟩ := Kd.R_slice HR.out
    by_cases hkn : k < X.length
    · have dk : decide ((k : Int) < (X.length : Int)) = true := decide_eq_true (by omega)
      obtain ⟨_, _, v0, hst, hRst⟩ := (H.out.below BB.out).below HB.out
      obtain ⟨A0, cap0, rfl, hc0, hC0⟩ := Kd.R_reads hRst
      obtain ⟨ad, rfl, q0, q1, q2⟩ := C_itAt hC0 hkn
      have hsucc := del_take_succ X (b1, b2) hkn
      have hlen : (del (X.take k) (b1, b2)).length ≤ k := by
        have h1 := List.length_filter_le (fun q : Bk × ByteArray => decide (q.1 ≠ (b1, b2))) (X.take k)
        unfold del
        simp at h1 ⊢; omega
      generalize X[k] = it at q0 q1 q2 hsucc
      obtain ⟨⟨x1, x2⟩, xs⟩ := it
      simp only at q0 q1 q2 hsucc
      obtain ⟨s0, s1, sr⟩ := cells2' hst
      have U0 := Aside0.mk q0
      have U1 := Aside0.mk q1
      have U2 := Aside0.mk q2
      have ST := Aside0.mk hst
      have HSU := Aside0.mk hsucc
      have y0 : 0 ≤ (k : Int) := by omega
      have y1 : (k : Int) < (X.length : Int) := by omega
      have XQ := Aside0.mk (blk_below XB.out HB.out)
      clear q0 q1 q2 hst hRst hsucc hC0
      go_upto_region 5 with (fail)
      refine region_still (by kernel_rfl) (by kernel_rfl) (fun W => W.cell? (ad.add (k * 3)) = some (.int .i64 x1) ∧ W.cell? ⟨(ad.add (k * 3)).block, (ad.add (k * 3)).off + 1, none⟩ = some (.int .i64 x2) ∧ W.cell? ⟨(ad.add (k * 3)).block, (ad.add (k * 3)).off + 2, none⟩ = some (.string xs) ∧ W.heap[w.heap.size]? = some (.cells #[.int .i64 b1, .int .i64 b2] 54) ∧ W.heap[g]? = some (.cells #[.int .i64 most, .slice (some ad) X.length cap0] 66) ∧ Below wb.heap.size wb W ∧ kI.R 95 W w.heap.size (fun k => k ≠ w.heap.size) (.slice A5 (del (X.take k) (b1, b2)).length c5) (del (X.take k) (b1, b2)))
        ⟨U0.out, U1.out, U2.out, blk_drew XQ.out, blk_drew ST.out, HB.out.drew, Kd.R_drew HR.out⟩ ?_
      clear s0 s1 sr
      rintro w3 ⟨u0, u1, u2, x3, st3, b3, r3⟩
      obtain ⟨d0, d1, dr⟩ := cells2' x3
      obtain ⟨s0, s1, sr⟩ := cells2' st3
      have B3 := Aside0.mk b3
      have R3 := Aside0.mk r3
      clear x3 st3 b3 r3
      obtain ⟨rr, hrr, heq⟩ := eqBkR (x1, x2) (b1, b2)
      have HRR := Aside0.mk hrr
      simp only at heq
      clear hrr
      repeat still_step
      refine wpStill_nil ?_
      clear heq d0 d1 dr
      rcases Bool.eq_false_or_eq_true rr with rfl | rfl
      · have heqv : (x1, x2) = (b1, b2) := of_decide_eq_true HRR.out.symm
        have hnx : del (X.take (k + 1)) (b1, b2) = del (X.take k) (b1, b2) := by rw [HSU.out, if_neg (fun h => h heqv)]
        have HNX := Aside0.mk hnx
        clear hnx heqv u0 u1 u2
        go_wp2_with fail
        go_roundw
        case rel => exact ⟨k + 1, by omega, by go_num, by rw [HNX.out]; exact R3, B3⟩
        case measure => simp [intOf]; omega
      · have hne : (x1, x2) ≠ (b1, b2) := of_decide_eq_false HRR.out.symm
        have hnx : del (X.take (k + 1)) (b1, b2) = del (X.take k) (b1, b2) ++ [((x1, x2), xs)] := by rw [HSU.out, if_pos hne]
        have HNX := Aside0.mk hnx
        clear hnx hne
        go_wp2_with (at_builtin; refine Kd.R_append kI (w0 := wb) w.heap.size rfl (.tmp 26) (.tmp 34) 64 95 (.agg #[.int .i64 0, .int .i64 0, .string ⟨#[]⟩]) 32 rfl Try.underlying64 infoI rfl (by decide) (by omega) (.slice A5 (del (X.take k) (b1, b2)).length c5) (del (X.take k) (b1, b2)) ((x1, x2), xs) [.int .i64 x1, .int .i64 x2, .string xs] (fun k => k ≠ w.heap.size) (fun _ => False) rfl rfl (kI_M _ _ _ ((x1, x2), xs)) (fun _ hk => hk.elim) (fun k hk => fun e => by have := BB.out.size; have := B3.out.size; have := blk_lt XB.out; omega) R3.out (B3.out.mono BB.out.size) (by have := BB.out.size; have := B3.out.size; omega) (by omega) ?_; intro v1 w5 hR hB hg hat; obtain ⟨A6, c6, rfl⟩ := Kd.R_slice hR; have HR5 := Aside0.mk hR; have HG5 := Aside0.mk (show Below wb.heap.size w3 w5 from ⟨hg.os, hg.tape, hg.output, hg.size, fun i hi => hg.block i (by have := B3.out.size; omega) (fun e => by have h1 := R3.out.1 i e.symm; have h2 := (Kd.R_bound R3.out).1 i e.symm; have := blk_lt XB.out; have h3 : wb.heap.size = w.heap.size + 1 := HWS.out; omega)⟩); clear hR hB hg hat)
        go_roundw
        case rel => exact ⟨k + 1, by omega, by go_num, by rw [HNX.out]; simpa using HR5, ⟨B3.out.trans HG5.out⟩⟩
        case measure => simp [intOf]; omega
    · have dk : decide ((k : Int) < (X.length : Int)) = false := decide_eq_false (by omega)
      have hkk : k = X.length := by omega
      subst hkk
      obtain ⟨_, _, v0, hst, hRst⟩ := (H.out.below BB.out).below HB.out
      obtain ⟨A0, cap0, rfl⟩ := Kd.R_slice hRst
      obtain ⟨s0, s1, sr⟩ := cells2' hst
      clear hst hRst
      rw [List.take_length] at HR ⊢
      go_wp2_with fail
      go_ret
      exact ⟨_, rfl, Kd.R_mono HR.out (fun _ _ => trivial), BB.out.trans (HB.out.mono BB.out.size)⟩
end Go.Proofs.Ytoindlghpkjemaa.Thw
