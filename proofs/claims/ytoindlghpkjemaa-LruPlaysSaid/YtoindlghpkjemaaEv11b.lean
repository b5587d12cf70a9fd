/- Layer 11: ahead, forget. -/
import Derived.Test.YtoindlghpkjemaaEv11
import Derived.DeepKeys5
import Derived.MapViews
namespace Go.Proofs.Ytoindlghpkjemaa.Thw
open Go Go.RowKit Go.Proofs.YtoindlghpkjemaaW.PrintWords Go.Proofs.YtoindlghpkjemaaW.PrintLast Go.Proofs.YtoindlghpkjemaaW.PrintMore
set_option linter.unusedVariables false
set_option linter.unusedSimpArgs false
theorem set_both (f : Nat → It) (i : Nat) (a b : Int) : setO (setN f i a) i b = upd f i { f i with newer := a, older := b } := by
  funext j
  unfold setO setN upd
  by_cases h : j = i
  · simp [h]
  · simp [h]
set_option maxHeartbeats 3200000 in
set_option maxRecDepth 100000 in
theorem lru_ahead.calls (w : World) (A : Nat → Prop) (p : Nat) (c : Lc) (h : LruAt w A p c) (i : Nat) (hi : i < 64) (hf : Ref1 c.first) :
    Calls Try.prog 48 #[.pointer (some ⟨p, 0, none⟩), .int .i64 i] w fun e w' => e = .returned (.tuple #[]) ∧ LruAt w' A p (c.ahead i) ∧ Frm A w w' := by
  have HL := Aside0.mk h
  have HO := Aside0.mk h.own
  obtain ⟨i0, i1, i2, i3, i4⟩ := h.item hi
  obtain ⟨s0, s1, s2, s3⟩ := h.see
  have z0 : 0 ≤ (i : Int) := by omega
  have z1 : (i : Int) < 64 := by omega
  clear h
  go_enter Try.func48, Try.ntmps48
  go_upto_region 0 with (fail)
  go_cut [] from 4 to 19 (fun wx => Aside0 (LruAt wx A p { c with it := upd c.it i { c.it i with newer := -1, older := c.first } } ∧ Frm A w wx))
  case first =>
    go_region
    all_goals (go_wp2_with fail; go_meet)
    case rel =>
      have h1 := ((HL.out.setN hi (-1)).setO hi c.first).drew
      simp only [set_both] at h1
      exact ⟨h1, (((Frm.refl A w).setCell (p := ⟨p, 1 + i * 5 + 3, none⟩) (Or.inl HO.out) _).setCell (p := ⟨p, 1 + i * 5 + 4, none⟩) (Or.inl HO.out) _).drew⟩
  case rest =>
    clear i0 i1 i2 i3 i4 s0 s1 s2 s3
    have L1 := Aside0.mk hcut.out.1
    have F1 := Aside0.mk hcut.out.2
    clear hcut
    obtain ⟨s0, s1, s2, s3⟩ := L1.out.see
    rcases hf with hf | ⟨j, hj, hf⟩
    · rw [hf] at s1
      go_wp2_with fail
      go_end0
      refine ⟨rfl, ?_, (F1.out.setCell (p := ⟨p, 324, none⟩) (Or.inl HO.out) _).setCell (p := ⟨p, 323, none⟩) (Or.inl HO.out) _⟩
      have e : c.ahead i = { c with it := upd c.it i { c.it i with newer := -1, older := c.first }, last := i, first := i } := by
        unfold Lc.ahead
        simp only [hf, if_true]
      rw [e]
      exact (L1.out.setLast i).setFirst i
    · simp only [hf] at s1
      obtain ⟨j0, j1, j2, j3, j4⟩ := L1.out.item hj
      have y0 : 0 ≤ (j : Int) := by omega
      have y1 : (j : Int) < 64 := by omega
      go_wp2_with fail
      go_region
      all_goals (go_wp2_with fail)
      go_end0
      refine ⟨rfl, ?_, ((F1.out.setCell (p := ⟨p, 1 + j * 5 + 3, none⟩) (Or.inl HO.out) _).setCell (p := ⟨p, 323, none⟩) (Or.inl HO.out) _).drew⟩
      have e : c.ahead i = { c with it := setN (upd c.it i { c.it i with newer := -1, older := c.first }) j i, first := i } := by
        unfold Lc.ahead
        have hne : ¬ ((j : Int) = -1) := by omega
        simp only [hf, if_neg hne, Int.toNat_natCast]
      rw [e]
      exact ((L1.out.setN hj i).setFirst i).drew

/-- Blocks as keys. -/
theorem bkKeyed : Go.Maps.Keyed Try.prog 54 :=
  Go.Maps.Keyed.of_law (Go.deep_law_gate (by kernel_rfl) (by decide +kernel) (by decide +kernel) (by kernel_rfl) (by kernel_rfl))
theorem bkInj (a b : Bk) (h : bkV a = bkV b) : a = b := by
  unfold bkV at h
  simp only [Value.agg.injEq, Array.mk.injEq, List.cons.injEq, Value.int.injEq, true_and, and_true] at h
  exact Prod.ext h.1 h.2
theorem litOk (m : Nat) (n : Int) (h : (Lit.int .i64 n).wf = true) : Try.prog.keyLits (m + 1) 3 [.int .i64 n] = some [.int .i64 n] := by
  unfold Program.keyLits
  rw [Try.underlying3]
  simp [h]
def BkOk (b : Bk) : Prop := (Lit.int .i64 b.1).wf = true ∧ (Lit.int .i64 b.2).wf = true
theorem bkOk (b : Bk) (h : BkOk b) : ∃ l, keyOf Try.prog 54 (bkV b) = some l := by
  have hp : 0 < Try.prog.types.size := by decide +kernel
  have hs : ∃ m, Try.prog.types.size + 1 = m + 1 + 1 := ⟨Try.prog.types.size - 1, by omega⟩
  obtain ⟨m, hm⟩ := hs
  have hc : Try.prog.cellsOf 54 = 2 := by kernel_rfl
  have hc3 : Try.prog.cellsOf 3 = 1 := by kernel_rfl
  have hg : (Try.prog.keyType 54 && (bkV b).formed Try.prog 54) = true := by kernel_rfl
  have hl : Try.prog.keyLits (Try.prog.types.size + 1) 54 (bkV b).cells.toList = some [.int .i64 b.1, .int .i64 b.2] := by
    rw [hm]
    unfold Program.keyLits
    rw [Try.underlying54]
    simp [bkV, Value.cells, hc, hc3, litOk m b.1 h.1, litOk m b.2 h.2]
  unfold keyOf
  rw [Try.underlying54]
  simp only
  rw [if_pos hg, hl]
  exact ⟨_, rfl⟩
end Go.Proofs.Ytoindlghpkjemaa.Thw
