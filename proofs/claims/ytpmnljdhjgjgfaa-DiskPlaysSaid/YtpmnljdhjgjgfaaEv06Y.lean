/- Layer 6: the document's Remove, Sync, Rename, Cut, Append. -/
import Derived.Test.YtpmnljdhjgjgfaaEv06X
namespace Go.Proofs.Ytpmnljdhjgjgfaa.Thw
open Go Go.RowKit Go.Maps Go.Proofs.YtpmnljdhjgjgfaaW.PrintWords Go.Proofs.YtpmnljdhjgjgfaaW.PrintLast Go.Proofs.YtpmnljdhjgjgfaaW.PrintMore
attribute [local go_sem] max2_int min2_int max_two min_two
set_option linter.unusedVariables false
set_option linter.unusedSimpArgs false
theorem burn_m' (st : Dsk) : st.burn.1.m = st.m := burn_m st
theorem burn_two (st : Dsk) : (st.burn.2 = 0 ∧ (st.burn.2 == 0) = true) ∨ (st.burn.2 = 8 ∧ (st.burn.2 == 0) = false) := by
  rcases burn_code st with h | h
  · exact Or.inl ⟨h, by rw [h]; rfl⟩
  · exact Or.inr ⟨h, by rw [h]; rfl⟩
/-- A new row in the state. -/
theorem RfAt.row {w : World} {A : Nat → Prop} {g : Nat} {st st' : Dsk} {base : Nat} {v : Value} (h : RfAt w A g st) (hR : kF.R 53 w base (fun _ => True) v (refL st'.m)) (he : st'.room = st.room ∧ st'.fuse = st.fuse ∧ st'.down = st.down) :
    RfAt (w.setCell ⟨g, 1, none⟩ v) (fun k => A k ∨ base ≤ k) g st' := by
  obtain ⟨a, v0, hb, _⟩ := h
  refine ⟨Or.inl a, v, by rw [he.1, he.2.1, he.2.2]; simpa using blk_set hb 1 v, ?_⟩
  have h1 := Kd.R_types (Kd.R_bound hR) hb (by decide)
  have h2 := Kd.R_kept h1 ((Frm.refl (fun k => k = g) w).setCell (p := ⟨g, 1, none⟩) (Or.inl rfl) v).kept fun k hk => hk.2
  exact Kd.R_lower (Kd.R_mono h2 fun k hk => Or.inr hk.1.2.1) (Nat.zero_le _)
set_option maxHeartbeats 1600000 in
set_option maxRecDepth 100000 in
theorem ref_Remove.calls (w : World) (A : Nat → Prop) (g : Nat) (st : Dsk) (h : RfAt w A g st) (hf : -1 ≤ st.fuse ∧ st.fuse ≤ 9223372036854775807) (hn : (st.m.map (·.1)).Nodup) (hl : st.m.length ≤ 1000000) (name : ByteArray) :
    Calls Try.prog 22 #[.pointer (some ⟨g, 0, none⟩), .string name] w fun e w' => e = .returned (.int .i64 (st.remove name).2) ∧ RfAt w' (gr A w) g (st.remove name).1 ∧ Frm A w w' := by
  have H0 := Aside0.mk h.bound
  have HA := Aside0.mk (atR_refL hn name)
  have HN := Aside0.mk hn
  have HFu := Aside0.mk hf
  have hlt := h.lt
  have ha : A g := h.1
  clear h hn hf
  go_enter Try.func22, Try.ntmps22
  go_wp2_with fail
  refine (ref_at.calls w _ g st H0.out hl name).mono ?_
  rintro e w1 ⟨rfl, b1⟩
  have H1 := Aside0.mk (H0.out.below b1)
  have F1 := Aside0.mk (Frm.of_new (S := fun k => A k ∧ k < w.heap.size) b1)
  clear b1
  rcases HA.out with ⟨hlk, hat⟩ | ⟨f, i, hlk, hat, hget⟩
  · rw [hat]
    go_wp2_with fail
    go_ret
    rw [show st.remove name = (st, 5) by simp [Dsk.remove, Dsk.change, hlk]]
    exact ⟨rfl, H1.out.mono fun k _ hk => Or.inl hk.1, F1.out.mono fun k _ hk => hk.1⟩
  · rw [hat]
    have d0 : decide ((i : Int) < 0) = false := decide_eq_false (by omega)
    have HL := Aside0.mk hlk
    clear hat hget hlk
    go_wp2_with fail
    refine (ref_burn.calls w1 _ g st H1.out HFu.out).mono ?_
    rintro e w2 ⟨rfl, h2, f2⟩
    have F2 := Aside0.mk (F1.out.andThen f2 fun i hi => Or.inl hi)
    have H2 := Aside0.mk h2
    clear h2 f2
    rcases burn_two st with ⟨hb, hbb⟩ | ⟨hb, hbb⟩
    · rw [hbb]
      have E0 := Aside0.mk (show st.remove name = (updRemove name st.burn.1 f, 0) by simp [Dsk.remove, Dsk.change, HL.out, hb])
      clear hb hbb
      go_wp2_with fail
      refine (ref_without.calls w2 _ g _ H2.out (by rw [burn_m]; exact hl) name).mono ?_
      rintro e w3 ⟨v, rfl, hR, b3⟩
      rw [burn_m, wo_refL HN.out] at hR
      obtain ⟨A2, c2, rfl⟩ := Kd.R_slice hR
      have hz := F2.out.size
      have h3 : RfAt w3 (fun k => A k ∧ k < w.heap.size) g st.burn.1 := H2.out.below b3
      have h4 := Aside0.mk (h3.row (st' := updRemove name st.burn.1 f) (base := w2.heap.size) (by simpa [updRemove, burn_m] using hR) ⟨rfl, rfl, rfl⟩)
      have F4 := Aside0.mk ((F2.out.andThen (S' := None') (Frm.of_new b3) (fun _ x => x.elim)).setCell (p := ⟨g, 1, none⟩) (Or.inl ⟨ha, hlt⟩) (.slice A2 (refL (del st.m name)).length c2))
      obtain ⟨_, v0, hb3, _⟩ := h3
      obtain ⟨c0, c1, c2, c3, fr⟩ := cells4 hb3
      clear hR b3 hb3
      go_wp2_with fail
      go_ret
      rw [E0.out]
      exact ⟨rfl, h4.out.mono fun k _ hk => hk.elim (fun x => Or.inl x.1) (fun x => Or.inr (Nat.le_trans hz x)), F4.out.mono fun k _ hk => hk.1⟩
    · rw [hbb]
      have E0 := Aside0.mk (show st.remove name = (st.burn.1, 8) by simp [Dsk.remove, Dsk.change, HL.out, hb])
      clear hb hbb
      go_wp2_with fail
      go_ret
      rw [E0.out]
      exact ⟨rfl, H2.out.mono fun k _ hk => Or.inl hk.1, F2.out.mono fun k _ hk => hk.1⟩
end Go.Proofs.Ytpmnljdhjgjgfaa.Thw
