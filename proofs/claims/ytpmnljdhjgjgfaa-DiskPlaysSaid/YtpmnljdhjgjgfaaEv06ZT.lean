/- Layer 6: the two disks side by side. -/
import Derived.Test.YtpmnljdhjgjgfaaEv06ZB
import Derived.Test.YtpmnljdhjgjgfaaEv06R
namespace Go.Proofs.Ytpmnljdhjgjgfaa.Thw
open Go Go.RowKit Go.Maps Go.Proofs.YtpmnljdhjgjgfaaW.PrintWords Go.Proofs.YtpmnljdhjgjgfaaW.PrintLast Go.Proofs.YtpmnljdhjgjgfaaW.PrintMore
set_option linter.unusedVariables false
set_option linter.unusedSimpArgs false
/-- Both disks say st; they share no block; the blocks of Out are none of theirs. -/
def Two (W : World) (d r : Nat) (st : Dsk) (Out : Nat → Prop) : Prop :=
  ∃ TD TR : Nat → Prop, DskAt W TD d st ∧ RfAt W TR r st ∧ (∀ i, TD i → ¬ TR i) ∧ (∀ i, TD i → i < W.heap.size ∧ ¬ Out i) ∧ (∀ i, TR i → i < W.heap.size ∧ ¬ Out i)
section
variable {W W' : World} {d r : Nat} {st : Dsk} {Out Out' : Nat → Prop}
theorem Two.mono (h : Two W d r st Out) (ho : ∀ i, i < W.heap.size → Out' i → Out i) : Two W d r st Out' := by
  obtain ⟨TD, TR, h1, h2, h3, h4, h5⟩ := h
  exact ⟨TD, TR, h1, h2, h3, fun i hi => ⟨(h4 i hi).1, fun x => (h4 i hi).2 (ho i (h4 i hi).1 x)⟩, fun i hi => ⟨(h5 i hi).1, fun x => (h5 i hi).2 (ho i (h5 i hi).1 x)⟩⟩
theorem Two.below (h : Two W d r st Out) (hb : Below W.heap.size W W') : Two W' d r st Out := by
  obtain ⟨TD, TR, h1, h2, h3, h4, h5⟩ := h
  exact ⟨TD, TR, h1.below hb, h2.below hb, h3, fun i hi => ⟨Nat.lt_of_lt_of_le (h4 i hi).1 hb.size, (h4 i hi).2⟩, fun i hi => ⟨Nat.lt_of_lt_of_le (h5 i hi).1 hb.size, (h5 i hi).2⟩⟩
theorem Two.alloc (h : Two W d r st Out) (o : Obj) : Two (W.alloc o) d r st Out := h.below ((Below.refl _ _).alloc (Nat.le_refl _) _)
theorem Two.drew (h : Two W d r st Out) : Two W.drew d r st Out := by
  obtain ⟨TD, TR, h1, h2, h3, h4, h5⟩ := h
  exact ⟨TD, TR, h1.drew, h2.drew, h3, h4, h5⟩
/-- A new block is none of theirs. -/
theorem Two.fresh (h : Two W d r st Out) (o : Obj) : Two (W.alloc o) d r st (fun i => Out i ∨ i = W.heap.size) := by
  obtain ⟨TD, TR, h1, h2, h3, h4, h5⟩ := h
  refine ⟨TD, TR, h1.alloc o, h2.alloc o, h3, fun i hi => ⟨by have := (h4 i hi).1; simp; omega, ?_⟩, fun i hi => ⟨by have := (h5 i hi).1; simp; omega, ?_⟩⟩
  · rintro (x | x)
    · exact (h4 i hi).2 x
    · have := (h4 i hi).1; omega
  · rintro (x | x)
    · exact (h5 i hi).2 x
    · have := (h5 i hi).1; omega
theorem Two.nodup (h : Two W d r st Out) : (st.m.map (·.1)).Nodup := by obtain ⟨TD, TR, h1, _⟩ := h; exact h1.nodup
end
/-- Behind a call of each. -/
theorem Two.close {W w1 w2 : World} {d r : Nat} {st' : Dsk} {Out TD TR : Nat → Prop} (hdis : ∀ i, TD i → ¬ TR i) (hTD : ∀ i, TD i → i < W.heap.size ∧ ¬ Out i) (hTR : ∀ i, TR i → i < W.heap.size ∧ ¬ Out i) (hO : ∀ i, Out i → i < W.heap.size)
    (hD : DskAt w1 (gr TD W) d st') (fD : Frm TD W w1) (hR : RfAt w2 (gr TR w1) r st') (fR : Frm TR w1 w2) : Two w2 d r st' Out := by
  have z1 := fD.size
  have z2 := fR.size
  refine ⟨fun i => gr TD W i ∧ i < w1.heap.size, fun i => gr TR w1 i ∧ i < w2.heap.size, hD.bound.frm fR ?_, hR.bound, ?_, ?_, ?_⟩
  · rintro k ⟨hk, _⟩ hkR
    rcases hk with hk | hk
    · exact hdis k hk hkR
    · have := (hTR k hkR).1; omega
  · rintro i ⟨hi, hi2⟩ ⟨hj, _⟩
    rcases hi with hi | hi <;> rcases hj with hj | hj
    · exact hdis i hi hj
    · omega
    · have := (hTR i hj).1; omega
    · omega
  · rintro i ⟨hi, hi2⟩
    refine ⟨by omega, fun x => ?_⟩
    rcases hi with hi | hi
    · exact (hTD i hi).2 x
    · have := hO i x; omega
  · rintro i ⟨hi, hi2⟩
    refine ⟨hi2, fun x => ?_⟩
    rcases hi with hi | hi
    · exact (hTR i hi).2 x
    · have := hO i x; omega
/-- What both calls leave alone. -/
theorem Frm.two {W w1 w2 : World} {TD TR : Nat → Prop} (fD : Frm TD W w1) (fR : Frm TR w1 w2) : Frm (fun i => TD i ∨ TR i) W w2 :=
  fD.trans fR (fun _ _ x => Or.inl x) (fun _ _ x => Or.inr x)
end Go.Proofs.Ytpmnljdhjgjgfaa.Thw
