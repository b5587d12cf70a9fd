/- Layer 6: small laws for DiskPlays' walk. -/
import Derived.Test.YtpmnljdhjgjgfaaEv06ZT
namespace Go.Proofs.Ytpmnljdhjgjgfaa.Thw
open Go Go.RowKit Go.Maps Go.Proofs.YtpmnljdhjgjgfaaW.PrintWords Go.Proofs.YtpmnljdhjgjgfaaW.PrintLast Go.Proofs.YtpmnljdhjgjgfaaW.PrintMore
set_option linter.unusedVariables false
set_option linter.unusedSimpArgs false
theorem Bnd.nameSz {room : Int} {k : Nat} {st : Dsk} (h : Bnd room k st) {s : ByteArray} (hs : s ∈ names st.m) : s.size ≤ 9223372036854775807 := by
  obtain ⟨p, hp, e⟩ := names_mem hs
  rw [← e]
  exact Nat.le_trans (h.keys p hp) (by decide)
theorem Bnd.left {room : Int} {k : Nat} {st : Dsk} (h : Bnd room k st) (hr : room ≤ 1048576) : st.left = room - total st.m := by
  have h1 := h.tot
  have h2 := total_nonneg st.m
  unfold Dsk.left
  rw [h.hroom]
  unfold wrap64; omega
theorem kept_frm {w w4 W : World} {A : Option Addr} {n : Nat} {xs : List Int} {S : Nat → Prop} (hC : (Kd.int .i64).C w A n xs) (hb : Below w.heap.size w w4) (hf : Frm S w4 W) (hlo : ∀ i, S i → w.heap.size ≤ i) : (Kd.int .i64).C W A n xs :=
  Kd.C_below hC (hb.trans (hf.below hb.size (fun i _ hi => hlo i hi)))
theorem cells2' {w : World} {s : Nat} {v0 v1 : Value} {t : TypeId} (h : w.heap[s]? = some (.cells #[v0, v1] t)) :
    w.cell? ⟨s, 0, none⟩ = some v0 ∧ w.cell? ⟨s, 1, none⟩ = some v1 ∧ ∀ i, w.frozen? ⟨s, i, none⟩ = false := by
  refine ⟨?_, ?_, fun i => ?_⟩ <;> simp [World.cell?, World.frozen?, h]
end Go.Proofs.Ytpmnljdhjgjgfaa.Thw
