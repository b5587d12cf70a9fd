/- A range over a function whose rounds all go on, where the function ranges over another one itself: a law of mine, beside the library's. No printed text in sight. -/
import Derived.Test.YtcpjfpbfopkngaaEv10i
namespace Go.Proofs.Ytcpjfpbfopkngaa.Thw
open Go Go.RowKit Go.Proofs.YtcpjfpbfopkngaaW.PrintWords Go.Proofs.YtcpjfpbfopkngaaW.PrintLast Go.Proofs.YtcpjfpbfopkngaaW.PrintMore
set_option linter.unusedVariables false
set_option linter.unusedSimpArgs false
/-- What the function (called in a loop that began with n0 blocks) is told of a round: what was there stays, and all records but the loop's own. -/
def Ko (n0 : Nat) (X : Nat → Prop) (A B : World) : Prop := Kq n0 X A B ∧ KeepsFrom (n0 + 2) A B
/-- What a function that calls each round, and whose rounds all go on, comes to. -/
def SeqAll {α : Type} (n : Nat) (P : Program) (g : Nat) (lb : Array Value) (encs : α → Array Value) (X : Nat → Prop) (S : List α → Prop) (N : Nat) (w : World) : Prop :=
  ∀ (l : Nat) (J : List α → World → Prop) (W : World), Below w.heap.size w W → w.heap.size + 2 ≤ W.heap.size → OwnFrom W.heap.size J →
    (∀ pre x W1, J pre W1 → pre.length < N → YieldAt Fence.wide (n - 1) P l (encs x) W1 fun e W' => e = .returned (.bool true) ∧ J (pre ++ [x]) W' ∧ Ko w.heap.size X W1 W') →
    J [] W → CallsIn Fence.wide n P g (#[.func (.yield l) #[] #[]] ++ lb) W fun e W' => (∃ v, e = .returned v) ∧ ∃ xs, S xs ∧ J xs W'
set_option maxHeartbeats 800000 in
theorem range_all {α : Type} {n : Nat} {P : Program} {g : Operand} {ps : Array Tmp} {assign body : Code} {Q : Exit → Act → World → Prop} {a : Act} {w : World} (h1 : 1 ≤ n) {gf : Nat} {lb : Array Value}
    (hg : a.eval g = .func (.func gf) #[] lb) (eg : ∀ args w, (callFunc gf args).run P w = .ok (.enter gf args) w) {encs : α → Array Value} {X : Nat → Prop} {S : List α → Prop} {N : Nat} (hseq : SeqAll (n - 1) P gf lb encs X S N w) (hps : ∀ x, (encs x).size = ps.size)
    (I : List α → World → Prop) (hI : OwnFrom w.heap.size I) (h0 : I [] w) (Ax : α → Act → World → Prop) (hAx : ∀ x a', OwnFrom w.heap.size (fun (_ : Unit) W => Ax x a' W))
    (hassign : ∀ (l : Nat) (pre : List α) (x : α) (W : World) (K : Act → World → Prop), I pre W → (∀ a' W', KeepsFrom w.heap.size W W' → Kq w.heap.size X W W' → I pre W' → Ax x a' W' → K a' W') →
      assign.wpIn (Fence.wide.inRound l) (n - 1 - 1) P (Exit.then K (fun _ _ _ => False)) { tmps := (ps.zip (encs x)).foldl (fun t (p, v) => t.setIfInBounds p v) a.tmps, defers := [] } W)
    (hbody : ∀ (l : Nat) (pre : List α) (x : α) (a' : Act) (W : World), I pre W → Ax x a' W → pre.length < N → body.wpIn (Fence.wide.inRound l) (n - 1 - 1) P (fun e _ W' => e = .normal ∧ KeepsFrom w.heap.size W W' ∧ Kq w.heap.size X W W' ∧ I (pre ++ [x]) W') a' W)
    (hdone : ∀ (D : Nat) (xs : List α) (W : World), w.heap.size ≤ D → S xs → I xs W → W.heap[D]? = some (.deferred (some [])) → Q .normal { a with defers := { target := .collected D, args := #[] } :: a.defers } W) :
    (Code.rangeFunc g ps assign body).wpIn Fence.wide n P Q a w := by
  refine wpIn_rangeFunc fun fn hfn => ?_
  obtain ⟨rec0, hrec⟩ : ∃ rec0 : LoopState → Loop, rec0 = fun st => { state := st, pending := none, fn, tmps := a.tmps, params := ps, assign, body, defers := w.heap.size } := ⟨_, rfl⟩
  obtain ⟨W1, hW1⟩ : ∃ W1, (w.alloc (.deferred (some []))).alloc (.loop (rec0 .ready)) = W1 := ⟨_, rfl⟩
  have hsz : W1.heap.size = w.heap.size + 2 := by rw [← hW1]; simp
  have hL : W1.heap[w.heap.size + 1]? = some (.loop (rec0 .ready)) := by
    have := World.alloc_heap_new (w.alloc (.deferred (some []))) (.loop (rec0 .ready))
    rw [World.size_alloc, hW1] at this
    exact this
  have hD : W1.heap[w.heap.size]? = some (.deferred (some [])) := by rw [← hW1]; exact blk_alloc (blk_new _ _) _
  have hb1 : Below w.heap.size w W1 := by rw [← hW1]; exact ((Below.refl _ w).alloc (Nat.le_refl _) _).alloc (by simp) _
  have hJO : OwnFrom W1.heap.size (fun pre W => I pre W ∧ W.heap[w.heap.size + 1]? = some (.loop (rec0 .ready)) ∧ W.heap[w.heap.size]? = some (.deferred (some []))) := by
    intro s A B row hs hgr hr
    refine ⟨hI s A B row hs.1 hgr (fun r e => ⟨by have := (hr r e).1; omega, (hr r e).2⟩), ?_, ?_⟩
    · exact (hgr.block _ (Array.getElem?_eq_some_iff.1 hs.2.1).1 (fun e => by have := (hr _ e.symm).1; omega)).trans hs.2.1
    · exact (hgr.block _ (Array.getElem?_eq_some_iff.1 hs.2.2).1 (fun e => by have := (hr _ e.symm).1; omega)).trans hs.2.2
  have hrun := hseq (w.heap.size + 1) _ W1 hb1 (by omega) hJO ?round ⟨by rw [← hW1]; exact hI.alloc _ (hI.alloc _ h0), hL, hD⟩
  case round =>
    rintro pre x W ⟨hi, hl, hd⟩ hlen
    have hy := run_yield (P := P) (args := encs x) hl (by rw [hrec]; exact hps x)
    rw [hrec] at hy
    refine ⟨fn, _, assign, body, hy, roundIn_of_wpIn hfn (hassign _ pre x W _ hi ?_)⟩
    clear hy
    intro a' Wa hka hqa hia hax
    have hla := hka.same _ _ (by omega) hl rfl
    have hda := hka.same _ _ (Nat.le_refl _) hd rfl
    have hlt : w.heap.size + 1 < Wa.heap.size := (Array.getElem?_eq_some_iff.1 hla).1
    have hbr := run_beginRound (P := P) hla (by rw [hrec])
    rw [show ({ rec0 .ready with state := .busy } : Loop) = rec0 .busy by rw [hrec]] at hbr
    refine ⟨_, hbr, ?_⟩
    clear hbr
    have hlb : (Wa.putObj (w.heap.size + 1) (.loop (rec0 .busy))).heap[w.heap.size + 1]? = some (.loop (rec0 .busy)) := World.putObj_heap_same hlt
    have hdb : (Wa.putObj (w.heap.size + 1) (.loop (rec0 .busy))).heap[w.heap.size]? = some (.deferred (some [])) := (World.putObj_heap_other (by omega)).trans hda
    refine wpIn_mono (hbody _ pre x a' _ (hI.putObj _ hia (by omega) hla rfl) ((hAx x a').putObj (s := ()) _ hax (by omega) hla rfl) hlen) ?_
    rintro e a3 W3 ⟨rfl, hk3, hq3, hi3⟩
    have hl3 := hk3.same _ _ (by omega) hlb rfl
    have hd3 := hk3.same _ _ (Nat.le_refl _) hdb rfl
    have hlt3 : w.heap.size + 1 < W3.heap.size := (Array.getElem?_eq_some_iff.1 hl3).1
    have her := run_endRound (P := P) none hl3
    rw [show ({ rec0 .busy with state := if (none : Option Code).isNone then .ready else .done, pending := none } : Loop) = rec0 .ready by rw [hrec]; rfl] at her
    refine ⟨_, _, her, rfl, ⟨hI.putObj _ hi3 (by omega) hl3 rfl, World.putObj_heap_same hlt3, (World.putObj_heap_other (by omega)).trans hd3⟩, ?_, ?_⟩
    · exact hqa.trans ((Kq.putObj (by omega) hla rfl).trans (hq3.trans (Kq.putObj (by omega) hl3 rfl)))
    · have s1 := (grownBy_putObj' Wa (w.heap.size + 1) (.loop (rec0 .busy))).size
      have s2 := (grownBy_putObj' W3 (w.heap.size + 1) (.loop (rec0 .ready))).size
      refine ⟨Nat.le_trans hka.size (Nat.le_trans s1 (Nat.le_trans hk3.size s2)), fun k o hk ho hc => ?_⟩
      have e1 := hka.same k o (by omega) ho hc
      have e2 : (Wa.putObj (w.heap.size + 1) (.loop (rec0 .busy))).heap[k]? = some o := (World.putObj_heap_other (by omega)).trans e1
      have e3 := hk3.same k o (by omega) e2 hc
      exact (World.putObj_heap_other (by omega)).trans e3
  refine ⟨w.heap.size + 1, [{ target := .collected w.heap.size, args := #[] }], W1, { target := .fn (.func gf) lb, args := #[.func (.yield (w.heap.size + 1)) #[] #[]] }, W1, gf, #[.func (.yield (w.heap.size + 1)) #[] #[]] ++ lb, W1, ?_, ?_, ?_, ?_, ?_, ?_⟩
  · rw [← hW1, hrec]; exact run_enterLoop_outer _ _ _ _ _
  · simp only [resolve, hg]
    simp [go_sem]
  · intro f' _
    exact trivial
  · simp [invoke, go_sem, eg]
  · exact fun _ => h1
  · refine hrun.mono ?_
    rintro e W2 ⟨⟨v, rfl⟩, xs, hS, hi, hl, hd⟩
    have hel := run_endLoop (P := P) hl (by rw [hrec]; simp)
    rw [show (rec0 .ready).pending = none by rw [hrec]] at hel
    exact ⟨none, _, hel, hdone _ xs _ (Nat.le_refl _) hS (hI.putObj _ hi (by omega) hl rfl) ((World.putObj_heap_other (by omega)).trans hd)⟩
end Go.Proofs.Ytcpjfpbfopkngaa.Thw
