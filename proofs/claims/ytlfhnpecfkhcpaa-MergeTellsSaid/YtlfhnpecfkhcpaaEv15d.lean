/- Layer 15 (merge): slices.Chunk: its closure in a range over it. No printed text in sight. -/
import Derived.Test.YtlfhnpecfkhcpaaEv15c
import Derived.RangeFuncStops
import Derived.RangeFuncOwn
import Derived.RangeFuncKeeps
import Derived.RangeFuncFrom
import Derived.RangeFuncBox
import Derived.RangeFuncMany
import Derived.RangeFuncNested
import Derived.RangeFuncBound
import Derived.RangeFuncCalls
import Derived.RangeFuncLeaves
import Derived.OwnWalkIn
import Derived.Maps.AppendAt
import Derived.Shelf.Abstract
import Derived.WalkKit
import Derived.TacticsInMore
import Derived.LoopNIn
import Derived.LoopIn
namespace Go.Proofs.Ytlfhnpecfkhcpaa.Thw
open Go Go.RowKit Go.Proofs.YtlfhnpecfkhcpaaW.PrintWords Go.Proofs.YtlfhnpecfkhcpaaW.PrintLast Go.Proofs.YtlfhnpecfkhcpaaW.PrintMore
set_option linter.unusedVariables false
set_option linter.unusedSimpArgs false
attribute [local go_sem] Oper.semAt_some
/-- What a round must keep: the two boxes that the closure reads. -/
def Kc (Bs Bn : Nat) (A B : World) : Prop := B.heap[Bs]? = A.heap[Bs]? ∧ B.heap[Bn]? = A.heap[Bn]?
theorem Kc.refl (Bs Bn : Nat) (A : World) : Kc Bs Bn A A := ⟨rfl, rfl⟩
theorem Kc.trans {Bs Bn : Nat} {A B C : World} (h : Kc Bs Bn A B) (k : Kc Bs Bn B C) : Kc Bs Bn A C := ⟨k.1.trans h.1, k.2.trans h.2⟩
theorem Kc.cell {Bs Bn : Nat} {A B : World} (h : Kc Bs Bn A B) : B.cell? ⟨Bs, 0, none⟩ = A.cell? ⟨Bs, 0, none⟩ ∧ B.cell? ⟨Bn, 0, none⟩ = A.cell? ⟨Bn, 0, none⟩ := by
  obtain ⟨h1, h2⟩ := h
  constructor
  · simp only [World.cell?, h1]
  · simp only [World.cell?, h2]
/-- The k-th chunk of a slice of records. -/
def chunkV (A : Option Addr) (len k : Nat) : Value := .slice (A.map fun ad => ad.add (16 * k * 4)) (min 16 (len - 16 * k)) (min 16 (len - 16 * k))
set_option maxRecDepth 100000 in
set_option maxHeartbeats 3200000 in
theorem chunk1_in (F : Fence) (n : Nat) (h7 : F.fn 27) (hro : F.round = none) (hn : 1 ≤ n) (l Bs Bn len cap : Nat) (ad : Addr) (hreach : len ≤ 1000000) (hcap : len ≤ cap) (J Jx : List Nat → World → Prop)
    (hY : ∀ pre x W, J pre W → pre.length < (len + 15) / 16 → YieldAt F (n - 1) Try.prog l #[chunkV (some ad) len x] W fun e W' =>
      (e = .returned (.bool true) ∧ J (pre ++ [x]) W' ∧ Kc Bs Bn W W') ∨ (e = .returned (.bool false) ∧ Jx (pre ++ [x]) W'))
    (W : World) (hBs : W.cell? ⟨Bs, 0, none⟩ = some (.slice (some ad) len cap)) (hBn : W.cell? ⟨Bn, 0, none⟩ = some (.int .i64 16)) (h0 : J [] W) (hJd : ∀ pre W, J pre W → J pre W.drew) :
    CallsIn F n Try.prog 27 #[.func (.yield l) #[] #[], .pointer (some ⟨Bs, 0, none⟩), .pointer (some ⟨Bn, 0, none⟩)] W fun e W' => (∃ v, e = .returned v) ∧
      ((∃ ys, ys = List.range ((len + 15) / 16) ∧ J ys W') ∨ (∃ pre, (∃ k, k ≤ (len + 15) / 16 ∧ pre = List.range k) ∧ Jx pre W')) := by
  refine callsIn_of_wp Try.func27 rfl h7 ?_ hro
  simp only [Try.ntmps27, List.size_toArray, List.length_cons, List.length_nil, Nat.reduceAdd, Nat.reduceSub, Array.replicate_succ, Array.replicate_zero, List.push_toArray, List.append_toArray, List.nil_append, List.cons_append]
  gi_wp2
  gi_loopw [4] (fun i wr => ∃ k : Nat, k ≤ (len + 15) / 16 ∧ i = .int .i64 (16 * k : Nat) ∧ J (List.range k) wr ∧ Kc Bs Bn W wr)
    (fun i _ => len + 16 - (intOf i).toNat)
  case atStart => exact ⟨0, Nat.zero_le _, rfl, h0, Kc.refl _ _ _⟩
  case round =>
    obtain ⟨k, hk, rfl, hJs, hnx⟩ := hrel
    have hc1 : wr.cell? ⟨Bs, 0, none⟩ = some (.slice (some ad) len cap) := hnx.cell.1.trans hBs
    have hc2 : wr.cell? ⟨Bn, 0, none⟩ = some (.int .i64 16) := hnx.cell.2.trans hBn
    by_cases hlt : 16 * k < len
    · obtain ⟨fn, tmps, assign, body, hy, hR⟩ := hY _ k wr.drew (hJd _ _ hJs) (by rw [List.length_range]; omega)
      dsimp only [chunkV, Option.map_some] at hy
      obtain ⟨c, hc⟩ : ∃ c, 16 * k = c := ⟨_, rfl⟩
      rw [hc] at hlt hy ⊢
      obtain ⟨m, hm⟩ : ∃ m, min 16 (len - c) = m := ⟨_, rfl⟩
      rw [hm] at hy
      have hmi : min (16 : Int) ((len - c : Nat) : Int) = (m : Int) := by omega
      have hm1 : c + m ≤ len := by omega
      have i0 : 0 ≤ (c : Int) := by omega
      have i1 : (c : Int) ≤ (len : Int) := by omega
      have i2 : (c : Int) < (len : Int) := by omega
      have i3 : ¬ cap = c := by omega
      have i4 : IntKind.i64.wrap ((c : Int) + (m : Int)) = ((c + m : Nat) : Int) := by rw [IntWalk.i64_in _ (by omega)]; omega
      gi_wp2
      gi_region
      all_goals gi_wp2
      all_goals
        refine hR.mono ?_
        rintro e W3 (⟨rfl, hJ3, hk3⟩ | ⟨rfl, hJx3⟩)
        · have hc3 : W3.cell? ⟨Bn, 0, none⟩ = some (.int .i64 16) := hk3.cell.2.trans hc2
          gi_wp2
          go_roundw
          case rel => exact ⟨k + 1, by omega, by rw [← hc]; congr 1, by rw [List.range_succ]; exact hJ3, (show Kc Bs Bn W wr.drew from hnx).trans hk3⟩
          case measure => simp [intOf]; omega
        · gi_wp2
          refine bodyPost_ret (results_none rfl _ _ _) rfl ?_
          exact ⟨⟨_, rfl⟩, .inr ⟨_, ⟨k + 1, by omega, List.range_succ.symm⟩, hJx3⟩⟩
    · obtain rfl : k = (len + 15) / 16 := by omega
      gi_wp2
      go_end0
      exact ⟨⟨_, rfl⟩, .inl ⟨_, rfl, hJs⟩⟩
end Go.Proofs.Ytlfhnpecfkhcpaa.Thw
