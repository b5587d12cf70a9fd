/- Layer 10: slices.Values at slots in a range over it. -/
import Derived.Test.YtcpjfpbfopkngaaEv10h
import Derived.RangeFuncStops
import Derived.RangeFuncOwn
import Derived.RangeFuncKeeps
import Derived.RangeFuncFrom
import Derived.RangeFuncBox
import Derived.RangeFuncMany
import Derived.RangeFuncNested
import Derived.RangeFuncBound
import Derived.RangeFuncCalls
import Derived.RangeFuncLeaves
import Derived.OwnWalkIn
import Derived.Maps.AppendAt
import Derived.Shelf.Abstract
import Derived.Shelf.RegionOpen
import Derived.WalkKit
import Derived.TacticsInMore
import Derived.LoopNIn
import Derived.LoopIn
namespace Go.Proofs.Ytcpjfpbfopkngaa.Thw
open Go Go.RowKit Go.Proofs.YtcpjfpbfopkngaaW.PrintWords Go.Proofs.YtcpjfpbfopkngaaW.PrintLast Go.Proofs.YtcpjfpbfopkngaaW.PrintMore
set_option linter.unusedVariables false
set_option linter.unusedSimpArgs false
attribute [local go_sem] Oper.semAt_some
/-- What a round keeps: what lay ahead of block n0, but for X; rows of slots, boxes of such, boxes of the function that is called in the round. -/
def Kq (n0 : Nat) (X : Nat → Prop) (A B : World) : Prop := A.heap.size ≤ B.heap.size ∧ ∀ k o, A.heap[k]? = some o → ((k < n0 ∧ ¬ X k) ∨ ∃ cs t fr, o = .cells cs t fr ∧ (t = 57 ∨ t = 52 ∨ t = 69)) → B.heap[k]? = some o
theorem Kq.refl (n0 : Nat) (X : Nat → Prop) (A : World) : Kq n0 X A A := ⟨Nat.le_refl _, fun _ _ h _ => h⟩
theorem Kq.trans {n0 : Nat} {X : Nat → Prop} {A B C : World} (h : Kq n0 X A B) (k : Kq n0 X B C) : Kq n0 X A C := ⟨Nat.le_trans h.1 k.1, fun i o hi ho => k.2 i o (h.2 i o hi ho) ho⟩
theorem Kq.of_below {n0 : Nat} {X : Nat → Prop} {A B : World} (h : Below A.heap.size A B) : Kq n0 X A B := ⟨h.size, fun k o hk _ => (h.block _ (Array.getElem?_eq_some_iff.1 hk).1).trans hk⟩
theorem Kq.putObj {n0 : Nat} {X : Nat → Prop} {W : World} {l : Nat} {o o' : Obj} (hl : n0 ≤ l) (hlo : W.heap[l]? = some o) (hc : o.isCells = false) : Kq n0 X W (W.putObj l o') := by
  refine ⟨by have := (grownBy_putObj' W l o').size; exact this, fun k u hk hu => ?_⟩
  have hne : k ≠ l := by
    rintro rfl
    rcases hu with hu | ⟨cs, t, fr, rfl, _⟩
    · omega
    · rw [hlo] at hk
      cases hk
      cases hc
  exact ((grownBy_putObj' W l o').block _ (Array.getElem?_eq_some_iff.1 hk).1 (fun e => hne (by cases e; rfl))).trans hk
theorem R_only {w : World} {base : Nat} {ok : Nat → Prop} {v : Value} {L : List Slt} (h : Kd.R kS 57 w base ok v L) : Kd.R kS 57 w base (fun k => v.ownBlock = some k) v L := by
  obtain ⟨hok, inner, hown, hrl, hrw⟩ := h
  exact ⟨fun g hg => hg, inner, hown, hrl, fun j p hp => by rw [kS_E _ _ _ _ _ (hrw j p hp)]; exact kS_M _ _ _ p⟩
theorem R_kq {n0 : Nat} {X : Nat → Prop} {A B : World} {base : Nat} {v : Value} {L : List Slt} (h : Kd.R kS 57 A base (fun k => v.ownBlock = some k) v L) (hk : Kq n0 X A B) : Kd.R kS 57 B base (fun k => v.ownBlock = some k) v L := by
  refine Kd.R_step h (fun k ho hlt => ?_)
  obtain ⟨inner, hown⟩ := Kd.R_own h
  obtain ⟨cells, hc⟩ := own_typed hown k ho
  rw [hc]
  exact hk.2 _ _ hc (Or.inr ⟨_, _, _, rfl, Or.inl rfl⟩)
def sV (s : Slt) : Value := .agg #[.string s.1, .int .i64 s.2.1.1, .int .i64 s.2.1.2.1, .int .i64 s.2.1.2.2.1, .int .u64 s.2.1.2.2.2, .bool s.2.2]
def elS (L : List Slt) (k : Nat) : Slt := match L[k]? with
  | some s => s
  | none => zS
theorem elS_at {L : List Slt} {k : Nat} (h : k < L.length) : elS L k = L[k] := by unfold elS; rw [List.getElem?_eq_getElem h]
set_option maxRecDepth 100000 in
set_option maxHeartbeats 3200000 in
theorem values1_in (F : Fence) (n : Nat) (h7 : F.fn 44) (hro : F.round = none) (hn : 1 ≤ n) (n0 : Nat) (X : Nat → Prop) (l Bs c : Nat) (A : Option Addr) (L : List Slt) (hL : L.length ≤ 1000000) (J Jx : List Nat → World → Prop)
    (hY : ∀ pre x W, J pre W → pre.length < L.length → YieldAt F (n - 1) Try.prog l #[sV (elS L x)] W fun e W' =>
      (e = .returned (.bool true) ∧ J (pre ++ [x]) W' ∧ Kq n0 X W W') ∨ (e = .returned (.bool false) ∧ Jx (pre ++ [x]) W'))
    (W : World) (hBs : W.cell? ⟨Bs, 0, none⟩ = some (.slice A L.length c)) (hR : Kd.R kS 57 W 0 (fun k => (Value.slice A L.length c).ownBlock = some k) (.slice A L.length c) L) (h0 : J [] W) (hJ : AbidesFrom W.heap.size J) :
    CallsIn F n Try.prog 44 #[.func (.yield l) #[] #[], .pointer (some ⟨Bs, 0, none⟩)] W fun e W' => (∃ v, e = .returned v) ∧
      ((∃ ys, ys = List.range L.length ∧ J ys W') ∨ (∃ pre, True ∧ Jx pre W')) := by
  refine callsIn_of_wp Try.func44 rfl h7 ?_ hro
  simp only [Try.ntmps44, List.size_toArray, List.length_cons, List.length_nil, Nat.reduceAdd, Nat.reduceSub, Array.replicate_succ, Array.replicate_zero, List.push_toArray, List.append_toArray, List.nil_append, List.cons_append]
  gi_wp2
  gi_loopw [7] (fun i wr => ∃ k : Nat, k ≤ L.length ∧ i = .int .i64 k ∧ J (List.range k) wr ∧ Aside0 (Kd.R kS 57 wr 0 (fun k => (Value.slice A L.length c).ownBlock = some k) (.slice A L.length c) L))
    (fun i _ => L.length - (intOf i).toNat)
  case atStart => exact ⟨0, Nat.zero_le _, rfl, h0, ⟨hR⟩⟩
  case round =>
    obtain ⟨k, hk, rfl, hJs, HR⟩ := hrel
    by_cases hlt : k < L.length
    · obtain ⟨ad, e, q0, q1, q2, q3, q4, q5⟩ := C_slAt (Kd.R_reads' HR.out).2.2 hlt
      cases e
      obtain ⟨s, hs⟩ : ∃ s, L[k] = s := ⟨_, rfl⟩
      rw [hs] at q0 q1 q2 q3 q4 q5
      obtain ⟨key, ⟨l0, l1, l2, l3⟩, is⟩ := s
      simp only at q0 q1 q2 q3 q4 q5
      obtain ⟨fn, tmps, assign, body, hy, hRo⟩ := hY _ k (wr.alloc (.cells #[.string key, .int .i64 l0, .int .i64 l1, .int .i64 l2, .int .u64 l3, .bool is] 57)) (hJ _ _ _ none hJs (World.grownBy_alloc wr _ none) (fun r e => by cases e)) (by rw [List.length_range]; exact hlt)
      rw [elS_at hlt, hs] at hy
      simp only [sV] at hy
      have XB := Aside0.mk (blk_new wr (.cells #[.string key, .int .i64 l0, .int .i64 l1, .int .i64 l2, .int .u64 l3, .bool is] 57))
      have R5 := Aside0.mk (Kd.R_alloc HR.out (.cells #[.string key, .int .i64 l0, .int .i64 l1, .int .i64 l2, .int .u64 l3, .bool is] 57))
      obtain ⟨b0, b1, b2, b3, b4, b5, br⟩ := cells6d XB.out
      have i0 : 0 ≤ (k : Int) := by omega
      have i1 : (k : Int) < (L.length : Int) := by omega
      gi_wp2
      refine hRo.mono ?_
      rintro e W3 (⟨rfl, hJ3, hk3⟩ | ⟨rfl, hJx3⟩)
      · gi_wp2
        go_roundw
        case rel => exact ⟨k + 1, by omega, by go_num, by rw [List.range_succ]; exact hJ3, ⟨R_kq R5.out hk3⟩⟩
        case measure => simp [intOf]; omega
      · gi_wp2
        refine bodyPost_ret (results_none rfl _ _ _) rfl ?_
        exact ⟨⟨_, rfl⟩, .inr ⟨_, trivial, hJx3⟩⟩
    · obtain rfl : k = L.length := by omega
      gi_wp2
      go_end0
      exact ⟨⟨_, rfl⟩, .inl ⟨_, rfl, hJs⟩⟩
end Go.Proofs.Ytcpjfpbfopkngaa.Thw
