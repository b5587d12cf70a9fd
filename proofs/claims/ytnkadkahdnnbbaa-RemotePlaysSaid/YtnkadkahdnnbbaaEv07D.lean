/- Layer 7: Delete and List. -/
import Derived.Test.YtnkadkahdnnbbaaEv07V
import Derived.Test.YtnkadkahdnnbbaaIter
namespace Go.Proofs.Ytnkadkahdnnbbaa.Thw
open Go Go.RowKit Go.Maps Go.Proofs.YtnkadkahdnnbbaaW.PrintWords Go.Proofs.YtnkadkahdnnbbaaW.PrintLast Go.Proofs.YtnkadkahdnnbbaaW.PrintMore
set_option linter.unusedVariables false
set_option linter.unusedSimpArgs false
def Rem.delete (st : Rem) (name : ByteArray) : Rem × Int := if st.fate = 1 then (st.next, 9) else ({ st.next with m := Thw.del st.m name }, if st.fate = 2 then 9 else 0)
def Rem.list (st : Rem) : List ByteArray × Int := if st.fate = 1 ∨ st.fate = 2 then ([], 9) else (names st.m, 0)
set_option maxHeartbeats 3200000 in
set_option maxRecDepth 100000 in
theorem del_do.calls (w : World) (A : Nat → Prop) (r : Nat) (st : Rem) (h : RemAt w A r st) (name : ByteArray) (hn : name.size ≤ 140737488351232) (pr pn : Nat)
    (hr : w.heap[pr]? = some (.cells #[.pointer (some ⟨r, 0, none⟩)] 25)) (hnm : w.heap[pn]? = some (.cells #[.string name] 9)) :
    Calls Try.prog 46 #[.pointer (some ⟨pr, 0, none⟩), .pointer (some ⟨pn, 0, none⟩)] w fun e w' => e = .returned (.int .i64 0) ∧ RemAt w' A r { st with m := Thw.del st.m name } ∧ Frm A w w' := by
  obtain ⟨mb, sv, a1, a2, hbk, hm, hq⟩ := h
  have HB := Aside0.mk hbk
  have HM := Aside0.mk hm
  have HQ := Aside0.mk hq
  have HK := Aside0.mk (strOk hn)
  have HR := Aside0.mk hr
  have HNM := Aside0.mk hnm
  clear hbk hm hq hn hr hnm
  go_enter Try.func46, Try.ntmps46
  go_wp2_with fail
  refine region_tail 5 (by kernel_rfl) (by kernel_rfl) (fun W => W.heap[pr]? = some (.cells #[.pointer (some ⟨r, 0, none⟩)] 25) ∧ W.heap[pn]? = some (.cells #[.string name] 9) ∧ W.heap[r]? = some (.cells #[.map (some mb), sv, .int .i64 st.n] 71) ∧ MapOf Try.prog 9 Value.string Value.string W mb st.m ∧ (Kd.int .i64).Q 3 W 0 A sv st.s ∧ Frm A w W)
    ⟨HR.out, HNM.out, HB.out, HM.out.drew, Kd.Q_drew HQ.out, (Frm.refl A w).drew⟩ ?_
  rintro w2 ⟨x2, y2, b2, m2, q2, f2⟩
  obtain ⟨c0, c1, c2, fr⟩ := cells3 b2
  obtain ⟨d0, dr⟩ := cells1 x2
  obtain ⟨e0, er⟩ := cells1 y2
  have B2 := Aside0.mk b2
  have M2 := Aside0.mk m2
  have Q2 := Aside0.mk q2
  have F2 := Aside0.mk f2
  clear b2 x2 y2 m2 q2 f2
  simp only [List.take_succ_cons, List.take_zero, List.drop_succ_cons, List.drop_zero]
  repeat still_step
  refine wpStill_nil ?_
  refine wpList_delete_of strInj strKeyed w2 rfl _ _ 69 9 _ rfl Try.underlying69 mb st.m rfl M2.out name rfl HK.out ?_
  rintro w3 m3 f3 z3
  have M3 := Aside0.mk m3
  have F3 := Aside0.mk f3
  clear m3 f3 z3 c0 c1 c2 fr d0 dr e0 er
  go_wp2_with fail
  go_ret
  have hne := MapOf.ne M2.out B2.out
  obtain ⟨es, cl, hes, _⟩ := M2.out
  exact ⟨rfl, ⟨mb, sv, a1, a2, F3.out.keeps B2.out hne, M3.out, Q_notmap Q2.out hes F3.out⟩, F2.out.andThen F3.out (fun i e => by rw [e]; exact Or.inl a2)⟩
set_option maxHeartbeats 3200000 in
set_option maxRecDepth 100000 in
theorem remote_Delete.calls (w : World) (A : Nat → Prop) (r : Nat) (st : Rem) (h : RemAt w A r st) (name : ByteArray) (hn : name.size ≤ 140737488351232) :
    Calls Try.prog 29 #[.pointer (some ⟨r, 0, none⟩), .string name] w fun e w' => e = .returned (.int .i64 (st.delete name).2) ∧ RemAt w' (gr A w) r (st.delete name).1 ∧ Frm A w w' := by
  have H0 := Aside0.mk h.bound
  have HN := Aside0.mk hn
  clear h hn
  go_enter Try.func29, Try.ntmps29
  go_wp2_with fail
  refine rebase (fun W => RemAt W (fun k => A k ∧ k < w.heap.size) r st ∧ Frm (fun k => A k ∧ k < w.heap.size) w W ∧ W.heap[w.heap.size]? = some (.cells #[.pointer (some ⟨r, 0, none⟩)] 25) ∧ W.heap[w.heap.size + 1]? = some (.cells #[.string name] 9))
    ⟨(H0.out.alloc _).alloc _, ((Frm.refl _ _).alloc _).alloc _, blk_alloc (blk_new _ _) _, by simpa using blk_new (w.alloc (.cells #[.pointer (some ⟨r, 0, none⟩)] 25)) _⟩ ?_
  rintro w1 ⟨h1, f1, p1, p2⟩
  have n1 : ¬ (A (w.heap.size + 1) ∧ w.heap.size + 1 < w.heap.size) := fun x => by omega
  have n0 : ¬ (A w.heap.size ∧ w.heap.size < w.heap.size) := fun x => by omega
  have HC := Aside0.mk (remote_call.calls w1 (fun k => A k ∧ k < w.heap.size) r st h1 46 _ Try.func46 (by kernel_rfl) (by kernel_rfl) #[] #[.pointer (some ⟨w.heap.size, 0, none⟩), .pointer (some ⟨w.heap.size + 1, 0, none⟩)]
    (fun W w' x => x = 0 ∧ RemAt w' (fun k => A k ∧ k < w.heap.size) r { st.next with m := Thw.del st.m name } ∧ Frm (fun k => A k ∧ k < w.heap.size) W w')
    (fun W hW hF => (del_do.calls W _ r st.next hW name HN.out w.heap.size (w.heap.size + 1) (hF.keeps p1 n0) (hF.keeps p2 n1)).mono fun e w' ⟨he, h1, h2⟩ => ⟨_, he, rfl, h1, h2⟩))
  refine HC.out.mono ?_
  have F1 := Aside0.mk f1
  clear h1 f1 p1 p2 n0 n1
  rintro e w2 (⟨g1, rfl, g2, g3⟩ | ⟨g1, W, x, y, g2, g3, ⟨gx, g4, g6⟩, gy, rfl⟩)
  · have A1 := Aside0.mk g1
    have A2 := Aside0.mk g2
    have A3 := Aside0.mk g3
    clear g1 g2 g3
    go_wp2_with fail
    go_ret
    have e1 : st.delete name = (st.next, 9) := by simp [Rem.delete, A1.out]
    rw [e1]
    exact ⟨rfl, A2.out.mono fun k _ hk => Or.inl hk.1, (F1.out.andThen A3.out (fun i hi => Or.inl hi)).mono fun k _ hk => hk.1⟩
  · have A1 := Aside0.mk g1
    have A4 := Aside0.mk g4
    have A6 := Aside0.mk ((F1.out.andThen g3 (fun i hi => Or.inl hi)).andThen g6 (fun i hi => Or.inl hi))
    rw [gx] at gy
    have AY := Aside0.mk gy
    clear g1 g2 g3 g4 g6 gx gy
    go_wp2_with fail
    go_ret
    have e1 : st.delete name = ({ st.next with m := Thw.del st.m name }, y) := by simp [Rem.delete, A1.out, AY.out]
    rw [e1]
    exact ⟨rfl, A4.out.mono fun k _ hk => Or.inl hk.1, A6.out.mono fun k _ hk => hk.1⟩
theorem keys.calls (mb : Nat) (W : World) : Calls Try.prog 50 #[.map (some mb)] W fun e w' => e = .returned (.func (.func 53) #[] #[.pointer (some ⟨W.heap.size, 0, none⟩)]) ∧ w' = W.alloc (.cells #[.map (some mb)] 69) :=
  callsIn_wide.1 (Go.Proofs.Try.maps_Keys_50 (some mb) W)
theorem sortedKeys.calls (w : World) (mb : Nat) (m : Fls) (h : MapOf Try.prog 9 Value.string Value.string w mb m) (hlen : m.length ≤ 1000000) :
    Calls Try.prog 49 #[.func (.func 53) #[] #[.pointer (some ⟨w.heap.size, 0, none⟩)]] (w.alloc (.cells #[.map (some mb)] 69)) fun e w' =>
      ∃ v, e = .returned v ∧ Kd.string.R 9 w' w.heap.size (fun _ => True) v (names m) ∧ Below w.heap.size w w' := by
  obtain ⟨D0, hown, hsz, hp⟩ := h.owns Try.underlying9 (by unfold maxLen; omega)
  refine (callsIn_wide.1 (Go.Proofs.Try.slices_Sorted_keys_49_50 mb m.length D0 anyElem w hown (by rw [hsz]; unfold maxLen; omega) (by rw [hsz]; omega))).mono ?_
  rintro e w' ⟨v, ss, rfl, hperm, hrow, _, hb⟩
  refine ⟨v, rfl, ?_, ?_⟩
  · have := R_sorted (l := m.map (·.1)) hrow (by rw [List.map_map]; exact hperm.trans hp)
    exact Kd.R_lower this (by simp)
  · exact ((Below.refl _ w).alloc (Nat.le_refl _) _).trans (hb.mono (by simp))
theorem list_do.calls (w : World) : Calls Try.prog 48 #[] w fun e w' => e = .returned (.int .i64 0) ∧ w = w' := by
  go_enter Try.func48, Try.ntmps48
  go_wp2_with fail
  go_ret
  exact ⟨rfl, rfl⟩
def ListPost (w : World) (A : Nat → Prop) (r : Nat) (st : Rem) (e : Ending) (w' : World) : Prop := ∃ v, e = .returned (.tuple #[v, .int .i64 st.list.2]) ∧ Kd.string.R 9 w' w.heap.size (fun _ => True) v st.list.1 ∧ RemAt w' A r st.next ∧ Frm A w w'
set_option maxHeartbeats 3200000 in
set_option maxRecDepth 100000 in
theorem remote_List.calls (w : World) (A : Nat → Prop) (r : Nat) (st : Rem) (h : RemAt w A r st) (hA : ∀ k, A k → k < w.heap.size) (hlen : st.m.length ≤ 1000000) :
    Calls Try.prog 31 #[.pointer (some ⟨r, 0, none⟩)] w (ListPost w A r st) := by
  have HA := Aside0.mk hA
  have HL := Aside0.mk hlen
  have HC := Aside0.mk (remote_call.calls w A r st h 48 _ Try.func48 (by kernel_rfl) (by kernel_rfl) #[] #[]
    (fun W w' x => x = 0 ∧ W = w') (fun W hW hF => (list_do.calls W).mono fun e w' ⟨he, h1⟩ => ⟨_, he, rfl, h1⟩))
  clear h hA hlen
  go_enter Try.func31, Try.ntmps31
  go_wp2_with fail
  refine HC.out.mono ?_
  rintro e w2 (⟨g1, rfl, g2, g3⟩ | ⟨g1, W, x, y, g2, g3, ⟨gx, gw⟩, gy, rfl⟩)
  · have A1 := Aside0.mk g1
    have A2 := Aside0.mk g2
    have A3 := Aside0.mk g3
    clear g1 g2 g3
    go_wp2_with fail
    go_ret2
    have e1 : st.list = ([], 9) := by simp [Rem.list, A1.out]
    unfold ListPost
    rw [e1]
    exact ⟨_, rfl, Kd.R_nil _ _ _ _ _, A2.out, A3.out⟩
  · subst gw
    rw [gx] at gy
    have A1 := Aside0.mk g1
    have A2 := Aside0.mk g2
    have A3 := Aside0.mk g3
    clear g1 g2 g3 gx
    by_cases h2 : st.fate = 2
    · rw [if_pos h2] at gy
      subst gy
      have e1 : st.list = ([], 9) := by simp [Rem.list, h2]
      have AE := Aside0.mk e1
      clear h2 e1
      go_wp2_with fail
      go_ret2
      unfold ListPost
      rw [AE.out]
      exact ⟨_, rfl, Kd.R_nil _ _ _ _ _, A2.out, A3.out⟩
    · rw [if_neg h2] at gy
      subst gy
      have e1 : st.list = (names st.m, 0) := by
        have h1 := A1.out
        simp [Rem.list, h1, h2]
      have AE := Aside0.mk e1
      clear h2 e1
      obtain ⟨mb, sv, a1, a2, hb, hm, hq⟩ := A2.out
      obtain ⟨c0, c1, c2, fr⟩ := cells3 hb
      have HS := Aside0.mk (sortedKeys.calls W mb st.next.m hm HL.out)
      clear hb hm hq
      go_wp2_with fail
      refine (keys.calls mb W).mono ?_
      rintro e w1 ⟨rfl, rfl⟩
      go_wp2_with fail
      refine HS.out.mono ?_
      rintro e w3 ⟨v, rfl, hR, hB⟩
      obtain ⟨A2', cc, rfl, hcc, hC⟩ := Kd.R_reads hR
      have HR := Aside0.mk hR
      have HB := Aside0.mk hB
      clear hR hB hC c0 c1 c2 fr HS
      go_wp2_with fail
      go_ret2
      unfold ListPost
      rw [AE.out]
      exact ⟨_, rfl, Kd.R_lower HR.out A3.out.size, A2.out.frm (S := None') (Frm.of_new HB.out) (fun _ _ x => x), A3.out.andThen (Frm.of_new (S := None') HB.out) (fun _ x => x.elim)⟩
end Go.Proofs.Ytnkadkahdnnbbaa.Thw
