/- Layer 6: List. -/
import Derived.Test.YtpmnljdhjgjgfaaEv06d
import Derived.Test.YtpmnljdhjgjgfaaObjS
import Derived.Test.YtpmnljdhjgjgfaaIter
namespace Go.Proofs.Ytpmnljdhjgjgfaa.Thw
open Go Go.RowKit Go.Maps Go.Proofs.YtpmnljdhjgjgfaaW.PrintWords Go.Proofs.YtpmnljdhjgjgfaaW.PrintLast Go.Proofs.YtpmnljdhjgjgfaaW.PrintMore
attribute [local go_sem] max2_int min2_int max_two min_two
set_option linter.unusedVariables false
set_option linter.unusedSimpArgs false
theorem strinfo : (Try.prog.info? 9).map (fun i => (i.zero, i.size, i.bytes)) = some (some (.string ⟨#[]⟩), 1, 16) := by kernel_rfl
def names (m : List (ByteArray × DFile)) : List ByteArray := sorted (m.map (·.1))
theorem keys.calls (mb : Nat) (W : World) : Calls Try.prog 41 #[.map (some mb)] W fun e w' => e = .returned (.func (.func 49) #[] #[.pointer (some ⟨W.heap.size, 0, none⟩)]) ∧ w' = W.alloc (.cells #[.map (some mb)] 58) :=
  callsIn_wide.1 (Go.Proofs.Try.maps_Keys_41 (some mb) W)
theorem sortedKeys.calls (w : World) (mb : Nat) (m : List (ByteArray × DFile)) (h : MapOf Try.prog 9 Value.string fileV w mb m) (hlen : m.length ≤ 1000000) :
    Calls Try.prog 40 #[.func (.func 49) #[] #[.pointer (some ⟨w.heap.size, 0, none⟩)]] (w.alloc (.cells #[.map (some mb)] 58)) fun e w' =>
      ∃ v, e = .returned v ∧ Kd.string.R 9 w' w.heap.size (fun _ => True) v (names m) ∧ Below w.heap.size w w' := by
  obtain ⟨D0, hown, hsz, hp⟩ := h.owns Try.underlying9 (by unfold maxLen; omega)
  refine (callsIn_wide.1 (Go.Proofs.Try.slices_Sorted_keys_40_41 mb m.length D0 anyElem w hown (by rw [hsz]; unfold maxLen; omega) (by rw [hsz]; omega))).mono ?_
  rintro e w' ⟨v, ss, rfl, hperm, hrow, _, hb⟩
  refine ⟨v, rfl, ?_, ?_⟩
  · have := R_sorted (l := m.map (·.1)) hrow (by rw [List.map_map]; exact hperm.trans hp)
    exact Kd.R_lower this (by simp)
  · exact ((Below.refl _ w).alloc (Nat.le_refl _) _).trans (hb.mono (by simp))
theorem grown_below {a b : World} (h : a.grownBy b none) : Below a.heap.size a b := ⟨h.os, h.tape, h.output, h.size, fun k hk => h.block k hk (by simp)⟩
/-- A row of one's own, laid open. -/
theorem own_open {W : World} {base e n : Nat} {v : Value} {xs : List Value} (h : W.ownsRow base e 1 v n xs) (hv : ∃ b, v.ownBlock = some b) : ∃ g cap cur, v = .slice (some ⟨g, 0, none⟩) n cap ∧ base ≤ g ∧ W.heap[g]? = some (.cells (List.toArray cur) e (0, 0)) ∧ n ≤ cap ∧ cap ≤ maxLen ∧ cur.length = cap := by
  rcases h.2 with ⟨rfl, _⟩ | ⟨g, cap, cur, rfl, hb, hh, h1, h2, h3, _⟩
  · obtain ⟨b, hb⟩ := hv; simp [Value.ownBlock] at hb
  · exact ⟨g, cap, cur.toList, rfl, hb, by simpa using hh, h1, h2, by simpa using h3⟩
theorem splice_length (cur cs : List Value) (h : cs.length ≤ cur.length) : (splice cur 0 cs).length = cur.length := by simp [splice]; omega
theorem splice_all (cur cs : List Value) : (splice cur 0 cs).take cs.length = cs := by simp [splice]
set_option maxHeartbeats 3200000 in
set_option maxRecDepth 100000 in
theorem disk_List.calls (w : World) (A : Nat → Prop) (d : Nat) (st : Dsk) (h : DskAt w A d st) (hlen : st.m.length ≤ 1000000) :
    Calls Try.prog 16 #[.pointer (some ⟨d, 0, none⟩)] w fun e w' => ∃ v, e = .returned v ∧ Kd.string.R 9 w' w.heap.size (fun _ => True) v (names st.m) ∧ Below w.heap.size w w' := by
  obtain ⟨mb, a1, a2, hb, hm⟩ := h
  obtain ⟨c0, c1, c2, c3, fr⟩ := cells4 hb
  have HS := Aside0.mk (sortedKeys.calls w mb st.m hm hlen)
  have HN := Aside0.mk (show (names st.m).length = st.m.length by unfold names; rw [sorted_length, List.length_map])
  have HL := Aside0.mk hlen
  clear hb hm hlen
  go_enter Try.func16, Try.ntmps16
  go_wp2_with fail
  refine (keys.calls mb w).mono ?_
  rintro e w1 ⟨rfl, rfl⟩
  go_wp2_with fail
  refine HS.out.mono ?_
  rintro e w2 ⟨v, rfl, hR, hB⟩
  obtain ⟨A2, cc, rfl, hcc, hC⟩ := Kd.R_reads hR
  have HR := Aside0.mk hR
  have HB := Aside0.mk hB
  have HC := Aside0.mk hC
  clear hR hB hC c0 c1 c2 c3 fr HS
  go_wp2_with (first
    | ((with_reducible refine gate_dst (N := 13) rfl ?_); refine Kd.R_make Kd.string (w0 := w) w.heap.size 9 rfl (N := 13) rfl 22 _ _ rfl ((names st.m).length : Int) rfl rfl Try.underlying22 (.string ⟨#[]⟩) 16 strinfo rfl (by decide) (by decide) (⟨#[]⟩ : ByteArray) (ok := fun _ => True) (okp := fun _ => False) ?aM (fun _ x => x.elim) trivial ?a0 ?aL HB.out HB.out.size ?_; (case aM => exact rfl); (case a0 => omega); (case aL => have := HN.out; have := HL.out; omega); intro v1 w3 hR3 hB3 hg3 hv3; obtain ⟨g, cap, cur, rfl, hgb, hgh, hn1, hn2, hcl⟩ := own_open (Kd.own_of_R hR3) (by obtain ⟨b, hb, _⟩ := hv3; exact ⟨b, hb⟩); simp only [List.length_replicate, Int.toNat_natCast] at hn1 ⊢; have HG := Aside0.mk hgh; have HB3 := Aside0.mk hB3; have HC3 := Aside0.mk (Kd.C_below HC.out (grown_below hg3)); have HX := Aside0.mk (And.intro hgb (And.intro hn1 (And.intro hn2 hcl))); clear hR3 hB3 hg3 hv3 hgb hgh hn1 hn2 hcl)
    | ((with_reducible refine gate_dst (N := 16) rfl ?_); refine wpList_copy_splice rfl (.tmp 14) (.tmp 15) 22 22 rfl 9 Try.underlying22 (by kernel_rfl) (some ⟨g, 0, none⟩) A2 (names st.m).length cap (names st.m).length cc rfl rfl g 0 cur 9 HG.out (encs Value.string (names st.m)) ?cn ?cp ?cf ?c1 w.heap.size w HB3.out HX.out.1 ?_; (case cn => simp [encs]); (case cp => exact fun hp => ⟨rfl, by obtain ⟨_, _, hr⟩ := Kd.reads_of_C (d := (⟨#[]⟩ : ByteArray)) HC3.out; obtain ⟨ad, e, hc⟩ := hr (by simpa [encs] using hp); exact ⟨ad, e, fun j v hj => by rw [hc j (by have := (List.getElem?_eq_some_iff.1 hj).1; simpa [encs] using this)]; simpa [encs, List.getD_eq_getElem?_getD, List.getElem?_map, (show j < (names st.m).length by have := (List.getElem?_eq_some_iff.1 hj).1; simpa [encs] using this)] using hj⟩⟩); (case cf => have := HX.out; simp [encs]; omega); (case c1 => intro v hv; obtain ⟨x, _, rfl⟩ := List.mem_map.1 hv; rfl); intro w4 hg4 hb4; have HG4 := Aside0.mk hg4; have HB4 := Aside0.mk hb4; clear hg4 hb4))
  go_ret
  have hx := HX.out
  have hl : (encs Value.string (names st.m)).length = (names st.m).length := by simp [encs]
  refine ⟨_, rfl, Kd.R_of_own ⟨by simp [encs], Or.inr ⟨g, cap, _, rfl, hx.1, HG4.out, hx.2.1, hx.2.2.1, ?_, ?_⟩⟩ (fun _ _ => trivial), HB4.out⟩
  · rw [List.size_toArray, splice_length _ _ (by omega)]; omega
  · rw [Nat.mul_one, ← hl]; exact splice_all _ _
end Go.Proofs.Ytpmnljdhjgjgfaa.Thw
