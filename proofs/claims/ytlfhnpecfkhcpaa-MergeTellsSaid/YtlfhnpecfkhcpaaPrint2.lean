/- Written by a program of mine (give.py, over the kit's print) out of the translation: contracts of the Go functions. Lean checks it. -/
import Derived.Test.YtlfhnpecfkhcpaaPrint0
namespace Go.Proofs.Ytlfhnpecfkhcpaa.Print
open Go.RowKit Go.Proofs.YtlfhnpecfkhcpaaW.PrintWords Go.Proofs.YtlfhnpecfkhcpaaW.PrintLast Go.Proofs.YtlfhnpecfkhcpaaW.PrintMore
attribute [local go_sem] max2_int min2_int max_two min_two max_three min_three max_four min_four   -- for this text's walks alone
set_option linter.unusedVariables false
set_option linter.unusedSimpArgs false

-- NOT PRINTED: function 18 (api_Rec_18)

-- NOT PRINTED: function 19 (api_Rec_19)

/-! ### merge_Batches: function 8 -/
attribute [local go_sem] Oper.semAt_some
def merge_Batches.chunk (l : List (S36)) (k : Nat) : List (S36) := (l.drop (16 * k)).take 16
def merge_Batches.f (l0 : List (S36)) : Option (List (List (S36))) := if l0.length ≤ 1000000 then some ((List.range ((l0.length + 15) / 16)).map (merge_Batches.chunk l0)) else none
set_option maxHeartbeats 3200000 in
set_option maxRecDepth 100000 in
theorem merge_Batches.clone (A : Option Addr) (n c : Nat) (xs : List (S36)) (w : World) (hc : Kd.C k36 w A n xs) (hl : n ≤ c) (hn : n ≤ 1000000) :
    Calls Try.prog 19 #[.slice A n c] w fun e w' => ∃ v, e = .returned v ∧ Kd.R k36 36 w' w.heap.size (fun _ => True) v xs ∧ Below w.heap.size w w' := by
  have HC := Aside0.mk hc
  have HN := Aside0.mk hn
  clear hc hn
  have hnil := fun (w : World) (a : Option Addr) (n c : Nat) => Lib.run_eql_slice_nil (P := Try.prog) w 22 36 a n c 0 0 Try.underlying22
  cases A with
  | none =>
    go_enter Try.func19, Try.ntmps19
    go_wp2_with fail
    go_ret
    have hx : xs = [] := by
      obtain ⟨h1, _, h2⟩ := HC.out
      rcases Nat.eq_zero_or_pos n with h0 | h0
      · exact List.eq_nil_of_length_eq_zero (by omega)
      · obtain ⟨ad, e, _⟩ := h2 h0; cases e
    subst hx
    exact ⟨_, rfl, Kd.R_nil _ _ _ _ _, Below.refl _ _⟩
  | some a =>
    have H0 : Kd.R k36 36 (w.alloc (.cells #[] 36)) w.heap.size (fun _ => True) (.slice (some ⟨w.heap.size, 0, none⟩) 0 0) [] :=
      ⟨fun _ _ => trivial, [], ⟨by simp, .inr ⟨w.heap.size, 0, #[], rfl, Nat.le_refl _, blk_new w _, Nat.le_refl _, Nat.zero_le _, by simp, by simp⟩⟩, by simp, fun j p h => by simp at h⟩
    go_enter Try.func19, Try.ntmps19
    go_wp2_with (at_builtin; refine Kd.R_append_rows k36 (w0 := w) w.heap.size rfl (.tmp 5) (.tmp 6) 22 36 (.agg #[(.int .u64 0), (.string ⟨#[]⟩), (.string ⟨#[]⟩), (.bool false)]) 48 rfl Try.underlying22 info36 rfl (by decide) (by omega) _ [] xs (some a) n c (fun _ => True) (fun _ => False) rfl rfl H0 (Kd.C_below HC.out (below_alloc (Below.refl _ _) _)) (fun x cs h => by rw [k36_open h]; exact k36_mkM _ _ _ x) (fun _ h => h.elim) (fun _ _ => trivial) (below_alloc (Below.refl _ _) _) (by simp) (by have := HN.out; simp; omega) ?_; intro v1 w1 hR hB hg hat; obtain ⟨A8, c8, rfl⟩ := Kd.R_slice hR; have HRR := Aside0.mk hR; have HBB := Aside0.mk hB; clear hR hB hg hat)
    go_ret
    exact ⟨_, rfl, by simpa using HRR.out, HBB.out⟩
theorem merge_Batches.info : (Try.prog.info? 22).map (fun i => (i.zero, i.size, i.bytes)) = some (some (.slice none 0 0), 1, 24) := by kernel_rfl
theorem merge_Batches.part {w : World} {A : Option Addr} {l : List (S36)} (h : Kd.C k36 w A l.length l) (x : Nat) : Kd.C k36 w (A.map fun ad => ad.add (16 * x * 4)) (min 16 (l.length - 16 * x)) (merge_Batches.chunk l x) := by
  have hlen : (merge_Batches.chunk l x).length = min 16 (l.length - 16 * x) := by unfold merge_Batches.chunk; rw [List.length_take, List.length_drop]
  rcases Nat.lt_or_ge (16 * x) l.length with hx | hx
  · have h1 := Kd.C_drop (c := l.length + 1) h (show 16 * x ≤ l.length by omega) (by omega)
    rw [if_neg (by omega)] at h1
    have h2 := Kd.C_take h1 (show min 16 (l.length - 16 * x) ≤ (l.drop (16 * x)).length by rw [List.length_drop]; omega)
    have e : (l.drop (16 * x)).take (min 16 (l.length - 16 * x)) = merge_Batches.chunk l x := by
      unfold merge_Batches.chunk
      rcases Nat.le_total 16 (l.length - 16 * x) with h3 | h3
      · rw [Nat.min_eq_left h3]
      · rw [Nat.min_eq_right h3]
        exact (List.take_of_length_le (by rw [List.length_drop]; omega)).trans (List.take_of_length_le (by rw [List.length_drop]; omega)).symm
    rw [e, hlen] at h2
    exact h2
  · have h0 : min 16 (l.length - 16 * x) = 0 := by omega
    rw [h0] at hlen ⊢
    rw [List.eq_nil_of_length_eq_zero hlen]
    exact ⟨rfl, by simp, fun h => absurd h (by omega)⟩
set_option maxHeartbeats 6400000 in
set_option maxRecDepth 100000 in
theorem merge_Batches.calls (A0 : Option Addr) (c0 : Nat) (l0 : List (S36)) (r : List (List (S36))) (w : World) (hr0 : Kd.C k36 w A0 l0.length l0) (hc0 : l0.length ≤ c0) (h : merge_Batches.f l0 = some r) :
    Calls Try.prog 8 #[.slice A0 l0.length c0] w fun e w' => ∃ v0_ : Value, e = .returned v0_ ∧ Kd.S (Kd.slice 36 k36) 22 w' w.heap.size (fun _ => True) v0_ r ∧ Below w.heap.size w w' := by
  unfold merge_Batches.f at h
  split at h
  case isFalse => cases h
  rename_i hn
  cases h
  refine callsIn_wide (n := 9).1 ?_
  refine callsIn_of_wp_marks Try.func8 rfl trivial ?_ rfl
  simp only [Try.ntmps8, List.size_toArray, List.length_cons, List.length_nil, Nat.reduceAdd, Nat.reduceSub, Array.replicate_succ, Array.replicate_zero, List.push_toArray, List.append_toArray, List.nil_append, List.cons_append]
  gi_wp2_with (refine ⟨trivial, ?_⟩; gi_at_call 18; refine (callsIn_wide.2 (Thw.chunk_calls A0 l0.length c0 _)).mono ?_; rintro e w' ⟨rfl, rfl⟩)
  obtain ⟨w1, hw1⟩ : ∃ w1, ((w.alloc (.cells #[.slice none 0 0] 24)).alloc (.cells #[.slice A0 l0.length c0] 22)).alloc (.cells #[.int .i64 16] 3) = w1 := ⟨_, rfl⟩
  have hsz : w1.heap.size = w.heap.size + 3 := by rw [← hw1]; simp
  have hb1 : Below w.heap.size w w1 := by rw [← hw1]; exact (((Below.refl _ w).alloc (Nat.le_refl _) _).alloc (by simp) _).alloc (by simp; omega) _
  have hbo : Boxed w1 w.heap.size 24 (.slice none 0 0) := by rw [← hw1]; exact ((Boxed.new w _ _).alloc _).alloc _
  have hbs : Boxed w1 (w.heap.size + 1) 22 (.slice A0 l0.length c0) := by
    rw [← hw1]
    have := (Boxed.new (w.alloc (.cells #[.slice none 0 0] 24)) 22 (.slice A0 l0.length c0)).alloc (.cells #[.int .i64 16] 3)
    simpa using this
  have hbn : Boxed w1 (w.heap.size + 1 + 1) 3 (.int .i64 16) := by
    rw [← hw1]
    have := Boxed.new ((w.alloc (.cells #[.slice none 0 0] 24)).alloc (.cells #[.slice A0 l0.length c0] 22)) 3 (.int .i64 16)
    simpa using this
  rw [hw1]
  clear hw1
  refine wpIn_rangeFunc_ownF (α := Nat) rfl (by omega) (gf := 27) (lb := #[.pointer (some ⟨w.heap.size + 1, 0, none⟩), .pointer (some ⟨w.heap.size + 1 + 1, 0, none⟩)]) rfl trivial (enters_of Try.func27 (by kernel_rfl) rfl)
    (Thw.chunk_stops Fence.wide (9 - 1) trivial rfl (by omega) (w.heap.size + 1) (w.heap.size + 1 + 1) l0.length c0 A0 (fun h => by obtain ⟨ad, e, _⟩ := at_T36 hr0 0 (by omega) (by omega); exact ⟨ad, e⟩) hn hc0 w1 (by omega) (by omega) hbs.cell hbn.cell)
    (fun h k => h.trans k) ?kb (Below.refl _ _) (fun _ => rfl)
    (fun pre W => (∃ v, Boxed W w.heap.size 24 v ∧ Kd.S (Kd.slice 36 k36) 22 W w.heap.size (fun k => w.heap.size + 3 ≤ k) v (pre.map (merge_Batches.chunk l0)) ∧ w.heap.size + 3 ≤ W.heap.size) ∧ Below w.heap.size w W)
    (fun _ _ _ => False) ?hI (fun _ _ _ _ _ hs _ _ => hs) ⟨⟨_, hbo, Kd.S_nil _ _ _ _ _, by omega⟩, hb1⟩
    (fun x => { tmps := #[.slice A0 l0.length c0, undef, .slice none 0 0, .pointer (some ⟨w.heap.size, 0, none⟩), Thw.chunkV A0 l0.length x, .slice A0 l0.length c0, .func (.func 27) #[] #[.pointer (some ⟨w.heap.size + 1, 0, none⟩), .pointer (some ⟨w.heap.size + 1 + 1, 0, none⟩)], Thw.chunkV A0 l0.length x, undef, undef, undef, undef, undef, undef], defers := [] }) ?assign ?body ?done ?stop
  case kb =>
    intro W l o o' hl hlo _ _
    have hlt := (Array.getElem?_eq_some_iff.1 hlo).1
    exact ⟨(grownBy_putObj' W l o').block _ (by omega) (fun e => by cases e; omega), (grownBy_putObj' W l o').block _ (by omega) (fun e => by cases e; omega)⟩
  case hI =>
    refine OwnFrom.and (fun s W W' row hs hg hr => ?_) (ownFrom_below (Nat.le_refl _) (by omega))
    obtain ⟨v, hv, hS, hz⟩ := hs
    refine ⟨v, hv.kept hg (fun e => ?_), Kd.S_mono (Kd.S_grown (Kd.S_bound hS) hg (fun k hk e => ?_)) (fun _ hk => hk.1), Nat.le_trans hz hg.size⟩
    · obtain ⟨_, o, ho, hc⟩ := hr _ e.symm
      rw [show W.heap[w.heap.size]? = some (.cells #[v] 24 (0, 0)) from hv] at ho
      cases ho
      cases hc
    · obtain ⟨_, o, ho, hc⟩ := hr _ e.symm
      obtain ⟨_, _, _, q, _, cells, hq⟩ := hk
      rw [hq] at ho
      cases ho
      cases hc
  case assign =>
    intro l x W K hK
    gi_wp2
    exact hK
  case body =>
    rintro l pre x W ⟨⟨v, hv, hS, hWz⟩, hB⟩ hlen
    obtain ⟨A1, c1, rfl⟩ := Kd.S_slice hS
    have hcell := hv.cell
    have hfz := hv.frozen
    have hcl := merge_Batches.clone _ _ (min 16 (l0.length - 16 * x)) (merge_Batches.chunk l0 x) W.drew (merge_Batches.part (Kd.C_below hr0 (hB.drew)) x) (Nat.le_refl _) (by omega)
    simp only [Thw.chunkV]
    obtain ⟨M, hM⟩ : ∃ M, min 16 (l0.length - 16 * x) = M := ⟨_, rfl⟩
    obtain ⟨AX, hAX⟩ : ∃ AX, (A0.map fun ad => ad.add (16 * x * 4)) = AX := ⟨_, rfl⟩
    rw [hM, hAX] at hcl ⊢
    gi_wp2
    -- GEN
    refine wpIn_region_any rfl ?_
    refine wpAnyIn_ready (rs := [0, 1]) (by kernel_rfl) (by simp) ?_
    refine AllReadyIn.cons rfl (fun K hK => ?_) (AllReadyIn.cons rfl (fun K hK => ?_) AllReadyIn.nil)
    · go_simp
      refine hK _ _ ?_
      clear hK K
      refine wpAnyIn_ready (rs := [1]) (by kernel_rfl) (by simp) ?_
      refine AllReadyIn.cons rfl (fun K hK => ?_) AllReadyIn.nil
      go_simp
      refine hK _ _ ?_
      clear hK K
      refine wpAnyIn_ready (rs := [2]) (by kernel_rfl) (by simp) ?_
      refine AllReadyIn.cons rfl (fun K hK => ?_) AllReadyIn.nil
      go_simp
      refine ⟨trivial, (CallsIn.inRound l (callsIn_wide.2 hcl)).mono ?_⟩
      rintro e w2 ⟨v2, rfl, hR2, hB2⟩
      obtain ⟨A2, c2, rfl⟩ := Kd.R_slice hR2
      have hbx2 : Boxed w2 w.heap.size 24 (.slice A1 (pre.map (merge_Batches.chunk l0)).length c1) := (hB2.block _ hv.lt).trans hv
      have hcell2 := hbx2.cell
      refine hK _ _ ?_
      clear hK K
      refine wpAnyIn_ready (rs := [3]) (by kernel_rfl) (by simp) ?_
      refine AllReadyIn.cons rfl (fun K hK => ?_) AllReadyIn.nil
      go_simp
      have hbx3 := hbx2.alloc (.cells #[.slice A2 (merge_Batches.chunk l0 x).length c2] 22)
      have hcell3 := hbx3.cell
      refine hK _ _ ?_
      clear hK K
      have hWd : W.drew.heap.size = W.heap.size := rfl
      have hz2 : W.heap.size ≤ w2.heap.size := hB2.size
      obtain ⟨W3, hW3⟩ : ∃ W3, w2.alloc (.cells #[.slice A2 (merge_Batches.chunk l0 x).length c2] 22) = W3 := ⟨_, rfl⟩
      have hz3 : W3.heap.size = w2.heap.size + 1 := by rw [← hW3]; simp
      have hbW : Below W.heap.size W W3 := by rw [← hW3]; exact (((Below.refl W.heap.size W).drew).trans hB2).alloc hz2 _
      have hS3 : Kd.S (Kd.slice 36 k36) 22 W3 w.heap.size (fun k => w.heap.size + 3 ≤ k ∧ ¬ W.heap.size ≤ k) (.slice A1 (pre.map (merge_Batches.chunk l0)).length c1) (pre.map (merge_Batches.chunk l0)) :=
        Kd.S_below (Kd.S_mono (Kd.S_bound hS) (fun k hk => ⟨hk.1, by have := hk.2.2.1; omega⟩)) hbW
      have hp3 : (Kd.slice 36 k36).M W3 w.heap.size (fun k => W.heap.size ≤ k) (merge_Batches.chunk l0 x) [.slice A2 (merge_Batches.chunk l0 x).length c2] :=
        ⟨_, rfl, by rw [← hW3]; exact Kd.R_alloc (Kd.R_lower (Kd.R_mono (Kd.R_bound hR2) (fun k hk => hk.2.1)) (by rw [hWd]; omega)) _⟩
      have hob : ∀ k, (Value.slice A1 (pre.map (merge_Batches.chunk l0)).length c1).ownBlock = some k → w.heap.size + 3 ≤ k ∧ k < W.heap.size := fun k hk => by
        have h1 := (Kd.S_R hS3).1 k hk
        omega
      obtain ⟨inner, hown, hfin⟩ := Thw.S_own_append (ok := fun k => w.heap.size + 3 ≤ k) hS3 hp3 (fun k hk => ⟨by omega, fun e => by have := hob k e.symm; omega⟩) (fun k hk => by omega)
      obtain ⟨i0, hi, hy0, hy1, hy2⟩ := info_parts merge_Batches.info
      have hpl : (pre.map (merge_Batches.chunk l0)).length = pre.length := List.length_map _
      obtain ⟨v4, w4, hrun, r1, r2, _, r4⟩ := run_append_own_at (P := Try.prog) (w := W3) w.heap.size 24 24 22 i0 (.slice none 0 0) 1 24 Try.underlying24 hi hy0 hy1 hy2 rfl (by decide) _ _ inner hown ⟨w2.heap.size, 0, none⟩ 1 1 [.slice A2 (merge_Batches.chunk l0 x).length c2] rfl (by rw [← hW3]; exact cell_one_new _ _ _) (by intro u hu; simp at hu; subst hu; rfl) (by rw [hpl]; simp only [maxLen]; omega) (by rw [hpl]; omega) (by omega)
      have hS4 := hfin v4 w4 r1 r2 (r4.imp id (fun h => ⟨_, h, Nat.le_refl _⟩))
      obtain ⟨A4, c4, rfl⟩ := Kd.S_slice hS4
      have hbx4 : Boxed w4 w.heap.size 24 (.slice A1 (pre.map (merge_Batches.chunk l0)).length c1) := (show Boxed W3 w.heap.size 24 _ from by rw [← hW3]; exact hbx2.alloc _).kept r2 (fun e => by have := hob _ e.symm; omega)
      have hb34 : Below W.heap.size W w4 ∨ True := Or.inr trivial
      have hc4 := hbx4.cell
      have hf4 := hbx4.frozen
      have hKO : KeepsOthers W W3 := ⟨by omega, fun k o hk _ => (hbW.block k (Array.getElem?_eq_some_iff.1 hk).1).trans hk⟩
      have hKO4 : KeepsOthers W w4 := hKO.trans (KeepsOthers.of_grownBy r2 (fun j o hj ho => by
        obtain ⟨cells, hc⟩ := own_typed hown j hj
        rw [hc] at ho
        cases ho
        rfl))
      have hKc4 : Thw.Kc (w.heap.size + 1) (w.heap.size + 1 + 1) W w4 := ⟨(r2.block _ (by omega) (fun e => by have := hob _ e.symm; omega)).trans (hbW.block _ (by omega)), (r2.block _ (by omega) (fun e => by have := hob _ e.symm; omega)).trans (hbW.block _ (by omega))⟩
      have hBw4 : Below w.heap.size w w4 := (hB.trans (hbW.mono (by omega))).grown r2 (by omega) (fun k e => by have := hob k e; omega)
      have hl4 : (pre.map (merge_Batches.chunk l0) ++ [merge_Batches.chunk l0 x]).length = pre.length + 1 := by simp
      have hS5 : Kd.S (Kd.slice 36 k36) 22 w4 w.heap.size (fun k => w.heap.size + 3 ≤ k) (.slice A4 (pre.length + 1) c4) ((pre ++ [x]).map (merge_Batches.chunk l0)) := by
        rw [hl4] at hS4
        rw [List.map_append]
        exact hS4
      rw [hl4, hpl] at hrun
      rw [hpl] at hc4
      rw [hW3]
      clear hS4 hS3 hp3 hfin r1 r4 hown hob
      refine wpAnyIn_ready (rs := [4]) (by kernel_rfl) (by simp) ?_
      refine AllReadyIn.cons rfl (fun K hK => ?_) AllReadyIn.nil
      rw [if_pos (by kernel_rfl)]
      refine Thw.wpIn_append (.tmp 8) (.tmp 11) 24 rfl rfl rfl hrun ?_
      refine hK _ _ ?_
      clear hK K hrun
      refine wpAnyIn_ready (rs := [5]) (by kernel_rfl) (by simp) ?_
      refine AllReadyIn.cons rfl (fun K hK => ?_) AllReadyIn.nil
      go_simp
      refine hK _ _ ?_
      clear hK K
      refine wpAnyIn_done (by kernel_rfl) ?_ _
      refine ⟨hKO4.trans (KeepsOthers.setCell _ _ _), ?_, ⟨_, Boxed.set _ hbx4, ?_, ?_⟩, ?_⟩
      · exact ⟨(Below.heap_setCell w4 ⟨w.heap.size, 0, none⟩ _ _ (by show w.heap.size + 1 ≠ w.heap.size; omega)).trans hKc4.1, (Below.heap_setCell w4 ⟨w.heap.size, 0, none⟩ _ _ (by show w.heap.size + 1 + 1 ≠ w.heap.size; omega)).trans hKc4.2⟩
      · exact Kd.S_far hS5 (fun k hk => by show k ≠ w.heap.size; omega) _
      · have h9 := r2.size; simp [World.setCell]; omega
      · exact hBw4.setCell (p := ⟨w.heap.size, 0, none⟩) (Nat.le_refl _) _
    · go_simp
      refine hK _ _ ?_
      clear hK K
      refine wpAnyIn_ready (rs := [0, 2]) (by kernel_rfl) (by simp) ?_
      refine AllReadyIn.cons rfl (fun K hK => ?_) (AllReadyIn.cons rfl (fun K hK => ?_) AllReadyIn.nil)
      · go_simp
        refine hK _ _ ?_
        clear hK K
        refine wpAnyIn_ready (rs := [2]) (by kernel_rfl) (by simp) ?_
        refine AllReadyIn.cons rfl (fun K hK => ?_) AllReadyIn.nil
        go_simp
        refine ⟨trivial, (CallsIn.inRound l (callsIn_wide.2 hcl)).mono ?_⟩
        rintro e w2 ⟨v2, rfl, hR2, hB2⟩
        obtain ⟨A2, c2, rfl⟩ := Kd.R_slice hR2
        have hbx2 : Boxed w2 w.heap.size 24 (.slice A1 (pre.map (merge_Batches.chunk l0)).length c1) := (hB2.block _ hv.lt).trans hv
        have hcell2 := hbx2.cell
        refine hK _ _ ?_
        clear hK K
        refine wpAnyIn_ready (rs := [3]) (by kernel_rfl) (by simp) ?_
        refine AllReadyIn.cons rfl (fun K hK => ?_) AllReadyIn.nil
        go_simp
        have hbx3 := hbx2.alloc (.cells #[.slice A2 (merge_Batches.chunk l0 x).length c2] 22)
        have hcell3 := hbx3.cell
        refine hK _ _ ?_
        clear hK K
        have hWd : W.drew.heap.size = W.heap.size := rfl
        have hz2 : W.heap.size ≤ w2.heap.size := hB2.size
        obtain ⟨W3, hW3⟩ : ∃ W3, w2.alloc (.cells #[.slice A2 (merge_Batches.chunk l0 x).length c2] 22) = W3 := ⟨_, rfl⟩
        have hz3 : W3.heap.size = w2.heap.size + 1 := by rw [← hW3]; simp
        have hbW : Below W.heap.size W W3 := by rw [← hW3]; exact (((Below.refl W.heap.size W).drew).trans hB2).alloc hz2 _
        have hS3 : Kd.S (Kd.slice 36 k36) 22 W3 w.heap.size (fun k => w.heap.size + 3 ≤ k ∧ ¬ W.heap.size ≤ k) (.slice A1 (pre.map (merge_Batches.chunk l0)).length c1) (pre.map (merge_Batches.chunk l0)) :=
          Kd.S_below (Kd.S_mono (Kd.S_bound hS) (fun k hk => ⟨hk.1, by have := hk.2.2.1; omega⟩)) hbW
        have hp3 : (Kd.slice 36 k36).M W3 w.heap.size (fun k => W.heap.size ≤ k) (merge_Batches.chunk l0 x) [.slice A2 (merge_Batches.chunk l0 x).length c2] :=
          ⟨_, rfl, by rw [← hW3]; exact Kd.R_alloc (Kd.R_lower (Kd.R_mono (Kd.R_bound hR2) (fun k hk => hk.2.1)) (by rw [hWd]; omega)) _⟩
        have hob : ∀ k, (Value.slice A1 (pre.map (merge_Batches.chunk l0)).length c1).ownBlock = some k → w.heap.size + 3 ≤ k ∧ k < W.heap.size := fun k hk => by
          have h1 := (Kd.S_R hS3).1 k hk
          omega
        obtain ⟨inner, hown, hfin⟩ := Thw.S_own_append (ok := fun k => w.heap.size + 3 ≤ k) hS3 hp3 (fun k hk => ⟨by omega, fun e => by have := hob k e.symm; omega⟩) (fun k hk => by omega)
        obtain ⟨i0, hi, hy0, hy1, hy2⟩ := info_parts merge_Batches.info
        have hpl : (pre.map (merge_Batches.chunk l0)).length = pre.length := List.length_map _
        obtain ⟨v4, w4, hrun, r1, r2, _, r4⟩ := run_append_own_at (P := Try.prog) (w := W3) w.heap.size 24 24 22 i0 (.slice none 0 0) 1 24 Try.underlying24 hi hy0 hy1 hy2 rfl (by decide) _ _ inner hown ⟨w2.heap.size, 0, none⟩ 1 1 [.slice A2 (merge_Batches.chunk l0 x).length c2] rfl (by rw [← hW3]; exact cell_one_new _ _ _) (by intro u hu; simp at hu; subst hu; rfl) (by rw [hpl]; simp only [maxLen]; omega) (by rw [hpl]; omega) (by omega)
        have hS4 := hfin v4 w4 r1 r2 (r4.imp id (fun h => ⟨_, h, Nat.le_refl _⟩))
        obtain ⟨A4, c4, rfl⟩ := Kd.S_slice hS4
        have hbx4 : Boxed w4 w.heap.size 24 (.slice A1 (pre.map (merge_Batches.chunk l0)).length c1) := (show Boxed W3 w.heap.size 24 _ from by rw [← hW3]; exact hbx2.alloc _).kept r2 (fun e => by have := hob _ e.symm; omega)
        have hb34 : Below W.heap.size W w4 ∨ True := Or.inr trivial
        have hc4 := hbx4.cell
        have hf4 := hbx4.frozen
        have hKO : KeepsOthers W W3 := ⟨by omega, fun k o hk _ => (hbW.block k (Array.getElem?_eq_some_iff.1 hk).1).trans hk⟩
        have hKO4 : KeepsOthers W w4 := hKO.trans (KeepsOthers.of_grownBy r2 (fun j o hj ho => by
          obtain ⟨cells, hc⟩ := own_typed hown j hj
          rw [hc] at ho
          cases ho
          rfl))
        have hKc4 : Thw.Kc (w.heap.size + 1) (w.heap.size + 1 + 1) W w4 := ⟨(r2.block _ (by omega) (fun e => by have := hob _ e.symm; omega)).trans (hbW.block _ (by omega)), (r2.block _ (by omega) (fun e => by have := hob _ e.symm; omega)).trans (hbW.block _ (by omega))⟩
        have hBw4 : Below w.heap.size w w4 := (hB.trans (hbW.mono (by omega))).grown r2 (by omega) (fun k e => by have := hob k e; omega)
        have hl4 : (pre.map (merge_Batches.chunk l0) ++ [merge_Batches.chunk l0 x]).length = pre.length + 1 := by simp
        have hS5 : Kd.S (Kd.slice 36 k36) 22 w4 w.heap.size (fun k => w.heap.size + 3 ≤ k) (.slice A4 (pre.length + 1) c4) ((pre ++ [x]).map (merge_Batches.chunk l0)) := by
          rw [hl4] at hS4
          rw [List.map_append]
          exact hS4
        rw [hl4, hpl] at hrun
        rw [hpl] at hc4
        rw [hW3]
        clear hS4 hS3 hp3 hfin r1 r4 hown hob
        refine wpAnyIn_ready (rs := [4]) (by kernel_rfl) (by simp) ?_
        refine AllReadyIn.cons rfl (fun K hK => ?_) AllReadyIn.nil
        rw [if_pos (by kernel_rfl)]
        refine Thw.wpIn_append (.tmp 8) (.tmp 11) 24 rfl rfl rfl hrun ?_
        refine hK _ _ ?_
        clear hK K hrun
        refine wpAnyIn_ready (rs := [5]) (by kernel_rfl) (by simp) ?_
        refine AllReadyIn.cons rfl (fun K hK => ?_) AllReadyIn.nil
        go_simp
        refine hK _ _ ?_
        clear hK K
        refine wpAnyIn_done (by kernel_rfl) ?_ _
        refine ⟨hKO4.trans (KeepsOthers.setCell _ _ _), ?_, ⟨_, Boxed.set _ hbx4, ?_, ?_⟩, ?_⟩
        · exact ⟨(Below.heap_setCell w4 ⟨w.heap.size, 0, none⟩ _ _ (by show w.heap.size + 1 ≠ w.heap.size; omega)).trans hKc4.1, (Below.heap_setCell w4 ⟨w.heap.size, 0, none⟩ _ _ (by show w.heap.size + 1 + 1 ≠ w.heap.size; omega)).trans hKc4.2⟩
        · exact Kd.S_far hS5 (fun k hk => by show k ≠ w.heap.size; omega) _
        · have h9 := r2.size; simp [World.setCell]; omega
        · exact hBw4.setCell (p := ⟨w.heap.size, 0, none⟩) (Nat.le_refl _) _
      · go_simp
        refine ⟨trivial, (CallsIn.inRound l (callsIn_wide.2 hcl)).mono ?_⟩
        rintro e w2 ⟨v2, rfl, hR2, hB2⟩
        obtain ⟨A2, c2, rfl⟩ := Kd.R_slice hR2
        have hbx2 : Boxed w2 w.heap.size 24 (.slice A1 (pre.map (merge_Batches.chunk l0)).length c1) := (hB2.block _ hv.lt).trans hv
        have hcell2 := hbx2.cell
        refine hK _ _ ?_
        clear hK K
        refine wpAnyIn_ready (rs := [0, 3]) (by kernel_rfl) (by simp) ?_
        refine AllReadyIn.cons rfl (fun K hK => ?_) (AllReadyIn.cons rfl (fun K hK => ?_) AllReadyIn.nil)
        · go_simp
          refine hK _ _ ?_
          clear hK K
          refine wpAnyIn_ready (rs := [3]) (by kernel_rfl) (by simp) ?_
          refine AllReadyIn.cons rfl (fun K hK => ?_) AllReadyIn.nil
          go_simp
          have hbx3 := hbx2.alloc (.cells #[.slice A2 (merge_Batches.chunk l0 x).length c2] 22)
          have hcell3 := hbx3.cell
          refine hK _ _ ?_
          clear hK K
          have hWd : W.drew.heap.size = W.heap.size := rfl
          have hz2 : W.heap.size ≤ w2.heap.size := hB2.size
          obtain ⟨W3, hW3⟩ : ∃ W3, w2.alloc (.cells #[.slice A2 (merge_Batches.chunk l0 x).length c2] 22) = W3 := ⟨_, rfl⟩
          have hz3 : W3.heap.size = w2.heap.size + 1 := by rw [← hW3]; simp
          have hbW : Below W.heap.size W W3 := by rw [← hW3]; exact (((Below.refl W.heap.size W).drew).trans hB2).alloc hz2 _
          have hS3 : Kd.S (Kd.slice 36 k36) 22 W3 w.heap.size (fun k => w.heap.size + 3 ≤ k ∧ ¬ W.heap.size ≤ k) (.slice A1 (pre.map (merge_Batches.chunk l0)).length c1) (pre.map (merge_Batches.chunk l0)) :=
            Kd.S_below (Kd.S_mono (Kd.S_bound hS) (fun k hk => ⟨hk.1, by have := hk.2.2.1; omega⟩)) hbW
          have hp3 : (Kd.slice 36 k36).M W3 w.heap.size (fun k => W.heap.size ≤ k) (merge_Batches.chunk l0 x) [.slice A2 (merge_Batches.chunk l0 x).length c2] :=
            ⟨_, rfl, by rw [← hW3]; exact Kd.R_alloc (Kd.R_lower (Kd.R_mono (Kd.R_bound hR2) (fun k hk => hk.2.1)) (by rw [hWd]; omega)) _⟩
          have hob : ∀ k, (Value.slice A1 (pre.map (merge_Batches.chunk l0)).length c1).ownBlock = some k → w.heap.size + 3 ≤ k ∧ k < W.heap.size := fun k hk => by
            have h1 := (Kd.S_R hS3).1 k hk
            omega
          obtain ⟨inner, hown, hfin⟩ := Thw.S_own_append (ok := fun k => w.heap.size + 3 ≤ k) hS3 hp3 (fun k hk => ⟨by omega, fun e => by have := hob k e.symm; omega⟩) (fun k hk => by omega)
          obtain ⟨i0, hi, hy0, hy1, hy2⟩ := info_parts merge_Batches.info
          have hpl : (pre.map (merge_Batches.chunk l0)).length = pre.length := List.length_map _
          obtain ⟨v4, w4, hrun, r1, r2, _, r4⟩ := run_append_own_at (P := Try.prog) (w := W3) w.heap.size 24 24 22 i0 (.slice none 0 0) 1 24 Try.underlying24 hi hy0 hy1 hy2 rfl (by decide) _ _ inner hown ⟨w2.heap.size, 0, none⟩ 1 1 [.slice A2 (merge_Batches.chunk l0 x).length c2] rfl (by rw [← hW3]; exact cell_one_new _ _ _) (by intro u hu; simp at hu; subst hu; rfl) (by rw [hpl]; simp only [maxLen]; omega) (by rw [hpl]; omega) (by omega)
          have hS4 := hfin v4 w4 r1 r2 (r4.imp id (fun h => ⟨_, h, Nat.le_refl _⟩))
          obtain ⟨A4, c4, rfl⟩ := Kd.S_slice hS4
          have hbx4 : Boxed w4 w.heap.size 24 (.slice A1 (pre.map (merge_Batches.chunk l0)).length c1) := (show Boxed W3 w.heap.size 24 _ from by rw [← hW3]; exact hbx2.alloc _).kept r2 (fun e => by have := hob _ e.symm; omega)
          have hb34 : Below W.heap.size W w4 ∨ True := Or.inr trivial
          have hc4 := hbx4.cell
          have hf4 := hbx4.frozen
          have hKO : KeepsOthers W W3 := ⟨by omega, fun k o hk _ => (hbW.block k (Array.getElem?_eq_some_iff.1 hk).1).trans hk⟩
          have hKO4 : KeepsOthers W w4 := hKO.trans (KeepsOthers.of_grownBy r2 (fun j o hj ho => by
            obtain ⟨cells, hc⟩ := own_typed hown j hj
            rw [hc] at ho
            cases ho
            rfl))
          have hKc4 : Thw.Kc (w.heap.size + 1) (w.heap.size + 1 + 1) W w4 := ⟨(r2.block _ (by omega) (fun e => by have := hob _ e.symm; omega)).trans (hbW.block _ (by omega)), (r2.block _ (by omega) (fun e => by have := hob _ e.symm; omega)).trans (hbW.block _ (by omega))⟩
          have hBw4 : Below w.heap.size w w4 := (hB.trans (hbW.mono (by omega))).grown r2 (by omega) (fun k e => by have := hob k e; omega)
          have hl4 : (pre.map (merge_Batches.chunk l0) ++ [merge_Batches.chunk l0 x]).length = pre.length + 1 := by simp
          have hS5 : Kd.S (Kd.slice 36 k36) 22 w4 w.heap.size (fun k => w.heap.size + 3 ≤ k) (.slice A4 (pre.length + 1) c4) ((pre ++ [x]).map (merge_Batches.chunk l0)) := by
            rw [hl4] at hS4
            rw [List.map_append]
            exact hS4
          rw [hl4, hpl] at hrun
          rw [hpl] at hc4
          rw [hW3]
          clear hS4 hS3 hp3 hfin r1 r4 hown hob
          refine wpAnyIn_ready (rs := [4]) (by kernel_rfl) (by simp) ?_
          refine AllReadyIn.cons rfl (fun K hK => ?_) AllReadyIn.nil
          rw [if_pos (by kernel_rfl)]
          refine Thw.wpIn_append (.tmp 8) (.tmp 11) 24 rfl rfl rfl hrun ?_
          refine hK _ _ ?_
          clear hK K hrun
          refine wpAnyIn_ready (rs := [5]) (by kernel_rfl) (by simp) ?_
          refine AllReadyIn.cons rfl (fun K hK => ?_) AllReadyIn.nil
          go_simp
          refine hK _ _ ?_
          clear hK K
          refine wpAnyIn_done (by kernel_rfl) ?_ _
          refine ⟨hKO4.trans (KeepsOthers.setCell _ _ _), ?_, ⟨_, Boxed.set _ hbx4, ?_, ?_⟩, ?_⟩
          · exact ⟨(Below.heap_setCell w4 ⟨w.heap.size, 0, none⟩ _ _ (by show w.heap.size + 1 ≠ w.heap.size; omega)).trans hKc4.1, (Below.heap_setCell w4 ⟨w.heap.size, 0, none⟩ _ _ (by show w.heap.size + 1 + 1 ≠ w.heap.size; omega)).trans hKc4.2⟩
          · exact Kd.S_far hS5 (fun k hk => by show k ≠ w.heap.size; omega) _
          · have h9 := r2.size; simp [World.setCell]; omega
          · exact hBw4.setCell (p := ⟨w.heap.size, 0, none⟩) (Nat.le_refl _) _
        · go_simp
          have hbx3 := hbx2.alloc (.cells #[.slice A2 (merge_Batches.chunk l0 x).length c2] 22)
          have hcell3 := hbx3.cell
          refine hK _ _ ?_
          clear hK K
          refine wpAnyIn_ready (rs := [0]) (by kernel_rfl) (by simp) ?_
          refine AllReadyIn.cons rfl (fun K hK => ?_) AllReadyIn.nil
          go_simp
          refine hK _ _ ?_
          clear hK K
          have hWd : W.drew.heap.size = W.heap.size := rfl
          have hz2 : W.heap.size ≤ w2.heap.size := hB2.size
          obtain ⟨W3, hW3⟩ : ∃ W3, w2.alloc (.cells #[.slice A2 (merge_Batches.chunk l0 x).length c2] 22) = W3 := ⟨_, rfl⟩
          have hz3 : W3.heap.size = w2.heap.size + 1 := by rw [← hW3]; simp
          have hbW : Below W.heap.size W W3 := by rw [← hW3]; exact (((Below.refl W.heap.size W).drew).trans hB2).alloc hz2 _
          have hS3 : Kd.S (Kd.slice 36 k36) 22 W3 w.heap.size (fun k => w.heap.size + 3 ≤ k ∧ ¬ W.heap.size ≤ k) (.slice A1 (pre.map (merge_Batches.chunk l0)).length c1) (pre.map (merge_Batches.chunk l0)) :=
            Kd.S_below (Kd.S_mono (Kd.S_bound hS) (fun k hk => ⟨hk.1, by have := hk.2.2.1; omega⟩)) hbW
          have hp3 : (Kd.slice 36 k36).M W3 w.heap.size (fun k => W.heap.size ≤ k) (merge_Batches.chunk l0 x) [.slice A2 (merge_Batches.chunk l0 x).length c2] :=
            ⟨_, rfl, by rw [← hW3]; exact Kd.R_alloc (Kd.R_lower (Kd.R_mono (Kd.R_bound hR2) (fun k hk => hk.2.1)) (by rw [hWd]; omega)) _⟩
          have hob : ∀ k, (Value.slice A1 (pre.map (merge_Batches.chunk l0)).length c1).ownBlock = some k → w.heap.size + 3 ≤ k ∧ k < W.heap.size := fun k hk => by
            have h1 := (Kd.S_R hS3).1 k hk
            omega
          obtain ⟨inner, hown, hfin⟩ := Thw.S_own_append (ok := fun k => w.heap.size + 3 ≤ k) hS3 hp3 (fun k hk => ⟨by omega, fun e => by have := hob k e.symm; omega⟩) (fun k hk => by omega)
          obtain ⟨i0, hi, hy0, hy1, hy2⟩ := info_parts merge_Batches.info
          have hpl : (pre.map (merge_Batches.chunk l0)).length = pre.length := List.length_map _
          obtain ⟨v4, w4, hrun, r1, r2, _, r4⟩ := run_append_own_at (P := Try.prog) (w := W3) w.heap.size 24 24 22 i0 (.slice none 0 0) 1 24 Try.underlying24 hi hy0 hy1 hy2 rfl (by decide) _ _ inner hown ⟨w2.heap.size, 0, none⟩ 1 1 [.slice A2 (merge_Batches.chunk l0 x).length c2] rfl (by rw [← hW3]; exact cell_one_new _ _ _) (by intro u hu; simp at hu; subst hu; rfl) (by rw [hpl]; simp only [maxLen]; omega) (by rw [hpl]; omega) (by omega)
          have hS4 := hfin v4 w4 r1 r2 (r4.imp id (fun h => ⟨_, h, Nat.le_refl _⟩))
          obtain ⟨A4, c4, rfl⟩ := Kd.S_slice hS4
          have hbx4 : Boxed w4 w.heap.size 24 (.slice A1 (pre.map (merge_Batches.chunk l0)).length c1) := (show Boxed W3 w.heap.size 24 _ from by rw [← hW3]; exact hbx2.alloc _).kept r2 (fun e => by have := hob _ e.symm; omega)
          have hb34 : Below W.heap.size W w4 ∨ True := Or.inr trivial
          have hc4 := hbx4.cell
          have hf4 := hbx4.frozen
          have hKO : KeepsOthers W W3 := ⟨by omega, fun k o hk _ => (hbW.block k (Array.getElem?_eq_some_iff.1 hk).1).trans hk⟩
          have hKO4 : KeepsOthers W w4 := hKO.trans (KeepsOthers.of_grownBy r2 (fun j o hj ho => by
            obtain ⟨cells, hc⟩ := own_typed hown j hj
            rw [hc] at ho
            cases ho
            rfl))
          have hKc4 : Thw.Kc (w.heap.size + 1) (w.heap.size + 1 + 1) W w4 := ⟨(r2.block _ (by omega) (fun e => by have := hob _ e.symm; omega)).trans (hbW.block _ (by omega)), (r2.block _ (by omega) (fun e => by have := hob _ e.symm; omega)).trans (hbW.block _ (by omega))⟩
          have hBw4 : Below w.heap.size w w4 := (hB.trans (hbW.mono (by omega))).grown r2 (by omega) (fun k e => by have := hob k e; omega)
          have hl4 : (pre.map (merge_Batches.chunk l0) ++ [merge_Batches.chunk l0 x]).length = pre.length + 1 := by simp
          have hS5 : Kd.S (Kd.slice 36 k36) 22 w4 w.heap.size (fun k => w.heap.size + 3 ≤ k) (.slice A4 (pre.length + 1) c4) ((pre ++ [x]).map (merge_Batches.chunk l0)) := by
            rw [hl4] at hS4
            rw [List.map_append]
            exact hS4
          rw [hl4, hpl] at hrun
          rw [hpl] at hc4
          rw [hW3]
          clear hS4 hS3 hp3 hfin r1 r4 hown hob
          refine wpAnyIn_ready (rs := [4]) (by kernel_rfl) (by simp) ?_
          refine AllReadyIn.cons rfl (fun K hK => ?_) AllReadyIn.nil
          rw [if_pos (by kernel_rfl)]
          refine Thw.wpIn_append (.tmp 8) (.tmp 11) 24 rfl rfl rfl hrun ?_
          refine hK _ _ ?_
          clear hK K hrun
          refine wpAnyIn_ready (rs := [5]) (by kernel_rfl) (by simp) ?_
          refine AllReadyIn.cons rfl (fun K hK => ?_) AllReadyIn.nil
          go_simp
          refine hK _ _ ?_
          clear hK K
          refine wpAnyIn_done (by kernel_rfl) ?_ _
          refine ⟨hKO4.trans (KeepsOthers.setCell _ _ _), ?_, ⟨_, Boxed.set _ hbx4, ?_, ?_⟩, ?_⟩
          · exact ⟨(Below.heap_setCell w4 ⟨w.heap.size, 0, none⟩ _ _ (by show w.heap.size + 1 ≠ w.heap.size; omega)).trans hKc4.1, (Below.heap_setCell w4 ⟨w.heap.size, 0, none⟩ _ _ (by show w.heap.size + 1 + 1 ≠ w.heap.size; omega)).trans hKc4.2⟩
          · exact Kd.S_far hS5 (fun k hk => by show k ≠ w.heap.size; omega) _
          · have h9 := r2.size; simp [World.setCell]; omega
          · exact hBw4.setCell (p := ⟨w.heap.size, 0, none⟩) (Nat.le_refl _) _
  case done =>
    rintro D ys W hD rfl ⟨⟨v, hv, hS, _⟩, hB⟩ hK
    obtain ⟨A1, c1, rfl⟩ := Kd.S_slice hS
    have hc := hv.cell
    gi_wp2
    refine ⟨by simp, .inl ⟨_, _, rfl, run_takeDeferred hK, ?_⟩⟩
    refine ⟨_, results_tmp rfl _ _ _, _, rfl, ?_, hB.trans (belowK_b (w := w) (Nat.le_refl _) W D _ _ (by omega) hK rfl rfl)⟩
    have h1 := Kd.S_mono (Kd.S_grown (Kd.S_bound hS) (grownBy_putObj' W D (.deferred none)) (fun k hk e => by
      cases e
      obtain ⟨_, _, _, q, _, cells, hq⟩ := hk
      rw [hK] at hq
      cases hq)) (ok' := fun _ => True) (fun _ _ => trivial)
    simpa using h1
  case stop =>
    rintro D c pre W _ _ h _
    exact h.elim

/-! ### api_Rec_21: function 21 -/
def api_Rec_21.l0 : Nat → List (S36) → List (List (S36)) → Int → Int → Option ((List (S36)))
 | 0,_,_,_,_ => none
 | k + 1,x3,x6,x7,x8 => if x8 < x7 then (if 0 ≤ x8 then (if x8 < (x6.length : Int) then (if x3.length + (rd_L4 x6 x8).length < 2932031007402 then (api_Rec_21.l0 k (x3 ++ (rd_L4 x6 x8)) x6 x7 (wrap64 (x8 + 1))) else (none)) else (none)) else (none)) else (some x3)
def api_Rec_21.f (k : Nat) (l0 : List (List (S36))) : Option ((List (S36))):=api_Rec_21.l0 k ([] : List (S36)) l0 (l0.length : Int) 0
theorem api_Rec_21.mono_l : ∀ k,(∀ y0 y1 y2 y3,LeO (api_Rec_21.l0 k y0 y1 y2 y3) (api_Rec_21.l0 (k + 1) y0 y1 y2 y3))
 | 0 => fun _ _ _ _ r h => by simp [api_Rec_21.l0] at h
 | k + 1 => by
  have ih0:=api_Rec_21.mono_l k
  ·intro y0 y1 y2 y3
   unfold api_Rec_21.l0
   repeat' first
   | (with_reducible exact ih0 _ _ _ _)
   | (with_reducible exact LeO.refl _)
   | (with_reducible exact LeO.none _)
   | (with_reducible refine LeO.ite ?_ ?_)
   | (with_reducible refine LeO.bind ?_ (fun _ => ?_))
   | exact ih0 _ _ _ _
   | exact LeO.none _
   | refine LeO.ite ?_ ?_
   | refine LeO.bind ?_ (fun _ => ?_)
theorem api_Rec_21.mono : ∀ a0 k,LeO (api_Rec_21.f k a0) (api_Rec_21.f (k + 1) a0):=by
 intro a0 k
 have ih0:=api_Rec_21.mono_l k
 unfold api_Rec_21.f
 repeat' first
   | (with_reducible exact ih0 _ _ _ _)
   | (with_reducible exact LeO.refl _)
   | (with_reducible exact LeO.none _)
   | (with_reducible refine LeO.ite ?_ ?_)
   | (with_reducible refine LeO.bind ?_ (fun _ => ?_))
   | exact ih0 _ _ _ _
   | exact LeO.none _
   | refine LeO.ite ?_ ?_
   | refine LeO.bind ?_ (fun _ => ?_)
set_option maxHeartbeats 8000000 in
set_option maxRecDepth 100000 in
theorem api_Rec_21.calls (k : Nat) (A0 : Option Addr) (c0 : Nat) (l0 : List (List (S36))) (r : List (S36)) (w : World) (hr0 : Kd.C (Kd.slice 36 k36) w A0 l0.length l0) (hc0 : l0.length ≤ c0) (h : api_Rec_21.f k l0 = some r) :
  Calls Try.prog 21 #[.slice A0 l0.length c0] w fun e w' => ∃ v0_ : Value,e = .returned (v0_) ∧ Kd.R k36 36 w' w.heap.size (fun _ => True) v0_ r ∧ Below w.heap.size w w' := by
 have HR0:=Aside0.mk hr0
 have HC0:=Aside0.mk hc0
 clear hr0 hc0
 have HB:=Aside0.mk (Below.refl w.heap.size w)
 have H : (api_Rec_21.l0 k ([] : List (S36)) l0 (l0.length : Int) 0) = some r:=h
 clear h
 have H' := Aside0.mk H
 clear H
 go_enter Try.func21,Try.ntmps21
 go_wp2
 go_loopg [3,8] k (fun kq v3 v8 w' => ∃ (x3_1 : List (S36)) (x8_1 : Int),v8 = .int .i64 x8_1 ∧ Aside0 (api_Rec_21.l0 kq x3_1 l0 (l0.length : Int) x8_1 = some r) ∧ Aside0 (kq ≤ k) ∧ Aside0 (Kd.R k36 36 w' w.heap.size (fun _ => True) v3 x3_1) ∧ Aside0 (Below w.heap.size w w'))
 case atStart => exact ⟨(([] : List (S36))),(0),(by first | rfl | (simp;done) | (simp [*];done)),H',⟨Nat.le_refl _⟩,⟨by first | exact Kd.R_nil _ _ _ _ _ | exact Kd.N_nil _ _ _ _ _ | exact Kd.V_nil _ _ _ _ _ | exact Kd.Q_nil _ _ _ _ _ | exact Kd.S_nil _ _ _ _ _⟩,⟨by repeat (first | (with_reducible first | exact HB.out | apply below_alloc | apply pw_below_drewN | apply below_drew1) | exact HB.out)⟩⟩
 case round =>
  clear H'
  obtain ⟨x3_1,x8_1,rfl,HA,HK1,HO_3,HB⟩:=hrel
  cases gk with
  | zero => exact absurd HA.out (by simp [api_Rec_21.l0])
  | succ k1 =>
   have H:=HA.out
   clear HA
   simp only [api_Rec_21.l0] at H
   by_cases c2 : x8_1 < (l0.length : Int)
   ·rw [if_pos c2] at H
    have c2b0 : decide (x8_1 < (l0.length : Int)) = true:=decide_eq_true c2
    clear c2
    by_cases c3 : 0 ≤ x8_1
    ·rw [if_pos c3] at H
     have c3b0 : decide (0 ≤ x8_1) = true:=decide_eq_true c3
     clear c3
     by_cases c4 : x8_1 < (l0.length : Int)
     ·rw [if_pos c4] at H
      have c4b0 : decide (x8_1 < (l0.length : Int)) = true:=decide_eq_true c4
      clear c4
      by_cases c5 : x3_1.length + (rd_L4 l0 x8_1).length < 2932031007402
      ·rw [if_pos c5] at H
       have LMc5:=Aside0.mk c5
       clear c5
       obtain ⟨y102,hy102⟩ : ∃ y_ : List (S36),y_ = (x3_1 ++ (rd_L4 l0 x8_1)):=⟨_,rfl⟩
       replace H : (api_Rec_21.l0 k1 y102 l0 (l0.length : Int) (wrap64 (x8_1 + 1))) = some r:=by first | (rw [hy102];with_reducible exact H) | (have H2_:=(Option.bind_some _ _).symm.trans H;rw [hy102];with_reducible exact H2_) | (have H2_:=(Option.bind_some _ _).symm.trans H;with_reducible exact H2_) | with_reducible exact H | (rw [hy102];exact H) | exact H
       have Ny102:=Aside0.mk hy102
       clear hy102
       have H' := Aside0.mk H
       clear H
       have p101 : 0 ≤ (x8_1 : Int):=of_decide_eq_true (by first | (with_reducible assumption) | assumption)
       have q101 : x8_1 < (l0.length : Int):=of_decide_eq_true (by first | (with_reducible assumption) | assumption)
       obtain ⟨ad101,A101_0,c101_0,e101,hx101_0,hl101_0,hi101_0⟩:=at_L4 HR0.out x8_1 p101 q101
       cases e101
       replace hx101_0:=(HB.out.cell (World.block_lt_of_cell? w _ hx101_0)).trans hx101_0
       have HR101_0:=Aside0.mk hi101_0
       have HC101_0:=Aside0.mk hl101_0
       clear hi101_0 hl101_0
       replace p101:=eq_true p101
       replace q101:=eq_true q101
       go_wp2_with (first | ((with_reducible refine gate_builtin (b := .append) (xs := #[.tmp 12,.tmp 13]) rfl ?_);at_builtin;refine Kd.R_append_rows k36 (w0:=w) w.heap.size rfl (.tmp 12) (.tmp 13) 22 36 (.agg #[(.int .u64 0),(.string ⟨#[]⟩),(.string ⟨#[]⟩),(.bool false)]) 48 rfl Try.underlying22 info36 rfl (by decide) (by omega) u3 x3_1 (rd_L4 l0 x8_1) _ _ _ (fun _ => True) (fun _ => False) rfl rfl ?aO ?aR (fun _ _ h => h) (fun _ h => h.elim) ?aF ?aB ?aS ?aL ?_;(case aR => repeat (first | exact (Kd.C_below HR101_0.out HB.out) | (with_reducible refine Kd.C_alloc ?_ _) | (with_reducible refine Kd.C_drewN ?_ _) | (with_reducible refine Kd.C_drew ?_)));(case aB => exact (by repeat (first | (with_reducible first | exact HB.out | apply below_alloc | apply pw_below_drewN | apply below_drew1) | exact HB.out)));(case aF => exact (fun _ _ => trivial));(case aO => exact (by (with_reducible repeat (first | apply Kd.R_alloc | apply Kd.R_drewN | apply Kd.R_drew));exact HO_3.out));(case aS => exact (below_size (by repeat (first | (with_reducible first | exact HB.out | apply below_alloc | apply pw_below_drewN | apply below_drew1) | exact HB.out))));(case aL => have:=LMc5.out;omega);intro v103 w6 ho hb hg hat;rw [← Ny102.out] at ho;have n0_:=Aside0.mk (hb);have n1_:=Aside0.mk (ho);clear HB;clear HO_3;have HB:=n0_;have HO104:=n1_;clear n0_ n1_;clear ho hb hg hat))
       go_roundg k1
       case measure => have:=HK1.out;omega
       case rel => exact ⟨(y102),(wrap64 (x8_1 + 1)),(by first | rfl | (simp;done) | (simp [*];done)),H',⟨by have:=HK1.out;omega⟩,⟨by (with_reducible repeat (first | apply Kd.R_alloc | apply Kd.R_drewN | apply Kd.R_drew));exact HO104.out⟩,⟨by repeat (first | (with_reducible first | exact HB.out | apply below_alloc | apply pw_below_drewN | apply below_drew1) | exact HB.out)⟩⟩
      ·rw [if_neg c5] at H
       exact absurd H (by simp)
     ·rw [if_neg c4] at H
      exact absurd H (by simp)
    ·rw [if_neg c3] at H
     exact absurd H (by simp)
   ·rw [if_neg c2] at H
    have c2b0 : decide (x8_1 < (l0.length : Int)) = false:=decide_eq_false c2
    clear c2
    obtain rfl:=Option.some.inj H
    go_wp2
    go_ret
    exact ⟨_,by first | rfl | (simp [errW_none,errW_some] <;> rfl) | (simp [*,errW_none,errW_some] <;> rfl) | (simp [errW_none,errW_some];exact isEmpty_bne _),by (with_reducible repeat (first | apply Kd.R_alloc | apply Kd.R_drewN | apply Kd.R_drew));exact HO_3.out,by repeat (first | (with_reducible first | exact HB.out | apply below_alloc | apply pw_below_drewN | apply below_drew1) | exact HB.out)⟩

-- NOT PRINTED: function 33 (api_Rec_33)

-- NOT PRINTED: function 44 (api_Rec_44)

-- NOT PRINTED: function 34 (api_Rec_34)

-- NOT PRINTED: function 41 (bits_Len32)

-- NOT PRINTED: function 42 (bits_Len64)

-- NOT PRINTED: function 30 (bits_Len)

-- NOT PRINTED: function 45 (slices_nextPowerOfTwo)

-- NOT PRINTED: function 46 (slices_xorshift_Next)

-- NOT PRINTED: function 35 (api_Rec_35)

-- NOT PRINTED: function 49 (api_Rec_49)

-- NOT PRINTED: function 48 (api_Rec_48)

-- NOT PRINTED: function 47 (api_Rec_47)

-- NOT PRINTED: function 36 (api_Rec_36)

-- NOT PRINTED: function 37 (api_Rec_37)

-- NOT PRINTED: function 38 (api_Rec_38)

-- NOT PRINTED: function 39 (api_Rec_39)

-- NOT PRINTED: function 40 (api_Rec_40)

-- NOT PRINTED: function 29 (api_Rec_29)

-- NOT PRINTED: function 22 (api_Rec_22)

/-! ### merge_Newest: function 13 -/
def merge_Newest.f (k : Nat) (l0 : List (List (S36))) : Option (List (S36)) :=
  (api_Rec_21.f k l0).bind fun l => if l.length ≤ 1000000 ∧ ∀ x ∈ l, x.f1.size ≤ 140737488351232 then some (Thw.newestL (fun x : S36 => x.f1) (fun x => x.f0) l) else none
def merge_Newest.V (x : S36) : Value := .agg #[.int .u64 x.f0, .string x.f1, .string x.f2, .bool x.f3]
theorem merge_Newest.mono : ∀ a0 k, LeO (merge_Newest.f k a0) (merge_Newest.f (k + 1) a0) := by
  intro a0 k
  unfold merge_Newest.f
  repeat' first
      | (with_reducible exact api_Rec_21.mono _ _)
      | (with_reducible exact LeO.refl _)
      | (with_reducible refine LeO.bind ?_ (fun _ => ?_))
theorem merge_Newest.small (k : Nat) (l0 : List (List (S36))) (r : List (S36)) (h : merge_Newest.f k l0 = some r) : r.length ≤ 1000000 := by
  unfold merge_Newest.f at h
  replace h := Option.bind_eq_some_iff.mp h
  obtain ⟨l, _, h⟩ := h
  split at h
  case isFalse => cases h
  rename_i hl
  cases h
  have h1 := (Thw.tab_ok (fun x : S36 => x.f1) (fun x => x.f0) l).perm.length_eq
  rw [List.length_map] at h1
  have h2 := Thw.tabM_length (fun x : S36 => x.f1) (fun x => x.f0) l
  omega
theorem merge_Newest.zero (w : World) : (zeroValue 36).run Try.prog w = .ok (.agg #[.int .u64 0, .string ⟨#[]⟩, .string ⟨#[]⟩, .bool false]) w := by kernel_rfl
set_option maxHeartbeats 12800000 in
set_option maxRecDepth 100000 in
theorem merge_Newest.calls (k : Nat) (A0 : Option Addr) (c0 : Nat) (l0 : List (List (S36))) (r : List (S36)) (w : World) (hr0 : Kd.C (Kd.slice 36 k36) w A0 l0.length l0) (hc0 : l0.length ≤ c0) (h : merge_Newest.f k l0 = some r) :
    Calls Try.prog 13 #[.slice A0 l0.length c0] w fun e w' => ∃ v0_ : Value, e = .returned v0_ ∧ Kd.R k36 36 w' w.heap.size (fun _ => True) v0_ r ∧ Below w.heap.size w w' := by
  unfold merge_Newest.f at h
  replace h := Option.bind_eq_some_iff.mp h
  obtain ⟨l, HL, h⟩ := h
  split at h
  case isFalse => cases h
  rename_i hlim
  cases h
  obtain ⟨hl1, hl2⟩ := hlim
  have HL := Aside0.mk HL
  have HS := Aside0.mk hl2
  have HC := Aside0.mk hr0
  have HC0 := Aside0.mk hc0
  have hmm := @run_makeMap Try.prog
  clear hl2 hr0 hc0
  go_enter Try.func13, Try.ntmps13
  go_wp2_with fail
  have HM0 := Aside0.mk (Thw.MapOf.made (P := Try.prog) (kt := 9) (kv := Value.string) (ev := merge_Newest.V) w)
  have HB0 := Aside0.mk ((Below.refl w.heap.size w).alloc (Nat.le_refl _) (.map #[] 0))
  refine (api_Rec_21.calls k A0 c0 l0 l _ (Kd.C_below HC.out (HB0.out)) HC0.out HL.out).mono ?_
  rintro e w1 ⟨v, rfl, hR, hB⟩
  obtain ⟨A1, c1, rfl, hl1', hk1⟩ := Kd.R_reads hR
  have R1 := Aside0.mk (show Kd.R k36 36 w1 w.heap.size (fun k => k ≠ w.heap.size) (.slice A1 l.length c1) l from Kd.R_lower (Kd.R_mono (Kd.R_bound hR) (fun k hk => by have := hk.2.1; simp at this; omega)) (by simp))
  have M1 := Aside0.mk (HM0.out.frm (S := Thw.None') (Thw.Frm.of_new hB) (fun x => x.elim))
  have B1 := Aside0.mk (HB0.out.trans (hB.mono HB0.out.size))
  clear hR hB hk1 hl1' HM0 HB0
  go_wp2_with fail
  go_loopw [15] (fun v15 wr => ∃ i : Nat, i ≤ l.length ∧ v15 = .int .i64 i ∧ Aside0 (Thw.MapOf Try.prog 9 Value.string merge_Newest.V wr w.heap.size (Thw.tabM (fun x : S36 => x.f1) (fun x => x.f0) (l.take i))) ∧ Aside0 (Kd.R k36 36 wr w.heap.size (fun k => k ≠ w.heap.size) (.slice A1 l.length c1) l) ∧ Aside0 (Below w.heap.size w wr)) (fun v15 _ => l.length - (intOf v15).toNat)
  case atStart => exact ⟨0, by omega, rfl, by rw [List.take_zero]; exact M1, R1, B1⟩
  case round =>
    obtain ⟨i, hi, rfl, HM, HR, HB⟩ := hrel
    by_cases hlt : i < l.length
    · have d1 : decide ((i : Int) < (l.length : Int)) = true := decide_eq_true (by omega)
      obtain ⟨_, _, hC⟩ := Kd.R_reads' HR.out
      obtain ⟨ad, e, x0, x1, x2, x3⟩ := at_T36 hC (i : Int) (by omega) (by omega)
      cases e
      obtain ⟨x, hx⟩ : ∃ x, rd_T36 l (i : Int) = x := ⟨_, rfl⟩
      rw [hx] at x0 x1 x2 x3
      rw [Int.toNat_natCast] at x0 x1 x2 x3
      have HX := Aside0.mk hx
      clear hx hC
      have i0 : 0 ≤ (i : Int) := by omega
      have i1 : (i : Int) < (l.length : Int) := by omega
      go_upto_region 5 with (fail)
      have hxl : x = l[i] := by
        have := HX.out
        unfold rd_T36 at this
        rw [Int.toNat_natCast, List.getD_eq_getElem?_getD, List.getElem?_eq_getElem hlt] at this
        exact this.symm
      have HSX := Aside0.mk (show x.f1.size ≤ 140737488351232 by rw [hxl]; exact HS.out _ (List.getElem_mem _))
      have HTB := Aside0.mk (Thw.tabM_step (fun x : S36 => x.f1) (fun x => x.f0) l i hlt)
      have HXL := Aside0.mk hxl
      clear hxl x0 x1 x2 x3
      have X2 := Aside0.mk (blk_new wr (.cells #[.int .u64 x.f0, .string x.f1, .string x.f2, .bool x.f3] 36))
      have M2 := Aside0.mk (HM.out.alloc (.cells #[.int .u64 x.f0, .string x.f1, .string x.f2, .bool x.f3] 36))
      have R2 := Aside0.mk (Kd.R_alloc HR.out (.cells #[.int .u64 x.f0, .string x.f1, .string x.f2, .bool x.f3] 36))
      have B2 := Aside0.mk (HB.out.alloc HB.out.size (.cells #[.int .u64 x.f0, .string x.f1, .string x.f2, .bool x.f3] 36))
      obtain ⟨b5, hb5⟩ : ∃ b5, wr.heap.size = b5 := ⟨_, rfl⟩
      rw [hb5] at X2 ⊢
      have HB5 := Aside0.mk (show w.heap.size < b5 by rw [← hb5]; exact HM.out.lt)
      have HN2 := Aside0.mk (show (wr.alloc (.cells #[.int .u64 x.f0, .string x.f1, .string x.f2, .bool x.f3] 36)).heap.size = b5 + 1 by rw [← hb5]; simp)
      generalize wr.alloc (.cells #[.int .u64 x.f0, .string x.f1, .string x.f2, .bool x.f3] 36) = w2 at X2 M2 R2 B2 HN2 ⊢
      clear hb5 HM HR HB
      obtain ⟨c0', c1', c2', c3', cf'⟩ := Thw.cells4 X2.out
      cases hl : Thw.look (Thw.tabM (fun x : S36 => x.f1) (fun x => x.f0) (l.take i)) x.f1 with
      | none =>
        have hlk := Thw.MapOf.absent Thw.strInj Thw.strKeyed M2.out Try.underlying41 (Thw.strOk HSX.out) (merge_Newest.zero w2) hl
        have HT := Aside0.mk (show Thw.tabM (fun x : S36 => x.f1) (fun x => x.f0) (l.take (i + 1)) = Thw.put (Thw.tabM (fun x : S36 => x.f1) (fun x => x.f0) (l.take i)) x.f1 x by rw [HTB.out, ← HXL.out]; unfold Thw.stepM; simp only [hl])
        clear hl
        go_upto_region 6 with (fail)
        have X3 := Aside0.mk (blk_alloc X2.out (.cells #[.int .u64 0, .string ⟨#[]⟩, .string ⟨#[]⟩, .bool false] 36))
        have Y3 := Aside0.mk (blk_new w2 (.cells #[.int .u64 0, .string ⟨#[]⟩, .string ⟨#[]⟩, .bool false] 36))
        rw [HN2.out] at Y3
        have M3 := Aside0.mk (M2.out.alloc (.cells #[.int .u64 0, .string ⟨#[]⟩, .string ⟨#[]⟩, .bool false] 36))
        have R3 := Aside0.mk (Kd.R_alloc R2.out (.cells #[.int .u64 0, .string ⟨#[]⟩, .string ⟨#[]⟩, .bool false] 36))
        have B3 := Aside0.mk (B2.out.alloc B2.out.size (.cells #[.int .u64 0, .string ⟨#[]⟩, .string ⟨#[]⟩, .bool false] 36))
        clear c0' c1' c2' c3' cf' hlk
        obtain ⟨w3, hw3⟩ : ∃ w3, w2.alloc (.cells #[.int .u64 0, .string ⟨#[]⟩, .string ⟨#[]⟩, .bool false] 36) = w3 := ⟨_, rfl⟩
        rw [hw3] at X3 Y3 M3 R3 B3
        (try rw [HN2.out])
        rw [hw3]
        obtain ⟨c0', c1', c2', c3', cf'⟩ := Thw.cells4 X3.out
        obtain ⟨d0', d1', d2', d3', df'⟩ := Thw.cells4 Y3.out
        clear hw3
        go_wp2_with (at_mapUpdate; refine Thw.wpList_mapUpdate_of Thw.strInj Thw.strKeyed _ rfl _ _ _ 41 36 rfl Try.underlying41 w.heap.size _ rfl M3.out x.f1 rfl (Thw.strOk HSX.out) x rfl ?_; intro w4 m4 f4 z4; have M4 := Aside0.mk m4; have F4 := Aside0.mk f4; have Z4 := Aside0.mk z4; clear m4 f4 z4)
        go_roundw
        case rel =>
          refine ⟨i + 1, by omega, by go_num, ⟨by rw [HT.out]; exact M4.out⟩, ⟨Kd.R_step R3.out (fun k ho hk => F4.out.block k hk ho)⟩, ⟨B3.out.trans (Thw.Frm.below F4.out B3.out.size (fun i _ e => by omega))⟩⟩
        case measure => simp [intOf]; omega
      | some y =>
        have hlk := Thw.MapOf.found Thw.strInj Thw.strKeyed M2.out Try.underlying41 (Thw.strOk HSX.out) (merge_Newest.zero w2) hl
        simp only [merge_Newest.V] at hlk
        have HL2 := Aside0.mk hl
        clear hl
        go_upto_region 6 with (fail)
        have X3 := Aside0.mk (blk_alloc X2.out (.cells #[.int .u64 y.f0, .string y.f1, .string y.f2, .bool y.f3] 36))
        have Y3 := Aside0.mk (blk_new w2 (.cells #[.int .u64 y.f0, .string y.f1, .string y.f2, .bool y.f3] 36))
        rw [HN2.out] at Y3
        have M3 := Aside0.mk (M2.out.alloc (.cells #[.int .u64 y.f0, .string y.f1, .string y.f2, .bool y.f3] 36))
        have R3 := Aside0.mk (Kd.R_alloc R2.out (.cells #[.int .u64 y.f0, .string y.f1, .string y.f2, .bool y.f3] 36))
        have B3 := Aside0.mk (B2.out.alloc B2.out.size (.cells #[.int .u64 y.f0, .string y.f1, .string y.f2, .bool y.f3] 36))
        clear c0' c1' c2' c3' cf' hlk
        obtain ⟨w3, hw3⟩ : ∃ w3, w2.alloc (.cells #[.int .u64 y.f0, .string y.f1, .string y.f2, .bool y.f3] 36) = w3 := ⟨_, rfl⟩
        rw [hw3] at X3 Y3 M3 R3 B3
        (try rw [HN2.out])
        rw [hw3]
        obtain ⟨c0', c1', c2', c3', cf'⟩ := Thw.cells4 X3.out
        obtain ⟨d0', d1', d2', d3', df'⟩ := Thw.cells4 Y3.out
        clear hw3
        by_cases hle : y.f0 ≤ x.f0
        · have dle : decide (y.f0 ≤ x.f0) = true := decide_eq_true hle
          have HT := Aside0.mk (show Thw.tabM (fun x : S36 => x.f1) (fun x => x.f0) (l.take (i + 1)) = Thw.put (Thw.tabM (fun x : S36 => x.f1) (fun x => x.f0) (l.take i)) x.f1 x by rw [HTB.out, ← HXL.out]; unfold Thw.stepM; simp only [HL2.out, if_pos hle])
          go_wp2_with (at_mapUpdate; refine Thw.wpList_mapUpdate_of Thw.strInj Thw.strKeyed _ rfl _ _ _ 41 36 rfl Try.underlying41 w.heap.size _ rfl M3.out x.f1 rfl (Thw.strOk HSX.out) x rfl ?_; intro w4 m4 f4 z4; have M4 := Aside0.mk m4; have F4 := Aside0.mk f4; have Z4 := Aside0.mk z4; clear m4 f4 z4)
          go_roundw
          case rel =>
            refine ⟨i + 1, by omega, by go_num, ⟨by rw [HT.out]; exact M4.out⟩, ⟨Kd.R_step R3.out (fun k ho hk => F4.out.block k hk ho)⟩, ⟨B3.out.trans (Thw.Frm.below F4.out B3.out.size (fun i _ e => by omega))⟩⟩
          case measure => simp [intOf]; omega
        · have dle : decide (y.f0 ≤ x.f0) = false := decide_eq_false hle
          have HT := Aside0.mk (show Thw.tabM (fun x : S36 => x.f1) (fun x => x.f0) (l.take (i + 1)) = Thw.tabM (fun x : S36 => x.f1) (fun x => x.f0) (l.take i) by rw [HTB.out, ← HXL.out]; unfold Thw.stepM; simp only [HL2.out, if_neg hle])
          go_wp2_with fail
          go_roundw
          case rel =>
            refine ⟨i + 1, by omega, by go_num, ⟨by rw [HT.out]; exact M3.out⟩, R3, B3⟩
          case measure => simp [intOf]; omega
    · obtain rfl : i = l.length := by omega
      rw [List.take_length] at HM
      have d1 : decide ((l.length : Int) < (l.length : Int)) = false := decide_eq_false (by omega)
      obtain ⟨m, hm⟩ : ∃ m, Thw.tabM (fun x : S36 => x.f1) (fun x => x.f0) l = m := ⟨_, rfl⟩
      rw [hm] at HM
      have HTM := Aside0.mk hm
      clear hm
      have HML := Aside0.mk HM.out.lt
      go_wp2_with (at_range; refine Thw.wpList_range_of _ rfl _ 41 36 rfl Try.underlying41 w.heap.size m rfl HM.out ?_; intro w5 hi5 hf5 hz5)
      have HI := Aside0.mk hi5
      have B5 := Aside0.mk (HB.out.trans (Thw.Frm.below (B := w.heap.size) hf5 HB.out.size (fun _ _ x => x.elim)))
      obtain ⟨rr, hrr⟩ : ∃ rr, wr.heap.size = rr := ⟨_, rfl⟩
      rw [hrr] at HI HML ⊢
      have HZ := Aside0.mk (show rr < w5.heap.size by rw [hz5, hrr]; omega)
      clear hi5 hf5 hz5 HR HM HB hrr
      go_frame
      go_loopw [8] (fun v8 wq => ∃ (rest : List (ByteArray × S36)) (outl : List (S36)) (A : Option Addr) (c : Nat), v8 = .slice A outl.length c ∧ Aside0 (Thw.MapIt Try.prog 9 Value.string merge_Newest.V wq rr w.heap.size m rest) ∧ Aside0 (Kd.R k36 36 wq w.heap.size (fun k => k ≠ w.heap.size ∧ k ≠ rr) (.slice A outl.length c) outl) ∧ Aside0 ((outl ++ rest.map (·.2)).Perm (m.map (·.2))) ∧ Aside0 (Below w.heap.size w wq)) (fun _ wq => wq.rangeLeft w.heap.size rr)
      case atStart => exact ⟨m, [], none, 0, rfl, HI, ⟨Kd.R_nil _ _ _ _ _⟩, ⟨List.Perm.refl _⟩, B5⟩
      case round =>
        obtain ⟨rest, outl, A, c, rfl, HI, HR, HP, HB⟩ := hrel
        go_wp2_with (at_next; refine Thw.wpList_next_of _ rfl _ rfl _ _ _ _ rfl HI.out ?_ ?_)
        · intro h0
          subst h0
          have HD := Aside0.mk (show outl.Perm (m.map (·.2)) by have := HP.out; simpa using this)
          clear HP HI
          have HDP := Aside0.mk (show outl.Perm ((Thw.tabM (fun x : S36 => x.f1) (fun x => x.f0) l).map (·.2)) by rw [HTM.out]; exact HD.out)
          clear HD
          rcases Nat.eq_zero_or_pos outl.length with h00 | h00
          · obtain rfl : outl = [] := List.eq_nil_of_length_eq_zero h00
            have hn := fun W => AnyF.slices_SortFunc_none Try.sortRec A c (.func (.func 23) #[] #[]) W
            change ∀ W, Calls Try.prog 22 _ _ _ at hn
            clear h00
            go_wp2_with fail
            refine (hn _).mono ?_
            rintro e w' ⟨rfl, rfl⟩
            go_wp2_with fail
            go_ret
            have e := Thw.newest_of_tab (fun x : S36 => x.f1) (fun x => x.f0) l [] HDP.out List.Pairwise.nil
            exact ⟨_, rfl, by rw [← e]; exact Kd.R_mono HR.out (fun _ _ => trivial), HB.out⟩
          · haveI : Inhabited (S36) := ⟨z36⟩
            obtain ⟨g, c', hv, hg, hb, hok, hH, hsorted⟩ := Thw.R_holdsK (d := k36) (enc := fun x : S36 => [.int .u64 x.f0, .string x.f1, .string x.f2, .bool x.f3]) (fun _ _ _ _ _ h => k36_openM h) (fun w b o x => k36_mkM w b o x) (fun _ => rfl) HR.out h00
            injection hv with hv1 hv2 hv3
            subst hv1 hv3
            have eg : ∀ args w, (callFunc 23 args).run Try.prog w = .ok (.enter 23 args) w := enters_of Try.func23 (by kernel_rfl) rfl
            have hcon := AnyQ.slices_SortFunc Try.sortRec 4 Try.isAgg36 Try.sizeOf36 (fun x : S36 => [.int .u64 x.f0, .string x.f1, .string x.f2, .bool x.f3]) (fun _ => rfl) (fun x v hv => by simp at hv; rcases hv with rfl | rfl | rfl | rfl <;> rfl) (fun x y => Thw.lexB x.f1 y.f1) (Thw.swoKey (fun x : S36 => x.f1)) 23 #[] g 0 c outl.toArray wr eg (fun _ _ _ _ x y => Thw.cmpRec.calls _ _ _ _ _ _ _ _ _) hH hg (by have h1 := HDP.out.length_eq; rw [List.length_map] at h1; have h2 := Thw.tabM_length (fun x : S36 => x.f1) (fun x => x.f0) l; simp; omega)
            change Calls Try.prog 22 _ _ _ at hcon
            rw [List.size_toArray] at hcon
            have HCON := Aside0.mk hcon
            have HSO := Aside0.mk hsorted
            have HGB := Aside0.mk hb
            clear hcon hsorted hb hH hok hg eg h00 hv2
            go_wp2_with fail
            refine HCON.out.mono ?_
            rintro e w' ⟨rfl, d', n, os, hp, hs, rfl⟩
            have RS := Aside0.mk (show Kd.R k36 36 (Go.Proofs.sortWorldK (fun x : S36 => [.int .u64 x.f0, .string x.f1, .string x.f2, .bool x.f3]) 4 wr g 0 n d' os) w.heap.size _ _ d'.toList from HSO.out n d' os (by have := hp.1; simpa using this))
            have BS := Aside0.mk (HB.out.trans (Thw.Frm.below (B := w.heap.size) (Thw.sortedWorld_frm (fun x : S36 => [.int .u64 x.f0, .string x.f1, .string x.f2, .bool x.f3]) 4 wr g n d' os) HB.out.size (fun i _ e => by rw [e]; exact HGB.out)))
            have hdl : d'.size = outl.length := by have := hp.1; simpa using this
            have hperm : d'.toList.Perm outl := by
              have := hp.2.2
              have h2 : d'.toList.Perm (outl.take d'.size) := by simpa [← hdl] using this
              rwa [hdl, List.take_length] at h2
            have hpw : d'.toList.Pairwise fun x y => ¬ (y.f1).data.toList < (x.f1).data.toList := by
              rw [List.pairwise_iff_getElem]
              intro i j hi hj hij
              have h1 := hs i j (Nat.zero_le _) hij (by simp at hj; omega)
              rw [getElem!_pos d' i (by simpa using hi), getElem!_pos d' j (by simpa using hj)] at h1
              have h2 := of_decide_eq_false h1
              intro h3
              exact h2 ((Thw.cmpB_neg _ _).2 (by simpa using h3))
            have HE := Aside0.mk (Thw.newest_of_tab (fun x : S36 => x.f1) (fun x => x.f0) l d'.toList (hperm.trans HDP.out) hpw)
            clear hp hs hdl hperm hpw
            generalize Go.Proofs.sortWorldK _ 4 wr g 0 n d' os = ws at RS BS ⊢
            go_wp2_with fail
            go_ret
            exact ⟨_, rfl, by rw [← HE.out]; exact Kd.R_mono RS.out (fun _ _ => trivial), BS.out⟩
        · intro l1 pk px l2 w6 h0 hi6 hf6 hz6 hen
          have HI6 := Aside0.mk hi6
          have HF6 := Aside0.mk (HB.out.trans (Thw.Frm.below (B := w.heap.size) hf6 HB.out.size (fun i _ e => by have := HML.out; omega)))
          have H0 := Aside0.mk h0
          have HZ := Aside0.mk (show wr.rangeLeft w.heap.size rr = rest.length from HI.out.left_eq)
          have R6 := Aside0.mk (Kd.R_step HR.out (fun k ho hk => hf6.block k hk (fun e => ho.2 e)))
          simp only [merge_Newest.V] at hen ⊢
          have hos : (outl.length + 1) * 48 ≤ 140737488355328 := by
            have h1 := HP.out.length_eq
            rw [List.length_append, List.length_map, List.length_map] at h1
            have h2 := Thw.tabM_length (fun x : S36 => x.f1) (fun x => x.f0) l
            rw [HTM.out] at h2
            omega
          have HOS := Aside0.mk hos
          have HZ6 := Aside0.mk (show rr < w6.heap.size by have := HI6.out.lt; omega)
          clear hi6 hf6 hz6 h0 hos HR HB HI
          go_upto_region 13 with (fail)
          have X7 := Aside0.mk (blk_new w6 (.cells #[.int .u64 px.f0, .string px.f1, .string px.f2, .bool px.f3] 36))
          have I7 := Aside0.mk (HI6.out.alloc (.cells #[.int .u64 px.f0, .string px.f1, .string px.f2, .bool px.f3] 36))
          have R7 := Aside0.mk (Kd.R_alloc R6.out (.cells #[.int .u64 px.f0, .string px.f1, .string px.f2, .bool px.f3] 36))
          have B7 := Aside0.mk (HF6.out.alloc HF6.out.size (.cells #[.int .u64 px.f0, .string px.f1, .string px.f2, .bool px.f3] 36))
          have Z7 := Aside0.mk (show rr < (w6.alloc (.cells #[.int .u64 px.f0, .string px.f1, .string px.f2, .bool px.f3] 36)).heap.size by have := HZ6.out; simp; omega)
          obtain ⟨b6, hb6⟩ : ∃ b6, w6.heap.size = b6 := ⟨_, rfl⟩
          rw [hb6] at X7 ⊢
          generalize w6.alloc (.cells #[.int .u64 px.f0, .string px.f1, .string px.f2, .bool px.f3] 36) = w7 at X7 I7 R7 B7 Z7 ⊢
          obtain ⟨c0', c1', c2', c3', cf'⟩ := Thw.cells4 X7.out
          clear hb6 hen
          go_wp2_with (at_builtin; refine Kd.R_append k36 (w0 := w) w.heap.size rfl (.tmp 46) (.tmp 48) 22 36 (.agg #[.int .u64 0, .string ⟨#[]⟩, .string ⟨#[]⟩, .bool false]) 48 rfl Try.underlying22 info36 rfl (by decide) (by omega) (.slice A outl.length c) outl px [.int .u64 px.f0, .string px.f1, .string px.f2, .bool px.f3] (fun k => k ≠ w.heap.size ∧ k ≠ rr) (fun _ => False) rfl rfl (k36_mkM _ _ _ px) (fun _ hk => hk.elim) (fun k hk => by have := Z7.out; have := HML.out; omega) R7.out B7.out B7.out.size HOS.out ?_; intro v1 w8 hR hB hg hat; obtain ⟨A8, c8, rfl⟩ := Kd.R_slice hR; have R8 := Aside0.mk hR; have B8 := Aside0.mk hB; have F8 := Aside0.mk (show Thw.Frm (fun k => some k = (Value.slice A outl.length c).ownBlock) w7 w8 from ⟨hg.os, hg.tape, hg.output, hg.size, fun k hk hn => hg.block k hk hn⟩); clear hR hB hg hat)
          have HOB := Aside0.mk R7.out.1
          refine ⟨⟨l1 ++ l2, outl ++ [px], A8, c8, by rw [List.length_append]; rfl, ⟨I7.out.frm F8.out (fun e => (HOB.out _ e.symm).1 rfl) (fun e => (HOB.out _ e.symm).2 rfl)⟩, R8, ⟨?_⟩, B8⟩, ?_⟩
          · refine List.Perm.trans ?_ HP.out
            rw [H0.out]
            simp only [List.map_append, List.map_cons, List.append_assoc, List.singleton_append]
            exact List.Perm.append_left _ List.perm_middle.symm
          · rw [(I7.out.frm F8.out (fun e => (HOB.out _ e.symm).1 rfl) (fun e => (HOB.out _ e.symm).2 rfl)).left_eq, HZ.out, H0.out]
            simp

-- NOT PRINTED: function 32 (api_Rec_32)

-- NOT PRINTED: function 25 (api_Rec_25)

end Go.Proofs.Ytlfhnpecfkhcpaa.Print
