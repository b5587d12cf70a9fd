/- Layer 6: the document's Cut, Append. -/
import Derived.Test.YtpmnljdhjgjgfaaEv06Z
namespace Go.Proofs.Ytpmnljdhjgjgfaa.Thw
open Go Go.RowKit Go.Maps Go.Proofs.YtpmnljdhjgjgfaaW.PrintWords Go.Proofs.YtpmnljdhjgjgfaaW.PrintLast Go.Proofs.YtpmnljdhjgjgfaaW.PrintMore
attribute [local go_sem] max2_int min2_int max_two min_two
set_option linter.unusedVariables false
set_option linter.unusedSimpArgs false
set_option maxHeartbeats 3200000 in
set_option maxRecDepth 100000 in
theorem ref_Cut.calls (w : World) (A : Nat → Prop) (g : Nat) (st : Dsk) (h : RfAt w A g st) (hf : -1 ≤ st.fuse ∧ st.fuse ≤ 9223372036854775807) (hn : (st.m.map (·.1)).Nodup) (hl : st.m.length ≤ 1000000) (hg : ∀ p ∈ st.m, p.2.b.size ≤ 9223372036854775807) (name : ByteArray) (n : Int) :
    Calls Try.prog 23 #[.pointer (some ⟨g, 0, none⟩), .string name, .int .i64 n] w fun e w' => e = .returned (.int .i64 (st.cut name n).2) ∧ RfAt w' (gr A w) g (st.cut name n).1 ∧ Frm A w w' := by
  have H0 := Aside0.mk h.bound
  have HA := Aside0.mk (atR_refL hn name)
  have HN := Aside0.mk hn
  have HFu := Aside0.mk hf
  have hl1 : Aside0 (st.burn.1.m.length ≤ 1000000) := ⟨by rw [burn_m]; exact hl⟩
  have HL0 := Aside0.mk hl
  have hlt := h.lt
  have ha : A g := h.1
  have HGG := Aside0.mk hg
  clear h hn hf hl hg
  go_enter Try.func23, Try.ntmps23
  go_wp2_with fail
  refine (ref_at.calls w _ g st H0.out HL0.out name).mono ?_
  rintro e w1 ⟨rfl, b1⟩
  have H1 := Aside0.mk (H0.out.below b1)
  have F1 := Aside0.mk (Frm.of_new (S := fun k => A k ∧ k < w.heap.size) b1)
  clear b1
  rcases HA.out with ⟨hlk, hat⟩ | ⟨f, i, hlk, hat, hget⟩
  · rw [hat]
    go_wp2_with fail
    go_ret
    rw [show st.cut name n = (st, 5) by simp [Dsk.cut, Dsk.change, hlk]]
    exact ⟨rfl, H1.out.mono fun k _ hk => Or.inl hk.1, F1.out.mono fun k _ hk => hk.1⟩
  rw [hat]
  have d0 : decide ((i : Int) < 0) = false := decide_eq_false (by omega)
  have HL := Aside0.mk hlk
  have HG := Aside0.mk hget
  clear hat hget hlk
  obtain ⟨_, v1, hb1, hR1⟩ := H1.out
  obtain ⟨A1, cc1, rfl, hcc1, hC1⟩ := Kd.R_reads hR1
  obtain ⟨c0, c1, c2', c3, fr⟩ := cells4 hb1
  have hil1 : i < (refL st.m).length := (List.getElem?_eq_some_iff.1 HG.out).1
  obtain ⟨ad1, rfl, q0, q1, q2⟩ := Ref.at_T53 hC1 (i : Int) (by omega) (by omega)
  have e : rdR (refL st.m) (i : Int) = ⟨name, f.b, f.sure⟩ := by rw [rdR_at hil1]; exact (List.getElem?_eq_some_iff.1 HG.out).2
  unfold rdR at e
  rw [e] at q0 q1 q2
  simp only [Int.toNat_natCast] at q0 q1 q2
  have p0 : 0 ≤ (i : Int) := by omega
  have p1 : (i : Int) < ((refL st.m).length : Int) := by omega
  clear hb1 hR1 hC1 e
  have HSO := Aside0.mk (show st.sizeOf name = f.b.size by simp [Dsk.sizeOf, HL.out])
  have HFS := Aside0.mk (show f.b.size ≤ 9223372036854775807 from HGG.out _ (look_mem HL.out))
  by_cases n0 : n < 0
  · have d1 : decide (n < 0) = true := decide_eq_true n0
    have E0 := Aside0.mk (show st.cut name n = (st, 1) by
      have : st.mayCut name n = false := by simp only [Dsk.mayCut]; rw [decide_eq_false (by omega)]; rfl
      simp [Dsk.cut, Dsk.change, HL.out, this])
    go_wp2_with fail
    go_ret
    rw [E0.out]
    exact ⟨rfl, H1.out.mono fun k _ hk => Or.inl hk.1, F1.out.mono fun k _ hk => hk.1⟩
  have d1 : decide (n < 0) = false := decide_eq_false n0
  by_cases n1 : (f.b.size : Int) < n
  · have d2 : decide ((f.b.size : Int) < n) = true := decide_eq_true n1
    have E0 := Aside0.mk (show st.cut name n = (st, 1) by
      have : st.mayCut name n = false := by simp only [Dsk.mayCut, HSO.out]; rw [decide_eq_false (show ¬ n ≤ (f.b.size : Int) by omega), Bool.and_false]
      simp [Dsk.cut, Dsk.change, HL.out, this])
    go_wp2_with fail
    go_ret
    rw [E0.out]
    exact ⟨rfl, H1.out.mono fun k _ hk => Or.inl hk.1, F1.out.mono fun k _ hk => hk.1⟩
  have d2 : decide ((f.b.size : Int) < n) = false := decide_eq_false n1
  have HMC := Aside0.mk (show st.mayCut name n = true by simp only [Dsk.mayCut, HSO.out]; rw [decide_eq_true (show 0 ≤ n by omega), decide_eq_true (show n ≤ (f.b.size : Int) by omega)]; rfl)
  have n2 : 0 ≤ n := by omega
  have n3 : n ≤ (f.b.size : Int) := by omega
  go_wp2_with fail
  clear c0 c1 c2' c3 fr q0 q1 q2 p0 p1
  refine (ref_burn.calls _ _ g st H1.out HFu.out).mono ?_
  rintro e w2 ⟨rfl, h2, f2⟩
  have F2 := Aside0.mk (F1.out.andThen f2 fun i hi => Or.inl hi)
  have H2 := Aside0.mk h2
  clear h2 f2
  rcases burn_two st with ⟨hb, hbb⟩ | ⟨hb, hbb⟩
  case inr =>
    rw [hbb]
    have E0 := Aside0.mk (show st.cut name n = (st.burn.1, 8) by simp [Dsk.cut, HMC.out, Dsk.change, HL.out, hb])
    clear hb hbb
    go_wp2_with fail
    go_ret
    rw [E0.out]
    exact ⟨rfl, H2.out.mono fun k _ hk => Or.inl hk.1, F2.out.mono fun k _ hk => hk.1⟩
  rw [hbb]
  obtain ⟨st1, hst1⟩ : ∃ s, st.burn.1 = s := ⟨_, rfl⟩
  have hm1 : st1.m = st.m := by rw [← hst1]; exact burn_m st
  rw [hst1] at hl1 H2
  obtain ⟨_, v0, hb2, hR2⟩ := H2.out
  obtain ⟨A2, c2, rfl, hcc2, hC2⟩ := Kd.R_reads hR2
  obtain ⟨c0, c1, c2', c3, fr⟩ := cells4 hb2
  have hil : i < (refL st1.m).length := by rw [hm1]; exact (List.getElem?_eq_some_iff.1 HG.out).1
  obtain ⟨ad, rfl, q0, q1, q2⟩ := Ref.at_T53 hC2 (i : Int) (by omega) (by omega)
  have e : rdR (refL st1.m) (i : Int) = ⟨name, f.b, f.sure⟩ := by rw [rdR_at hil]; have := (List.getElem?_eq_some_iff.1 HG.out).2; simp only [hm1]; exact this
  unfold rdR at e
  rw [e] at q0 q1 q2
  simp only [Int.toNat_natCast] at q0 q1 q2
  have p0 : 0 ≤ (i : Int) := by omega
  have p1 : (i : Int) < ((refL st1.m).length : Int) := by omega
  have HM1 := Aside0.mk hm1
  clear hb2 hR2 hC2 e hm1
  obtain ⟨z, hz⟩ : ∃ z, mn f.sure n = z := ⟨_, rfl⟩
  have hz2 : (if n < f.sure then n else f.sure) = z := hz
  have E0 := Aside0.mk (show st.cut name n = (updCut name n st1 f, 0) by simp [Dsk.cut, Dsk.change, HL.out, HMC.out, hb, hst1])
  have HE := Aside0.mk (show (updCut name n st1 f).room = st1.room ∧ (updCut name n st1 f).fuse = st1.fuse ∧ (updCut name n st1 f).down = st1.down from ⟨rfl, rfl, rfl⟩)
  have HW := Aside0.mk (show wi (wo (refL st1.m) name) ⟨name, f.b.extract 0 n.toNat, z⟩ = refL (updCut name n st1 f).m by rw [← hz]; exact wi_wo (by rw [HM1.out]; exact HN.out) name ⟨f.b.extract 0 n.toNat, mn f.sure n⟩)
  clear hb hbb hst1 hz
  generalize updCut name n st1 f = st2 at E0 HE HW
  go_wp2_with fail
  refine region_draw (n := 9) (S := fun W => W.heap[w2.heap.size]? = some (.cells #[.string name, .string (f.b.extract 0 n.toNat), .int .i64 z] 53)) (ds := [8]) #[false, false, false, false, false, false, false, false, false] (by kernel_rfl) rfl rfl (fun W => W.heap[w2.heap.size]? = some (.cells #[.string name, .string (f.b.extract 0 n.toNat), .int .i64 z] 53) ∧ RfAt W (fun k => A k ∧ k < w.heap.size) g st1 ∧ Frm (fun k => A k ∧ k < w.heap.size) w W) ⟨blk_drew (blk_new _ _), (H2.out.alloc _).drew, (F2.out.alloc _).drew⟩ (fun W h => h.1) ?_
  rintro w4 ⟨k4, h4, f4⟩
  have H4 := Aside0.mk h4
  have F4 := Aside0.mk f4
  have K4 := Aside0.mk k4
  clear h4 f4 k4 H2 F2
  refine pure_ (i := 0) (N := some 49) (v := ?_) (a' := ?_) #[true, false, false, false, false, false, false, false, false] rfl rfl (by kernel_rfl) (fun _ _ _ h => h) (Or.inl ⟨by rfl, ?_⟩) ?_ ?_
  rotate_left
  · intro w'
    go_simp
    with_reducible rfl
  rotate_left
  · simp only [Act.put, List.setIfInBounds_toArray, List.set_cons_zero, List.set_cons_succ, i64_w, i32_w]
    rfl
  refine pure_ (i := 1) (N := some 50) (v := ?_) (a' := ?_) #[true, true, false, false, false, false, false, false, false] rfl rfl (by kernel_rfl) (fun _ _ _ h => h) (Or.inl ⟨by rfl, ?_⟩) ?_ ?_
  rotate_left
  · intro w'
    go_simp
    with_reducible rfl
  rotate_left
  · simp only [Act.put, List.setIfInBounds_toArray, List.set_cons_zero, List.set_cons_succ, i64_w, i32_w]
    rfl
  refine pure_ (i := 2) (N := some 51) (v := ?_) (a' := ?_) #[true, true, true, false, false, false, false, false, false] rfl rfl (by kernel_rfl) (fun _ _ _ h => h) (Or.inl ⟨by rfl, ?_⟩) ?_ ?_
  rotate_left
  · intro w'
    go_simp
    with_reducible rfl
  rotate_left
  · simp only [Act.put, List.setIfInBounds_toArray, List.set_cons_zero, List.set_cons_succ, i64_w, i32_w]
    rfl
  refine take_ (i := 4) (N := some 53) (v := ?_) (a' := ?_) #[true, true, true, false, true, false, false, false, false] rfl rfl (by kernel_rfl) (fun _ _ _ h => h) (Or.inl ⟨by rfl, ?_⟩) K4.out ?_ ?_
  rotate_left
  · intro w' hW
    obtain ⟨e0, e1, e2, fr⟩ := cells3 hW
    go_simp
    with_reducible rfl
  rotate_left
  · simp only [Act.put, List.setIfInBounds_toArray, List.set_cons_zero, List.set_cons_succ, i64_w, i32_w]
    rfl
  refine one_ (i := 3) (N := some 52) #[true, true, true, true, true, false, false, false, false] rfl rfl (by kernel_rfl) (by decide) (fun K hK => ?_)
  refine goes_ Try.func46 (by kernel_rfl) rfl #[.pointer (some ⟨g, 0, none⟩), .string name] (by rfl) rfl rfl (by (try simp only [List.map_toArray, List.map_cons, List.map_nil]); first | done | rfl) ?_
  refine (ref_without.calls w4 _ g st1 H4.out hl1.out name).mono ?_
  rintro e w5 ⟨v, rfl, hR, b5⟩
  refine ⟨_, rfl, ?_⟩
  obtain ⟨A5, c5, rfl⟩ := Kd.R_slice hR
  obtain ⟨_, _, e5, hcc, hC⟩ := Kd.R_reads hR
  cases e5
  have K5 := Aside0.mk (show w5.heap[w2.heap.size]? = _ from (b5.block _ (blk_lt K4.out)).trans K4.out)
  have H5 := Aside0.mk (H4.out.below b5)
  have F5 := Aside0.mk (F4.out.andThen (S' := None') (Frm.of_new b5) (fun _ x => x.elim))
  have C5 := Aside0.mk hC
  have HC5 := Aside0.mk hcc
  clear hR hC hcc b5 K4 H4 F4
  refine hK.out _ _ K5.out (fun _ => ?_)
  clear hK K
  refine norm_ (a' := ?_) ?_ ?_
  rotate_left
  · show Act.put _ (some 52) _ = _
    simp only [Act.put, List.setIfInBounds_toArray, List.set_cons_zero, List.set_cons_succ, i64_w, i32_w]
    rfl
  refine one_ (i := 5) (N := some 54) #[true, true, true, true, true, true, false, false, false] rfl rfl (by kernel_rfl) (by decide) (fun K hK => ?_)
  refine goes_ Try.func45 (by kernel_rfl) rfl #[.slice A5 (wo (refL st1.m) name).length c5, .agg #[.string name, .string (f.b.extract 0 n.toNat), .int .i64 z]] (by rfl) rfl rfl (by (try simp only [List.map_toArray, List.map_cons, List.map_nil]); first | done | rfl) ?_
  refine (ref_with.calls w5 A5 c5 _ C5.out HC5.out (Nat.le_trans (List.length_filter_le _ _) (by rw [refL_length]; exact hl1.out)) ⟨name, (f.b.extract 0 n.toNat), z⟩).mono ?_
  rintro e w6 ⟨v, rfl, hR, b6⟩
  refine ⟨_, rfl, ?_⟩
  obtain ⟨A6, c6, rfl⟩ := Kd.R_slice hR
  have K6 := Aside0.mk (show w6.heap[w2.heap.size]? = _ from (b6.block _ (blk_lt K5.out)).trans K5.out)
  have h6 := H5.out.below b6
  have f6 := F5.out.andThen (S' := None') (Frm.of_new b6) (fun _ x => x.elim)
  have R6 := Aside0.mk hR
  have H6 := Aside0.mk h6
  have F6 := Aside0.mk f6
  have Z6 := Aside0.mk (show w.heap.size ≤ w5.heap.size from F5.out.size)
  clear hR b6 K5 H5 F5 C5 HC5 h6 f6
  refine hK.out _ _ K6.out (fun _ => ?_)
  clear hK K
  refine norm_ (a' := ?_) ?_ ?_
  rotate_left
  · show Act.put _ (some 54) _ = _
    simp only [Act.put, List.setIfInBounds_toArray, List.set_cons_zero, List.set_cons_succ, i64_w, i32_w]
    rfl
  refine pure_ (i := 6) (N := some 55) (v := ?_) (a' := ?_) #[true, true, true, true, true, true, true, false, false] rfl rfl (by kernel_rfl) (fun _ _ _ h => h) (Or.inl ⟨by rfl, ?_⟩) ?_ ?_
  rotate_left
  · intro w'
    go_simp
    with_reducible rfl
  rotate_left
  · simp only [Act.put, List.setIfInBounds_toArray, List.set_cons_zero, List.set_cons_succ, i64_w, i32_w]
    rfl
  refine pure_ (i := 7) (N := some 56) (v := ?_) (a' := ?_) #[true, true, true, true, true, true, true, true, false] rfl rfl (by kernel_rfl) (fun _ _ _ h => h) (Or.inl ⟨by rfl, ?_⟩) ?_ ?_
  rotate_left
  · intro w'
    go_simp
    with_reducible rfl
  rotate_left
  · simp only [Act.put, List.setIfInBounds_toArray, List.set_cons_zero, List.set_cons_succ, i64_w, i32_w]
    rfl
  refine last_ (i := 8) (N := none) #[true, true, true, true, true, true, true, true, true] rfl rfl (by kernel_rfl) (by decide) (fun K hK => ?_)
  obtain ⟨_, v0, hb6, _⟩ := H6.out
  obtain ⟨c0, c1, c2, c3, fr⟩ := cells4 hb6
  clear hb6
  refine skip_ (w1 := ?_) (by rfl) rfl ?_ ?_
  rotate_left
  · go_simp
    rfl
  refine hK.out _ _ ?_
  clear hK K
  refine done_ (by kernel_rfl) ?_
  go_wp2_with fail
  go_ret
  rw [E0.out]
  have h7 := H6.out.row (st' := st2) (base := w5.heap.size) (by rw [← HW.out]; exact R6.out) HE.out
  exact ⟨rfl, h7.mono fun k _ hk => hk.elim (fun x => Or.inl x.1) (fun x => Or.inr (Nat.le_trans Z6.out x)), (F6.out.setCell (p := ⟨g, 1, none⟩) (Or.inl ⟨ha, hlt⟩) _).mono fun k _ hk => hk.1⟩
set_option maxHeartbeats 3200000 in
set_option maxRecDepth 100000 in
theorem ref_Append.calls (w : World) (A : Nat → Prop) (g : Nat) (st : Dsk) (h : RfAt w A g st) (hf : -1 ≤ st.fuse ∧ st.fuse ≤ 9223372036854775807) (hn : (st.m.map (·.1)).Nodup) (hl : st.m.length ≤ 1000000) (hr : st.room ≤ 1048576) (ht : total st.m ≤ st.room) (name b : ByteArray) (hsz : (st.fileOf name).b.size + b.size ≤ 9223372036854775807) :
    Calls Try.prog 19 #[.pointer (some ⟨g, 0, none⟩), .string name, .string b] w fun e w' => e = .returned (.int .i64 (st.append name b).2) ∧ RfAt w' (gr A w) g (st.append name b).1 ∧ Frm A w w' := by
  have H0 := Aside0.mk h.bound
  have HA := Aside0.mk (atR_refL hn name)
  have HN := Aside0.mk hn
  have HFu := Aside0.mk hf
  have hl1 : Aside0 (st.burn.1.m.length ≤ 1000000) := ⟨by rw [burn_m]; exact hl⟩
  have HL0 := Aside0.mk hl
  have hlt := h.lt
  have ha : A g := h.1
  have HR := Aside0.mk hr
  have HT := Aside0.mk ht
  have HSZ := Aside0.mk hsz
  clear h hn hf hl hr ht hsz
  go_enter Try.func19, Try.ntmps19
  go_wp2_with fail
  refine (ref_right.calls name w).mono ?_
  rintro e w1 ⟨rfl, b1⟩
  have H1 := Aside0.mk (H0.out.below b1)
  have F1 := Aside0.mk (Frm.of_new (S := fun k => A k ∧ k < w.heap.size) b1)
  clear b1
  cases hrt : right name with
  | false =>
    have E0 := Aside0.mk (show st.append name b = (st, 1) by simp [Dsk.append, hrt])
    clear hrt
    go_wp2_with fail
    go_ret
    rw [E0.out]
    exact ⟨rfl, H1.out.mono fun k _ hk => Or.inl hk.1, F1.out.mono fun k _ hk => hk.1⟩
  | true =>
  have HRT := Aside0.mk hrt
  clear hrt
  go_wp2_with fail
  refine (ref_burn.calls _ _ g st H1.out HFu.out).mono ?_
  rintro e w2 ⟨rfl, h2, f2⟩
  have F2 := Aside0.mk (F1.out.andThen f2 fun i hi => Or.inl hi)
  have H2 := Aside0.mk h2
  clear h2 f2
  rcases burn_two st with ⟨hb, hbb⟩ | ⟨hb, hbb⟩
  case inr =>
    rw [hbb]
    have E0 := Aside0.mk (show st.append name b = (st.burn.1, 8) by simp [Dsk.append, HRT.out, hb])
    clear hb hbb
    go_wp2_with fail
    go_ret
    rw [E0.out]
    exact ⟨rfl, H2.out.mono fun k _ hk => Or.inl hk.1, F2.out.mono fun k _ hk => hk.1⟩
  rw [hbb]
  have E1 := Aside0.mk (show st.append name b = if st.burn.1.left < (b.size : Int) then (st.burn.1, 6) else ({ st.burn.1 with m := put st.burn.1.m name ⟨(st.burn.1.fileOf name).b ++ b, (st.burn.1.fileOf name).sure⟩ }, 0) by simp [Dsk.append, HRT.out, hb])
  have hro : st.burn.1.room = st.room := burn_room st
  have hmo : st.burn.1.m = st.m := burn_m st
  clear hb hbb
  have HSZ1 := Aside0.mk (show (st.burn.1.fileOf name).b.size + b.size ≤ 9223372036854775807 by have := HSZ.out; simp only [Dsk.fileOf, hmo] at *; exact this)
  generalize st.burn.1 = st1 at hl1 H2 E1 hro hmo HSZ1
  have HMO := Aside0.mk hmo
  have HRO := Aside0.mk hro
  clear hro hmo
  have ht1 : total st1.m ≤ st1.room := by rw [HMO.out, HRO.out]; exact HT.out
  have hr1 : st1.room ≤ 1048576 := by rw [HRO.out]; exact HR.out
  have hn1 := Aside0.mk (show (st1.m.map (·.1)).Nodup by rw [HMO.out]; exact HN.out)
  have htn := total_nonneg st1.m
  have hlf : st1.left = st1.room - total st1.m := by unfold Dsk.left; exact w64 (by omega)
  have E2 := E1.out
  rw [hlf] at E2
  go_wp2_with fail
  refine (ref_Left.calls w2 _ g st1 H2.out hl1.out hn1.out hr1 ht1).mono ?_
  rintro e w3 ⟨rfl, b3⟩
  have H3 := Aside0.mk (H2.out.below b3)
  have F3 := Aside0.mk (F2.out.andThen (S' := None') (Frm.of_new b3) (fun _ x => x.elim))
  have ZW := Aside0.mk F3.out.size
  clear b3 H2 F2 hlf
  obtain ⟨lf, hlf⟩ : ∃ lf, st1.room - total st1.m = lf := ⟨_, rfl⟩
  rw [hlf] at E2 ⊢
  clear hlf ht1 hr1 htn
  by_cases hfull : lf < (b.size : Int)
  · rw [if_pos hfull] at E2
    have E0 := Aside0.mk E2
    have d1 : decide (lf < (b.size : Int)) = true := decide_eq_true hfull
    clear E2
    go_wp2_with fail
    go_ret
    rw [E0.out]
    exact ⟨rfl, H3.out.mono fun k _ hk => Or.inl hk.1, F3.out.mono fun k _ hk => hk.1⟩
  rw [if_neg hfull] at E2
  obtain ⟨st2, hst2⟩ : ∃ s : Dsk, ({ st1 with m := put st1.m name ⟨(st1.fileOf name).b ++ b, (st1.fileOf name).sure⟩ } : Dsk) = s := ⟨_, rfl⟩
  rw [hst2] at E2
  have E0 := Aside0.mk E2
  have HE := Aside0.mk (show st2.room = st1.room ∧ st2.fuse = st1.fuse ∧ st2.down = st1.down by rw [← hst2]; exact ⟨rfl, rfl, rfl⟩)
  have HW := Aside0.mk (show wi (wo (refL st1.m) name) ⟨name, (st1.fileOf name).b ++ b, (st1.fileOf name).sure⟩ = refL st2.m by rw [← hst2]; exact wi_wo hn1.out name ⟨(st1.fileOf name).b ++ b, (st1.fileOf name).sure⟩)
  have d1 : decide (lf < (b.size : Int)) = false := decide_eq_false hfull
  clear E2 hst2
  go_wp2_with fail
  refine rebase (fun W => W.heap[w3.heap.size]? = some (.cells #[.string name, .string ⟨#[]⟩, .int .i64 0] 53) ∧ RfAt W (fun k => A k ∧ k < w.heap.size) g st1 ∧ Frm (fun k => A k ∧ k < w.heap.size) w W ∧ w3.heap.size < W.heap.size)
    ⟨blk_new _ _, H3.out.alloc _, F3.out.alloc _, by simp⟩ ?_
  rintro w4 ⟨k4, h4, f4, z4⟩
  refine (ref_at.calls w4 _ g st1 h4 hl1.out name).mono ?_
  rintro e w5 ⟨rfl, b5⟩
  have K5 := Aside0.mk (show w5.heap[w3.heap.size]? = _ from (b5.block _ z4).trans k4)
  have H5 := Aside0.mk (h4.below b5)
  have F5 := Aside0.mk (f4.andThen (S' := None') (Frm.of_new b5) (fun _ x => x.elim))
  clear k4 h4 f4 z4 b5 H3 F3
  have ZZ := Aside0.mk (show w.heap.size ≤ w3.heap.size from ZW.out)
  have NE := Aside0.mk (show ∀ k, k < w5.heap.size → (A k ∧ k < w.heap.size) → ¬ k = w3.heap.size from fun k _ hk => by have := ZZ.out; omega)
  obtain ⟨e0, e1, e2, fr0⟩ := cells3 K5.out
  rcases atR_refL hn1.out name with ⟨hlk, hat⟩ | ⟨f, i, hlk, hat, hget⟩
  · rw [hat]
    have hfo : st1.fileOf name = ⟨⟨#[]⟩, 0⟩ := by simp [Dsk.fileOf, hlk]
    rw [hfo] at HW HSZ1
    clear hat hlk hfo
    have hs1 : b.size ≤ 9223372036854775807 := by have := HSZ1.out; simp only at this; omega
    have hs0 : (⟨#[]⟩ : ByteArray).size + b.size ≤ 9223372036854775807 := HSZ1.out
    go_wp2_with fail
    refine region_draw (n := 9) (S := fun W => W.heap[w3.heap.size]? = some (.cells #[.string name, .string ((⟨#[]⟩ : ByteArray) ++ b), .int .i64 0] 53)) (ds := [8]) #[false, false, false, false, false, false, false, false, false] (by kernel_rfl) rfl rfl (fun W => W.heap[w3.heap.size]? = some (.cells #[.string name, .string ((⟨#[]⟩ : ByteArray) ++ b), .int .i64 0] 53) ∧ RfAt W (fun k => A k ∧ k < w.heap.size) g st1 ∧ Frm (fun k => A k ∧ k < w.heap.size) w W) ⟨blk_drew (by simpa using blk_set K5.out 1 (.string ((⟨#[]⟩ : ByteArray) ++ b))), (H5.out.frm ((Frm.refl (fun k => k = w3.heap.size) w5).setCell (p := ⟨w3.heap.size, 1, none⟩) (Or.inl rfl) _) NE.out).drew, (F5.out.setCell (p := ⟨w3.heap.size, 1, none⟩) (Or.inr ZZ.out) _).drew⟩ (fun W h => h.1) ?_
    rintro w4 ⟨k4, h4, f4⟩
    have H4 := Aside0.mk h4
    have F4 := Aside0.mk f4
    have K4 := Aside0.mk k4
    clear h4 f4 k4 H5 F5 K5
    refine pure_ (i := 0) (N := some 39) (v := ?_) (a' := ?_) #[true, false, false, false, false, false, false, false, false] rfl rfl (by kernel_rfl) (fun _ _ _ h => h) (Or.inl ⟨by rfl, ?_⟩) ?_ ?_
    rotate_left
    · intro w'
      go_simp
      with_reducible rfl
    rotate_left
    · simp only [Act.put, List.setIfInBounds_toArray, List.set_cons_zero, List.set_cons_succ, i64_w, i32_w]
      rfl
    refine pure_ (i := 1) (N := some 40) (v := ?_) (a' := ?_) #[true, true, false, false, false, false, false, false, false] rfl rfl (by kernel_rfl) (fun _ _ _ h => h) (Or.inl ⟨by rfl, ?_⟩) ?_ ?_
    rotate_left
    · intro w'
      go_simp
      with_reducible rfl
    rotate_left
    · simp only [Act.put, List.setIfInBounds_toArray, List.set_cons_zero, List.set_cons_succ, i64_w, i32_w]
      rfl
    refine pure_ (i := 2) (N := some 41) (v := ?_) (a' := ?_) #[true, true, true, false, false, false, false, false, false] rfl rfl (by kernel_rfl) (fun _ _ _ h => h) (Or.inl ⟨by rfl, ?_⟩) ?_ ?_
    rotate_left
    · intro w'
      go_simp
      with_reducible rfl
    rotate_left
    · simp only [Act.put, List.setIfInBounds_toArray, List.set_cons_zero, List.set_cons_succ, i64_w, i32_w]
      rfl
    refine take_ (i := 4) (N := some 43) (v := ?_) (a' := ?_) #[true, true, true, false, true, false, false, false, false] rfl rfl (by kernel_rfl) (fun _ _ _ h => h) (Or.inl ⟨by rfl, ?_⟩) K4.out ?_ ?_
    rotate_left
    · intro w' hW
      obtain ⟨e0, e1, e2, fr⟩ := cells3 hW
      go_simp
      with_reducible rfl
    rotate_left
    · simp only [Act.put, List.setIfInBounds_toArray, List.set_cons_zero, List.set_cons_succ, i64_w, i32_w]
      rfl
    refine one_ (i := 3) (N := some 42) #[true, true, true, true, true, false, false, false, false] rfl rfl (by kernel_rfl) (by decide) (fun K hK => ?_)
    refine goes_ Try.func46 (by kernel_rfl) rfl #[.pointer (some ⟨g, 0, none⟩), .string name] (by rfl) rfl rfl (by (try simp only [List.map_toArray, List.map_cons, List.map_nil]); first | done | rfl) ?_
    refine (ref_without.calls w4 _ g st1 H4.out hl1.out name).mono ?_
    rintro e w5 ⟨v, rfl, hR, b5⟩
    refine ⟨_, rfl, ?_⟩
    obtain ⟨A5, c5, rfl⟩ := Kd.R_slice hR
    obtain ⟨_, _, e5, hcc, hC⟩ := Kd.R_reads hR
    cases e5
    have K5 := Aside0.mk (show w5.heap[w3.heap.size]? = _ from (b5.block _ (blk_lt K4.out)).trans K4.out)
    have H5 := Aside0.mk (H4.out.below b5)
    have F5 := Aside0.mk (F4.out.andThen (S' := None') (Frm.of_new b5) (fun _ x => x.elim))
    have C5 := Aside0.mk hC
    have HC5 := Aside0.mk hcc
    clear hR hC hcc b5 K4 H4 F4
    refine hK.out _ _ K5.out (fun _ => ?_)
    clear hK K
    refine norm_ (a' := ?_) ?_ ?_
    rotate_left
    · show Act.put _ (some 42) _ = _
      simp only [Act.put, List.setIfInBounds_toArray, List.set_cons_zero, List.set_cons_succ, i64_w, i32_w]
      rfl
    refine one_ (i := 5) (N := some 44) #[true, true, true, true, true, true, false, false, false] rfl rfl (by kernel_rfl) (by decide) (fun K hK => ?_)
    refine goes_ Try.func45 (by kernel_rfl) rfl #[.slice A5 (wo (refL st1.m) name).length c5, .agg #[.string name, .string ((⟨#[]⟩ : ByteArray) ++ b), .int .i64 0]] (by rfl) rfl rfl (by (try simp only [List.map_toArray, List.map_cons, List.map_nil]); first | done | rfl) ?_
    refine (ref_with.calls w5 A5 c5 _ C5.out HC5.out (Nat.le_trans (List.length_filter_le _ _) (by rw [refL_length]; exact hl1.out)) ⟨name, ((⟨#[]⟩ : ByteArray) ++ b), 0⟩).mono ?_
    rintro e w6 ⟨v, rfl, hR, b6⟩
    refine ⟨_, rfl, ?_⟩
    obtain ⟨A6, c6, rfl⟩ := Kd.R_slice hR
    have K6 := Aside0.mk (show w6.heap[w3.heap.size]? = _ from (b6.block _ (blk_lt K5.out)).trans K5.out)
    have h6 := H5.out.below b6
    have f6 := F5.out.andThen (S' := None') (Frm.of_new b6) (fun _ x => x.elim)
    have R6 := Aside0.mk hR
    have H6 := Aside0.mk h6
    have F6 := Aside0.mk f6
    have Z6 := Aside0.mk (show w.heap.size ≤ w5.heap.size from F5.out.size)
    clear hR b6 K5 H5 F5 C5 HC5 h6 f6
    refine hK.out _ _ K6.out (fun _ => ?_)
    clear hK K
    refine norm_ (a' := ?_) ?_ ?_
    rotate_left
    · show Act.put _ (some 44) _ = _
      simp only [Act.put, List.setIfInBounds_toArray, List.set_cons_zero, List.set_cons_succ, i64_w, i32_w]
      rfl
    refine pure_ (i := 6) (N := some 45) (v := ?_) (a' := ?_) #[true, true, true, true, true, true, true, false, false] rfl rfl (by kernel_rfl) (fun _ _ _ h => h) (Or.inl ⟨by rfl, ?_⟩) ?_ ?_
    rotate_left
    · intro w'
      go_simp
      with_reducible rfl
    rotate_left
    · simp only [Act.put, List.setIfInBounds_toArray, List.set_cons_zero, List.set_cons_succ, i64_w, i32_w]
      rfl
    refine pure_ (i := 7) (N := some 46) (v := ?_) (a' := ?_) #[true, true, true, true, true, true, true, true, false] rfl rfl (by kernel_rfl) (fun _ _ _ h => h) (Or.inl ⟨by rfl, ?_⟩) ?_ ?_
    rotate_left
    · intro w'
      go_simp
      with_reducible rfl
    rotate_left
    · simp only [Act.put, List.setIfInBounds_toArray, List.set_cons_zero, List.set_cons_succ, i64_w, i32_w]
      rfl
    refine last_ (i := 8) (N := none) #[true, true, true, true, true, true, true, true, true] rfl rfl (by kernel_rfl) (by decide) (fun K hK => ?_)
    obtain ⟨_, v0, hb6, _⟩ := H6.out
    obtain ⟨c0, c1, c2, c3, fr⟩ := cells4 hb6
    clear hb6
    refine skip_ (w1 := ?_) (by rfl) rfl ?_ ?_
    rotate_left
    · go_simp
      rfl
    refine hK.out _ _ ?_
    clear hK K
    refine done_ (by kernel_rfl) ?_
    go_wp2_with fail
    go_ret
    rw [E0.out]
    have h7 := H6.out.row (st' := st2) (base := w5.heap.size) (by rw [← HW.out]; exact R6.out) HE.out
    exact ⟨rfl, h7.mono fun k _ hk => hk.elim (fun x => Or.inl x.1) (fun x => Or.inr (Nat.le_trans Z6.out x)), (F6.out.setCell (p := ⟨g, 1, none⟩) (Or.inl ⟨ha, hlt⟩) _).mono fun k _ hk => hk.1⟩
  · rw [hat]
    have hfo : st1.fileOf name = f := by simp [Dsk.fileOf, hlk]
    rw [hfo] at HW HSZ1
    have HG := Aside0.mk hget
    clear hat hlk hfo hget
    obtain ⟨_, v0, hb2, hR2⟩ := H5.out
    obtain ⟨A2, c2, rfl, hcc2, hC2⟩ := Kd.R_reads hR2
    obtain ⟨c0, c1, c2', c3, fr⟩ := cells4 hb2
    have hil : i < (refL st1.m).length := (List.getElem?_eq_some_iff.1 HG.out).1
    obtain ⟨ad, rfl, q0, q1, q2⟩ := Ref.at_T53 hC2 (i : Int) (by omega) (by omega)
    have e : rdR (refL st1.m) (i : Int) = ⟨name, f.b, f.sure⟩ := by rw [rdR_at hil]; exact (List.getElem?_eq_some_iff.1 HG.out).2
    unfold rdR at e
    rw [e] at q0 q1 q2
    simp only [Int.toNat_natCast] at q0 q1 q2
    have p0 : 0 ≤ (i : Int) := by omega
    have p1 : (i : Int) < ((refL st1.m).length : Int) := by omega
    have d5 : decide (0 ≤ (i : Int)) = true := decide_eq_true p0
    clear hb2 hR2 hC2 e
    have hs0 : f.b.size + b.size ≤ 9223372036854775807 := HSZ1.out
    go_wp2_with fail
    refine region_draw (n := 9) (S := fun W => W.heap[w3.heap.size]? = some (.cells #[.string name, .string (f.b ++ b), .int .i64 f.sure] 53)) (ds := [8]) #[false, false, false, false, false, false, false, false, false] (by kernel_rfl) rfl rfl (fun W => W.heap[w3.heap.size]? = some (.cells #[.string name, .string (f.b ++ b), .int .i64 f.sure] 53) ∧ RfAt W (fun k => A k ∧ k < w.heap.size) g st1 ∧ Frm (fun k => A k ∧ k < w.heap.size) w W) ⟨blk_drew (by simpa using blk_set (blk_set (blk_set (blk_set K5.out 0 (.string name)) 1 (.string f.b)) 2 (.int .i64 f.sure)) 1 (.string (f.b ++ b))), (H5.out.frm (((((Frm.refl (fun k => k = w3.heap.size) w5).setCell (p := ⟨w3.heap.size, 0, none⟩) (Or.inl rfl) _).setCell (p := ⟨w3.heap.size, 1, none⟩) (Or.inl rfl) _).setCell (p := ⟨w3.heap.size, 2, none⟩) (Or.inl rfl) _).setCell (p := ⟨w3.heap.size, 1, none⟩) (Or.inl rfl) _) NE.out).drew, ((((F5.out.setCell (p := ⟨w3.heap.size, 0, none⟩) (Or.inr ZZ.out) _).setCell (p := ⟨w3.heap.size, 1, none⟩) (Or.inr ZZ.out) _).setCell (p := ⟨w3.heap.size, 2, none⟩) (Or.inr ZZ.out) _).setCell (p := ⟨w3.heap.size, 1, none⟩) (Or.inr ZZ.out) _).drew⟩ (fun W h => h.1) ?_
    rintro w4 ⟨k4, h4, f4⟩
    have H4 := Aside0.mk h4
    have F4 := Aside0.mk f4
    have K4 := Aside0.mk k4
    clear h4 f4 k4 H5 F5 K5
    refine pure_ (i := 0) (N := some 39) (v := ?_) (a' := ?_) #[true, false, false, false, false, false, false, false, false] rfl rfl (by kernel_rfl) (fun _ _ _ h => h) (Or.inl ⟨by rfl, ?_⟩) ?_ ?_
    rotate_left
    · intro w'
      go_simp
      with_reducible rfl
    rotate_left
    · simp only [Act.put, List.setIfInBounds_toArray, List.set_cons_zero, List.set_cons_succ, i64_w, i32_w]
      rfl
    refine pure_ (i := 1) (N := some 40) (v := ?_) (a' := ?_) #[true, true, false, false, false, false, false, false, false] rfl rfl (by kernel_rfl) (fun _ _ _ h => h) (Or.inl ⟨by rfl, ?_⟩) ?_ ?_
    rotate_left
    · intro w'
      go_simp
      with_reducible rfl
    rotate_left
    · simp only [Act.put, List.setIfInBounds_toArray, List.set_cons_zero, List.set_cons_succ, i64_w, i32_w]
      rfl
    refine pure_ (i := 2) (N := some 41) (v := ?_) (a' := ?_) #[true, true, true, false, false, false, false, false, false] rfl rfl (by kernel_rfl) (fun _ _ _ h => h) (Or.inl ⟨by rfl, ?_⟩) ?_ ?_
    rotate_left
    · intro w'
      go_simp
      with_reducible rfl
    rotate_left
    · simp only [Act.put, List.setIfInBounds_toArray, List.set_cons_zero, List.set_cons_succ, i64_w, i32_w]
      rfl
    refine take_ (i := 4) (N := some 43) (v := ?_) (a' := ?_) #[true, true, true, false, true, false, false, false, false] rfl rfl (by kernel_rfl) (fun _ _ _ h => h) (Or.inl ⟨by rfl, ?_⟩) K4.out ?_ ?_
    rotate_left
    · intro w' hW
      obtain ⟨e0, e1, e2, fr⟩ := cells3 hW
      go_simp
      with_reducible rfl
    rotate_left
    · simp only [Act.put, List.setIfInBounds_toArray, List.set_cons_zero, List.set_cons_succ, i64_w, i32_w]
      rfl
    refine one_ (i := 3) (N := some 42) #[true, true, true, true, true, false, false, false, false] rfl rfl (by kernel_rfl) (by decide) (fun K hK => ?_)
    refine goes_ Try.func46 (by kernel_rfl) rfl #[.pointer (some ⟨g, 0, none⟩), .string name] (by rfl) rfl rfl (by (try simp only [List.map_toArray, List.map_cons, List.map_nil]); first | done | rfl) ?_
    refine (ref_without.calls w4 _ g st1 H4.out hl1.out name).mono ?_
    rintro e w5 ⟨v, rfl, hR, b5⟩
    refine ⟨_, rfl, ?_⟩
    obtain ⟨A5, c5, rfl⟩ := Kd.R_slice hR
    obtain ⟨_, _, e5, hcc, hC⟩ := Kd.R_reads hR
    cases e5
    have K5 := Aside0.mk (show w5.heap[w3.heap.size]? = _ from (b5.block _ (blk_lt K4.out)).trans K4.out)
    have H5 := Aside0.mk (H4.out.below b5)
    have F5 := Aside0.mk (F4.out.andThen (S' := None') (Frm.of_new b5) (fun _ x => x.elim))
    have C5 := Aside0.mk hC
    have HC5 := Aside0.mk hcc
    clear hR hC hcc b5 K4 H4 F4
    refine hK.out _ _ K5.out (fun _ => ?_)
    clear hK K
    refine norm_ (a' := ?_) ?_ ?_
    rotate_left
    · show Act.put _ (some 42) _ = _
      simp only [Act.put, List.setIfInBounds_toArray, List.set_cons_zero, List.set_cons_succ, i64_w, i32_w]
      rfl
    refine one_ (i := 5) (N := some 44) #[true, true, true, true, true, true, false, false, false] rfl rfl (by kernel_rfl) (by decide) (fun K hK => ?_)
    refine goes_ Try.func45 (by kernel_rfl) rfl #[.slice A5 (wo (refL st1.m) name).length c5, .agg #[.string name, .string (f.b ++ b), .int .i64 f.sure]] (by rfl) rfl rfl (by (try simp only [List.map_toArray, List.map_cons, List.map_nil]); first | done | rfl) ?_
    refine (ref_with.calls w5 A5 c5 _ C5.out HC5.out (Nat.le_trans (List.length_filter_le _ _) (by rw [refL_length]; exact hl1.out)) ⟨name, (f.b ++ b), f.sure⟩).mono ?_
    rintro e w6 ⟨v, rfl, hR, b6⟩
    refine ⟨_, rfl, ?_⟩
    obtain ⟨A6, c6, rfl⟩ := Kd.R_slice hR
    have K6 := Aside0.mk (show w6.heap[w3.heap.size]? = _ from (b6.block _ (blk_lt K5.out)).trans K5.out)
    have h6 := H5.out.below b6
    have f6 := F5.out.andThen (S' := None') (Frm.of_new b6) (fun _ x => x.elim)
    have R6 := Aside0.mk hR
    have H6 := Aside0.mk h6
    have F6 := Aside0.mk f6
    have Z6 := Aside0.mk (show w.heap.size ≤ w5.heap.size from F5.out.size)
    clear hR b6 K5 H5 F5 C5 HC5 h6 f6
    refine hK.out _ _ K6.out (fun _ => ?_)
    clear hK K
    refine norm_ (a' := ?_) ?_ ?_
    rotate_left
    · show Act.put _ (some 44) _ = _
      simp only [Act.put, List.setIfInBounds_toArray, List.set_cons_zero, List.set_cons_succ, i64_w, i32_w]
      rfl
    refine pure_ (i := 6) (N := some 45) (v := ?_) (a' := ?_) #[true, true, true, true, true, true, true, false, false] rfl rfl (by kernel_rfl) (fun _ _ _ h => h) (Or.inl ⟨by rfl, ?_⟩) ?_ ?_
    rotate_left
    · intro w'
      go_simp
      with_reducible rfl
    rotate_left
    · simp only [Act.put, List.setIfInBounds_toArray, List.set_cons_zero, List.set_cons_succ, i64_w, i32_w]
      rfl
    refine pure_ (i := 7) (N := some 46) (v := ?_) (a' := ?_) #[true, true, true, true, true, true, true, true, false] rfl rfl (by kernel_rfl) (fun _ _ _ h => h) (Or.inl ⟨by rfl, ?_⟩) ?_ ?_
    rotate_left
    · intro w'
      go_simp
      with_reducible rfl
    rotate_left
    · simp only [Act.put, List.setIfInBounds_toArray, List.set_cons_zero, List.set_cons_succ, i64_w, i32_w]
      rfl
    refine last_ (i := 8) (N := none) #[true, true, true, true, true, true, true, true, true] rfl rfl (by kernel_rfl) (by decide) (fun K hK => ?_)
    obtain ⟨_, v0, hb6, _⟩ := H6.out
    obtain ⟨c0, c1, c2, c3, fr⟩ := cells4 hb6
    clear hb6
    refine skip_ (w1 := ?_) (by rfl) rfl ?_ ?_
    rotate_left
    · go_simp
      rfl
    refine hK.out _ _ ?_
    clear hK K
    refine done_ (by kernel_rfl) ?_
    go_wp2_with fail
    go_ret
    rw [E0.out]
    have h7 := H6.out.row (st' := st2) (base := w5.heap.size) (by rw [← HW.out]; exact R6.out) HE.out
    exact ⟨rfl, h7.mono fun k _ hk => hk.elim (fun x => Or.inl x.1) (fun x => Or.inr (Nat.le_trans Z6.out x)), (F6.out.setCell (p := ⟨g, 1, none⟩) (Or.inl ⟨ha, hlt⟩) _).mono fun k _ hk => hk.1⟩
end Go.Proofs.Ytpmnljdhjgjgfaa.Thw
