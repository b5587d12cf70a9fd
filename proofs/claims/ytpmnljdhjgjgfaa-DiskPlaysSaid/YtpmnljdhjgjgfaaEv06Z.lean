/- Layer 6: the document's Sync. -/
import Derived.Test.YtpmnljdhjgjgfaaEv06Y
namespace Go.Proofs.Ytpmnljdhjgjgfaa.Thw
open Go Go.RowKit Go.Maps Go.Proofs.YtpmnljdhjgjgfaaW.PrintWords Go.Proofs.YtpmnljdhjgjgfaaW.PrintLast Go.Proofs.YtpmnljdhjgjgfaaW.PrintMore
attribute [local go_sem] max2_int min2_int max_two min_two
set_option linter.unusedVariables false
set_option linter.unusedSimpArgs false
theorem region_draw {P : Program} {ops : Array Oper} {Q : Exit → Act → World → Prop} {S : World → Prop} {ds : List Nat} {id n : Nat} {a : Act} {w : World} (l : Array Bool) (hm : P.follows .mixedOrders = true) (hn : ops.size = n) (hl : Array.replicate n false = l)
    (F : World → Prop) (hF : F w.drew) (hFS : ∀ W, F W → S W) (h : ∀ W, F W → wpAnyLast P .any ops Q S ds n l a W) : (Code.region id ops true).wp P Q a w := start_ l hm hn hl (hFS _ hF) (fun _ => h _ hF)
theorem cells3 {w : World} {s : Nat} {v0 v1 v2 : Value} {t : TypeId} (h : w.heap[s]? = some (.cells #[v0, v1, v2] t)) :
    w.cell? ⟨s, 0, none⟩ = some v0 ∧ w.cell? ⟨s, 1, none⟩ = some v1 ∧ w.cell? ⟨s, 2, none⟩ = some v2 ∧ ∀ i, w.frozen? ⟨s, i, none⟩ = false := by
  refine ⟨?_, ?_, ?_, fun i => ?_⟩ <;> simp [World.cell?, World.frozen?, h]
set_option maxHeartbeats 3200000 in
set_option maxRecDepth 100000 in
theorem ref_Sync.calls (w : World) (A : Nat → Prop) (g : Nat) (st : Dsk) (h : RfAt w A g st) (hf : -1 ≤ st.fuse ∧ st.fuse ≤ 9223372036854775807) (hn : (st.m.map (·.1)).Nodup) (hl : st.m.length ≤ 1000000) (name : ByteArray) :
    Calls Try.prog 20 #[.pointer (some ⟨g, 0, none⟩), .string name] w fun e w' => e = .returned (.int .i64 (st.sync name).2) ∧ RfAt w' (gr A w) g (st.sync name).1 ∧ Frm A w w' := by
  have H0 := Aside0.mk h.bound
  have HA := Aside0.mk (atR_refL hn name)
  have HN := Aside0.mk hn
  have HFu := Aside0.mk hf
  have hl1 : Aside0 (st.burn.1.m.length ≤ 1000000) := ⟨by rw [burn_m]; exact hl⟩
  have HL0 := Aside0.mk hl
  have hlt := h.lt
  have ha : A g := h.1
  clear h hn hf hl
  go_enter Try.func20, Try.ntmps20
  go_wp2_with fail
  refine (ref_at.calls w _ g st H0.out HL0.out name).mono ?_
  rintro e w1 ⟨rfl, b1⟩
  have H1 := Aside0.mk (H0.out.below b1)
  have F1 := Aside0.mk (Frm.of_new (S := fun k => A k ∧ k < w.heap.size) b1)
  clear b1
  rcases HA.out with ⟨hlk, hat⟩ | ⟨f, i, hlk, hat, hget⟩
  · rw [hat]
    go_wp2_with fail
    go_ret
    rw [show st.sync name = (st, 5) by simp [Dsk.sync, Dsk.change, hlk]]
    exact ⟨rfl, H1.out.mono fun k _ hk => Or.inl hk.1, F1.out.mono fun k _ hk => hk.1⟩
  rw [hat]
  have d0 : decide ((i : Int) < 0) = false := decide_eq_false (by omega)
  have HL := Aside0.mk hlk
  have HG := Aside0.mk hget
  clear hat hget hlk
  go_wp2_with fail
  refine (ref_burn.calls _ _ g st H1.out HFu.out).mono ?_
  rintro e w2 ⟨rfl, h2, f2⟩
  have F2 := Aside0.mk (F1.out.andThen f2 fun i hi => Or.inl hi)
  have H2 := Aside0.mk h2
  clear h2 f2
  rcases burn_two st with ⟨hb, hbb⟩ | ⟨hb, hbb⟩
  case inr =>
    rw [hbb]
    have E0 := Aside0.mk (show st.sync name = (st.burn.1, 8) by simp [Dsk.sync, Dsk.change, HL.out, hb])
    clear hb hbb
    go_wp2_with fail
    go_ret
    rw [E0.out]
    exact ⟨rfl, H2.out.mono fun k _ hk => Or.inl hk.1, F2.out.mono fun k _ hk => hk.1⟩
  rw [hbb]
  obtain ⟨st1, hst1⟩ : ∃ s, st.burn.1 = s := ⟨_, rfl⟩
  have hm1 : st1.m = st.m := by rw [← hst1]; exact burn_m st
  rw [hst1] at hl1 H2
  obtain ⟨_, v0, hb2, hR2⟩ := H2.out
  obtain ⟨A2, c2, rfl, hcc2, hC2⟩ := Kd.R_reads hR2
  obtain ⟨c0, c1, c2', c3, fr⟩ := cells4 hb2
  have hil : i < (refL st1.m).length := by rw [hm1]; exact (List.getElem?_eq_some_iff.1 HG.out).1
  obtain ⟨ad, rfl, q0, q1, q2⟩ := Ref.at_T53 hC2 (i : Int) (by omega) (by omega)
  have e : rdR (refL st1.m) (i : Int) = ⟨name, f.b, f.sure⟩ := by rw [rdR_at hil]; have := (List.getElem?_eq_some_iff.1 HG.out).2; simp only [hm1]; exact this
  unfold rdR at e
  rw [e] at q0 q1 q2
  simp only [Int.toNat_natCast] at q0 q1 q2
  have p0 : 0 ≤ (i : Int) := by omega
  have p1 : (i : Int) < ((refL st1.m).length : Int) := by omega
  have HM1 := Aside0.mk hm1
  clear hb2 hR2 hC2 e hm1
  have E0 := Aside0.mk (show st.sync name = (updSync name st1 f, 0) by simp [Dsk.sync, Dsk.change, HL.out, hb, hst1])
  have HE := Aside0.mk (show (updSync name st1 f).room = st1.room ∧ (updSync name st1 f).fuse = st1.fuse ∧ (updSync name st1 f).down = st1.down from ⟨rfl, rfl, rfl⟩)
  have HW := Aside0.mk (show wi (wo (refL st1.m) name) ⟨name, f.b, (f.b.size : Int)⟩ = refL (updSync name st1 f).m from wi_wo (by rw [HM1.out]; exact HN.out) name ⟨f.b, f.b.size⟩)
  clear hb hbb hst1
  generalize updSync name st1 f = st2 at E0 HE HW
  go_wp2_with fail
  refine region_draw (n := 9) (S := fun W => W.heap[w2.heap.size]? = some (.cells #[.string name, .string f.b, .int .i64 (f.b.size : Int)] 53)) (ds := [8]) #[false, false, false, false, false, false, false, false, false] (by kernel_rfl) rfl rfl (fun W => W.heap[w2.heap.size]? = some (.cells #[.string name, .string f.b, .int .i64 (f.b.size : Int)] 53) ∧ RfAt W (fun k => A k ∧ k < w.heap.size) g st1 ∧ Frm (fun k => A k ∧ k < w.heap.size) w W) ⟨blk_drew (blk_new _ _), (H2.out.alloc _).drew, (F2.out.alloc _).drew⟩ (fun W h => h.1) ?_
  rintro w4 ⟨k4, h4, f4⟩
  have H4 := Aside0.mk h4
  have F4 := Aside0.mk f4
  have K4 := Aside0.mk k4
  clear h4 f4 k4 H2 F2
  refine pure_ (i := 0) (N := some 26) (v := ?_) (a' := ?_) #[true, false, false, false, false, false, false, false, false] rfl rfl (by kernel_rfl) (fun _ _ _ h => h) (Or.inl ⟨by rfl, ?_⟩) ?_ ?_
  rotate_left
  · intro w'
    go_simp
    with_reducible rfl
  rotate_left
  · simp only [Act.put, List.setIfInBounds_toArray, List.set_cons_zero, List.set_cons_succ, i64_w, i32_w]
    rfl
  refine pure_ (i := 1) (N := some 27) (v := ?_) (a' := ?_) #[true, true, false, false, false, false, false, false, false] rfl rfl (by kernel_rfl) (fun _ _ _ h => h) (Or.inl ⟨by rfl, ?_⟩) ?_ ?_
  rotate_left
  · intro w'
    go_simp
    with_reducible rfl
  rotate_left
  · simp only [Act.put, List.setIfInBounds_toArray, List.set_cons_zero, List.set_cons_succ, i64_w, i32_w]
    rfl
  refine pure_ (i := 2) (N := some 28) (v := ?_) (a' := ?_) #[true, true, true, false, false, false, false, false, false] rfl rfl (by kernel_rfl) (fun _ _ _ h => h) (Or.inl ⟨by rfl, ?_⟩) ?_ ?_
  rotate_left
  · intro w'
    go_simp
    with_reducible rfl
  rotate_left
  · simp only [Act.put, List.setIfInBounds_toArray, List.set_cons_zero, List.set_cons_succ, i64_w, i32_w]
    rfl
  refine take_ (i := 4) (N := some 30) (v := ?_) (a' := ?_) #[true, true, true, false, true, false, false, false, false] rfl rfl (by kernel_rfl) (fun _ _ _ h => h) (Or.inl ⟨by rfl, ?_⟩) K4.out ?_ ?_
  rotate_left
  · intro w' hW
    obtain ⟨e0, e1, e2, fr⟩ := cells3 hW
    go_simp
    with_reducible rfl
  rotate_left
  · simp only [Act.put, List.setIfInBounds_toArray, List.set_cons_zero, List.set_cons_succ, i64_w, i32_w]
    rfl
  refine one_ (i := 3) (N := some 29) #[true, true, true, true, true, false, false, false, false] rfl rfl (by kernel_rfl) (by decide) (fun K hK => ?_)
  refine goes_ Try.func46 (by kernel_rfl) rfl #[.pointer (some ⟨g, 0, none⟩), .string name] (by rfl) rfl rfl (by (try simp only [List.map_toArray, List.map_cons, List.map_nil]); first | done | rfl) ?_
  refine (ref_without.calls w4 _ g st1 H4.out hl1.out name).mono ?_
  rintro e w5 ⟨v, rfl, hR, b5⟩
  refine ⟨_, rfl, ?_⟩
  obtain ⟨A5, c5, rfl⟩ := Kd.R_slice hR
  obtain ⟨_, _, e5, hcc, hC⟩ := Kd.R_reads hR
  cases e5
  have K5 := Aside0.mk (show w5.heap[w2.heap.size]? = _ from (b5.block _ (blk_lt K4.out)).trans K4.out)
  have H5 := Aside0.mk (H4.out.below b5)
  have F5 := Aside0.mk (F4.out.andThen (S' := None') (Frm.of_new b5) (fun _ x => x.elim))
  have C5 := Aside0.mk hC
  have HC5 := Aside0.mk hcc
  clear hR hC hcc b5 K4 H4 F4
  refine hK.out _ _ K5.out (fun _ => ?_)
  clear hK K
  refine norm_ (a' := ?_) ?_ ?_
  rotate_left
  · show Act.put _ (some 29) _ = _
    simp only [Act.put, List.setIfInBounds_toArray, List.set_cons_zero, List.set_cons_succ, i64_w, i32_w]
    rfl
  refine one_ (i := 5) (N := some 31) #[true, true, true, true, true, true, false, false, false] rfl rfl (by kernel_rfl) (by decide) (fun K hK => ?_)
  refine goes_ Try.func45 (by kernel_rfl) rfl #[.slice A5 (wo (refL st1.m) name).length c5, .agg #[.string name, .string f.b, .int .i64 (f.b.size : Int)]] (by rfl) rfl rfl (by (try simp only [List.map_toArray, List.map_cons, List.map_nil]); first | done | rfl) ?_
  refine (ref_with.calls w5 A5 c5 _ C5.out HC5.out (Nat.le_trans (List.length_filter_le _ _) (by rw [refL_length]; exact hl1.out)) ⟨name, f.b, (f.b.size : Int)⟩).mono ?_
  rintro e w6 ⟨v, rfl, hR, b6⟩
  refine ⟨_, rfl, ?_⟩
  obtain ⟨A6, c6, rfl⟩ := Kd.R_slice hR
  have K6 := Aside0.mk (show w6.heap[w2.heap.size]? = _ from (b6.block _ (blk_lt K5.out)).trans K5.out)
  have h6 := H5.out.below b6
  have f6 := F5.out.andThen (S' := None') (Frm.of_new b6) (fun _ x => x.elim)
  have R6 := Aside0.mk hR
  have H6 := Aside0.mk h6
  have F6 := Aside0.mk f6
  have Z6 := Aside0.mk (show w.heap.size ≤ w5.heap.size from F5.out.size)
  clear hR b6 K5 H5 F5 C5 HC5 h6 f6
  refine hK.out _ _ K6.out (fun _ => ?_)
  clear hK K
  refine norm_ (a' := ?_) ?_ ?_
  rotate_left
  · show Act.put _ (some 31) _ = _
    simp only [Act.put, List.setIfInBounds_toArray, List.set_cons_zero, List.set_cons_succ, i64_w, i32_w]
    rfl
  refine pure_ (i := 6) (N := some 32) (v := ?_) (a' := ?_) #[true, true, true, true, true, true, true, false, false] rfl rfl (by kernel_rfl) (fun _ _ _ h => h) (Or.inl ⟨by rfl, ?_⟩) ?_ ?_
  rotate_left
  · intro w'
    go_simp
    with_reducible rfl
  rotate_left
  · simp only [Act.put, List.setIfInBounds_toArray, List.set_cons_zero, List.set_cons_succ, i64_w, i32_w]
    rfl
  refine pure_ (i := 7) (N := some 33) (v := ?_) (a' := ?_) #[true, true, true, true, true, true, true, true, false] rfl rfl (by kernel_rfl) (fun _ _ _ h => h) (Or.inl ⟨by rfl, ?_⟩) ?_ ?_
  rotate_left
  · intro w'
    go_simp
    with_reducible rfl
  rotate_left
  · simp only [Act.put, List.setIfInBounds_toArray, List.set_cons_zero, List.set_cons_succ, i64_w, i32_w]
    rfl
  refine last_ (i := 8) (N := none) #[true, true, true, true, true, true, true, true, true] rfl rfl (by kernel_rfl) (by decide) (fun K hK => ?_)
  obtain ⟨_, v0, hb6, _⟩ := H6.out
  obtain ⟨c0, c1, c2, c3, fr⟩ := cells4 hb6
  clear hb6
  refine skip_ (w1 := ?_) (by rfl) rfl ?_ ?_
  rotate_left
  · go_simp
    rfl
  refine hK.out _ _ ?_
  clear hK K
  refine done_ (by kernel_rfl) ?_
  go_wp2_with fail
  go_ret
  rw [E0.out]
  have h7 := H6.out.row (st' := st2) (base := w5.heap.size) (by rw [← HW.out]; exact R6.out) HE.out
  exact ⟨rfl, h7.mono fun k _ hk => hk.elim (fun x => Or.inl x.1) (fun x => Or.inr (Nat.le_trans Z6.out x)), (F6.out.setCell (p := ⟨g, 1, none⟩) (Or.inl ⟨ha, hlt⟩) _).mono fun k _ hk => hk.1⟩
set_option maxHeartbeats 3200000 in
set_option maxRecDepth 100000 in
theorem ref_Rename.calls (w : World) (A : Nat → Prop) (g : Nat) (st : Dsk) (h : RfAt w A g st) (hf : -1 ≤ st.fuse ∧ st.fuse ≤ 9223372036854775807) (hn : (st.m.map (·.1)).Nodup) (hl : st.m.length ≤ 1000000) (name nw : ByteArray) :
    Calls Try.prog 21 #[.pointer (some ⟨g, 0, none⟩), .string name, .string nw] w fun e w' => e = .returned (.int .i64 (st.rename name nw).2) ∧ RfAt w' (gr A w) g (st.rename name nw).1 ∧ Frm A w w' := by
  have H0 := Aside0.mk h.bound
  have HA := Aside0.mk (atR_refL hn name)
  have HN := Aside0.mk hn
  have HFu := Aside0.mk hf
  have hl1 : Aside0 (st.burn.1.m.length ≤ 1000000) := ⟨by rw [burn_m]; exact hl⟩
  have HL0 := Aside0.mk hl
  have hlt := h.lt
  have ha : A g := h.1
  clear h hn hf hl
  go_enter Try.func21, Try.ntmps21
  go_wp2_with fail
  refine (ref_at.calls w _ g st H0.out HL0.out name).mono ?_
  rintro e w1 ⟨rfl, b1⟩
  have H1 := Aside0.mk (H0.out.below b1)
  have F1 := Aside0.mk (Frm.of_new (S := fun k => A k ∧ k < w.heap.size) b1)
  clear b1
  rcases HA.out with ⟨hlk, hat⟩ | ⟨f, i, hlk, hat, hget⟩
  · rw [hat]
    go_wp2_with fail
    go_ret
    rw [show st.rename name nw = (st, 5) by simp [Dsk.rename, Dsk.change, hlk]]
    exact ⟨rfl, H1.out.mono fun k _ hk => Or.inl hk.1, F1.out.mono fun k _ hk => hk.1⟩
  rw [hat]
  have d0 : decide ((i : Int) < 0) = false := decide_eq_false (by omega)
  have HL := Aside0.mk hlk
  have HG := Aside0.mk hget
  clear hat hget hlk
  go_wp2_with fail
  refine (ref_right.calls nw _).mono ?_
  rintro e w1' ⟨rfl, b1⟩
  have H1' := Aside0.mk (H1.out.below b1)
  have F1' := Aside0.mk (F1.out.andThen (S' := None') (Frm.of_new b1) (fun _ x => x.elim))
  clear b1 H1 F1
  have H1 := H1'
  have F1 := F1'
  clear H1' F1'
  cases hrt : right nw with
  | false =>
    have E0 := Aside0.mk (show st.rename name nw = (st, 1) by simp [Dsk.rename, Dsk.change, HL.out, hrt])
    clear hrt
    go_wp2_with fail
    go_ret
    rw [E0.out]
    exact ⟨rfl, H1.out.mono fun k _ hk => Or.inl hk.1, F1.out.mono fun k _ hk => hk.1⟩
  | true =>
  have HRT := Aside0.mk hrt
  clear hrt
  go_wp2_with fail
  refine (ref_burn.calls _ _ g st H1.out HFu.out).mono ?_
  rintro e w2 ⟨rfl, h2, f2⟩
  have F2 := Aside0.mk (F1.out.andThen f2 fun i hi => Or.inl hi)
  have H2 := Aside0.mk h2
  clear h2 f2
  rcases burn_two st with ⟨hb, hbb⟩ | ⟨hb, hbb⟩
  case inr =>
    rw [hbb]
    have E0 := Aside0.mk (show st.rename name nw = (st.burn.1, 8) by simp [Dsk.rename, HRT.out, Dsk.change, HL.out, hb])
    clear hb hbb
    go_wp2_with fail
    go_ret
    rw [E0.out]
    exact ⟨rfl, H2.out.mono fun k _ hk => Or.inl hk.1, F2.out.mono fun k _ hk => hk.1⟩
  rw [hbb]
  obtain ⟨st1, hst1⟩ : ∃ s, st.burn.1 = s := ⟨_, rfl⟩
  have hm1 : st1.m = st.m := by rw [← hst1]; exact burn_m st
  rw [hst1] at hl1 H2
  obtain ⟨_, v0, hb2, hR2⟩ := H2.out
  obtain ⟨A2, c2, rfl, hcc2, hC2⟩ := Kd.R_reads hR2
  obtain ⟨c0, c1, c2', c3, fr⟩ := cells4 hb2
  have hil : i < (refL st1.m).length := by rw [hm1]; exact (List.getElem?_eq_some_iff.1 HG.out).1
  obtain ⟨ad, rfl, q0, q1, q2⟩ := Ref.at_T53 hC2 (i : Int) (by omega) (by omega)
  have e : rdR (refL st1.m) (i : Int) = ⟨name, f.b, f.sure⟩ := by rw [rdR_at hil]; have := (List.getElem?_eq_some_iff.1 HG.out).2; simp only [hm1]; exact this
  unfold rdR at e
  rw [e] at q0 q1 q2
  simp only [Int.toNat_natCast] at q0 q1 q2
  have p0 : 0 ≤ (i : Int) := by omega
  have p1 : (i : Int) < ((refL st1.m).length : Int) := by omega
  have HM1 := Aside0.mk hm1
  clear hb2 hR2 hC2 e hm1
  have E0 := Aside0.mk (show st.rename name nw = (updRename name nw st1 f, 0) by simp [Dsk.rename, Dsk.change, HL.out, HRT.out, hb, hst1])
  have HE := Aside0.mk (show (updRename name nw st1 f).room = st1.room ∧ (updRename name nw st1 f).fuse = st1.fuse ∧ (updRename name nw st1 f).down = st1.down from ⟨rfl, rfl, rfl⟩)
  have HW := Aside0.mk (show wi (wo (refL (del st1.m name)) nw) ⟨nw, f.b, f.sure⟩ = refL (updRename name nw st1 f).m from wi_wo (nodup_del (by rw [HM1.out]; exact HN.out) name) nw f)
  have hl2 := Aside0.mk (Nat.le_trans (del_length st1.m name) hl1.out)
  have F2' := Aside0.mk (show g < w2.heap.size from H2.out.lt)
  clear hb hbb hst1
  generalize updRename name nw st1 f = st2 at E0 HE HW
  go_wp2_with fail
  refine rebase (fun W => W.heap[w2.heap.size]? = some (.cells #[.string nw, .string f.b, .int .i64 f.sure] 53) ∧ RfAt W (fun k => A k ∧ k < w.heap.size) g st1 ∧ Frm (fun k => A k ∧ k < w.heap.size) w W ∧ w2.heap.size < W.heap.size)
    ⟨blk_new _ _, H2.out.alloc _, F2.out.alloc _, by simp⟩ ?_
  rintro w3 ⟨k3, h3, f3, z3⟩
  clear H2 F2 q0 q1 q2 c0 c1 c2' c3 fr
  refine (ref_without.calls w3 _ g st1 h3 hl1.out name).mono ?_
  rintro e w4' ⟨v, rfl, hR, b4⟩
  rw [wo_refL (by rw [HM1.out]; exact HN.out)] at hR
  obtain ⟨A4, c4, rfl⟩ := Kd.R_slice hR
  have h4' := h3.below b4
  have K3 := Aside0.mk (show w4'.heap[w2.heap.size]? = _ from (b4.block _ (blk_lt k3)).trans k3)
  obtain ⟨st3, hst3⟩ : ∃ s : Dsk, ({ st1 with m := del st1.m name } : Dsk) = s := ⟨_, rfl⟩
  have H3 := Aside0.mk (show RfAt _ _ g st3 from hst3 ▸ h4'.row (st' := { st1 with m := del st1.m name }) (base := w3.heap.size) hR ⟨rfl, rfl, rfl⟩)
  have F3 := Aside0.mk ((f3.andThen (S' := None') (Frm.of_new b4) (fun _ x => x.elim)).setCell (p := ⟨g, 1, none⟩) (Or.inl ⟨ha, hlt⟩) (.slice A4 (refL (del st1.m name)).length c4))
  have M3 := Aside0.mk (show st3.m = del st1.m name by rw [← hst3])
  have HE3 := Aside0.mk (show st3.room = st1.room ∧ st3.fuse = st1.fuse ∧ st3.down = st1.down by rw [← hst3]; exact ⟨rfl, rfl, rfl⟩)
  have Z3 := Aside0.mk (show w.heap.size ≤ w3.heap.size from f3.size)
  have hgb : w2.heap.size ≠ g := by have := F2'.out; omega
  obtain ⟨_, v0, hb4, _⟩ := h4'
  obtain ⟨c0, c1, c2', c3, fr⟩ := cells4 hb4
  clear hR b4 hb4 k3 h3 f3 hst3
  go_wp2_with fail
  refine region_draw (n := 9) (S := fun W => W.heap[w2.heap.size]? = some (.cells #[.string nw, .string f.b, .int .i64 f.sure] 53)) (ds := [8]) #[false, false, false, false, false, false, false, false, false] (by kernel_rfl) rfl rfl (fun W => W.heap[w2.heap.size]? = some (.cells #[.string nw, .string f.b, .int .i64 f.sure] 53) ∧ RfAt W (fun k => (A k ∧ k < w.heap.size) ∨ w3.heap.size ≤ k) g st3 ∧ Frm (fun k => A k ∧ k < w.heap.size) w W) ⟨blk_drew (((Frm.refl (fun k => k = g) _).setCell (p := ⟨g, 1, none⟩) (Or.inl rfl) _).keeps K3.out hgb), H3.out.drew, F3.out.drew⟩ (fun W h => h.1) ?_
  rintro w4 ⟨k4, h4, f4⟩
  have H4 := Aside0.mk h4
  have F4 := Aside0.mk f4
  have K4 := Aside0.mk k4
  clear h4 f4 k4 H3 F3 K3
  refine pure_ (i := 0) (N := some 35) (v := ?_) (a' := ?_) #[true, false, false, false, false, false, false, false, false] rfl rfl (by kernel_rfl) (fun _ _ _ h => h) (Or.inl ⟨by rfl, ?_⟩) ?_ ?_
  rotate_left
  · intro w'
    go_simp
    with_reducible rfl
  rotate_left
  · simp only [Act.put, List.setIfInBounds_toArray, List.set_cons_zero, List.set_cons_succ, i64_w, i32_w]
    rfl
  refine pure_ (i := 1) (N := some 36) (v := ?_) (a' := ?_) #[true, true, false, false, false, false, false, false, false] rfl rfl (by kernel_rfl) (fun _ _ _ h => h) (Or.inl ⟨by rfl, ?_⟩) ?_ ?_
  rotate_left
  · intro w'
    go_simp
    with_reducible rfl
  rotate_left
  · simp only [Act.put, List.setIfInBounds_toArray, List.set_cons_zero, List.set_cons_succ, i64_w, i32_w]
    rfl
  refine pure_ (i := 2) (N := some 37) (v := ?_) (a' := ?_) #[true, true, true, false, false, false, false, false, false] rfl rfl (by kernel_rfl) (fun _ _ _ h => h) (Or.inl ⟨by rfl, ?_⟩) ?_ ?_
  rotate_left
  · intro w'
    go_simp
    with_reducible rfl
  rotate_left
  · simp only [Act.put, List.setIfInBounds_toArray, List.set_cons_zero, List.set_cons_succ, i64_w, i32_w]
    rfl
  refine take_ (i := 4) (N := some 39) (v := ?_) (a' := ?_) #[true, true, true, false, true, false, false, false, false] rfl rfl (by kernel_rfl) (fun _ _ _ h => h) (Or.inl ⟨by rfl, ?_⟩) K4.out ?_ ?_
  rotate_left
  · intro w' hW
    obtain ⟨e0, e1, e2, fr⟩ := cells3 hW
    go_simp
    with_reducible rfl
  rotate_left
  · simp only [Act.put, List.setIfInBounds_toArray, List.set_cons_zero, List.set_cons_succ, i64_w, i32_w]
    rfl
  refine one_ (i := 3) (N := some 38) #[true, true, true, true, true, false, false, false, false] rfl rfl (by kernel_rfl) (by decide) (fun K hK => ?_)
  refine goes_ Try.func46 (by kernel_rfl) rfl #[.pointer (some ⟨g, 0, none⟩), .string nw] (by rfl) rfl rfl (by (try simp only [List.map_toArray, List.map_cons, List.map_nil]); first | done | rfl) ?_
  refine (ref_without.calls w4 _ g st3 H4.out (by rw [M3.out]; exact hl2.out) nw).mono ?_
  rintro e w5 ⟨v, rfl, hR, b5⟩
  refine ⟨_, rfl, ?_⟩
  obtain ⟨A5, c5, rfl⟩ := Kd.R_slice hR
  obtain ⟨_, _, e5, hcc, hC⟩ := Kd.R_reads hR
  cases e5
  have K5 := Aside0.mk (show w5.heap[w2.heap.size]? = _ from (b5.block _ (blk_lt K4.out)).trans K4.out)
  have H5 := Aside0.mk (H4.out.below b5)
  have F5 := Aside0.mk (F4.out.andThen (S' := None') (Frm.of_new b5) (fun _ x => x.elim))
  have C5 := Aside0.mk hC
  have HC5 := Aside0.mk hcc
  clear hR hC hcc b5 K4 H4 F4
  refine hK.out _ _ K5.out (fun _ => ?_)
  clear hK K
  refine norm_ (a' := ?_) ?_ ?_
  rotate_left
  · show Act.put _ (some 38) _ = _
    simp only [Act.put, List.setIfInBounds_toArray, List.set_cons_zero, List.set_cons_succ, i64_w, i32_w]
    rfl
  refine one_ (i := 5) (N := some 40) #[true, true, true, true, true, true, false, false, false] rfl rfl (by kernel_rfl) (by decide) (fun K hK => ?_)
  refine goes_ Try.func45 (by kernel_rfl) rfl #[.slice A5 (wo (refL st3.m) nw).length c5, .agg #[.string nw, .string f.b, .int .i64 f.sure]] (by rfl) rfl rfl (by (try simp only [List.map_toArray, List.map_cons, List.map_nil]); first | done | rfl) ?_
  refine (ref_with.calls w5 A5 c5 _ C5.out HC5.out (Nat.le_trans (List.length_filter_le _ _) (by rw [refL_length]; exact (by rw [M3.out]; exact hl2.out))) ⟨nw, f.b, f.sure⟩).mono ?_
  rintro e w6 ⟨v, rfl, hR, b6⟩
  refine ⟨_, rfl, ?_⟩
  obtain ⟨A6, c6, rfl⟩ := Kd.R_slice hR
  have K6 := Aside0.mk (show w6.heap[w2.heap.size]? = _ from (b6.block _ (blk_lt K5.out)).trans K5.out)
  have h6 := H5.out.below b6
  have f6 := F5.out.andThen (S' := None') (Frm.of_new b6) (fun _ x => x.elim)
  have R6 := Aside0.mk hR
  have H6 := Aside0.mk h6
  have F6 := Aside0.mk f6
  have Z6 := Aside0.mk (show w.heap.size ≤ w5.heap.size from F5.out.size)
  clear hR b6 K5 H5 F5 C5 HC5 h6 f6
  refine hK.out _ _ K6.out (fun _ => ?_)
  clear hK K
  refine norm_ (a' := ?_) ?_ ?_
  rotate_left
  · show Act.put _ (some 40) _ = _
    simp only [Act.put, List.setIfInBounds_toArray, List.set_cons_zero, List.set_cons_succ, i64_w, i32_w]
    rfl
  refine pure_ (i := 6) (N := some 41) (v := ?_) (a' := ?_) #[true, true, true, true, true, true, true, false, false] rfl rfl (by kernel_rfl) (fun _ _ _ h => h) (Or.inl ⟨by rfl, ?_⟩) ?_ ?_
  rotate_left
  · intro w'
    go_simp
    with_reducible rfl
  rotate_left
  · simp only [Act.put, List.setIfInBounds_toArray, List.set_cons_zero, List.set_cons_succ, i64_w, i32_w]
    rfl
  refine pure_ (i := 7) (N := some 42) (v := ?_) (a' := ?_) #[true, true, true, true, true, true, true, true, false] rfl rfl (by kernel_rfl) (fun _ _ _ h => h) (Or.inl ⟨by rfl, ?_⟩) ?_ ?_
  rotate_left
  · intro w'
    go_simp
    with_reducible rfl
  rotate_left
  · simp only [Act.put, List.setIfInBounds_toArray, List.set_cons_zero, List.set_cons_succ, i64_w, i32_w]
    rfl
  refine last_ (i := 8) (N := none) #[true, true, true, true, true, true, true, true, true] rfl rfl (by kernel_rfl) (by decide) (fun K hK => ?_)
  obtain ⟨_, v0, hb6, _⟩ := H6.out
  obtain ⟨c0, c1, c2, c3, fr⟩ := cells4 hb6
  clear hb6
  refine skip_ (w1 := ?_) (by rfl) rfl ?_ ?_
  rotate_left
  · go_simp
    rfl
  refine hK.out _ _ ?_
  clear hK K
  refine done_ (by kernel_rfl) ?_
  go_wp2_with fail
  go_ret
  rw [E0.out]
  have h7 := H6.out.row (st' := st2) (base := w5.heap.size) (by rw [← HW.out, ← M3.out]; exact R6.out) ⟨HE.out.1.trans HE3.out.1.symm, HE.out.2.1.trans HE3.out.2.1.symm, HE.out.2.2.trans HE3.out.2.2.symm⟩
  exact ⟨rfl, h7.mono fun k _ hk => hk.elim (fun x => x.elim (fun y => Or.inl y.1) (fun y => Or.inr (Nat.le_trans Z3.out y))) (fun x => Or.inr (Nat.le_trans Z6.out x)), (F6.out.setCell (p := ⟨g, 1, none⟩) (Or.inl ⟨ha, hlt⟩) _).mono fun k _ hk => hk.1⟩
end Go.Proofs.Ytpmnljdhjgjgfaa.Thw
