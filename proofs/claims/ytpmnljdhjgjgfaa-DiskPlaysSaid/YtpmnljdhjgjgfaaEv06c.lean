/- Layer 6: Sync, Remove, Rename, Cut. -/
import Derived.Test.YtpmnljdhjgjgfaaEv06b
namespace Go.Proofs.Ytpmnljdhjgjgfaa.Thw
open Go Go.RowKit Go.Proofs.YtpmnljdhjgjgfaaW.PrintWords Go.Proofs.YtpmnljdhjgjgfaaW.PrintLast Go.Proofs.YtpmnljdhjgjgfaaW.PrintMore
attribute [local go_sem] max2_int min2_int max_two min_two
set_option linter.unusedVariables false
set_option linter.unusedSimpArgs false
set_option maxHeartbeats 3200000 in
set_option maxRecDepth 100000 in
theorem sync_do.calls (w : World) (A : Nat → Prop) (d : Nat) (st : Dsk) (h : DskAt w A d st) (f : DFile) (name : ByteArray) (hn : name.size ≤ 9223372036854775807) (pr pn : Nat) (hpr : w.heap[pr]? = some (.cells #[.pointer (some ⟨d, 0, none⟩)] 25)) (hpn : w.heap[pn]? = some (.cells #[.string name] 9)) :
    Calls Try.prog 36 #[fileV f, .pointer (some ⟨pr, 0, none⟩), .pointer (some ⟨pn, 0, none⟩)] w fun e w' => e = .returned (.tuple #[]) ∧ DskAt w' (gr A w) d { st with m := put st.m name ⟨f.b, f.b.size⟩ } ∧ Frm A w w' := by
  obtain ⟨mb, a1, a2, hb, hm⟩ := h
  have HB := Aside0.mk hb
  have HM := Aside0.mk hm
  have HPR := Aside0.mk hpr
  have HPN := Aside0.mk hpn
  have HK := Aside0.mk (strOk hn)
  clear hn
  clear hb hm hpr hpn
  unfold fileV
  go_enter Try.func36, Try.ntmps36
  go_wp2_with fail
  refine region_tail 11 (by kernel_rfl) (by kernel_rfl) (fun W => W.heap[pr]? = some (.cells #[.pointer (some ⟨d, 0, none⟩)] 25) ∧ W.heap[pn]? = some (.cells #[.string name] 9) ∧ W.heap[w.heap.size]? = some (.cells #[.string f.b, .int .i64 f.sure] 64) ∧ W.heap[d]? = some (.cells #[.int .i64 st.room, .map (some mb), .int .i64 st.fuse, .bool st.down] 60) ∧ MapOf Try.prog 9 Value.string fileV W mb st.m ∧ Frm A w W)
    ⟨blk_alloc HPR.out _, blk_alloc HPN.out _, blk_new w _, blk_alloc HB.out _, (HM.out.alloc _).drew, ((Frm.refl A w).alloc _).drew⟩ ?_
  rintro w2 ⟨x2, y0, z2, b2, m2, f2⟩
  obtain ⟨c0, c1, c2, c3, fr⟩ := cells4 b2
  obtain ⟨d0, d1, dr⟩ := cells2 z2
  obtain ⟨e0, er⟩ := cells1 x2
  obtain ⟨g0, gr0⟩ := cells1 y0
  have X2 := Aside0.mk x2
  have Z2 := Aside0.mk z2
  have B2 := Aside0.mk b2
  have M2 := Aside0.mk m2
  have F2 := Aside0.mk f2
  have Y0 := Aside0.mk y0
  clear x2 z2 b2 m2 f2 y0
  simp only [List.take_succ_cons, List.take_zero, List.drop_succ_cons, List.drop_zero]
  repeat still_step
  refine wpStill_nil ?_
  refine wpList_mapUpdate_of strInj strKeyed w2 rfl _ _ _ 58 64 rfl Try.underlying58 mb st.m rfl M2.out name rfl HK.out (⟨f.b, f.b.size⟩ : DFile) rfl ?_
  rintro w3 m3 f3 z3
  have M3 := Aside0.mk m3
  have F3 := Aside0.mk f3
  clear m3 f3 z3 c0 c1 c2 c3 fr d0 d1 dr e0 er g0 gr0
  go_wp2_with fail
  go_end0
  have hne := MapOf.ne M2.out B2.out
  exact ⟨rfl, ⟨mb, Or.inl a1, Or.inl a2, F3.out.keeps B2.out hne, M3.out⟩, F2.out.andThen F3.out (fun i e => by rw [e]; exact Or.inl a2)⟩
set_option maxHeartbeats 3200000 in
set_option maxRecDepth 100000 in
theorem remove_do.calls (w : World) (A : Nat → Prop) (d : Nat) (st : Dsk) (h : DskAt w A d st) (f : DFile) (name : ByteArray) (hn : name.size ≤ 9223372036854775807) (pr pn : Nat) (hpr : w.heap[pr]? = some (.cells #[.pointer (some ⟨d, 0, none⟩)] 25)) (hpn : w.heap[pn]? = some (.cells #[.string name] 9)) :
    Calls Try.prog 38 #[fileV f, .pointer (some ⟨pr, 0, none⟩), .pointer (some ⟨pn, 0, none⟩)] w fun e w' => e = .returned (.tuple #[]) ∧ DskAt w' (gr A w) d { st with m := del st.m name } ∧ Frm A w w' := by
  obtain ⟨mb, a1, a2, hb, hm⟩ := h
  have HB := Aside0.mk hb
  have HM := Aside0.mk hm
  have HPR := Aside0.mk hpr
  have HPN := Aside0.mk hpn
  have HK := Aside0.mk (strOk hn)
  clear hn
  clear hb hm hpr hpn
  unfold fileV
  go_enter Try.func38, Try.ntmps38
  go_wp2_with fail
  refine region_tail 5 (by kernel_rfl) (by kernel_rfl) (fun W => W.heap[pr]? = some (.cells #[.pointer (some ⟨d, 0, none⟩)] 25) ∧ W.heap[pn]? = some (.cells #[.string name] 9) ∧ W.heap[w.heap.size]? = some (.cells #[.string f.b, .int .i64 f.sure] 64) ∧ W.heap[d]? = some (.cells #[.int .i64 st.room, .map (some mb), .int .i64 st.fuse, .bool st.down] 60) ∧ MapOf Try.prog 9 Value.string fileV W mb st.m ∧ Frm A w W)
    ⟨blk_alloc HPR.out _, blk_alloc HPN.out _, blk_new w _, blk_alloc HB.out _, (HM.out.alloc _).drew, ((Frm.refl A w).alloc _).drew⟩ ?_
  rintro w2 ⟨x2, y0, z2, b2, m2, f2⟩
  obtain ⟨c0, c1, c2, c3, fr⟩ := cells4 b2
  obtain ⟨d0, d1, dr⟩ := cells2 z2
  obtain ⟨e0, er⟩ := cells1 x2
  obtain ⟨g0, gr0⟩ := cells1 y0
  have X2 := Aside0.mk x2
  have Z2 := Aside0.mk z2
  have B2 := Aside0.mk b2
  have M2 := Aside0.mk m2
  have F2 := Aside0.mk f2
  have Y0 := Aside0.mk y0
  clear x2 z2 b2 m2 f2 y0
  simp only [List.take_succ_cons, List.take_zero, List.drop_succ_cons, List.drop_zero]
  repeat still_step
  refine wpStill_nil ?_
  refine wpList_delete_of strInj strKeyed w2 rfl _ _ 58 64 _ rfl Try.underlying58 mb st.m rfl M2.out name rfl HK.out ?_
  rintro w3 m3 f3 z3
  have M3 := Aside0.mk m3
  have F3 := Aside0.mk f3
  clear m3 f3 z3 c0 c1 c2 c3 fr d0 d1 dr e0 er g0 gr0
  go_wp2_with fail
  go_end0
  have hne := MapOf.ne M2.out B2.out
  exact ⟨rfl, ⟨mb, Or.inl a1, Or.inl a2, F3.out.keeps B2.out hne, M3.out⟩, F2.out.andThen F3.out (fun i e => by rw [e]; exact Or.inl a2)⟩
set_option maxHeartbeats 3200000 in
set_option maxRecDepth 100000 in
theorem rename_do.calls (w : World) (A : Nat → Prop) (d : Nat) (st : Dsk) (h : DskAt w A d st) (f : DFile) (name : ByteArray) (hn : name.size ≤ 9223372036854775807) (nw : ByteArray) (ht : nw.size ≤ 9223372036854775807) (pr pn pt : Nat) (hpr : w.heap[pr]? = some (.cells #[.pointer (some ⟨d, 0, none⟩)] 25)) (hpn : w.heap[pn]? = some (.cells #[.string name] 9)) (hpt : w.heap[pt]? = some (.cells #[.string nw] 9)) :
    Calls Try.prog 37 #[fileV f, .pointer (some ⟨pr, 0, none⟩), .pointer (some ⟨pn, 0, none⟩), .pointer (some ⟨pt, 0, none⟩)] w fun e w' => e = .returned (.tuple #[]) ∧ DskAt w' (gr A w) d { st with m := put (del st.m name) nw f } ∧ Frm A w w' := by
  obtain ⟨mb, a1, a2, hb, hm⟩ := h
  have HB := Aside0.mk hb
  have HM := Aside0.mk hm
  have HPR := Aside0.mk hpr
  have HPN := Aside0.mk hpn
  have HPT := Aside0.mk hpt
  have HK := Aside0.mk (strOk hn)
  have HT := Aside0.mk (strOk ht)
  clear hn ht
  clear hb hm hpr hpn hpt
  unfold fileV
  go_enter Try.func37, Try.ntmps37
  go_wp2_with fail
  refine region_tail 5 (by kernel_rfl) (by kernel_rfl) (fun W => W.heap[pr]? = some (.cells #[.pointer (some ⟨d, 0, none⟩)] 25) ∧ W.heap[pn]? = some (.cells #[.string name] 9) ∧ W.heap[pt]? = some (.cells #[.string nw] 9) ∧ W.heap[w.heap.size]? = some (.cells #[.string f.b, .int .i64 f.sure] 64) ∧ W.heap[d]? = some (.cells #[.int .i64 st.room, .map (some mb), .int .i64 st.fuse, .bool st.down] 60) ∧ MapOf Try.prog 9 Value.string fileV W mb st.m ∧ Frm A w W)
    ⟨blk_alloc HPR.out _, blk_alloc HPN.out _, blk_alloc HPT.out _, blk_new w _, blk_alloc HB.out _, (HM.out.alloc _).drew, ((Frm.refl A w).alloc _).drew⟩ ?_
  rintro w2 ⟨x2, y0, y1, z2, b2, m2, f2⟩
  obtain ⟨c0, c1, c2, c3, fr⟩ := cells4 b2
  obtain ⟨d0, d1, dr⟩ := cells2 z2
  obtain ⟨e0, er⟩ := cells1 x2
  obtain ⟨g0, gr0⟩ := cells1 y0
  obtain ⟨g1, gr1⟩ := cells1 y1
  have X2 := Aside0.mk x2
  have Z2 := Aside0.mk z2
  have B2 := Aside0.mk b2
  have M2 := Aside0.mk m2
  have F2 := Aside0.mk f2
  have Y0 := Aside0.mk y0
  have Y1 := Aside0.mk y1
  clear x2 z2 b2 m2 f2 y0 y1
  simp only [List.take_succ_cons, List.take_zero, List.drop_succ_cons, List.drop_zero]
  repeat still_step
  refine wpStill_nil ?_
  refine wpList_delete_of strInj strKeyed w2 rfl _ _ 58 64 _ rfl Try.underlying58 mb st.m rfl M2.out name rfl HK.out ?_
  rintro w3 m3 f3 z3
  have hne := MapOf.ne M2.out B2.out
  obtain ⟨es0, cl0, hes0, _⟩ := M2.out
  have nn : ∀ {k : Nat} {cs : Array Value} {t : TypeId}, w2.heap[k]? = some (.cells cs t (0, 0)) → k ≠ mb := fun {k cs t} hk e => by subst e; rw [hk] at hes0; cases hes0
  have q1 := f3.keeps X2.out (nn X2.out)
  have q2 := f3.keeps Y0.out (nn Y0.out)
  have q3 := f3.keeps Y1.out (nn Y1.out)
  have q4 := f3.keeps Z2.out (nn Z2.out)
  have q5 := f3.keeps B2.out (nn B2.out)
  have M3 := Aside0.mk m3
  have F3 := Aside0.mk (F2.out.andThen f3 (fun i e => by rw [e]; exact Or.inl a2))
  clear m3 f3 z3 c0 c1 c2 c3 fr d0 d1 dr e0 er g0 gr0 g1 gr1 hes0 nn
  go_wp2_with fail
  refine region_tail 6 (by kernel_rfl) (by kernel_rfl) (fun W => W.heap[pr]? = some (.cells #[.pointer (some ⟨d, 0, none⟩)] 25) ∧ W.heap[pt]? = some (.cells #[.string nw] 9) ∧ W.heap[w.heap.size]? = some (.cells #[.string f.b, .int .i64 f.sure] 64) ∧ W.heap[d]? = some (.cells #[.int .i64 st.room, .map (some mb), .int .i64 st.fuse, .bool st.down] 60) ∧ MapOf Try.prog 9 Value.string fileV W mb (del st.m name) ∧ Frm A w W)
    ⟨q1, q3, q4, q5, M3.out.drew, F3.out.drew⟩ ?_
  clear q1 q2 q3 q4 q5
  rintro w4 ⟨x4, y4, z4, b4, m4, f4⟩
  obtain ⟨c0, c1, c2, c3, fr⟩ := cells4 b4
  obtain ⟨d0, d1, dr⟩ := cells2 z4
  obtain ⟨e0, er⟩ := cells1 x4
  obtain ⟨g0, gr0⟩ := cells1 y4
  have B4 := Aside0.mk b4
  have M4 := Aside0.mk m4
  have F4 := Aside0.mk f4
  clear x4 y4 z4 b4 m4 f4
  simp only [List.take_succ_cons, List.take_zero, List.drop_succ_cons, List.drop_zero]
  repeat still_step
  refine wpStill_nil ?_
  refine wpList_mapUpdate_of strInj strKeyed w4 rfl _ _ _ 58 64 rfl Try.underlying58 mb _ rfl M4.out nw rfl HT.out f rfl ?_
  rintro w5 m5 f5 z5
  have M5 := Aside0.mk m5
  have F5 := Aside0.mk f5
  clear m5 f5 z5 c0 c1 c2 c3 fr d0 d1 dr e0 er g0 gr0
  go_wp2_with fail
  go_end0
  have hne := MapOf.ne M4.out B4.out
  exact ⟨rfl, ⟨mb, Or.inl a1, Or.inl a2, F5.out.keeps B4.out hne, M5.out⟩, F4.out.andThen F5.out (fun i e => by rw [e]; exact Or.inl a2)⟩
set_option maxHeartbeats 3200000 in
set_option maxRecDepth 100000 in
theorem cut_do.calls (w : World) (A : Nat → Prop) (d : Nat) (st : Dsk) (h : DskAt w A d st) (f : DFile) (name : ByteArray) (hn : name.size ≤ 9223372036854775807) (n : Int) (h0 : 0 ≤ n) (h1 : n ≤ (f.b.size : Int)) (hsz : f.b.size ≤ 9223372036854775807) (pr pi pn : Nat) (hpr : w.heap[pr]? = some (.cells #[.pointer (some ⟨d, 0, none⟩)] 25)) (hpi : w.heap[pi]? = some (.cells #[.int .i64 n] 3)) (hpn : w.heap[pn]? = some (.cells #[.string name] 9)) :
    Calls Try.prog 39 #[fileV f, .pointer (some ⟨pi, 0, none⟩), .pointer (some ⟨pr, 0, none⟩), .pointer (some ⟨pn, 0, none⟩)] w fun e w' => e = .returned (.tuple #[]) ∧ DskAt w' (gr A w) d { st with m := put st.m name ⟨f.b.extract 0 n.toNat, mn f.sure n⟩ } ∧ Frm A w w' := by
  obtain ⟨mb, a1, a2, hb, hm⟩ := h
  have HB := Aside0.mk hb
  have HM := Aside0.mk hm
  have HPR := Aside0.mk hpr
  have HPI := Aside0.mk hpi
  have HPN := Aside0.mk hpn
  have HK := Aside0.mk (strOk hn)
  clear hn
  obtain ⟨z, hzz⟩ : ∃ z, mn f.sure n = z := ⟨_, rfl⟩
  have hz2 : (if n < f.sure then n else f.sure) = z := hzz
  have HZ := Aside0.mk hzz
  clear hzz
  clear hb hm hpr hpi hpn
  unfold fileV
  go_enter Try.func39, Try.ntmps39
  go_wp2_with fail
  refine region_tail 14 (by kernel_rfl) (by kernel_rfl) (fun W => W.heap[pr]? = some (.cells #[.pointer (some ⟨d, 0, none⟩)] 25) ∧ W.heap[pi]? = some (.cells #[.int .i64 n] 3) ∧ W.heap[pn]? = some (.cells #[.string name] 9) ∧ W.heap[w.heap.size]? = some (.cells #[.string f.b, .int .i64 f.sure] 64) ∧ W.heap[d]? = some (.cells #[.int .i64 st.room, .map (some mb), .int .i64 st.fuse, .bool st.down] 60) ∧ MapOf Try.prog 9 Value.string fileV W mb st.m ∧ Frm A w W)
    ⟨blk_alloc HPR.out _, blk_alloc HPI.out _, blk_alloc HPN.out _, blk_new w _, blk_alloc HB.out _, (HM.out.alloc _).drew, ((Frm.refl A w).alloc _).drew⟩ ?_
  rintro w2 ⟨x2, y0, y1, z2, b2, m2, f2⟩
  obtain ⟨c0, c1, c2, c3, fr⟩ := cells4 b2
  obtain ⟨d0, d1, dr⟩ := cells2 z2
  obtain ⟨e0, er⟩ := cells1 x2
  obtain ⟨g0, gr0⟩ := cells1 y0
  obtain ⟨g1, gr1⟩ := cells1 y1
  have X2 := Aside0.mk x2
  have Z2 := Aside0.mk z2
  have B2 := Aside0.mk b2
  have M2 := Aside0.mk m2
  have F2 := Aside0.mk f2
  have Y0 := Aside0.mk y0
  have Y1 := Aside0.mk y1
  clear x2 z2 b2 m2 f2 y0 y1
  simp only [List.take_succ_cons, List.take_zero, List.drop_succ_cons, List.drop_zero]
  repeat still_step
  refine wpStill_nil ?_
  refine wpList_mapUpdate_of strInj strKeyed w2 rfl _ _ _ 58 64 rfl Try.underlying58 mb st.m rfl M2.out name rfl HK.out (⟨f.b.extract 0 n.toNat, z⟩ : DFile) rfl ?_
  rintro w3 m3 f3 z3
  have M3 := Aside0.mk m3
  have F3 := Aside0.mk f3
  clear m3 f3 z3 c0 c1 c2 c3 fr d0 d1 dr e0 er g0 gr0 g1 gr1
  go_wp2_with fail
  go_end0
  have hne := MapOf.ne M2.out B2.out
  rw [HZ.out]
  exact ⟨rfl, ⟨mb, Or.inl a1, Or.inl a2, F3.out.keeps B2.out hne, M3.out⟩, F2.out.andThen F3.out (fun i e => by rw [e]; exact Or.inl a2)⟩
end Go.Proofs.Ytpmnljdhjgjgfaa.Thw
