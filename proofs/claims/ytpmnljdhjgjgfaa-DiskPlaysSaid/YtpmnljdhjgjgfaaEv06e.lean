/- Layer 6: Cut. -/
import Derived.Test.YtpmnljdhjgjgfaaEv06d
namespace Go.Proofs.Ytpmnljdhjgjgfaa.Thw
open Go Go.RowKit Go.Proofs.YtpmnljdhjgjgfaaW.PrintWords Go.Proofs.YtpmnljdhjgjgfaaW.PrintLast Go.Proofs.YtpmnljdhjgjgfaaW.PrintMore
attribute [local go_sem] max2_int min2_int max_two min_two
set_option linter.unusedVariables false
set_option linter.unusedSimpArgs false

def Dsk.sizeOf (st : Dsk) (name : ByteArray) : Nat := match look st.m name with | none => 0 | some f => f.b.size
def Dsk.mayCut (st : Dsk) (name : ByteArray) (n : Int) : Bool := decide (0 ≤ n) && decide (n ≤ (st.sizeOf name : Int))
def Dsk.cut (st : Dsk) (name : ByteArray) (n : Int) : Dsk × Int := st.change name (st.mayCut name n) (updCut name n)
set_option maxHeartbeats 6400000 in
set_option maxRecDepth 100000 in
theorem disk_Cut.calls (w : World) (A : Nat → Prop) (d : Nat) (st : Dsk) (h : DskAt w A d st) (name : ByteArray) (hn : name.size ≤ 9223372036854775807) (n : Int) (hsz : ∀ f, look st.m name = some f → f.b.size ≤ 9223372036854775807) :
    Calls Try.prog 15 #[.pointer (some ⟨d, 0, none⟩), .string name, .int .i64 n] w fun e w' => e = .returned (.int .i64 (st.cut name n).2) ∧ DskAt w' (gr A w) d (st.cut name n).1 ∧ Frm A w w' := by
  have hbd := h.bound
  obtain ⟨mb, a1, a2, hb, hm⟩ := h
  have HB := Aside0.mk hb
  have HM := Aside0.mk hm
  have H0 := Aside0.mk hbd
  have HN := Aside0.mk hn
  have HS := Aside0.mk hsz
  clear hb hm hbd hn hsz
  go_enter Try.func15, Try.ntmps15
  go_wp2_with fail
  refine region_tail 17 (by kernel_rfl) (by kernel_rfl) (fun W => DskAt W (fun k => A k ∧ k < w.heap.size) d st ∧ Frm (fun k => A k ∧ k < w.heap.size) w W ∧ W.heap[w.heap.size]? = some (.cells #[.pointer (some ⟨d, 0, none⟩)] 25) ∧ W.heap[w.heap.size + 1]? = some (.cells #[.string name] 9) ∧ W.heap[w.heap.size + 1 + 1]? = some (.cells #[.int .i64 n] 3) ∧ W.heap[d]? = some (.cells #[.int .i64 st.room, .map (some mb), .int .i64 st.fuse, .bool st.down] 60) ∧ MapOf Try.prog 9 Value.string fileV W mb st.m)
    ⟨(((H0.out.alloc _).alloc _).alloc _).drew, ((((Frm.refl _ _).alloc _).alloc _).alloc _).drew, blk_drew (blk_alloc (blk_alloc (blk_new _ _) _) _), blk_drew (by simpa using blk_alloc (blk_new (w.alloc (.cells #[.pointer (some ⟨d, 0, none⟩)] 25)) _) _), blk_drew (by simpa using blk_new ((w.alloc (.cells #[.pointer (some ⟨d, 0, none⟩)] 25)).alloc (.cells #[.string name] 9)) _), blk_drew (blk_alloc (blk_alloc (blk_alloc HB.out _) _) _), (((HM.out.alloc _).alloc _).alloc _).drew⟩ ?_
  rintro w1 ⟨h1, f1, p1, p2, p3, b1, m1⟩
  obtain ⟨c0, cr⟩ := cells1 p1
  obtain ⟨d0, dr⟩ := cells1 p2
  obtain ⟨e0, er⟩ := cells1 p3
  obtain ⟨g0, g1, g2, g3, gr'⟩ := cells4 b1
  have n2 : ¬ (A (w.heap.size + 1 + 1) ∧ w.heap.size + 1 + 1 < w.heap.size) := fun x => by omega
  have n1 : ¬ (A (w.heap.size + 1) ∧ w.heap.size + 1 < w.heap.size) := fun x => by omega
  have n0 : ¬ (A w.heap.size ∧ w.heap.size < w.heap.size) := fun x => by omega
  obtain ⟨may, hmay⟩ : ∃ may, st.mayCut name n = may := ⟨_, rfl⟩
  have HC := Aside0.mk (disk_change.calls w1 (fun k => A k ∧ k < w.heap.size) d st h1 (fun k hk => by have := f1.size; omega) name HN.out may 39 _ Try.func39 (by kernel_rfl) (by kernel_rfl) #[.pointer (some ⟨w.heap.size + 1 + 1, 0, none⟩), .pointer (some ⟨w.heap.size, 0, none⟩), .pointer (some ⟨w.heap.size + 1, 0, none⟩)] (updCut name n)
    (fun W f hf hm hW hF => by
      have hb : 0 ≤ n ∧ n ≤ (f.b.size : Int) := by
        rw [hm] at hmay
        simpa [Dsk.mayCut, Dsk.sizeOf, hf] using hmay
      exact cut_do.calls W _ d st.burn.1 hW f name HN.out n hb.1 hb.2 (HS.out f hf) w.heap.size (w.heap.size + 1 + 1) (w.heap.size + 1) (hF.keeps p1 n0) (hF.keeps p3 n2) (hF.keeps p2 n1)))
  have F1 := Aside0.mk f1
  have HL := Aside0.mk (MapOf.lookup strInj strKeyed m1 Try.underlying58 (strOk HN.out) (zeroFile w1) false)
  have EC := Aside0.mk (show st.cut name n = st.change name may (updCut name n) by rw [← hmay]; rfl)
  clear h1 f1 p1 p2 p3 n0 n1 n2 b1 m1
  simp only [List.take_succ_cons, List.take_zero, List.drop_succ_cons, List.drop_zero]
  refine WS.out ?_
  by_cases hn0 : n < 0
  · have hd : decide (0 ≤ n) = false := decide_eq_false (by omega)
    obtain rfl : false = may := by rw [← hmay]; simp [Dsk.mayCut, hd]
    clear hmay hn0
    refine ws_want (v := _) (a' := _) (by rfl) (by go_simp; rfl) (by simp only [Act.put, List.setIfInBounds_toArray, List.set_cons_zero, List.set_cons_succ]; rfl) ?_
    refine ws_want (v := _) (a' := _) (by rfl) (by go_simp; rfl) (by simp only [Act.put, List.setIfInBounds_toArray, List.set_cons_zero, List.set_cons_succ]; rfl) ?_
    refine ws_want (v := _) (a' := _) (by rfl) (by go_simp; rfl) (by simp only [Act.put, List.setIfInBounds_toArray, List.set_cons_zero, List.set_cons_succ]; rfl) ?_
    refine ws_want (v := _) (a' := _) (by rfl) (by go_simp; rfl) (by simp only [Act.put, List.setIfInBounds_toArray, List.set_cons_zero, List.set_cons_succ]; rfl) ?_
    refine ws_want (v := _) (a' := _) (by rfl) (by go_simp; rfl) (by simp only [Act.put, List.setIfInBounds_toArray, List.set_cons_zero, List.set_cons_succ]; rfl) ?_
    refine ws_skip (a' := _) (by rfl) (by simp only [Act.put, List.setIfInBounds_toArray, List.set_cons_zero, List.set_cons_succ]; rfl) ?_
    refine ws_skip (a' := _) (by rfl) (by simp only [Act.put, List.setIfInBounds_toArray, List.set_cons_zero, List.set_cons_succ]; rfl) ?_
    refine ws_skip (a' := _) (by rfl) (by simp only [Act.put, List.setIfInBounds_toArray, List.set_cons_zero, List.set_cons_succ]; rfl) ?_
    refine ws_skip (a' := _) (by rfl) (by simp only [Act.put, List.setIfInBounds_toArray, List.set_cons_zero, List.set_cons_succ]; rfl) ?_
    refine ws_skip (a' := _) (by rfl) (by simp only [Act.put, List.setIfInBounds_toArray, List.set_cons_zero, List.set_cons_succ]; rfl) ?_
    refine ws_skip (a' := _) (by rfl) (by simp only [Act.put, List.setIfInBounds_toArray, List.set_cons_zero, List.set_cons_succ]; rfl) ?_
    refine ws_skip (a' := _) (by rfl) (by simp only [Act.put, List.setIfInBounds_toArray, List.set_cons_zero, List.set_cons_succ]; rfl) ?_
    refine ws_skip (a' := _) (by rfl) (by simp only [Act.put, List.setIfInBounds_toArray, List.set_cons_zero, List.set_cons_succ]; rfl) ?_
    refine ws_skip (a' := _) (by rfl) (by simp only [Act.put, List.setIfInBounds_toArray, List.set_cons_zero, List.set_cons_succ]; rfl) ?_
    refine ws_skip (a' := _) (by rfl) (by simp only [Act.put, List.setIfInBounds_toArray, List.set_cons_zero, List.set_cons_succ]; rfl) ?_
    refine ws_want (v := _) (a' := _) (by rfl) (by go_simp; rfl) (by simp only [Act.put, List.setIfInBounds_toArray, List.set_cons_zero, List.set_cons_succ]; rfl) ?_
    refine ws_want (v := _) (a' := _) (by rfl) (by go_simp; rfl) (by simp only [Act.put, List.setIfInBounds_toArray, List.set_cons_zero, List.set_cons_succ]; rfl) ?_
    refine ws_nil ?_
    go_wp2_with fail
    refine HC.out.mono ?_
    rintro e w2 ⟨rfl, h2, f2⟩
    have H2 := Aside0.mk (change_post h2 F1.out.size)
    have F2 := Aside0.mk ((F1.out.andThen f2 (fun i hi => Or.inl hi)).mono (S' := A) fun k _ hk => hk.1)
    clear h2 f2 HC c0 cr d0 dr e0 er g0 g1 g2 g3 gr'
    go_wp2_with fail
    go_ret
    rw [EC.out]
    exact ⟨rfl, H2.out, F2.out⟩
  · have hd : decide (0 ≤ n) = true := decide_eq_true (by omega)
    obtain ⟨fb, fs, hfl, hfb⟩ : ∃ fb fs, (Instr.lookup 58 (.map (some mb)) (.string name) false).run Try.prog w1 = .ok (.agg #[.string fb, .int .i64 fs]) w1 ∧ st.sizeOf name = fb.size := by
      cases hl : look st.m name with
      | none => exact ⟨⟨#[]⟩, 0, by rw [HL.out, hl]; rfl, by (simp [Dsk.sizeOf, hl] <;> rfl)⟩
      | some f => exact ⟨f.b, f.sure, by rw [HL.out, hl]; rfl, by (simp [Dsk.sizeOf, hl] <;> rfl)⟩
    have HMY := Aside0.mk (show decide (n ≤ (fb.size : Int)) = may by rw [← hmay]; simp [Dsk.mayCut, hd, hfb])
    clear hmay hn0 hfb HL
    refine ws_want (v := _) (a' := _) (by rfl) (by go_simp; rfl) (by simp only [Act.put, List.setIfInBounds_toArray, List.set_cons_zero, List.set_cons_succ]; rfl) ?_
    refine ws_want (v := _) (a' := _) (by rfl) (by go_simp; rfl) (by simp only [Act.put, List.setIfInBounds_toArray, List.set_cons_zero, List.set_cons_succ]; rfl) ?_
    refine ws_want (v := _) (a' := _) (by rfl) (by go_simp; rfl) (by simp only [Act.put, List.setIfInBounds_toArray, List.set_cons_zero, List.set_cons_succ]; rfl) ?_
    refine ws_want (v := _) (a' := _) (by rfl) (by go_simp; rfl) (by simp only [Act.put, List.setIfInBounds_toArray, List.set_cons_zero, List.set_cons_succ]; rfl) ?_
    refine ws_want (v := _) (a' := _) (by rfl) (by go_simp; rfl) (by simp only [Act.put, List.setIfInBounds_toArray, List.set_cons_zero, List.set_cons_succ]; rfl) ?_
    refine ws_want (v := _) (a' := _) (by rfl) (by go_simp; rfl) (by simp only [Act.put, List.setIfInBounds_toArray, List.set_cons_zero, List.set_cons_succ]; rfl) ?_
    refine ws_want (v := _) (a' := _) (by rfl) (by go_simp; rfl) (by simp only [Act.put, List.setIfInBounds_toArray, List.set_cons_zero, List.set_cons_succ]; rfl) ?_
    refine ws_want (v := _) (a' := _) (by rfl) (by go_simp; rfl) (by simp only [Act.put, List.setIfInBounds_toArray, List.set_cons_zero, List.set_cons_succ]; rfl) ?_
    refine ws_want (v := _) (a' := _) (by rfl) (by go_simp; rfl) (by simp only [Act.put, List.setIfInBounds_toArray, List.set_cons_zero, List.set_cons_succ]; rfl) ?_
    refine ws_want (v := _) (a' := _) (by rfl) (by go_simp; rfl) (by simp only [Act.put, List.setIfInBounds_toArray, List.set_cons_zero, List.set_cons_succ]; rfl) ?_
    refine ws_want (v := _) (a' := _) (by rfl) (by go_simp; rfl) (by simp only [Act.put, List.setIfInBounds_toArray, List.set_cons_zero, List.set_cons_succ]; rfl) ?_
    refine ws_want (v := _) (a' := _) (by rfl) (by go_simp; rfl) (by simp only [Act.put, List.setIfInBounds_toArray, List.set_cons_zero, List.set_cons_succ]; rfl) ?_
    refine ws_want (v := _) (a' := _) (by rfl) (by go_simp; rfl) (by simp only [Act.put, List.setIfInBounds_toArray, List.set_cons_zero, List.set_cons_succ]; rfl) ?_
    refine ws_want (v := _) (a' := _) (by rfl) (by go_simp; rfl) (by simp only [Act.put, List.setIfInBounds_toArray, List.set_cons_zero, List.set_cons_succ]; rfl) ?_
    refine ws_want (v := _) (a' := _) (by rfl) (by go_simp; rfl) (by simp only [Act.put, List.setIfInBounds_toArray, List.set_cons_zero, List.set_cons_succ]; rfl) ?_
    refine ws_want (v := _) (a' := _) (by rfl) (by go_simp; rfl) (by simp only [Act.put, List.setIfInBounds_toArray, List.set_cons_zero, List.set_cons_succ]; rfl) ?_
    refine ws_want (v := _) (a' := _) (by rfl) (by go_simp; rfl) (by simp only [Act.put, List.setIfInBounds_toArray, List.set_cons_zero, List.set_cons_succ]; rfl) ?_
    refine ws_nil ?_
    go_wp2_with fail
    rw [HMY.out]
    refine HC.out.mono ?_
    rintro e w2 ⟨rfl, h2, f2⟩
    have H2 := Aside0.mk (change_post h2 F1.out.size)
    have F2 := Aside0.mk ((F1.out.andThen f2 (fun i hi => Or.inl hi)).mono (S' := A) fun k _ hk => hk.1)
    clear h2 f2 HC c0 cr d0 dr e0 er g0 g1 g2 g3 gr' hfl
    go_wp2_with fail
    go_ret
    rw [EC.out]
    exact ⟨rfl, H2.out, F2.out⟩
end Go.Proofs.Ytpmnljdhjgjgfaa.Thw
