/- Layer 11: the document's Put and Get. -/
import Derived.Test.YtoindlghpkjemaaEv11j
namespace Go.Proofs.Ytoindlghpkjemaa.Thw
open Go Go.RowKit Go.Proofs.YtoindlghpkjemaaW.PrintWords Go.Proofs.YtoindlghpkjemaaW.PrintLast Go.Proofs.YtoindlghpkjemaaW.PrintMore
attribute [local go_sem] max2_int min2_int max_two min_two
set_option linter.unusedVariables false
set_option linter.unusedSimpArgs false
theorem region_draw {P : Program} {ops : Array Oper} {Q : Exit → Act → World → Prop} {S : World → Prop} {ds : List Nat} {id n : Nat} {a : Act} {w : World} (l : Array Bool) (hm : P.follows .mixedOrders = true) (hn : ops.size = n) (hl : Array.replicate n false = l)
    (F : World → Prop) (hF : F w.drew) (hFS : ∀ W, F W → S W) (h : ∀ W, F W → wpAnyLast P .any ops Q S ds n l a W) : (Code.region id ops true).wp P Q a w := start_ l hm hn hl (hFS _ hF) (fun _ => h _ hF)
def RPost (v : Value) (w : World) (A : Nat → Prop) (g : Nat) (X : Row2) (most : Int) (e : Ending) (w' : World) : Prop := e = .returned v ∧ RfL w' (nA A w w') g X most ∧ Frm A w w'
theorem RfL.mono {w : World} {A A' : Nat → Prop} {g : Nat} {X : Row2} {most : Int} (h : RfL w A g X most) (hA : ∀ k, k < w.heap.size → A k → A' k) (ho : ∀ k, A' k → k < w.heap.size) : RfL w A' g X most := by
  obtain ⟨h1, h2, v, h3, h4⟩ := h
  exact ⟨hA _ (blk_lt h3) h1, ho, v, h3, Kd.R_mono (Kd.R_bound h4) (fun k hk => ⟨hA _ hk.2.2.1 hk.1.1, hk.1.2⟩)⟩
theorem R_takeG {α : Type} {d : Kd α} {w : World} {e base n cap m : Nat} {ok : Nat → Prop} {A : Option Addr} {xs : List α} (h : d.R e w base ok (.slice A n cap) xs) (hm : m ≤ xs.length) : d.R e w base ok (.slice A m cap) (xs.take m) := by
  obtain ⟨h0, inner, ho, hr⟩ := h
  have hown : ∀ q q' : Nat, (Value.slice A q cap).ownBlock = (Value.slice A q' cap).ownBlock := fun q q' => by cases A <;> rfl
  refine ⟨fun k hk => h0 k (by rw [hown n m]; exact hk), inner.take (m * d.sz), ?_, ?_⟩
  · have hlen : (xs.take m).length = m := by simp; omega
    rw [hlen]
    obtain ⟨hl, hc⟩ := ho
    have hms : m * d.sz ≤ xs.length * d.sz := Nat.mul_le_mul_right _ hm
    refine ⟨by rw [List.length_take, hl]; omega, ?_⟩
    rcases hc with ⟨e1, e2⟩ | ⟨g, cap', cur, e1, hg, hh, h1, h2, h3, h4⟩
    · simp only [Value.slice.injEq] at e1
      obtain ⟨rfl, rfl, rfl⟩ := e1
      have : m = 0 := by omega
      subst this
      exact Or.inl ⟨rfl, rfl⟩
    · simp only [Value.slice.injEq] at e1
      obtain ⟨rfl, rfl, rfl⟩ := e1
      refine Or.inr ⟨g, cap, cur, rfl, hg, hh, by omega, h2, h3, ?_⟩
      have h5 := congrArg (List.take (m * d.sz)) h4
      rw [List.take_take, Nat.min_eq_left hms] at h5
      exact h5
  · rw [show (Value.slice A m cap).ownBlock = (Value.slice A n cap).ownBlock from hown m n]
    exact Kd.reps_take hr hm
/-- What the first statement leaves: the new one ahead of the others. -/
def Ahead (w : World) (A : Nat → Prop) (g bx : Nat) (X : Row2) (most : Int) (q : Bk × ByteArray) (box : Obj) (W : World) : Prop :=
  RfL W (nA A w W) g (q :: del X q.1) most ∧ Frm A w W ∧ W.heap[bx]? = some box
/-- Both rows lie there. -/
def Both (w0 W : World) (A : Nat → Prop) (g bx : Nat) (X : Row2) (most : Int) (q : Bk × ByteArray) (box : Obj) (v1 v2 : Value) : Prop :=
  W.heap[bx]? = some box ∧ RfL W A g X most ∧ Below w0.heap.size w0 W ∧ kI.R 95 W w0.heap.size (fun k => bx < k) v1 [q] ∧ (∃ A2 c2, v2 = .slice A2 (del X q.1).length c2 ∧ kI.C W A2 (del X q.1).length (del X q.1))
theorem new_above {w W w1 : World} {bx : Nat} {box : Obj} (hx : W.heap[bx]? = some box) {v : Value} {Y : Row2} (hR : kI.R 95 w1 W.heap.size (fun _ => True) v Y) (hz : w.heap.size ≤ W.heap.size) : kI.R 95 w1 w.heap.size (fun k => bx < k) v Y :=
  Kd.R_lower (Kd.R_mono (Kd.R_bound hR) (fun k hk => Nat.lt_of_lt_of_le (blk_lt hx) hk.2.1)) hz
/-- The row grown is the state's. -/
theorem RfL.grow {w W w1 : World} {A : Nat → Prop} {g bx : Nat} {X Y : Row2} {most : Int} {box : Obj} (h : RfL W A g X most) (hA : ∀ k, A k → k < w.heap.size) (hx : W.heap[bx]? = some box) (hbx : w.heap.size ≤ bx) (hb : Below w.heap.size w W) {v v1 : Value} {P : Row2} (hv : kI.R 95 W w.heap.size (fun k => bx < k) v P) (hg : W.grownBy w1 v.ownBlock)
    (hR : kI.R 95 w1 w.heap.size (fun k => bx < k) v1 Y) : RfL (w1.setCell ⟨g, 1, none⟩ v1) (nA A w (w1.setCell ⟨g, 1, none⟩ v1)) g Y most ∧ Frm A w (w1.setCell ⟨g, 1, none⟩ v1) ∧ (w1.setCell ⟨g, 1, none⟩ v1).heap[bx]? = some box ∧ w1.heap[g]? = W.heap[g]? := by
  obtain ⟨h1, h2, v0, h3, h4⟩ := h
  have hgw := hA g h1
  have hown : ∀ k, v.ownBlock = some k → bx < k := hv.1
  have hgk := hg.block g (blk_lt h3) (fun e => by have := hown g e.symm; omega)
  have hg1 := hgk.trans h3
  have hx1 := (hg.block bx (blk_lt hx) (fun e => by have := hown bx e.symm; omega)).trans hx
  have hB1 : Below w.heap.size w w1 := hb.trans ⟨hg.os, hg.tape, hg.output, hg.size, fun k hk => hg.block k (Nat.lt_of_lt_of_le hk hb.size) (fun e => by have := hown k e.symm; omega)⟩
  have hRg := Kd.R_far (Kd.R_bound hR) (p := ⟨g, 1, none⟩) (fun k hk => by have := hk.2.1; show k ≠ g; omega) v1
  refine ⟨⟨⟨Or.inl h1, by have := blk_lt hg1; simpa [World.setCell] using this⟩, fun k hk => hk.2, v1, by simpa using blk_set hg1 1 v1, Kd.R_mono (Kd.R_bound (Kd.R_lower hRg (Nat.zero_le _))) (fun k hk => ⟨⟨Or.inr hk.1.2.1, hk.2.2.1⟩, ?_⟩)⟩, (Frm.of_new hB1).setCell (Or.inl h1) _, (Below.heap_setCell w1 ⟨g, 1, none⟩ v1 bx (by show bx ≠ g; omega)).trans hx1, hgk⟩
  have := hk.1.2.1
  omega
def put1T : Bool × List (List Nat × List Nat) := (true, [([], []), ([], []), ([], []), ([1, 2], [1, 2]), ([3], [3]), ([], []), ([], []), ([5, 6], [5, 6]), ([4, 7, 7], [4, 7]), ([0, 0, 1, 2, 3, 4, 5, 6, 7, 8], [0]), ([9, 0, 1, 2, 3, 4, 5, 6, 7, 8], [9]), ([10, 8, 8, 0, 1, 2, 3, 4, 5, 6, 7, 8], [8, 10])])
def put1B : List Nat := [0, 0, 0, 6, 14, 0, 0, 96, 254, 511, 1023, 2047]
theorem put1tab : rtab .any (opsOf Try.f29 1) = put1T := by kernel_rfl
theorem put1bits : waitsOk put1T.2 put1B = true := by kernel_rfl
theorem kI_KM {w : World} {base : Nat} {ok : Nat → Prop} {x : Bk × ByteArray} {cs : List Value} (h : kI.K w x cs) : kI.M w base ok x cs := h
set_option maxHeartbeats 12800000 in
set_option maxRecDepth 100000 in
theorem rf_Put (w : World) (A : Nat → Prop) (g : Nat) (X : Row2) (most : Int) (h : RfL w A g X most) (hl : X.length ≤ 1000) (hm : 0 ≤ most) (b : Bk) (s : ByteArray) : Calls Try.prog 29 #[.pointer (some ⟨g, 0, none⟩), bkV b, .string s] w (RPost (.tuple #[]) w A g (putD X most b s) most) := by
  obtain ⟨b1, b2⟩ := b
  show Calls Try.prog 29 #[.pointer (some ⟨g, 0, none⟩), .agg #[.int .i64 b1, .int .i64 b2], .string s] w (RPost (.tuple #[]) w A g (putD X most (b1, b2) s) most)
  have H := Aside0.mk h
  have hOLD := Aside0.mk h.old
  have hA := Aside0.mk h.own
  have DL := Aside0.mk (show (del X (b1, b2)).length ≤ 1000 from Nat.le_trans (List.length_filter_le _ _) hl)
  clear h
  go_enter Try.func29, Try.ntmps29
  go_upto_region 1 with (fail)
  go_cut [] from 6 to 16 (fun wx => Aside0 (Ahead w A g w.heap.size X most ((b1, b2), s) (.cells #[.int .i64 b1, .int .i64 b2] 54) wx))
  case first =>
    refine region_draw (n := 12) (S := fun W => W.heap[w.heap.size]? = some (.cells #[.int .i64 b1, .int .i64 b2] 54)) (ds := []) #[false, false, false, false, false, false, false, false, false, false, false, false] (by kernel_rfl) rfl rfl (fun W => (W.heap[w.heap.size]? = some (.cells #[.int .i64 b1, .int .i64 b2] 54)) ∧ RfL W A g X most ∧ Below w.heap.size w W) ⟨blk_drew (blk_new w _), H.out.frm (S := None') ((Frm.refl _ _).alloc _).drew (fun _ _ _ x => x), ((Below.refl _ _).alloc (Nat.le_refl _) _).drew⟩ (fun W h => h.1) ?_
    rintro w4 ⟨s4, h4, b4⟩
    refine with_tabW put1tab put1bits (fun HT_ HW_ => ?_)
    have S4 := Aside0.mk s4
    have H4 := Aside0.mk h4
    have B4 := Aside0.mk b4
    clear s4 h4 b4
    refine pure_ (i := 0) (N := some 6) (v := ?_) (a' := ?_) #[true, false, false, false, false, false, false, false, false, false, false, false] rfl rfl (any_of HT_.out (by kernel_rfl)) (fun _ _ _ h => h) (Or.inl ⟨by rfl, ?_⟩) ?_ ?_
    rotate_left
    · intro w'
      go_simp
      with_reducible rfl
    rotate_left
    · simp only [Act.put, List.setIfInBounds_toArray, List.set_cons_zero, List.set_cons_succ, i64_w, i32_w]
      rfl
    refine pure_ (i := 2) (N := some 8) (v := ?_) (a' := ?_) #[true, false, true, false, false, false, false, false, false, false, false, false] rfl rfl (any_of HT_.out (by kernel_rfl)) (fun _ _ _ h => h) (Or.inl ⟨by rfl, ?_⟩) ?_ ?_
    rotate_left
    · intro w'
      go_simp
      with_reducible rfl
    rotate_left
    · simp only [Act.put, List.setIfInBounds_toArray, List.set_cons_zero, List.set_cons_succ, i64_w, i32_w]
      rfl
    refine pure_ (i := 5) (N := some 11) (v := ?_) (a' := ?_) #[true, false, true, false, false, true, false, false, false, false, false, false] rfl rfl (any_of HT_.out (by kernel_rfl)) (fun _ _ _ h => h) (Or.inl ⟨by rfl, ?_⟩) ?_ ?_
    rotate_left
    · intro w'
      go_simp
      with_reducible rfl
    rotate_left
    · simp only [Act.put, List.setIfInBounds_toArray, List.set_cons_zero, List.set_cons_succ, i64_w, i32_w]
      rfl
    refine take_ (i := 1) (N := some 7) (v := ?_) (a' := ?_) #[true, true, true, false, false, true, false, false, false, false, false, false] rfl rfl (take_ofW HT_.out HW_.out (by kernel_rfl)) (fun _ _ _ h => h) (Or.inl ⟨by rfl, ?_⟩) S4.out ?_ ?_
    rotate_left
    · intro w' hW
      obtain ⟨d0, d1, dr⟩ := cells2' hW
      go_simp
      with_reducible rfl
    rotate_left
    · simp only [Act.put, List.setIfInBounds_toArray, List.set_cons_zero, List.set_cons_succ, i64_w, i32_w]
      rfl
    refine take_ (i := 6) (N := some 12) (v := ?_) (a' := ?_) #[true, true, true, false, false, true, true, false, false, false, false, false] rfl rfl (take_ofW HT_.out HW_.out (by kernel_rfl)) (fun _ _ _ h => h) (Or.inl ⟨by rfl, ?_⟩) S4.out ?_ ?_
    rotate_left
    · intro w' hW
      obtain ⟨d0, d1, dr⟩ := cells2' hW
      go_simp
      with_reducible rfl
    rotate_left
    · simp only [Act.put, List.setIfInBounds_toArray, List.set_cons_zero, List.set_cons_succ, i64_w, i32_w]
      rfl
    refine pure_ (i := 3) (N := some 9) (v := ?_) (a' := ?_) #[true, true, true, true, false, true, true, false, false, false, false, false] rfl rfl (any_of HT_.out (by kernel_rfl)) (fun _ _ _ h => h) (Or.inl ⟨by rfl, ?_⟩) ?_ ?_
    rotate_left
    · intro w'
      go_simp
      with_reducible rfl
    rotate_left
    · simp only [Act.put, List.setIfInBounds_toArray, List.set_cons_zero, List.set_cons_succ, i64_w, i32_w]
      rfl
    refine join_ (σ := Value × Value) 4 #[true, true, true, true, true, true, true, true, false, false, false, false] (fun s_ => [(10, s_.1), (13, s_.2)]) (fun s_ w' => (w'.heap[w.heap.size]? = some (.cells #[.int .i64 b1, .int .i64 b2] 54)) ∧ Both w w' A g w.heap.size X most ((b1, b2), s) (.cells #[.int .i64 b1, .int .i64 b2] 54) s_.1 s_.2) ?_ ?_
    rotate_left
    · intro hCont
      refine two_ (i := 4) (j := 7) (Ni := some 10) (Nj := some 13) #[true, true, true, true, true, true, true, false, false, false, false, false] #[true, true, true, true, false, true, true, true, false, false, false, false] rfl rfl rfl rfl (two_of HT_.out (by kernel_rfl)) (by decide) (by decide) (fun K hK => ?_) (fun K hK => ?_)
      · skip
        refine Kd.R_lit_step kI (w0 := w4) _ 95 ?hg (N := 10) ?hd (xs := [((b1, b2), s)]) (inner := [.int .i64 b1, .int .i64 b2, .string s]) (ok := fun _ => True) (okp := fun _ => True) ?hr ?hp (fun _ hk => hk) trivial (Below.refl _ _) (Nat.le_refl _) (by simp) ?_; (case hd => rfl); (case hg => rfl); (case hr => first | (go_simp; done) | (go_simp; rfl)); (case hp => exact Reps.c3 (kI_M _ _ _ ((b1, b2), s)) (Reps.none _ _))
        intro v1 w5 hR1 hB1 hg1 hat1
        have S5 := Aside0.mk (show w5.heap[w.heap.size]? = some (.cells #[.int .i64 b1, .int .i64 b2] 54) from blk_below S4.out hB1)
        have R1 := Aside0.mk (new_above S4.out hR1 B4.out.size)
        have H5 := Aside0.mk (H4.out.below hB1)
        have B5 := Aside0.mk (B4.out.trans (hB1.mono B4.out.size))
        clear hR1 hB1 hg1 hat1
        refine hK.out _ _ S5.out (fun _ => ?_)
        clear hK K
        refine norm_ (a' := ?_) ?_ ?_
        rotate_left
        · show Act.put _ (some 10) _ = _
          simp only [Act.put, List.setIfInBounds_toArray, List.set_cons_zero, List.set_cons_succ, i64_w, i32_w]
          rfl
        refine one_ (i := 7) (N := some 13) #[true, true, true, true, true, true, true, true, false, false, false, false] rfl rfl (one_of HT_.out (by kernel_rfl)) (by decide) (fun K hK => ?_)
        refine goes_ Try.func49 (by kernel_rfl) rfl #[.pointer (some ⟨g, 0, none⟩), .agg #[.int .i64 b1, .int .i64 b2]] (by rfl) rfl rfl (by (try simp only [List.map_toArray, List.map_cons, List.map_nil]); first | done | rfl) ?_
        refine (rf_without w5 A g X most H5.out hl ((b1, b2), s).1).mono ?_
        rintro e w6 ⟨v2, rfl, hR2, hB2⟩
        refine ⟨_, rfl, ?_⟩
        have S6 := Aside0.mk (show w6.heap[w.heap.size]? = some (.cells #[.int .i64 b1, .int .i64 b2] 54) from blk_below S5.out hB2)
        refine hK.out _ _ S6.out (fun _ => ?_)
        clear hK K
        refine norm_ (a' := ?_) ?_ ?_
        rotate_left
        · show Act.put _ (some 13) _ = _
          simp only [Act.put, List.setIfInBounds_toArray, List.set_cons_zero, List.set_cons_succ, i64_w, i32_w]
          rfl
        obtain ⟨A2, c2, e2, _, hC2⟩ := Kd.R_reads hR2
        exact hCont (_, _) _ ⟨S6.out, S6.out, H5.out.below hB2, B5.out.trans (hB2.mono B5.out.size), Kd.R_below R1.out hB2, A2, c2, e2, hC2⟩
      · skip
        refine goes_ Try.func49 (by kernel_rfl) rfl #[.pointer (some ⟨g, 0, none⟩), .agg #[.int .i64 b1, .int .i64 b2]] (by rfl) rfl rfl (by (try simp only [List.map_toArray, List.map_cons, List.map_nil]); first | done | rfl) ?_
        refine (rf_without w4 A g X most H4.out hl ((b1, b2), s).1).mono ?_
        rintro e w6 ⟨v2, rfl, hR2, hB2⟩
        refine ⟨_, rfl, ?_⟩
        have S6 := Aside0.mk (show w6.heap[w.heap.size]? = some (.cells #[.int .i64 b1, .int .i64 b2] 54) from blk_below S4.out hB2)
        obtain ⟨A2, c2, e2, _, hC2⟩ := Kd.R_reads hR2
        have H6 := Aside0.mk (H4.out.below hB2)
        have B6 := Aside0.mk (B4.out.trans (hB2.mono B4.out.size))
        have C2 := Aside0.mk hC2
        have E2 := Aside0.mk e2
        clear hC2 hB2 hR2 e2
        refine hK.out _ _ S6.out (fun _ => ?_)
        clear hK K
        refine norm_ (a' := ?_) ?_ ?_
        rotate_left
        · show Act.put _ (some 13) _ = _
          simp only [Act.put, List.setIfInBounds_toArray, List.set_cons_zero, List.set_cons_succ, i64_w, i32_w]
          rfl
        refine one_ (i := 4) (N := some 10) #[true, true, true, true, true, true, true, true, false, false, false, false] rfl rfl (one_of HT_.out (by kernel_rfl)) (by decide) (fun K hK => ?_)
        refine Kd.R_lit_step kI (w0 := w6) _ 95 ?hg (N := 10) ?hd (xs := [((b1, b2), s)]) (inner := [.int .i64 b1, .int .i64 b2, .string s]) (ok := fun _ => True) (okp := fun _ => True) ?hr ?hp (fun _ hk => hk) trivial (Below.refl _ _) (Nat.le_refl _) (by simp) ?_; (case hd => rfl); (case hg => rfl); (case hr => first | (go_simp; done) | (go_simp; rfl)); (case hp => exact Reps.c3 (kI_M _ _ _ ((b1, b2), s)) (Reps.none _ _))
        intro v1 w7 hR1 hB1 hg1 hat1
        have S7 := Aside0.mk (show w7.heap[w.heap.size]? = some (.cells #[.int .i64 b1, .int .i64 b2] 54) from blk_below S6.out hB1)
        refine hK.out _ _ S7.out (fun _ => ?_)
        clear hK K
        refine norm_ (a' := ?_) ?_ ?_
        rotate_left
        · show Act.put _ (some 10) _ = _
          simp only [Act.put, List.setIfInBounds_toArray, List.set_cons_zero, List.set_cons_succ, i64_w, i32_w]
          rfl
        exact hCont (_, _) _ ⟨S7.out, S7.out, H6.out.below hB1, B6.out.trans (hB1.mono B6.out.size), new_above S6.out hR1 B6.out.size, A2, c2, E2.out, Kd.C_below C2.out hB1⟩
    rintro ⟨v1, v2⟩ w8 ⟨hs8, hx8, h8, b8, r8, A2, c2, rfl, hc8⟩
    have S8 := Aside0.mk hs8
    have X8 := Aside0.mk hx8
    have H8 := Aside0.mk h8
    have B8 := Aside0.mk b8
    have R8 := Aside0.mk r8
    have C8 := Aside0.mk hc8
    clear hs8 hx8 h8 b8 r8 hc8
    obtain ⟨A1', c1', rfl⟩ := Kd.R_slice R8.out
    refine norm_ (a' := ?_) ?_ ?_
    rotate_left
    · simp only [putAll, List.foldl_cons, List.foldl_nil, Act.put, List.setIfInBounds_toArray, List.set_cons_zero, List.set_cons_succ]
      rfl
    refine one_ (i := 8) (N := some 14) #[true, true, true, true, true, true, true, true, true, false, false, false] rfl rfl (one_of HT_.out (by kernel_rfl)) (by decide) (fun K hK => ?_)
    refine Kd.R_append_rows_step kI (w0 := w) w.heap.size (by rfl) (.tmp 10) (.tmp 13) 64 95 (.agg #[.int .i64 0, .int .i64 0, .string ⟨#[]⟩]) 32 rfl Try.underlying64 infoI rfl (by decide) (by omega) (.slice A1' [((b1, b2), s)].length c1') [((b1, b2), s)] (del X ((b1, b2), s).1) A2 (del X ((b1, b2), s).1).length c2 (fun k => w.heap.size < k) (fun _ => False) rfl rfl R8.out C8.out (fun x cs h => kI_KM h) (fun _ h => h.elim) (fun k hk => Nat.lt_of_lt_of_le (blk_lt X8.out) hk) B8.out B8.out.size (by have := DL.out; simp; omega) ?_
    intro v9 w9 hR9 hB9 hg9 hat9
    obtain ⟨A9, c9, rfl⟩ := Kd.R_slice hR9
    obtain ⟨n1, n2, n3, n4⟩ := H8.out.grow hOLD.out X8.out (Nat.le_refl _) B8.out R8.out hg9 hR9
    have S9 := Aside0.mk (show w9.heap[w.heap.size]? = some (.cells #[.int .i64 b1, .int .i64 b2] 54) from (hg9.block _ (blk_lt S8.out) (fun e => by have := R8.out.1 _ e.symm; omega)).trans S8.out)
    have N1 := Aside0.mk n1
    have N2 := Aside0.mk n2
    have N3 := Aside0.mk n3
    obtain ⟨_, _, v0, hst, _⟩ := H8.out
    rw [← n4] at hst
    obtain ⟨t0, t1, tr⟩ := cells2' hst
    clear n1 n2 n3 n4 hst hg9 hB9 hat9 hR9
    refine hK.out _ _ S9.out (fun _ => ?_)
    clear hK K
    refine norm_ (a' := ?_) ?_ ?_
    rotate_left
    · show Act.put _ (some 14) _ = _
      simp only [Act.put, List.setIfInBounds_toArray, List.set_cons_zero, List.set_cons_succ, i64_w, i32_w]
      rfl
    refine pure_ (i := 9) (N := some 15) (v := ?_) (a' := ?_) #[true, true, true, true, true, true, true, true, true, true, false, false] rfl rfl (any_of HT_.out (by kernel_rfl)) (fun _ _ _ h => h) (Or.inl ⟨by rfl, ?_⟩) ?_ ?_
    rotate_left
    · intro w'
      go_simp
      with_reducible rfl
    rotate_left
    · simp only [Act.put, List.setIfInBounds_toArray, List.set_cons_zero, List.set_cons_succ, i64_w, i32_w]
      rfl
    refine pure_ (i := 10) (N := some 16) (v := ?_) (a' := ?_) #[true, true, true, true, true, true, true, true, true, true, true, false] rfl rfl (any_of HT_.out (by kernel_rfl)) (fun _ _ _ h => h) (Or.inl ⟨by rfl, ?_⟩) ?_ ?_
    rotate_left
    · intro w'
      go_simp
      with_reducible rfl
    rotate_left
    · simp only [Act.put, List.setIfInBounds_toArray, List.set_cons_zero, List.set_cons_succ, i64_w, i32_w]
      rfl
    refine one_ (i := 11) (N := none) #[true, true, true, true, true, true, true, true, true, true, true, true] rfl rfl (one_of HT_.out (by kernel_rfl)) (by decide) (fun K hK => ?_)
    refine skip_ (w1 := ?_) (by rfl) rfl ?_ ?_
    rotate_left
    · go_simp
      rfl
    refine hK.out _ _ (N3.out) (fun _ => ?_)
    clear hK K
    refine done_ (done_of HT_.out (by kernel_rfl)) ?_
    go_wp2_with fail
    go_meet
    case rel => exact ⟨N1.out, N2.out, N3.out⟩
  case rest =>
    obtain ⟨hR, hF, hx⟩ := hcut.out
    obtain ⟨Y, hY⟩ : ∃ Y, ((b1, b2), s) :: del X (b1, b2) = Y := ⟨_, rfl⟩
    rw [hY] at hR
    have HY := Aside0.mk hY
    have R1 := Aside0.mk hR
    have F1 := Aside0.mk hF
    have hyl : Y.length ≤ 1001 := by rw [← hY]; have := DL.out; simp; omega
    clear hcut hR hF hx hY
    go_upto_region 2 with (fail)
    refine region_tail 18 (by kernel_rfl) (by kernel_rfl) (fun W => RfL W (nA A w wc) g Y most ∧ Frm A w W) ⟨R1.out.frm (S := None') (Frm.refl _ _).drew (fun _ _ _ x => x), F1.out.drew⟩ ?_
    rintro w2 ⟨hR, hF⟩
    obtain ⟨g1, g2, v, hst, hRr⟩ := hR
    obtain ⟨A0, c0, rfl, hc0, _⟩ := Kd.R_reads hRr
    obtain ⟨t0, t1, tr⟩ := cells2' hst
    have RR := Aside0.mk hRr
    have ST := Aside0.mk hst
    have G1 := Aside0.mk g1
    have G2 := Aside0.mk g2
    have F2 := Aside0.mk hF
    clear hRr hst g1 g2 hF
    simp only [List.take_succ_cons, List.take_zero, List.drop_succ_cons, List.drop_zero]
    obtain ⟨m, hm2⟩ : ∃ m : Nat, (if most < (Y.length : Int) then most else (Y.length : Int)) = (m : Int) := ⟨(if most < (Y.length : Int) then most else (Y.length : Int)).toNat, by split <;> omega⟩
    have hmt : Y.take m = Y.take most.toNat ∧ m ≤ Y.length := by
      split at hm2
      · exact ⟨by rw [show most.toNat = m by omega], by omega⟩
      · have e1 : m = Y.length := by omega
        rw [e1, List.take_length, List.take_of_length_le (by omega)]
        exact ⟨rfl, Nat.le_refl _⟩
    have HMT := Aside0.mk hmt
    have hmc : m ≤ c0 := by omega
    have y0 : 0 ≤ (m : Int) := by omega
    clear hmt
    repeat still_step
    refine wpStill_nil ?_
    go_wp2_with fail
    go_end0
    have hstp := blk_set ST.out 1 (.slice A0 m c0)
    have hput : putD X most (b1, b2) s = Y.take m := by rw [HMT.out.1, ← HY.out]; rfl
    rw [hput]
    refine ⟨rfl, RfL.mono (A := nA A w wc) ⟨G1.out, fun k hk => by simpa [World.setCell] using G2.out k hk, _, by simpa using hstp, ?_⟩ (fun k hk hA => ⟨hA.1, hk⟩) (fun k hk => hk.2), F2.out.setCell (Or.inl hA.out) _⟩
    exact Kd.R_far (R_takeG RR.out HMT.out.2) (p := ⟨g, 1, none⟩) (fun k hk => hk.2) _
def get6T : Bool × List (List Nat × List Nat) := (true, [([], []), ([], []), ([1], [1]), ([], []), ([], []), ([3, 4], [3, 4]), ([2, 5, 5], [2, 5]), ([0, 0, 1, 2, 3, 4, 5, 6], [0]), ([7, 0, 1, 2, 3, 4, 5, 6], [7]), ([8, 6, 6, 0, 1, 2, 3, 4, 5, 6], [6, 8])])
def get6B : List Nat := [0, 0, 2, 0, 0, 24, 62, 127, 255, 511]
theorem get6tab : rtab .any (opsOf Try.f27 6) = get6T := by kernel_rfl
theorem get6bits : waitsOk get6T.2 get6B = true := by kernel_rfl
/-- Where the block stands. -/
theorem look_skip {X : Row2} {b : Bk} : ∀ {k : Nat}, (∀ j, j < k → ∀ h : j < X.length, X[j].1 ≠ b) → look X b = look (X.drop k) b := by
  induction X with
  | nil => intro k _; simp
  | cons q X ih =>
    intro k hk
    cases k with
    | zero => rfl
    | succ k =>
      have h0 : (q :: X)[0].1 ≠ b := hk 0 (by omega) (by simp)
      have h0' : q.1 ≠ b := h0
      rw [look_cons, if_neg h0', List.drop_succ_cons]
      exact ih fun j hj h => by
        have := hk (j + 1) (by omega) (by simp; omega)
        simpa using this
set_option maxHeartbeats 12800000 in
set_option maxRecDepth 100000 in
theorem rf_Get (w : World) (A : Nat → Prop) (g : Nat) (X : Row2) (most : Int) (h : RfL w A g X most) (hl : X.length ≤ 1000) (b : Bk) : Calls Try.prog 27 #[.pointer (some ⟨g, 0, none⟩), bkV b] w (RPost (.tuple #[.string ((look X b).getD ⟨#[]⟩), .bool (look X b).isSome]) w A g (getD2 X b) most) := by
  obtain ⟨b1, b2⟩ := b
  show Calls Try.prog 27 #[.pointer (some ⟨g, 0, none⟩), .agg #[.int .i64 b1, .int .i64 b2]] w (RPost (.tuple #[.string ((look X (b1, b2)).getD ⟨#[]⟩), .bool (look X (b1, b2)).isSome]) w A g (getD2 X (b1, b2)) most)
  have H := Aside0.mk h
  have hOLD := Aside0.mk h.old
  have hA := Aside0.mk h.own
  have DL := Aside0.mk (show (del X (b1, b2)).length ≤ 1000 from Nat.le_trans (List.length_filter_le _ _) hl)
  clear h
  obtain ⟨wb, hwb⟩ : ∃ wb, w.alloc (.cells #[.int .i64 b1, .int .i64 b2] 54) = wb := ⟨_, rfl⟩
  have BB := Aside0.mk (show Below w.heap.size w wb by rw [← hwb]; exact (Below.refl _ _).alloc (Nat.le_refl _) _)
  have hxb : wb.heap[w.heap.size]? = some (.cells #[.int .i64 b1, .int .i64 b2] 54) := by rw [← hwb]; exact blk_new _ _
  have XB := Aside0.mk hxb
  have HWB := Aside0.mk hwb
  clear hxb hwb
  go_enter Try.func27, Try.ntmps27
  go_upto_region 1 with (fail)
  rw [HWB.out]
  clear HWB
  go_wp2_with fail
  go_loopw [6] (fun v6 wr => ∃ k : Nat, k ≤ X.length ∧ v6 = .int .i64 k ∧ Aside0 (∀ j, j < k → ∀ h : j < X.length, X[j].1 ≠ (b1, b2)) ∧ Aside0 (Below wb.heap.size wb wr)) (fun v6 _ => X.length - (intOf v6).toNat)
  case atStart => exact ⟨0, Nat.zero_le _, rfl, ⟨fun j hj => by omega⟩, ⟨Below.refl _ _⟩⟩
  case round =>
    obtain ⟨k, hk, rfl, HJ, HB⟩ := hrel
    obtain ⟨_, _, v0, hst, hRst⟩ := (H.out.below BB.out).below HB.out
    obtain ⟨A0, cap0, rfl, hc0, hC0⟩ := Kd.R_reads hRst
    obtain ⟨s0, s1, sr⟩ := cells2' hst
    by_cases hkn : k < X.length
    · have dk : decide ((k : Int) < (X.length : Int)) = true := decide_eq_true (by omega)
      obtain ⟨ad, rfl, q0, q1, q2⟩ := C_itAt hC0 hkn
      have hsk : look X (b1, b2) = look (X.drop k) (b1, b2) := look_skip HJ.out
      have hdr : X.drop k = X[k] :: X.drop (k + 1) := List.drop_eq_getElem_cons hkn
      rw [hdr, look_cons] at hsk
      have hj2 : X[k].1 ≠ (b1, b2) → ∀ j, j < k + 1 → ∀ h : j < X.length, X[j].1 ≠ (b1, b2) := fun hne j hj h => by
        by_cases e : j = k
        · subst e; exact hne
        · exact HJ.out j (by omega) h
      generalize X[k] = it at q0 q1 q2 hsk hj2
      obtain ⟨⟨x1, x2⟩, xs⟩ := it
      simp only at q0 q1 q2 hsk hj2
      have U0 := Aside0.mk q0
      have U1 := Aside0.mk q1
      have U2 := Aside0.mk q2
      have ST := Aside0.mk hst
      have HSK := Aside0.mk hsk
      have HJ2 := Aside0.mk hj2
      have y0 : 0 ≤ (k : Int) := by omega
      have y1 : (k : Int) < (X.length : Int) := by omega
      have XQ := Aside0.mk (blk_below XB.out HB.out)
      clear q0 q1 q2 hst hRst hC0 hsk hj2 hdr
      go_upto_region 4 with (fail)
      refine region_still (by kernel_rfl) (by kernel_rfl) (fun W => W.cell? (ad.add (k * 3)) = some (.int .i64 x1) ∧ W.cell? ⟨(ad.add (k * 3)).block, (ad.add (k * 3)).off + 1, none⟩ = some (.int .i64 x2) ∧ W.cell? ⟨(ad.add (k * 3)).block, (ad.add (k * 3)).off + 2, none⟩ = some (.string xs) ∧ W.heap[w.heap.size]? = some (.cells #[.int .i64 b1, .int .i64 b2] 54) ∧ W.heap[g]? = some (.cells #[.int .i64 most, .slice (some ad) X.length cap0] 66) ∧ Below wb.heap.size wb W)
        ⟨U0.out, U1.out, U2.out, blk_drew XQ.out, blk_drew ST.out, HB.out.drew⟩ ?_
      clear s0 s1 sr
      rintro w3 ⟨u0, u1, u2, x3, st3, b3⟩
      obtain ⟨d0, d1, dr⟩ := cells2' x3
      obtain ⟨s0, s1, sr⟩ := cells2' st3
      have B3 := Aside0.mk b3
      have X3 := Aside0.mk x3
      clear x3 st3 b3
      obtain ⟨rr, hrr, heq⟩ := eqBkR (x1, x2) (b1, b2)
      have HRR := Aside0.mk hrr
      simp only at heq
      clear hrr
      repeat still_step
      refine wpStill_nil ?_
      clear heq
      rcases Bool.eq_false_or_eq_true rr with rfl | rfl
      · have heqv : (x1, x2) = (b1, b2) := of_decide_eq_true HRR.out.symm
        have hlk : look X (b1, b2) = some xs := by rw [HSK.out, if_pos heqv]
        obtain ⟨e1, e2⟩ := Prod.mk.inj heqv
        subst e1 e2
        have HLK := Aside0.mk hlk
        clear hlk heqv d0 d1 dr
        go_upto_region 6 with (fail)
        go_cut [] from 34 to 42 (fun wx => Aside0 (Ahead w A g w3.heap.size X most ((x1, x2), xs) (.cells #[.int .i64 x1, .int .i64 x2, .string xs] 95) wx))
        case first =>
          refine region_draw (n := 10) (S := fun W => W.heap[w.heap.size]? = some (.cells #[.int .i64 x1, .int .i64 x2] 54) ∧ W.heap[w3.heap.size]? = some (.cells #[.int .i64 x1, .int .i64 x2, .string xs] 95)) (ds := []) #[false, false, false, false, false, false, false, false, false, false] (by kernel_rfl) rfl rfl (fun W => (W.heap[w.heap.size]? = some (.cells #[.int .i64 x1, .int .i64 x2] 54) ∧ W.heap[w3.heap.size]? = some (.cells #[.int .i64 x1, .int .i64 x2, .string xs] 95)) ∧ RfL W A g X most ∧ Below w.heap.size w W) ⟨⟨blk_drew (blk_alloc X3.out _), blk_drew (blk_new w3 _)⟩, (((H.out.below BB.out).below B3.out).frm (S := None') ((Frm.refl _ _).alloc _).drew (fun _ _ _ x => x)), ((BB.out.trans (B3.out.mono BB.out.size)).alloc (by have := BB.out.size; have := B3.out.size; omega) _).drew⟩ (fun W h => h.1) ?_
          rintro w4 ⟨s4, h4, b4⟩
          refine with_tabW get6tab get6bits (fun HT_ HW_ => ?_)
          have S4 := Aside0.mk s4
          have H4 := Aside0.mk h4
          have B4 := Aside0.mk b4
          clear s4 h4 b4
          refine pure_ (i := 0) (N := some 34) (v := ?_) (a' := ?_) #[true, false, false, false, false, false, false, false, false, false] rfl rfl (any_of HT_.out (by kernel_rfl)) (fun _ _ _ h => h) (Or.inl ⟨by rfl, ?_⟩) ?_ ?_
          rotate_left
          · intro w'
            go_simp
            with_reducible rfl
          rotate_left
          · simp only [Act.put, List.setIfInBounds_toArray, List.set_cons_zero, List.set_cons_succ, i64_w, i32_w]
            rfl
          refine pure_ (i := 3) (N := some 37) (v := ?_) (a' := ?_) #[true, false, false, true, false, false, false, false, false, false] rfl rfl (any_of HT_.out (by kernel_rfl)) (fun _ _ _ h => h) (Or.inl ⟨by rfl, ?_⟩) ?_ ?_
          rotate_left
          · intro w'
            go_simp
            with_reducible rfl
          rotate_left
          · simp only [Act.put, List.setIfInBounds_toArray, List.set_cons_zero, List.set_cons_succ, i64_w, i32_w]
            rfl
          refine take_ (i := 1) (N := some 35) (v := ?_) (a' := ?_) #[true, true, false, true, false, false, false, false, false, false] rfl rfl (take_ofW HT_.out HW_.out (by kernel_rfl)) (fun _ _ _ h => h) (Or.inl ⟨by rfl, ?_⟩) S4.out ?_ ?_
          rotate_left
          · intro w' hW
            obtain ⟨d0, d1, d2, dr⟩ := cells3 hW.2
            go_simp
            with_reducible rfl
          rotate_left
          · simp only [Act.put, List.setIfInBounds_toArray, List.set_cons_zero, List.set_cons_succ, i64_w, i32_w]
            rfl
          refine take_ (i := 4) (N := some 38) (v := ?_) (a' := ?_) #[true, true, false, true, true, false, false, false, false, false] rfl rfl (take_ofW HT_.out HW_.out (by kernel_rfl)) (fun _ _ _ h => h) (Or.inl ⟨by rfl, ?_⟩) S4.out ?_ ?_
          rotate_left
          · intro w' hW
            obtain ⟨d0, d1, dr⟩ := cells2' hW.1
            go_simp
            with_reducible rfl
          rotate_left
          · simp only [Act.put, List.setIfInBounds_toArray, List.set_cons_zero, List.set_cons_succ, i64_w, i32_w]
            rfl
          refine join_ (σ := Value × Value) 4 #[true, true, true, true, true, true, false, false, false, false] (fun s_ => [(36, s_.1), (39, s_.2)]) (fun s_ w' => (w'.heap[w.heap.size]? = some (.cells #[.int .i64 x1, .int .i64 x2] 54) ∧ w'.heap[w3.heap.size]? = some (.cells #[.int .i64 x1, .int .i64 x2, .string xs] 95)) ∧ Both w w' A g w3.heap.size X most ((x1, x2), xs) (.cells #[.int .i64 x1, .int .i64 x2, .string xs] 95) s_.1 s_.2) ?_ ?_
          rotate_left
          · intro hCont
            refine two_ (i := 2) (j := 5) (Ni := some 36) (Nj := some 39) #[true, true, true, true, true, false, false, false, false, false] #[true, true, false, true, true, true, false, false, false, false] rfl rfl rfl rfl (two_of HT_.out (by kernel_rfl)) (by decide) (by decide) (fun K hK => ?_) (fun K hK => ?_)
            · skip
              refine Kd.R_lit_step kI (w0 := w4) _ 95 ?hg (N := 36) ?hd (xs := [((x1, x2), xs)]) (inner := [.int .i64 x1, .int .i64 x2, .string xs]) (ok := fun _ => True) (okp := fun _ => True) ?hr ?hp (fun _ hk => hk) trivial (Below.refl _ _) (Nat.le_refl _) (by simp) ?_; (case hd => rfl); (case hg => rfl); (case hr => first | (go_simp; done) | (go_simp; rfl)); (case hp => exact Reps.c3 (kI_M _ _ _ ((x1, x2), xs)) (Reps.none _ _))
              intro v1 w5 hR1 hB1 hg1 hat1
              have S5 := Aside0.mk (show w5.heap[w.heap.size]? = some (.cells #[.int .i64 x1, .int .i64 x2] 54) ∧ w5.heap[w3.heap.size]? = some (.cells #[.int .i64 x1, .int .i64 x2, .string xs] 95) from ⟨blk_below S4.out.1 hB1, blk_below S4.out.2 hB1⟩)
              have R1 := Aside0.mk (new_above S4.out.2 hR1 B4.out.size)
              have H5 := Aside0.mk (H4.out.below hB1)
              have B5 := Aside0.mk (B4.out.trans (hB1.mono B4.out.size))
              clear hR1 hB1 hg1 hat1
              refine hK.out _ _ S5.out (fun _ => ?_)
              clear hK K
              refine norm_ (a' := ?_) ?_ ?_
              rotate_left
              · show Act.put _ (some 36) _ = _
                simp only [Act.put, List.setIfInBounds_toArray, List.set_cons_zero, List.set_cons_succ, i64_w, i32_w]
                rfl
              refine one_ (i := 5) (N := some 39) #[true, true, true, true, true, true, false, false, false, false] rfl rfl (one_of HT_.out (by kernel_rfl)) (by decide) (fun K hK => ?_)
              refine goes_ Try.func49 (by kernel_rfl) rfl #[.pointer (some ⟨g, 0, none⟩), .agg #[.int .i64 x1, .int .i64 x2]] (by rfl) rfl rfl (by (try simp only [List.map_toArray, List.map_cons, List.map_nil]); first | done | rfl) ?_
              refine (rf_without w5 A g X most H5.out hl ((x1, x2), xs).1).mono ?_
              rintro e w6 ⟨v2, rfl, hR2, hB2⟩
              refine ⟨_, rfl, ?_⟩
              have S6 := Aside0.mk (show w6.heap[w.heap.size]? = some (.cells #[.int .i64 x1, .int .i64 x2] 54) ∧ w6.heap[w3.heap.size]? = some (.cells #[.int .i64 x1, .int .i64 x2, .string xs] 95) from ⟨blk_below S5.out.1 hB2, blk_below S5.out.2 hB2⟩)
              refine hK.out _ _ S6.out (fun _ => ?_)
              clear hK K
              refine norm_ (a' := ?_) ?_ ?_
              rotate_left
              · show Act.put _ (some 39) _ = _
                simp only [Act.put, List.setIfInBounds_toArray, List.set_cons_zero, List.set_cons_succ, i64_w, i32_w]
                rfl
              obtain ⟨A2, c2, e2, _, hC2⟩ := Kd.R_reads hR2
              exact hCont (_, _) _ ⟨S6.out, S6.out.2, H5.out.below hB2, B5.out.trans (hB2.mono B5.out.size), Kd.R_below R1.out hB2, A2, c2, e2, hC2⟩
            · skip
              refine goes_ Try.func49 (by kernel_rfl) rfl #[.pointer (some ⟨g, 0, none⟩), .agg #[.int .i64 x1, .int .i64 x2]] (by rfl) rfl rfl (by (try simp only [List.map_toArray, List.map_cons, List.map_nil]); first | done | rfl) ?_
              refine (rf_without w4 A g X most H4.out hl ((x1, x2), xs).1).mono ?_
              rintro e w6 ⟨v2, rfl, hR2, hB2⟩
              refine ⟨_, rfl, ?_⟩
              have S6 := Aside0.mk (show w6.heap[w.heap.size]? = some (.cells #[.int .i64 x1, .int .i64 x2] 54) ∧ w6.heap[w3.heap.size]? = some (.cells #[.int .i64 x1, .int .i64 x2, .string xs] 95) from ⟨blk_below S4.out.1 hB2, blk_below S4.out.2 hB2⟩)
              obtain ⟨A2, c2, e2, _, hC2⟩ := Kd.R_reads hR2
              have H6 := Aside0.mk (H4.out.below hB2)
              have B6 := Aside0.mk (B4.out.trans (hB2.mono B4.out.size))
              have C2 := Aside0.mk hC2
              have E2 := Aside0.mk e2
              clear hC2 hB2 hR2 e2
              refine hK.out _ _ S6.out (fun _ => ?_)
              clear hK K
              refine norm_ (a' := ?_) ?_ ?_
              rotate_left
              · show Act.put _ (some 39) _ = _
                simp only [Act.put, List.setIfInBounds_toArray, List.set_cons_zero, List.set_cons_succ, i64_w, i32_w]
                rfl
              refine one_ (i := 2) (N := some 36) #[true, true, true, true, true, true, false, false, false, false] rfl rfl (one_of HT_.out (by kernel_rfl)) (by decide) (fun K hK => ?_)
              refine Kd.R_lit_step kI (w0 := w6) _ 95 ?hg (N := 36) ?hd (xs := [((x1, x2), xs)]) (inner := [.int .i64 x1, .int .i64 x2, .string xs]) (ok := fun _ => True) (okp := fun _ => True) ?hr ?hp (fun _ hk => hk) trivial (Below.refl _ _) (Nat.le_refl _) (by simp) ?_; (case hd => rfl); (case hg => rfl); (case hr => first | (go_simp; done) | (go_simp; rfl)); (case hp => exact Reps.c3 (kI_M _ _ _ ((x1, x2), xs)) (Reps.none _ _))
              intro v1 w7 hR1 hB1 hg1 hat1
              have S7 := Aside0.mk (show w7.heap[w.heap.size]? = some (.cells #[.int .i64 x1, .int .i64 x2] 54) ∧ w7.heap[w3.heap.size]? = some (.cells #[.int .i64 x1, .int .i64 x2, .string xs] 95) from ⟨blk_below S6.out.1 hB1, blk_below S6.out.2 hB1⟩)
              refine hK.out _ _ S7.out (fun _ => ?_)
              clear hK K
              refine norm_ (a' := ?_) ?_ ?_
              rotate_left
              · show Act.put _ (some 36) _ = _
                simp only [Act.put, List.setIfInBounds_toArray, List.set_cons_zero, List.set_cons_succ, i64_w, i32_w]
                rfl
              exact hCont (_, _) _ ⟨S7.out, S7.out.2, H6.out.below hB1, B6.out.trans (hB1.mono B6.out.size), new_above S6.out.2 hR1 B6.out.size, A2, c2, E2.out, Kd.C_below C2.out hB1⟩
          rintro ⟨v1, v2⟩ w8 ⟨hs8, hx8, h8, b8, r8, A2, c2, rfl, hc8⟩
          have S8 := Aside0.mk hs8
          have X8 := Aside0.mk hx8
          have H8 := Aside0.mk h8
          have B8 := Aside0.mk b8
          have R8 := Aside0.mk r8
          have C8 := Aside0.mk hc8
          clear hs8 hx8 h8 b8 r8 hc8
          obtain ⟨A1', c1', rfl⟩ := Kd.R_slice R8.out
          refine norm_ (a' := ?_) ?_ ?_
          rotate_left
          · simp only [putAll, List.foldl_cons, List.foldl_nil, Act.put, List.setIfInBounds_toArray, List.set_cons_zero, List.set_cons_succ]
            rfl
          refine one_ (i := 6) (N := some 40) #[true, true, true, true, true, true, true, false, false, false] rfl rfl (one_of HT_.out (by kernel_rfl)) (by decide) (fun K hK => ?_)
          refine Kd.R_append_rows_step kI (w0 := w) w.heap.size (by rfl) (.tmp 36) (.tmp 39) 64 95 (.agg #[.int .i64 0, .int .i64 0, .string ⟨#[]⟩]) 32 rfl Try.underlying64 infoI rfl (by decide) (by omega) (.slice A1' [((x1, x2), xs)].length c1') [((x1, x2), xs)] (del X ((x1, x2), xs).1) A2 (del X ((x1, x2), xs).1).length c2 (fun k => w3.heap.size < k) (fun _ => False) rfl rfl R8.out C8.out (fun x cs h => kI_KM h) (fun _ h => h.elim) (fun k hk => Nat.lt_of_lt_of_le (blk_lt X8.out) hk) B8.out B8.out.size (by have := DL.out; simp; omega) ?_
          intro v9 w9 hR9 hB9 hg9 hat9
          obtain ⟨A9, c9, rfl⟩ := Kd.R_slice hR9
          obtain ⟨n1, n2, n3, n4⟩ := H8.out.grow hOLD.out X8.out (by have := B3.out.size; have := BB.out.size; omega) B8.out R8.out hg9 hR9
          have S9 := Aside0.mk (show w9.heap[w.heap.size]? = some (.cells #[.int .i64 x1, .int .i64 x2] 54) ∧ w9.heap[w3.heap.size]? = some (.cells #[.int .i64 x1, .int .i64 x2, .string xs] 95) from ⟨(hg9.block _ (blk_lt S8.out.1) (fun e => by have := R8.out.1 _ e.symm; have := B3.out.size; have := BB.out.size; omega)).trans S8.out.1, (hg9.block _ (blk_lt S8.out.2) (fun e => by have := R8.out.1 _ e.symm; omega)).trans S8.out.2⟩)
          have N1 := Aside0.mk n1
          have N2 := Aside0.mk n2
          have N3 := Aside0.mk n3
          obtain ⟨_, _, v0, hst, _⟩ := H8.out
          rw [← n4] at hst
          obtain ⟨t0, t1, tr⟩ := cells2' hst
          clear n1 n2 n3 n4 hst hg9 hB9 hat9 hR9
          refine hK.out _ _ S9.out (fun _ => ?_)
          clear hK K
          refine norm_ (a' := ?_) ?_ ?_
          rotate_left
          · show Act.put _ (some 40) _ = _
            simp only [Act.put, List.setIfInBounds_toArray, List.set_cons_zero, List.set_cons_succ, i64_w, i32_w]
            rfl
          refine pure_ (i := 7) (N := some 41) (v := ?_) (a' := ?_) #[true, true, true, true, true, true, true, true, false, false] rfl rfl (any_of HT_.out (by kernel_rfl)) (fun _ _ _ h => h) (Or.inl ⟨by rfl, ?_⟩) ?_ ?_
          rotate_left
          · intro w'
            go_simp
            with_reducible rfl
          rotate_left
          · simp only [Act.put, List.setIfInBounds_toArray, List.set_cons_zero, List.set_cons_succ, i64_w, i32_w]
            rfl
          refine pure_ (i := 8) (N := some 42) (v := ?_) (a' := ?_) #[true, true, true, true, true, true, true, true, true, false] rfl rfl (any_of HT_.out (by kernel_rfl)) (fun _ _ _ h => h) (Or.inl ⟨by rfl, ?_⟩) ?_ ?_
          rotate_left
          · intro w'
            go_simp
            with_reducible rfl
          rotate_left
          · simp only [Act.put, List.setIfInBounds_toArray, List.set_cons_zero, List.set_cons_succ, i64_w, i32_w]
            rfl
          refine one_ (i := 9) (N := none) #[true, true, true, true, true, true, true, true, true, true] rfl rfl (one_of HT_.out (by kernel_rfl)) (by decide) (fun K hK => ?_)
          refine skip_ (w1 := ?_) (by rfl) rfl ?_ ?_
          rotate_left
          · go_simp
            rfl
          refine hK.out _ _ (⟨blk_far S9.out.1 (p := ⟨g, 1, none⟩) (by have h1 := hOLD.out g hA.out; show w.heap.size ≠ g; omega) _, N3.out⟩) (fun _ => ?_)
          clear hK K
          refine done_ (done_of HT_.out (by kernel_rfl)) ?_
          go_wp2_with fail
          go_meet
          case rel => exact ⟨N1.out, N2.out, N3.out⟩
        case rest =>
          obtain ⟨hR, hF, hx2⟩ := hcut.out
          have R1 := Aside0.mk hR
          have F1 := Aside0.mk hF
          obtain ⟨d0, d1, d2, dr⟩ := cells3 hx2
          clear hcut hR hF hx2
          go_wp2_with fail
          go_ret2
          refine ⟨by rw [HLK.out]; rfl, ?_, F1.out⟩
          have e : getD2 X (x1, x2) = ((x1, x2), xs) :: del X (x1, x2) := by simp only [getD2, HLK.out]
          rw [e]; exact R1.out
      · have hne : (x1, x2) ≠ (b1, b2) := of_decide_eq_false HRR.out.symm
        have HJ3 := Aside0.mk (HJ2.out hne)
        clear hne d0 d1 dr u0 u1 u2
        go_wp2_with fail
        go_roundw
        case rel => exact ⟨k + 1, by omega, by go_num, HJ3, B3⟩
        case measure => simp [intOf]; omega
    · have dk : decide ((k : Int) < (X.length : Int)) = false := decide_eq_false (by omega)
      have hkk : k = X.length := by omega
      have hlk : look X (b1, b2) = none := by
        rw [look_skip HJ.out, hkk, List.drop_length]; rfl
      have HLK := Aside0.mk hlk
      clear hlk hst hRst hC0
      go_wp2_with fail
      go_ret2
      have hb2 := BB.out.trans (HB.out.mono BB.out.size)
      refine ⟨by rw [HLK.out]; rfl, ?_, Frm.of_new hb2⟩
      have e : getD2 X (b1, b2) = X := by simp only [getD2, HLK.out]
      rw [e]
      exact ((H.out.below BB.out).below HB.out).mono (fun i hi ha => ⟨Or.inl ha, hi⟩) (fun i hi => hi.2)
end Go.Proofs.Ytoindlghpkjemaa.Thw
