/- Layer 6: the document's Crash. -/
import Derived.Test.YtpmnljdhjgjgfaaEv06Z
namespace Go.Proofs.Ytpmnljdhjgjgfaa.Thw
open Go Go.RowKit Go.Maps Go.Proofs.YtpmnljdhjgjgfaaW.PrintWords Go.Proofs.YtpmnljdhjgjgfaaW.PrintLast Go.Proofs.YtpmnljdhjgjgfaaW.PrintMore
attribute [local go_sem] max2_int min2_int max_two min_two
set_option linter.unusedVariables false
set_option linter.unusedSimpArgs false
def crR (kept : List Int) (k : Nat) (x : RFile) : RFile := ⟨x.f0, (crashF kept k ⟨x.f1, x.f2⟩).b, (crashF kept k ⟨x.f1, x.f2⟩).sure⟩
def CL (kept : List Int) (L : List RFile) (j : Nat) : List RFile := (List.range j).map fun k => crR kept k (rdR L (k : Int))
theorem CL_succ (kept : List Int) (L : List RFile) (j : Nat) : CL kept L (j + 1) = CL kept L j ++ [crR kept j (rdR L (j : Int))] := by simp [CL, List.range_succ]
theorem CL_length (kept : List Int) (L : List RFile) (j : Nat) : (CL kept L j).length = j := by simp [CL]
theorem put_keys {m : Fls} {k : ByteArray} (h : k ∈ m.map (·.1)) (f : DFile) : (put m k f).map (·.1) = m.map (·.1) := by
  obtain ⟨p, hp, e⟩ := List.mem_map.1 h
  unfold put
  rw [if_pos (List.any_eq_true.2 ⟨p, hp, by simpa using e⟩), List.map_map]
  refine List.map_congr_left fun q _ => ?_
  simp only [Function.comp]
  split
  · rename_i hq; exact hq.symm
  · rfl
theorem crashM_keys (kept : List Int) (ns : List ByteArray) (m : Fls) (hns : ∀ s ∈ ns, s ∈ m.map (·.1)) : ∀ j, j ≤ ns.length → (crashM kept ns j m).map (·.1) = m.map (·.1)
  | 0, _ => rfl
  | j + 1, hj => by
    have ih := crashM_keys kept ns m hns j (by omega)
    have hg : ns.getD j ⟨#[]⟩ = ns[j] := by rw [List.getD_eq_getElem?_getD, List.getElem?_eq_getElem (by omega)]; rfl
    unfold crashM
    rw [put_keys (by rw [ih, hg]; exact hns _ (List.getElem_mem _)), ih]
theorem crashM_file (kept : List Int) (ns : List ByteArray) (hn : ns.Nodup) (m : Fls) : ∀ j, j ≤ ns.length → ∀ i (h : i < ns.length), fileIn (crashM kept ns j m) ns[i] = if i < j then crashF kept i (fileIn m ns[i]) else fileIn m ns[i]
  | 0, _, i, h => by rw [if_neg (by omega)]; rfl
  | j + 1, hj, i, h => by
    have ih := crashM_file kept ns hn m j (by omega)
    have hg : ns.getD j ⟨#[]⟩ = ns[j] := by rw [List.getD_eq_getElem?_getD, List.getElem?_eq_getElem (by omega)]; rfl
    unfold crashM
    rw [hg]
    by_cases hij : i = j
    · subst hij
      rw [fileIn_put_same, ih i h, if_neg (by omega), if_pos (by omega)]
    · have hne : ns[i] ≠ ns[j] := fun e => hij ((List.getElem_inj hn).1 e)
      rw [fileIn_put_other _ hne, ih i h]
      by_cases hlt : i < j
      · rw [if_pos hlt, if_pos (by omega)]
      · rw [if_neg hlt, if_neg (by omega)]
theorem names_length (m : Fls) : (names m).length = m.length := by unfold names; rw [sorted_length, List.length_map]
theorem crash_refL (kept : List Int) {m : Fls} (hn : (m.map (·.1)).Nodup) : CL kept (refL m) m.length = refL (crashM kept (names m) (names m).length m) := by
  have hk : (crashM kept (names m) (names m).length m).map (·.1) = m.map (·.1) := crashM_keys kept _ m (fun s hs => mem_names.1 hs) _ (Nat.le_refl _)
  have e : names (crashM kept (names m) (names m).length m) = names m := by unfold names at hk ⊢; rw [hk]
  unfold refL
  rw [e]
  refine List.ext_getElem (by simp [CL, names_length]) fun i h1 h2 => ?_
  have hi : i < (names m).length := by simpa using h2
  have hil : i < (refL m).length := by rw [refL_length, ← names_length]; exact hi
  simp only [CL, List.getElem_map, List.getElem_range]
  have e1 : rdR (refL m) (i : Int) = ⟨(names m)[i], (fileIn m (names m)[i]).b, (fileIn m (names m)[i]).sure⟩ := by rw [rdR_at hil]; simp [refL]
  have e2 := crashM_file kept (names m) (names_nodup hn) m _ (Nat.le_refl _) i hi
  rw [if_pos hi] at e2
  change crR kept i (rdR (refL m) (i : Int)) = _
  rw [e1, e2]
  rfl
theorem row_sets {W : World} {base bx : Nat} {v : Value} {L : List RFile} (h : kF.R 53 W base (fun k => k ≠ bx) v L) (x y : Value) :
    kF.R 53 ((W.setCell ⟨bx, 1, none⟩ x).setCell ⟨bx, 2, none⟩ y) base (fun _ => True) v L :=
  Kd.R_mono (Kd.R_kept h (((Frm.refl (fun k => k = bx) W).setCell (p := ⟨bx, 1, none⟩) (Or.inl rfl) x).setCell (p := ⟨bx, 2, none⟩) (Or.inl rfl) y).kept fun k hk => hk) fun _ _ => trivial
theorem row_box {w wr : World} {base : Nat} {v : Value} {L : List RFile} (h : kF.R 53 wr base (fun _ => True) v L) (o : Obj) : kF.R 53 (wr.alloc o) base (fun k => k ≠ wr.heap.size) v L :=
  Kd.R_alloc (Kd.R_mono (Kd.R_bound h) fun k hk => by omega) o
theorem below_sets {w W : World} {bx : Nat} (h : Below w.heap.size w W) (hb : w.heap.size ≤ bx) (x y : Value) : Below w.heap.size w ((W.setCell ⟨bx, 1, none⟩ x).setCell ⟨bx, 2, none⟩ y) :=
  (((Frm.of_new (S := None') h).setCell (p := ⟨bx, 1, none⟩) (Or.inr hb) x).setCell (p := ⟨bx, 2, none⟩) (Or.inr hb) y).below (Nat.le_refl _) (fun _ _ x => x.elim)
theorem RfAt.set3 {w : World} {A : Nat → Prop} {g : Nat} {st : Dsk} (h : RfAt w A g st) (b : Bool) : RfAt (w.setCell ⟨g, 3, none⟩ (.bool b)) A g { st with down := b } := by
  obtain ⟨a, v, hb, hR⟩ := h
  exact ⟨a, v, by simpa using blk_set hb 3 (.bool b), Kd.R_mono (Kd.R_kept (RfAt.row_ne hb hR) ((Frm.refl (fun k => k = g) w).setCell (p := ⟨g, 3, none⟩) (Or.inl rfl) _).kept fun k hk => hk.2) fun k hk => hk.1⟩
theorem RfAt.set2 {w : World} {A : Nat → Prop} {g : Nat} {st : Dsk} (h : RfAt w A g st) (b : Int) : RfAt (w.setCell ⟨g, 2, none⟩ (.int .i64 b)) A g { st with fuse := b } := by
  obtain ⟨a, v, hb, hR⟩ := h
  exact ⟨a, v, by simpa using blk_set hb 2 (.int .i64 b), Kd.R_mono (Kd.R_kept (RfAt.row_ne hb hR) ((Frm.refl (fun k => k = g) w).setCell (p := ⟨g, 2, none⟩) (Or.inl rfl) _).kept fun k hk => hk.2) fun k hk => hk.1⟩
set_option maxHeartbeats 6400000 in
set_option maxRecDepth 100000 in
theorem ref_Crash.calls (w : World) (A : Nat → Prop) (g : Nat) (st : Dsk) (h : RfAt w A g st) (hn : (st.m.map (·.1)).Nodup) (hl : st.m.length ≤ 1000000) (hg : GoodM st.m) (A' : Option Addr) (c' : Nat) (kept : List Int) (hk : (Kd.int .i64).C w A' kept.length kept) (hc' : kept.length ≤ c') :
    Calls Try.prog 26 #[.pointer (some ⟨g, 0, none⟩), .slice A' kept.length c'] w fun e w' => e = .returned (.tuple #[]) ∧ RfAt w' (gr A w) g (st.crash kept) ∧ Frm A w w' := by
  have H0 := Aside0.mk h.bound
  have HG := Aside0.mk hg
  have HK := Aside0.mk hk
  have HN := Aside0.mk hn
  have hlt := h.lt
  have ha : A g := h.1
  have HLN := Aside0.mk (refL_length st.m)
  have HKL := Aside0.mk hk.2.1
  have hll : (refL st.m).length ≤ 1000000 := by rw [refL_length]; exact hl
  have E0 := Aside0.mk (show CL kept (refL st.m) (refL st.m).length = refL (st.crash kept).m by rw [refL_length]; exact crash_refL kept hn)
  have HGF := Aside0.mk (show ∀ i (hi : i < (refL st.m).length), GoodF ⟨(refL st.m)[i].f1, (refL st.m)[i].f2⟩ from fun i hi => by
    have : (refL st.m)[i] ∈ refL st.m := List.getElem_mem hi
    obtain ⟨s, hs, e⟩ := List.mem_map.1 this
    rw [← e]; exact good_fileIn hg s)
  clear h hg hk hn hl
  go_enter Try.func26, Try.ntmps26
  go_wp2_with fail
  go_loopw [4, 5] (fun v4 v5 wr => ∃ j : Nat, j ≤ (refL st.m).length ∧ v5 = .int .i64 j ∧ Aside0 (kF.R 53 wr w.heap.size (fun _ => True) v4 (CL kept (refL st.m) j)) ∧ Aside0 (Below w.heap.size w wr)) (fun _ v5 _ => (refL st.m).length - (intOf v5).toNat)
  case atStart => exact ⟨0, Nat.zero_le _, rfl, ⟨Kd.R_nil _ _ _ _ _⟩, ⟨Below.refl _ _⟩⟩
  case round =>
    obtain ⟨j, hj, rfl, HR, HB⟩ := hrel
    obtain ⟨A4, c4, rfl⟩ := Kd.R_slice HR.out
    obtain ⟨_, v0, hb2, hR2⟩ := H0.out.below HB.out
    obtain ⟨A2, c2, rfl, hcc2, hC2⟩ := Kd.R_reads hR2
    obtain ⟨c0, c1, c2', c3, fr⟩ := cells4 hb2
    by_cases hjn : j < (refL st.m).length
    · obtain ⟨ad, rfl, q0, q1, q2⟩ := Ref.at_T53 hC2 (j : Int) (by omega) (by omega)
      have e : rdR (refL st.m) (j : Int) = (refL st.m)[j] := rdR_at hjn
      have hgf := HGF.out j hjn
      have ES := CL_succ kept (refL st.m) j
      rw [e] at ES
      unfold rdR at e
      rw [e] at q0 q1 q2
      obtain ⟨x, hx⟩ : ∃ x, (refL st.m)[j] = x := ⟨_, rfl⟩
      rw [hx] at q0 q1 q2 hgf ES
      obtain ⟨nm, bb, sr⟩ := x
      simp only [Int.toNat_natCast] at q0 q1 q2 hgf
      have p0 : 0 ≤ (j : Int) := by omega
      have p1 : (j : Int) < ((refL st.m).length : Int) := by omega
      have HGf := Aside0.mk hgf
      have HES := Aside0.mk ES
      have hkl := HKL.out
      have HCLL := Aside0.mk (CL_length kept (refL st.m) j)
      clear hb2 hR2 hC2 e hx hgf ES
      obtain ⟨o1, o2, o3⟩ := HGf.out
      simp only at o1 o2 o3
      by_cases hjk : j < kept.length
      · obtain ⟨ad1, rfl, r1⟩ := C_int (Kd.C_below HK.out HB.out) hjk
        obtain ⟨kj, hkj⟩ : ∃ kj, kept[j] = kj := ⟨_, rfl⟩
        rw [hkj] at r1
        have E2 := Aside0.mk (show crashN kept j ⟨bb, sr⟩ = mn (mx kj 0) ((bb.size : Int) - sr) by rw [crashN, if_pos hjk, List.getD_eq_getElem?_getD, List.getElem?_eq_getElem hjk, ← hkj]; rfl)
        have hkj := Aside0.mk hkj
        obtain ⟨z1, hz1⟩ : ∃ z1, mx kj 0 = z1 := ⟨_, rfl⟩
        obtain ⟨z2, hz2⟩ : ∃ z2, mn z1 ((bb.size : Int) - sr) = z2 := ⟨_, rfl⟩
        replace E2 := Aside0.mk (show crashN kept j ⟨bb, sr⟩ = z2 by rw [E2.out, hz1, hz2])
        have hr := crashN_range kept j _ HGf.out
        rw [E2.out] at hr
        simp only at hr
        have hsub : IntKind.i64.wrap ((bb.size : Int) - sr) = (bb.size : Int) - sr := IntWalk.i64_in _ (by omega)
        have hy1 : (if kj < 0 then 0 else kj) = z1 := hz1
        have hy2 : (if (bb.size : Int) - sr < z1 then (bb.size : Int) - sr else z1) = z2 := hz2
        clear hz1 hz2
        go_wp2_with fail
        refine region_still (by kernel_rfl) (by kernel_rfl) (fun W => W.heap[wr.heap.size]? = some (.cells #[.string nm, .string bb, .int .i64 sr] 53) ∧ kF.R 53 W w.heap.size (fun k => k ≠ wr.heap.size) (.slice A4 (CL kept (refL st.m) j).length c4) (CL kept (refL st.m) j) ∧ Below w.heap.size w W ∧ W.cell? (ad1.add j) = some (.int .i64 kj))
          ⟨blk_drew (blk_new _ _), Kd.R_drew (row_box (w := w) HR.out _), (HB.out.alloc HB.out.size _).drew, (by obtain ⟨_, e, hq⟩ := C_int (Kd.C_below HK.out (HB.out.alloc HB.out.size (.cells #[.string nm, .string bb, .int .i64 sr] 53)).drew) hjk; cases e; rw [hkj.out] at hq; exact hq)⟩ ?_
        clear c0 c1 c2' c3 fr q0 q1 q2 r1
        rintro w2 ⟨k2, r2, b2, r1⟩
        obtain ⟨e0, e1, e2, fr⟩ := cells3 k2
        have K2 := Aside0.mk k2
        have R2 := Aside0.mk (row_sets r2)
        have B2 := Aside0.mk b2
        clear k2 r2 b2
        repeat still_step
        refine wpStill_nil ?_
        have s1 : 0 ≤ sr + z2 := by omega
        have s2 : sr + z2 ≤ (bb.size : Int) := by omega
        have hadd : IntKind.i64.wrap (sr + z2) = sr + z2 := IntWalk.i64_in _ (by omega)
        have EX := Aside0.mk (show crR kept j ⟨nm, bb, sr⟩ = ⟨nm, bb.extract 0 (sr + z2).toNat, max (sr + z2) 0⟩ by
          have : max (sr + z2) 0 = sr + z2 := by omega
          simp only [crR, crashF, E2.out, this])
        have HZB := Aside0.mk (show w.heap.size ≤ wr.heap.size from HB.out.size)
        have HZ2 := Aside0.mk (show w.heap.size ≤ w2.heap.size from B2.out.size)
        clear hr hy1 hy2 hsub r1
        go_wp2_with (first | ((with_reducible refine gate_builtin (b := .append) (xs := #[.tmp 52, .tmp 54]) rfl ?_); at_builtin; refine Kd.R_append (w0 := w) kF w.heap.size rfl (.tmp 52) (.tmp 54) 54 53 (.agg #[(.string ⟨#[]⟩), (.string ⟨#[]⟩), (.int .i64 0)]) 40 rfl Try.underlying54 Ref.info53 rfl (by decide) (by omega) (.slice A4 (CL kept (refL st.m) j).length c4) (CL kept (refL st.m) j) (⟨nm, bb.extract 0 (sr + z2).toNat, max (sr + z2) 0⟩ : RFile) [.string nm, .string (bb.extract 0 (sr + z2).toNat), .int .i64 (max (sr + z2) 0)] (fun _ => True) (fun _ => False) rfl (by first | rfl | (simp [Act.eval, World.setCell]; done)) ?aP (fun _ hk => hk.elim) ?aF ?aO ?aB ?aS ?aL ?_; (case aP => exact Ref.k53_mkM _ _ _ (⟨nm, bb.extract 0 (sr + z2).toNat, max (sr + z2) 0⟩ : RFile)); (case aF => exact (fun _ _ => trivial)); (case aO => exact R2.out _ _); (case aB => exact below_sets B2.out HZB.out _ _); (case aS => exact (below_sets B2.out HZB.out _ _).size); (case aL => rw [HCLL.out]; omega); intro v1 w9 ho hb hg hat; rw [← EX.out, ← HES.out] at ho; have HR9 := Aside0.mk ho; have HB9 := Aside0.mk hb; clear ho hb hg hat))
        go_roundw
        case rel => exact ⟨j + 1, by omega, by go_num, HR9, HB9⟩
        case measure => simp [intOf]; omega
      · have E2 := Aside0.mk (show crashN kept j ⟨bb, sr⟩ = 0 by rw [crashN, if_neg hjk])
        have s1 : 0 ≤ sr := o1
        have s2 : sr ≤ (bb.size : Int) := o2
        have hadd : IntKind.i64.wrap sr = sr := IntWalk.i64_in _ (by omega)
        have EX := Aside0.mk (show crR kept j ⟨nm, bb, sr⟩ = ⟨nm, bb.extract 0 (sr).toNat, max (sr) 0⟩ by
          have : max (sr) 0 = sr := by omega
          simp only [crR, crashF, E2.out, this, Int.add_zero])
        have HZB := Aside0.mk (show w.heap.size ≤ wr.heap.size from HB.out.size)
        go_wp2_with (first | ((with_reducible refine gate_builtin (b := .append) (xs := #[.tmp 52, .tmp 54]) rfl ?_); at_builtin; refine Kd.R_append (w0 := w) kF w.heap.size rfl (.tmp 52) (.tmp 54) 54 53 (.agg #[(.string ⟨#[]⟩), (.string ⟨#[]⟩), (.int .i64 0)]) 40 rfl Try.underlying54 Ref.info53 rfl (by decide) (by omega) (.slice A4 (CL kept (refL st.m) j).length c4) (CL kept (refL st.m) j) (⟨nm, bb.extract 0 (sr).toNat, max (sr) 0⟩ : RFile) [.string nm, .string (bb.extract 0 (sr).toNat), .int .i64 (max (sr) 0)] (fun _ => True) (fun _ => False) rfl (by first | rfl | (simp [Act.eval, World.setCell]; done)) ?aP (fun _ hk => hk.elim) ?aF ?aO ?aB ?aS ?aL ?_; (case aP => exact Ref.k53_mkM _ _ _ (⟨nm, bb.extract 0 (sr).toNat, max (sr) 0⟩ : RFile)); (case aF => exact (fun _ _ => trivial)); (case aO => exact Kd.R_mono (row_box (w := w) HR.out _) (fun _ _ => trivial)); (case aB => exact HB.out.alloc HB.out.size _); (case aS => exact (HB.out.alloc HB.out.size _).size); (case aL => rw [HCLL.out]; omega); intro v1 w9 ho hb hg hat; rw [← EX.out, ← HES.out] at ho; have HR9 := Aside0.mk ho; have HB9 := Aside0.mk hb; clear ho hb hg hat))
        go_roundw
        case rel => exact ⟨j + 1, by omega, by go_num, HR9, HB9⟩
        case measure => simp [intOf]; omega
    · have hjj : j = (refL st.m).length := by omega
      subst hjj
      have H1 := H0.out.below HB.out
      have HF := Aside0.mk (Frm.of_new (S := fun k => A k ∧ k < w.heap.size) HB.out)
      have H2 := Aside0.mk (((H1.row (st' := { st with m := (st.crash kept).m }) (base := w.heap.size) (by rw [← E0.out]; exact HR.out) ⟨rfl, rfl, rfl⟩).set3 false).set2 (-1))
      clear H1 hb2 hR2 hC2
      go_wp2_with fail
      go_end0
      exact ⟨rfl, H2.out.mono fun k _ hk => hk.elim (fun x => Or.inl x.1) (fun x => Or.inr x), (((HF.out.setCell (p := ⟨g, 1, none⟩) (Or.inl ⟨ha, hlt⟩) _).setCell (p := ⟨g, 3, none⟩) (Or.inl ⟨ha, hlt⟩) _).setCell (p := ⟨g, 2, none⟩) (Or.inl ⟨ha, hlt⟩) _).mono fun k _ hk => hk.1⟩
end Go.Proofs.Ytpmnljdhjgjgfaa.Thw
