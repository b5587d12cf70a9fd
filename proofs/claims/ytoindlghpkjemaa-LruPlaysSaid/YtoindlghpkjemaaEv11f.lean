/- Layer 11: Put. -/
import Derived.Test.YtoindlghpkjemaaEv11e
namespace Go.Proofs.Ytoindlghpkjemaa.Thw
open Go Go.RowKit Go.Proofs.YtoindlghpkjemaaW.PrintWords Go.Proofs.YtoindlghpkjemaaW.PrintLast Go.Proofs.YtoindlghpkjemaaW.PrintMore
set_option linter.unusedVariables false
set_option linter.unusedSimpArgs false
/-- A set of blocks, and all that is newer than the first new one. -/
def gs (A : Nat → Prop) (w : World) : Nat → Prop := fun k => A k ∨ w.heap.size < k
theorem gs_gr {A : Nat → Prop} {w W : World} (hz : w.heap.size < W.heap.size) : ∀ k, gr (gs A w) W k → gs A w k := fun k hk => hk.elim id (fun h => Or.inr (Nat.lt_of_lt_of_le hz h))
theorem gs_or {A : Nat → Prop} {w : World} : ∀ k, gs A w k → A k ∨ w.heap.size ≤ k := fun k hk => hk.imp id (fun h => Nat.le_of_lt h)
/-- Behind the block's own item, and behind the one that was used last. -/
def PutA (w : World) (A : Nat → Prop) (p : Nat) (X : Row2) (b : Bk) (most : Int) (wx : World) : Prop :=
  ∃ c l fs, Cch wx (gs A w) p c l fs ∧ c.abs l = del X b ∧ c.most = most ∧ look c.m b = none ∧ Frm A w wx ∧ wx.heap[w.heap.size]? = some (.cells #[.int .i64 b.1, .int .i64 b.2] 54)
def PutB (w : World) (A : Nat → Prop) (p : Nat) (X : Row2) (b : Bk) (most : Int) (wx : World) : Prop :=
  ∃ c l fs q, Cch wx (gs A w) p c l (fs ++ [q]) ∧ c.abs l = (del X b).take (most.toNat - 1) ∧ c.most = most ∧ look c.m b = none ∧ Frm A w wx ∧ wx.heap[w.heap.size]? = some (.cells #[.int .i64 b.1, .int .i64 b.2] 54)
def PutPost (w : World) (A : Nat → Prop) (p : Nat) (X : Row2) (b : Bk) (s : ByteArray) (most : Int) (e : Ending) (w' : World) : Prop :=
  ∃ c l fs, e = .returned (.tuple #[]) ∧ Cch w' (gr A w) p c l fs ∧ c.abs l = putD X most b s ∧ c.most = most ∧ Frm A w w'
theorem gr_gr {A : Nat → Prop} {w W : World} (hz : w.heap.size ≤ W.heap.size) : ∀ k, gr (gr A w) W k → gr A w k := fun k hk => hk.elim id (fun h => Or.inr (Nat.le_trans hz h))
theorem Cch.forget {w w' : World} {A : Nat → Prop} {p : Nat} {c : Lc} {a d fs : List Nat} {i : Nat} (h : Cch w A p c (a ++ i :: d) fs) {B : Nat → Prop} (hat : LruAt w' B p (c.forget i)) : Cch w' B p (c.forget i) (a ++ d) (fs ++ [i]) := by
  obtain ⟨k1, k2, k3⟩ := h.ok.forget
  refine ⟨hat, k1, fun j hj => ?_⟩
  have e := k2
  have hq : ((((c.forget i).it j).blk, ((c.forget i).it j).s) : Bk × ByteArray) ∈ (c.forget i).abs (a ++ d) := List.mem_map.2 ⟨j, hj, rfl⟩
  rw [k2] at hq
  obtain ⟨j2, hj2, e2⟩ := List.mem_map.1 hq
  have e3 : (c.it j2).blk = ((c.forget i).it j).blk := congrArg Prod.fst e2
  rw [← e3]
  exact h.key j2 (by rcases List.mem_append.1 hj2 with x | x <;> simp [x])
theorem abs_keys {C : Lc} {L : List Nat} {X : Row2} {b : Bk} {s : ByteArray} (h : C.abs L = (b, s) :: X) (hb : BkOk b) (hX : ∀ q ∈ X, BkOk q.1) (j : Nat) (hj : j ∈ L) : BkOk (C.it j).blk := by
  have hq : ((C.it j).blk, (C.it j).s) ∈ C.abs L := List.mem_map.2 ⟨j, hj, rfl⟩
  rw [h] at hq
  rcases List.mem_cons.1 hq with h1 | h1
  · have h2 : (C.it j).blk = b := congrArg Prod.fst h1
    rw [h2]; exact hb
  · exact hX _ h1
theorem C_intAt {w : World} {A : Option Addr} {xs : List Int} (h : (Kd.int .i64).C w A xs.length xs) {k : Nat} (hk : k < xs.length) : ∃ ad, A = some ad ∧ w.cell? (ad.add k) = some (.int .i64 xs[k]) := by
  obtain ⟨ad, c, e, hl, hK, hc⟩ := ReadsRow.get_ h (0 : Int) (k : Int) (by omega) (by omega)
  have hK' : c = [Value.int .i64 (xs.getD k 0)] := hK
  subst hK'
  refine ⟨ad, e, ?_⟩
  have := hc 0 _ rfl
  simpa [hk, List.getD_eq_getElem?_getD, Addr.add, Kd.int, Kd.scalar] using this
theorem R_takeI {w : World} {e base n cap m : Nat} {ok : Nat → Prop} {A : Option Addr} {xs : List Int} (h : (Kd.int .i64).R e w base ok (.slice A n cap) xs) (hm : m ≤ xs.length) : (Kd.int .i64).R e w base ok (.slice A m cap) (xs.take m) := by
  have h0 := h.1
  have ho := Kd.own_of_R h
  obtain ⟨hl, hc⟩ := ho
  refine Kd.R_of_own ?_ (fun k hk => h0 k (by cases A with | none => simp [Value.ownBlock] at hk | some a => exact hk))
  have hlen : (xs.take m).length = m := by simp; omega
  rw [hlen]
  refine ⟨by simp [encs]; omega, ?_⟩
  rcases hc with ⟨e1, e2⟩ | ⟨g, cap', cur, e1, hg, hh, h1, h2, h3, h4⟩
  · simp only [Value.slice.injEq] at e1
    obtain ⟨rfl, rfl, rfl⟩ := e1
    have : m = 0 := by omega
    subst this
    exact Or.inl ⟨rfl, rfl⟩
  · simp only [Value.slice.injEq] at e1
    obtain ⟨rfl, rfl, rfl⟩ := e1
    refine Or.inr ⟨g, cap, cur, rfl, hg, hh, by omega, h2, h3, ?_⟩
    have h5 := congrArg (List.take m) h4
    rw [List.take_take, Nat.mul_one, Nat.min_eq_left hm] at h5
    rw [Nat.mul_one, h5]
    simp [encs]
theorem LruAt.cutFree {w : World} {A : Nat → Prop} {p : Nat} {c : Lc} (h : LruAt w A p c) {A0 : Option Addr} {n cap m : Nat} (hfv : w.cell? ⟨p, 321, none⟩ = some (.slice A0 n cap)) (hm : m ≤ c.fl.length) : LruAt (w.setCell ⟨p, 321, none⟩ (.slice A0 m cap)) A p { c with fl := c.fl.take m } := by
  obtain ⟨arr, fv', mb, a1, a2, hb, ha, hM, hq⟩ := h
  have e := (arr_cell hb 321).1.trans ha.free
  rw [hfv] at e
  obtain rfl := Option.some.inj e
  refine ⟨_, _, mb, a1, a2, blk_set hb 321 _, ha.setFree _ _, ?_, Kd.R_set (R_takeI hq hm) hb (by decide) 321 _⟩
  exact hM.frm ((Frm.refl (fun i => i = p) _).setCell (Or.inl rfl) _) (fun e => (MapOf.ne hM hb) e.symm)
theorem last_of {c : Lc} {fs : List Nat} {q : Nat} (h : c.fl = (fs ++ [q]).map (fun i : Nat => (i : Int))) {w : World} {A : Option Addr} (hC : (Kd.int .i64).C w A c.fl.length c.fl) : c.fl.length = fs.length + 1 ∧ ∃ ad, A = some ad ∧ w.cell? (ad.add fs.length) = some (.int .i64 q) := by
  have hl : c.fl.length = fs.length + 1 := by rw [h]; simp
  obtain ⟨ad, e, hc⟩ := C_intAt hC (k := fs.length) (by omega)
  refine ⟨hl, ad, e, ?_⟩
  rw [hc]
  simp [h]
set_option maxHeartbeats 6400000 in
set_option maxRecDepth 100000 in
theorem lru_Put.calls (w : World) (A : Nat → Prop) (p : Nat) (c : Lc) (l fs : List Nat) (h : Cch w A p c l fs) (hA : ∀ k, A k → k < w.heap.size) (b : Bk) (hb : BkOk b) (s : ByteArray) :
    Calls Try.prog 28 #[.pointer (some ⟨p, 0, none⟩), bkV b, .string s] w (PutPost w A p (c.abs l) b s c.most) := by
  have H := Aside0.mk h
  have HB := Aside0.mk hb
  have HAb := Aside0.mk hA
  have HO := Aside0.mk h.at_.own
  have hlt := h.at_.lt
  obtain ⟨b1, b2⟩ := b
  clear h hb hA
  show Calls Try.prog 28 #[.pointer (some ⟨p, 0, none⟩), .agg #[.int .i64 b1, .int .i64 b2], .string s] w (PutPost w A p (c.abs l) (b1, b2) s c.most)
  obtain ⟨is, iv, HLK⟩ : ∃ (is : Bool) (iv : Int), Aside0 ((look c.m (b1, b2) = none ∧ is = false ∧ iv = 0 ∧ look (c.abs l) (b1, b2) = none) ∨ ∃ a i d, l = a ++ i :: d ∧ (c.it i).blk = (b1, b2) ∧ look c.m (b1, b2) = some (i : Int) ∧ is = true ∧ iv = (i : Int)) := by
    rcases H.out.ok.look (b1, b2) with ⟨n1, n2⟩ | ⟨a, i, d, h1, h2, n1, n2⟩
    · exact ⟨false, 0, ⟨Or.inl ⟨n1, rfl, rfl, n2⟩⟩⟩
    · exact ⟨true, i, ⟨Or.inr ⟨a, i, d, h1, h2, n1, rfl, rfl⟩⟩⟩
  go_enter Try.func28, Try.ntmps28
  go_wp2_with fail
  refine region_still (by kernel_rfl) (by kernel_rfl) (fun W => W.heap[w.heap.size]? = some (.cells #[.int .i64 b1, .int .i64 b2] 54) ∧ Cch W A p c l fs ∧ Frm A w W)
    ⟨blk_drew (blk_new w _), ⟨(H.out.at_.alloc _).drew, H.out.ok, H.out.key⟩, ((Frm.refl A w).alloc _).drew⟩ ?_
  rintro w2 ⟨x2, l2, f2⟩
  obtain ⟨d0, d1, dr⟩ := cells2' x2
  obtain ⟨fv, mb, amb, q1, q2, q3, q4, q5⟩ := l2.at_.parts
  have hlk : (Instr.lookup 86 (.map (some mb)) (.agg #[.int .i64 b1, .int .i64 b2]) true).run Try.prog w2 = .ok (.tuple #[.int .i64 iv, .bool is]) w2 := by
    rcases HLK.out with ⟨n1, rfl, rfl, _⟩ | ⟨_, i, _, _, _, n1, rfl, rfl⟩
    · exact MapOf.absent bkInj bkKeyed q3 Try.underlying86 (bkOk _ HB.out) (zeroI w2) n1
    · exact MapOf.found bkInj bkKeyed q3 Try.underlying86 (bkOk _ HB.out) (zeroI w2) n1
  have L2 := Aside0.mk l2
  have F2 := Aside0.mk f2
  have X2 := Aside0.mk x2
  clear x2 l2 f2 q1 q3 q4
  repeat still_step
  refine wpStill_nil ?_
  go_upto_if 18 with (fail)
  go_cut [] from 9 to 21 (fun wx => Aside0 (PutA w A p (c.abs l) (b1, b2) c.most wx))
  case first =>
    rcases HLK.out with ⟨n1, rfl, rfl, n2⟩ | ⟨a, i, d, rfl, hbi, n1, rfl, rfl⟩
    · go_wp2_with fail
      go_meet
      case rel =>
        refine ⟨c, l, fs, L2.out.mono (fun k _ hk => Or.inl hk), ?_, rfl, n1, F2.out, X2.out⟩
        refine (List.filter_eq_self.2 fun q hq => ?_).symm
        by_cases e : q.1 = (b1, b2)
        · exfalso
          have h0 := look_some_of_any (c.abs l) (b1, b2)
          rw [n2] at h0
          have h3 := List.any_eq_false.1 h0.symm q hq
          simp [e] at h3
        · simpa using e
    · have hi : i < 64 := H.out.ok.bd i (by simp)
      have hrf := Aside0.mk (H.out.ok.refs.2.2 i (by simp))
      have N1 := Aside0.mk n1
      have HBI := Aside0.mk hbi
      have hfl := Aside0.mk (show c.fl.length ≤ 1000 by
        have h1 := H.out.ok.len
        have h2 := H.out.ok.most
        rw [H.out.ok.fl]; simp; omega)
      clear n1 hbi d0 d1 dr q2 hlk
      go_wp2_with fail
      refine (lru_forget.calls _ A p c L2.out.at_ i hi hrf.out.1 hrf.out.2 (H.out.key i (by simp)) hfl.out).mono ?_
      rintro e w3 ⟨rfl, l3, f3⟩
      have L3 := Aside0.mk l3
      have F3 := Aside0.mk f3
      clear l3 f3
      go_wp2_with fail
      go_meet
      case rel =>
        have hz : w.heap.size < w2.heap.size := blk_lt X2.out
        have hC := (H.out.forget L3.out).mono (A' := gs A w) (fun k _ hk => hk.imp id (fun h => Nat.lt_of_lt_of_le hz h))
        refine ⟨_, _, _, hC, ?_, (H.out.ok.forget).2.2, ?_, F2.out.andThen F3.out (fun k hk => Or.inl hk), F3.out.keeps X2.out (fun x => absurd (HAb.out _ x) (Nat.lt_irrefl _))⟩
        · rw [(H.out.ok.forget).2.1, ← H.out.ok.del, HBI.out]
        · show look (del (c.off i).m ((c.off i).it i).blk) (b1, b2) = none
          rw [(c.off_it i i).1, HBI.out, look_del_same]
  case rest =>
    clear hlk d0 d1 dr q2 L2 F2 X2
    obtain ⟨c1, l1, fs1, hC, habs, hmo, hno, hf, hx⟩ := hcut.out
    have C1 := Aside0.mk hC
    have AB1 := Aside0.mk habs
    have MO1 := Aside0.mk hmo
    have NO1 := Aside0.mk hno
    have F1 := Aside0.mk hf
    have X1 := Aside0.mk hx
    obtain ⟨fv, mb, amb, q1, q2, q3, q4, q5⟩ := hC.at_.parts
    obtain ⟨A0, cap0, rfl⟩ := Kd.R_slice q4
    obtain ⟨s0, s1, s2, s3⟩ := hC.at_.see
    have hR2 := Aside0.mk (hC.ok.room2 (b1, b2) hno)
    have HFL := Aside0.mk hC.ok.fl
    clear hC habs hmo hno hf hx hcut q2 q3 q4 q5
    have hlen : c1.fl.length = fs1.length := by rw [HFL.out]; simp
    rw [hlen] at q1
    clear hlen
    go_upto_if 27 with (fail)
    go_cut [] from 22 to 33 (fun wx => Aside0 (PutB w A p (c.abs l) (b1, b2) c.most wx))
    case first =>
      rcases hR2.out with ⟨l2, q, rfl, rfl, hq, k1, k2, k3, k4⟩ | ⟨fs2, q, rfl, k2⟩
      · rw [hq] at s2
        have hqi : q < 64 := C1.out.ok.bd q (by simp)
        have hrf := Aside0.mk (C1.out.ok.refs.2.2 q (by simp))
        have K1 := Aside0.mk k1
        have K2 := Aside0.mk k2
        have K3 := Aside0.mk k3
        have K4 := Aside0.mk k4
        have hfl := Aside0.mk (show c1.fl.length ≤ 1000 by rw [HFL.out]; simp)
        have HKE := Aside0.mk (C1.out.key q (by simp))
        clear hq k1 k2 k3 k4
        go_wp2_with fail
        refine (lru_forget.calls _ _ p c1 C1.out.at_ q hqi hrf.out.1 hrf.out.2 HKE.out hfl.out).mono ?_
        rintro e w3 ⟨rfl, l3, f3⟩
        have L3 := Aside0.mk l3
        have F3 := Aside0.mk f3
        clear l3 f3
        go_wp2_with fail
        go_meet
        case rel =>
          have hC := (C1.out.forget (d := []) L3.out).mono (fun k _ hk => gs_gr (blk_lt X1.out) k hk)
          rw [List.append_nil] at hC
          refine ⟨_, l2, [], q, hC, ?_, K3.out.trans MO1.out, K4.out, F1.out.andThen F3.out gs_or, F3.out.keeps X1.out (fun x => x.elim (fun x => absurd (HAb.out _ x) (Nat.lt_irrefl _)) (fun x => absurd x (Nat.lt_irrefl _)))⟩
          rw [K2.out, AB1.out, MO1.out]
      · have hne : (((fs2 ++ [q]).length : Int) == 0) = false := beq_eq_false_iff_ne.2 (by simp; omega)
        have K2 := Aside0.mk k2
        clear k2
        go_wp2_with fail
        go_meet
        case rel => exact ⟨c1, l1, fs2, q, C1.out, by rw [← AB1.out, ← MO1.out, K2.out], MO1.out, NO1.out, F1.out, X1.out⟩
    case rest =>
      clear q1 s0 s1 s2 s3 C1 AB1 MO1 NO1 F1 X1 hR2 HFL
      obtain ⟨c2, l2, fs2, q, hC, habs, hmo, hno, hf, hx⟩ := hcut.out
      have C2 := Aside0.mk hC
      have AB2 := Aside0.mk habs
      have MO2 := Aside0.mk hmo
      have NO2 := Aside0.mk hno
      have F2 := Aside0.mk hf
      have X2 := Aside0.mk hx
      have hqi : q < 64 := hC.ok.bd q (by simp)
      have hfs : fs2.length ≤ 64 := by
        have h1 := hC.ok.len
        have h2 := hC.ok.most
        simp at h1; omega
      clear hC habs hmo hno hf hx hcut
      go_upto_region 6 with (fail)
      refine region_still (by kernel_rfl) (by kernel_rfl) (fun W => LruAt W (gs A w) p c2 ∧ Frm A w W ∧ W.heap[w.heap.size]? = some (.cells #[.int .i64 b1, .int .i64 b2] 54)) ⟨C2.out.at_.drew, F2.out.drew, blk_drew X2.out⟩ ?_
      rintro w4 ⟨hC4, f4, x4⟩
      obtain ⟨fv, mb, amb, q1, q2, q3, q4, q5⟩ := hC4.parts
      obtain ⟨A0, cap0, rfl, hcc, hCr⟩ := Kd.R_reads q4
      obtain ⟨hl, ad, rfl, hcell⟩ := last_of C2.out.ok.fl hCr
      rw [hl] at q1 hcc
      obtain ⟨s0, s1, s2, s3⟩ := hC4.see
      have H4 := Aside0.mk hC4
      have F4 := Aside0.mk f4
      have X4 := Aside0.mk x4
      clear hC4 f4 x4 q2 q3 q4 q5 hl hCr
      have hw : IntKind.i64.wrap (fs2.length : Int) = (fs2.length : Int) := IntWalk.i64_in _ (by omega)
      have y0 : 0 ≤ (fs2.length : Int) := by omega
      have y1 : (fs2.length : Int) < (fs2.length : Int) + 1 := by omega
      repeat still_step
      refine wpStill_nil ?_
      go_upto_region 7 with (fail)
      clear q1 s0 s1 s2 s3 hcell
      refine region_tail 14 (by kernel_rfl) (by kernel_rfl) (fun W => LruAt W (gs A w) p c2 ∧ Frm A w W ∧ W.heap[w.heap.size]? = some (.cells #[.int .i64 b1, .int .i64 b2] 54)) ⟨H4.out.drew, F4.out.drew, blk_drew X4.out⟩ ?_
      rintro w5 ⟨hC5, f5, x5⟩
      obtain ⟨fv, mb, amb, q1, q2, q3, q4, q5⟩ := hC5.parts
      obtain ⟨A0, cap0, rfl⟩ := Kd.R_slice q4
      obtain ⟨s0, s1, s2, s3⟩ := hC5.see
      have H5 := Aside0.mk hC5
      have F5 := Aside0.mk f5
      have X5 := Aside0.mk x5
      have hl5 : c2.fl.length = fs2.length + 1 := by rw [C2.out.ok.fl]; simp
      obtain ⟨_, _, e5, hcc5, _⟩ := Kd.R_reads q4
      simp only [Value.slice.injEq] at e5
      obtain ⟨-, -, rfl⟩ := e5
      have hle5 : fs2.length ≤ cap0 := by rw [hl5] at hcc5; omega
      rw [hl5] at q1 hcc5
      have L5 := Aside0.mk (H5.out.cutFree (m := fs2.length) q1 (by rw [hl5]; omega))
      clear hC5 f5 x5 q2 q3 q4 q5 hl5
      simp only [List.take_succ_cons, List.take_zero, List.drop_succ_cons, List.drop_zero]
      repeat still_step
      refine wpStill_nil ?_
      go_upto_region 8 with (fail)
      have F6 := Aside0.mk (F5.out.setCell (p := ⟨p, 321, none⟩) (Or.inl HO.out) (.slice A0 fs2.length cap0))
      have hpw : w.heap.size ≠ p := Nat.ne_of_gt hlt
      have X6 := Aside0.mk (blk_far X5.out (p := ⟨p, 321, none⟩) hpw (.slice A0 fs2.length cap0))
      clear q1 s0 s1 s2 s3 hw hcc5 hcc hle5
      refine region_tail 8 (by kernel_rfl) (by kernel_rfl) (fun W => LruAt W (gs A w) p { c2 with fl := c2.fl.take fs2.length } ∧ Frm A w W ∧ W.heap[w.heap.size]? = some (.cells #[.int .i64 b1, .int .i64 b2] 54)) ⟨L5.out.drew, F6.out.drew, blk_drew X6.out⟩ ?_
      rintro w7 ⟨hC7, f7, x7⟩
      obtain ⟨d0, d1, dr⟩ := cells2' x7
      obtain ⟨s0, s1, s2, s3⟩ := hC7.see
      obtain ⟨j0, j1, j2, j3, j4⟩ := hC7.item hqi
      have H7 := Aside0.mk hC7
      have F7 := Aside0.mk f7
      have X7 := Aside0.mk x7
      have q0 : 0 ≤ (q : Int) := by omega
      have q64 : (q : Int) < 64 := by omega
      clear hC7 f7 x7
      simp only [List.take_succ_cons, List.take_zero, List.drop_succ_cons, List.drop_zero]
      repeat still_step
      refine wpStill_nil ?_
      go_upto_region 9 with (fail)
      have h8 := H7.out.setItem hqi ⟨b1, b2, s, 0, 0⟩
      simp only at h8
      have f8 : Frm A w _ := ((((F7.out.setCell (p := ⟨p, 1 + q * 5, none⟩) (Or.inl HO.out) (.int .i64 b1)).setCell (p := ⟨p, 1 + q * 5 + 1, none⟩) (Or.inl HO.out) (.int .i64 b2)).setCell (p := ⟨p, 1 + q * 5 + 2, none⟩) (Or.inl HO.out) (.string s)).setCell (p := ⟨p, 1 + q * 5 + 3, none⟩) (Or.inl HO.out) (.int .i64 0)).setCell (p := ⟨p, 1 + q * 5 + 4, none⟩) (Or.inl HO.out) (.int .i64 0)
      have x8 := blk_far (blk_far (blk_far (blk_far (blk_far X7.out (p := ⟨p, 1 + q * 5, none⟩) hpw (.int .i64 b1)) (p := ⟨p, 1 + q * 5 + 1, none⟩) hpw (.int .i64 b2)) (p := ⟨p, 1 + q * 5 + 2, none⟩) hpw (.string s)) (p := ⟨p, 1 + q * 5 + 3, none⟩) hpw (.int .i64 0)) (p := ⟨p, 1 + q * 5 + 4, none⟩) hpw (.int .i64 0)
      generalize ((((w7.setCell ⟨p, 1 + q * 5, none⟩ (.int .i64 b1)).setCell ⟨p, 1 + q * 5 + 1, none⟩ (.int .i64 b2)).setCell ⟨p, 1 + q * 5 + 2, none⟩ (.string s)).setCell ⟨p, 1 + q * 5 + 3, none⟩ (.int .i64 0)).setCell ⟨p, 1 + q * 5 + 4, none⟩ (.int .i64 0) = w8 at h8 f8 x8 ⊢
      have H8 := Aside0.mk h8
      have F8 := Aside0.mk f8
      have X8 := Aside0.mk x8
      clear h8 f8 x8 j0 j1 j2 j3 j4 s0 s1 s2 s3 d0 d1 dr
      refine region_tail 6 (by kernel_rfl) (by kernel_rfl) (fun W => LruAt W (gs A w) p { c2 with fl := c2.fl.take fs2.length, it := upd c2.it q ⟨b1, b2, s, 0, 0⟩ } ∧ Frm A w W ∧ W.heap[w.heap.size]? = some (.cells #[.int .i64 b1, .int .i64 b2] 54)) ⟨H8.out.drew, F8.out.drew, blk_drew X8.out⟩ ?_
      rintro w9 ⟨hC9, f9, x9⟩
      obtain ⟨d0, d1, dr⟩ := cells2' x9
      obtain ⟨fv, mb, amb, q1, q2, q3, q4, q5⟩ := hC9.parts
      have H9 := Aside0.mk hC9
      have F9 := Aside0.mk f9
      have M9 := Aside0.mk q3
      have Q9 := Aside0.mk q2
      have AM := Aside0.mk amb
      clear hC9 f9 x9 q1 q3 q4 q5
      simp only [List.take_succ_cons, List.take_zero, List.drop_succ_cons, List.drop_zero]
      repeat still_step
      refine wpStill_nil ?_
      refine wpList_mapUpdate_of bkInj bkKeyed w9 rfl _ _ _ 86 3 rfl Try.underlying86 mb c2.m rfl M9.out (b1, b2) rfl (bkOk _ HB.out) (q : Int) rfl ?_
      rintro w10 m10 f10 z10
      have H10 := Aside0.mk (H9.out.mapTo Q9.out m10 f10)
      have F10 := Aside0.mk (F9.out.andThen f10 (fun k e => by rw [e]; exact (AM.out.imp id (fun h => Nat.le_of_lt h))))
      have hfirst := Aside0.mk C2.out.ok.refs.1
      clear m10 f10 z10 d0 d1 dr q2
      go_wp2_with fail
      refine (lru_ahead.calls _ _ p _ H10.out q hqi hfirst.out).mono ?_
      rintro e w11 ⟨rfl, h11, f11⟩
      have H11 := Aside0.mk h11
      have F11 := Aside0.mk f11
      clear h11 f11
      go_wp2_with fail
      go_end0
      have hfl : c2.fl = (fs2 ++ [q]).map (fun i : Nat => (i : Int)) := C2.out.ok.fl
      have e : c2.lay (b1, b2) s = ({ c2 with fl := c2.fl.take fs2.length, it := upd c2.it q ⟨b1, b2, s, 0, 0⟩, m := put c2.m (b1, b2) (q : Int) } : Lc).ahead q := by
        unfold Lc.lay
        have e1 : c2.fl.getLastD 0 = (q : Int) := by rw [hfl]; simp
        have e2 : c2.fl.dropLast = c2.fl.take fs2.length := by rw [hfl]; simp
        simp only [e1, e2, Int.toNat_natCast]
      obtain ⟨k1, k2, k3⟩ := C2.out.ok.lay (b1, b2) s NO2.out
      rw [e] at k1 k2 k3
      refine ⟨_, _, _, rfl, ⟨H11.out.mono (fun k _ hk => gs_or k hk), k1, fun j hj => ?_⟩, ?_, k3.trans MO2.out, F10.out.andThen F11.out gs_or⟩
      · exact abs_keys k2 HB.out C2.out.keys j hj
      · rw [k2, AB2.out]
        have hx := H.out.ok.most
        obtain ⟨k, hk⟩ : ∃ k, c.most.toNat = k + 1 := ⟨c.most.toNat - 1, by omega⟩
        unfold putD
        rw [hk, List.take_succ_cons]
        rfl
end Go.Proofs.Ytoindlghpkjemaa.Thw
