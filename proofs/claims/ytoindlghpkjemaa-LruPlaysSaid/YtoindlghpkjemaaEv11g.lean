/- Layer 11: Drop. -/
import Derived.Test.YtoindlghpkjemaaEv11f
namespace Go.Proofs.Ytoindlghpkjemaa.Thw
open Go Go.RowKit Go.Proofs.YtoindlghpkjemaaW.PrintWords Go.Proofs.YtoindlghpkjemaaW.PrintLast Go.Proofs.YtoindlghpkjemaaW.PrintMore
set_option linter.unusedVariables false
set_option linter.unusedSimpArgs false
theorem C_bkAt {w : World} {A : Option Addr} {xs : List Bk} (h : kB.C w A xs.length xs) {k : Nat} (hk : k < xs.length) : ∃ ad, A = some ad ∧ w.cell? (ad.add (k * 2)) = some (.int .i64 xs[k].1) ∧ w.cell? ⟨(ad.add (k * 2)).block, (ad.add (k * 2)).off + 1, none⟩ = some (.int .i64 xs[k].2) := by
  obtain ⟨ad, c, e, hl, hK, hc⟩ := ReadsRow.get_ h ((0, 0) : Bk) (k : Int) (by omega) (by omega)
  obtain ⟨c1, c2, e2, h1, h2⟩ := hK
  have h1' : c1 = [Value.int .i64 (xs.getD k (0, 0)).1] := h1
  have h2' : c2 = [Value.int .i64 (xs.getD k (0, 0)).2] := h2
  have hx : xs.getD k (0, 0) = xs[k] := by simp [hk, List.getD_eq_getElem?_getD]
  rw [hx] at h1' h2'
  subst h1' h2' e2
  have hc' : ∀ (j : Nat) u, ([Value.int .i64 xs[k].1] ++ [Value.int .i64 xs[k].2])[j]? = some u → w.cell? (ad.add (k * 2 + j)) = some u := hc
  exact ⟨ad, e, hc' 0 _ rfl, by rw [← add_field _ _ 1 (by omega)]; exact hc' 1 _ rfl⟩
/-- The items when the first k of them have been gone through. -/
def dropK (X : Row2) (seg : Int) (k : Nat) : Row2 := dropD (X.take k) seg ++ X.drop k
theorem dropK_zero (X : Row2) (seg : Int) : dropK X seg 0 = X := by simp [dropK, dropD]
theorem dropK_all (X : Row2) (seg : Int) : dropK X seg X.length = dropD X seg := by simp [dropK]
theorem dropK_keep (X : Row2) (seg : Int) {k : Nat} (hk : k < X.length) (h : X[k].1.1 ≠ seg) : dropK X seg (k + 1) = dropK X seg k := by
  unfold dropK dropD
  rw [List.take_succ_eq_append_getElem hk, List.filter_append, List.filter_cons, if_pos (by simpa using h), List.filter_nil, List.drop_eq_getElem_cons hk]
  simp
theorem dropK_gone (X : Row2) (seg : Int) {k : Nat} (hk : k < X.length) (h : X[k].1.1 = seg) (hn : (keysOf X).Nodup) : dropK X seg (k + 1) = del (dropK X seg k) X[k].1 := by
  have hsp : X = X.take k ++ X[k] :: X.drop (k + 1) := by rw [← List.drop_eq_getElem_cons hk, List.take_append_drop]
  have hn2 := hn
  rw [hsp] at hn2
  simp only [keysOf, List.map_append, List.map_cons] at hn2
  have h1 : ∀ q ∈ X.take k, q.1 ≠ X[k].1 := fun q hq e => (List.nodup_append.1 hn2).2.2 q.1 (List.mem_map.2 ⟨q, hq, rfl⟩) X[k].1 (List.mem_cons_self ..) e
  have h2 : ∀ q ∈ X.drop (k + 1), q.1 ≠ X[k].1 := fun q hq e => (List.nodup_cons.1 (List.nodup_append.1 hn2).2.1).1 (List.mem_map.2 ⟨q, hq, e⟩)
  unfold dropK dropD del
  rw [List.take_succ_eq_append_getElem hk, List.filter_append, List.filter_cons, if_neg (by simpa using h), List.filter_nil, List.append_nil, List.filter_append, List.drop_eq_getElem_cons hk, List.filter_cons, if_neg (by simp)]
  have e1 : List.filter (fun p : Bk × ByteArray => decide (p.1 ≠ X[k].1)) (List.filter (fun p => decide (p.1.1 ≠ seg)) (X.take k)) = List.filter (fun p => decide (p.1.1 ≠ seg)) (X.take k) := List.filter_eq_self.2 (fun q hq => by simpa using h1 q (List.mem_filter.1 hq).1)
  have e2 : List.filter (fun p : Bk × ByteArray => decide (p.1 ≠ X[k].1)) (X.drop (k + 1)) = X.drop (k + 1) := List.filter_eq_self.2 (fun q hq => by simpa using h2 q hq)
  rw [e1, e2]
theorem dropK_mem (X : Row2) (seg : Int) {k : Nat} (hk : k < X.length) : X[k] ∈ dropK X seg k := by
  unfold dropK
  refine List.mem_append_right _ ?_
  rw [List.drop_eq_getElem_cons hk]
  exact List.mem_cons_self ..
theorem dropK_len (X : Row2) (seg : Int) (k : Nat) : (dropK X seg k).length ≤ X.length := by
  unfold dropK dropD
  have h1 := List.length_filter_le (fun p : Bk × ByteArray => decide (p.1.1 ≠ seg)) (X.take k)
  simp at h1 ⊢
  omega
theorem del_len1 {X : Row2} (hn : (keysOf X).Nodup) {q : Bk × ByteArray} (hq : q ∈ X) : (del X q.1).length + 1 = X.length := by
  obtain ⟨a, d, rfl⟩ := List.append_of_mem hq
  simp only [keysOf, List.map_append, List.map_cons] at hn
  unfold del
  rw [List.filter_append, List.filter_cons, if_neg (by simp)]
  have e1 : List.filter (fun p : Bk × ByteArray => decide (p.1 ≠ q.1)) a = a := List.filter_eq_self.2 (fun x hx => by
    have := fun e : x.1 = q.1 => (List.nodup_append.1 hn).2.2 x.1 (List.mem_map.2 ⟨x, hx, rfl⟩) q.1 (List.mem_cons_self ..) e
    simpa using this)
  have e2 : List.filter (fun p : Bk × ByteArray => decide (p.1 ≠ q.1)) d = d := List.filter_eq_self.2 (fun x hx => by
    have := fun e : x.1 = q.1 => (List.nodup_cons.1 (List.nodup_append.1 hn).2.1).1 (List.mem_map.2 ⟨x, hx, e⟩)
    simpa using this)
  rw [e1, e2]
  simp; omega
def DropPost (w : World) (A : Nat → Prop) (p : Nat) (X : Row2) (seg most : Int) (e : Ending) (w' : World) : Prop :=
  ∃ c l fs, e = .returned (.int .i64 ((X.length : Int) - (dropD X seg).length)) ∧ Cch w' (gr A w) p c l fs ∧ c.abs l = dropD X seg ∧ c.most = most ∧ Frm A w w'
set_option maxHeartbeats 6400000 in
set_option maxRecDepth 100000 in
theorem lru_Drop.calls (w : World) (A : Nat → Prop) (p : Nat) (c : Lc) (l fs : List Nat) (h : Cch w A p c l fs) (hA : ∀ k, A k → k < w.heap.size) (seg : Int) :
    Calls Try.prog 30 #[.pointer (some ⟨p, 0, none⟩), .int .i64 seg] w (DropPost w A p (c.abs l) seg c.most) := by
  have H := Aside0.mk h
  have HAb := Aside0.mk hA
  have hX : blks c l = keysOf (c.abs l) := (keys_blks c l).symm
  have hXl : (c.abs l).length = l.length := by simp [Lc.abs]
  have HX := Aside0.mk hX
  have HND := Aside0.mk h.ok.keys
  have h64 : (c.abs l).length ≤ 64 := by rw [hXl]; exact h.ok.short
  obtain ⟨X, hXX⟩ : ∃ X, c.abs l = X := ⟨_, rfl⟩
  have HXX := Aside0.mk hXX
  rw [hXX] at HX HND h64 ⊢
  clear h hA hX hXl hXX
  go_enter Try.func30, Try.ntmps30
  go_wp2_with fail
  refine (lru_Blocks.calls w A p c l fs H.out).mono ?_
  rintro e w1 ⟨v, rfl, hR, hB⟩
  rw [HX.out] at hR
  obtain ⟨A1, cap1, rfl, hcap, _⟩ := Kd.R_reads hR
  have R1 := Aside0.mk (Kd.R_mono (Kd.R_bound hR) (fun k hk => (⟨hk.2.1, hk.2.2.1⟩ : w.heap.size ≤ k ∧ k < w1.heap.size)))
  have B1 := Aside0.mk hB
  have hkl : (keysOf X).length = X.length := by simp [keysOf]
  rw [hkl] at hcap R1 ⊢
  have HKL := Aside0.mk hkl
  clear hR hB hkl
  go_wp2_with fail
  go_loopw [5, 11] (fun v5 v11 wr => ∃ k : Nat, k ≤ X.length ∧ v11 = .int .i64 k ∧ v5 = .int .i64 ((X.length : Int) - (dropK X seg k).length) ∧ Aside0 (∃ ck lk fk, Cch wr (gr A w1) p ck lk fk ∧ ck.abs lk = dropK X seg k ∧ ck.most = c.most) ∧ Aside0 (Frm (gr A w1) w1 wr)) (fun _ v11 _ => X.length - (intOf v11).toNat)
  case atStart => exact ⟨0, Nat.zero_le _, rfl, by rw [dropK_zero]; simp, ⟨c, l, fs, (H.out.below B1.out).mono (fun _ _ h => Or.inl h), by rw [dropK_zero]; exact HXX.out, rfl⟩, ⟨Frm.refl _ _⟩⟩
  case round =>
    obtain ⟨k, hk, rfl, rfl, HC, HF⟩ := hrel
    obtain ⟨ck, lk, fk, hC, hab, hmo⟩ := HC.out
    have CK := Aside0.mk hC
    have AB := Aside0.mk hab
    have MO := Aside0.mk hmo
    clear hC hab hmo HC
    have hlk := dropK_len X seg k
    by_cases hkn : k < X.length
    · have hRk : kB.R 54 wr w.heap.size (fun k => w.heap.size ≤ k ∧ k < w1.heap.size) (.slice A1 X.length cap1) (keysOf X) :=
        Kd.R_kept R1.out ⟨HF.out.size, HF.out.block⟩ (fun j hj => fun hx => hx.elim (fun ha => by have := HAb.out _ ha; omega) (fun ha => by omega))
      obtain ⟨A2, cap2, e2, hcap2, hCk⟩ := Kd.R_reads hRk
      rw [HKL.out] at e2
      simp only [Value.slice.injEq] at e2
      obtain ⟨rfl, -, -⟩ := e2
      have hkk : k < (keysOf X).length := by rw [HKL.out]; exact hkn
      obtain ⟨ad, rfl, q0, q1⟩ := C_bkAt hCk hkk
      have hkx : (keysOf X)[k] = X[k].1 := by simp [keysOf]
      rw [hkx] at q0 q1
      have dk : decide ((k : Int) < (X.length : Int)) = true := decide_eq_true (by omega)
      have p0 : 0 ≤ (k : Int) := by omega
      have p1 : (k : Int) < (X.length : Int) := by omega
      have hmem := dropK_mem X seg hkn
      have hdel := dropK_gone X seg hkn
      have hkeep := dropK_keep X seg hkn
      generalize X[k] = it at q0 q1 hmem hdel hkeep
      obtain ⟨⟨s1, s2⟩, st⟩ := it
      simp only at q0 q1 hdel hkeep
      have HM := Aside0.mk hmem
      have HD := Aside0.mk hdel
      have HKp := Aside0.mk hkeep
      clear hRk hCk hcap2 hmem hdel hkeep hkx hkk
      rcases Bool.eq_false_or_eq_true (s1 == seg) with hs | hs
      · have hss : s1 = seg := by simpa using hs
        have HSS := Aside0.mk hss
        clear hss
        obtain ⟨a, i, d, hla, hbi, N1⟩ : ∃ a i d, lk = a ++ i :: d ∧ (ck.it i).blk = (s1, s2) ∧ Aside0 (look ck.m (s1, s2) = some (i : Int)) := by
          rcases CK.out.ok.look (s1, s2) with ⟨_, n2⟩ | ⟨a, i, d, h1, h2, h3, _⟩
          · exfalso
            have h0 := look_some_of_any (ck.abs lk) (s1, s2)
            rw [n2] at h0
            have hm := HM.out
            rw [← AB.out] at hm
            have h3 := List.any_eq_false.1 h0.symm _ hm
            simp at h3
          · exact ⟨a, i, d, h1, h2, ⟨h3⟩⟩
        subst hla
        have HBI := Aside0.mk hbi
        have hi : i < 64 := CK.out.ok.bd i (by simp)
        have hrf := Aside0.mk (CK.out.ok.refs.2.2 i (by simp))
        have hfl := Aside0.mk (show ck.fl.length ≤ 1000 by
          have h1 := CK.out.ok.len
          have h2 := CK.out.ok.most
          rw [CK.out.ok.fl]; simp; omega)
        have hkb := Aside0.mk (CK.out.key i (by simp))
        have hd1 := HD.out HSS.out HND.out
        have hnd2 : (keysOf (dropK X seg k)).Nodup := by rw [← AB.out]; exact CK.out.ok.keys
        have hl1 := del_len1 hnd2 HM.out
        simp only at hl1
        rw [← hd1] at hl1
        have HD1 := Aside0.mk hd1
        clear hbi hd1 hnd2
        go_upto_region 6 with (fail)
        refine region_tail 7 (by kernel_rfl) (by kernel_rfl) (fun W => LruAt W (gr A w1) p ck ∧ Frm (gr A w1) w1 W ∧ W.heap[wr.heap.size]? = some (.cells #[.int .i64 s1, .int .i64 s2] 54))
          ⟨(CK.out.at_.alloc _).drew, (HF.out.alloc _).drew, blk_drew (blk_new wr _)⟩ ?_
        rintro w2 ⟨l2, f2, x2⟩
        obtain ⟨d0, d1, dr⟩ := cells2' x2
        obtain ⟨fv, mb, amb, r1, r2, r3, r4, r5⟩ := l2.parts
        have hlk2 := MapOf.at_found bkInj bkKeyed r3 Try.underlying86 (bkOk (s1, s2) (by rw [← HBI.out]; exact hkb.out)) (zeroI w2) N1.out
        simp only [bkV] at hlk2
        have L2 := Aside0.mk l2
        have F2 := Aside0.mk f2
        clear x2 l2 f2 r1 r3 r4 q0 q1
        simp only [List.take_succ_cons, List.take_zero, List.drop_succ_cons, List.drop_zero]
        repeat still_step
        refine wpStill_nil ?_
        go_wp2_with fail
        refine (lru_forget.calls w2 _ p ck L2.out i hi hrf.out.1 hrf.out.2 hkb.out hfl.out).mono ?_
        rintro e w3 ⟨rfl, l3, f3⟩
        have L3 := Aside0.mk l3
        have F3 := Aside0.mk (F2.out.andThen f3 (fun j hj => Or.inl hj))
        have hadd : IntKind.i64.wrap ((X.length : Int) - ((dropK X seg k).length : Int) + 1) = (X.length : Int) - ((dropK X seg (k + 1)).length : Int) := by
          rw [IntWalk.i64_in _ (by omega)]; omega
        clear l3 f3 hlk2 r2 r5 d0 d1 dr
        go_wp2_with fail
        go_roundw
        case rel =>
          refine ⟨k + 1, by omega, by go_num, rfl, ⟨_, _, _, (CK.out.forget L3.out).mono (fun j _ hj => hj.elim id (fun h => Or.inr (Nat.le_trans F2.out.size h))), ?_, (CK.out.ok.forget).2.2.trans MO.out⟩, F3⟩
          rw [(CK.out.ok.forget).2.1, ← CK.out.ok.del, HBI.out, AB.out, HD1.out]
        case measure => simp [intOf]; omega
      · go_wp2_with fail
        go_roundw
        case rel =>
          have hss : s1 ≠ seg := by simpa using hs
          refine ⟨k + 1, by omega, by go_num, by rw [HKp.out hss], ⟨ck, lk, fk, ?_, by rw [HKp.out hss]; exact AB.out, MO.out⟩, ⟨?_⟩⟩
          · exact CK.out.frm (S := None') ((Frm.refl _ _).alloc _) (fun _ _ _ x => x)
          · exact HF.out.alloc _
        case measure => simp [intOf]; omega
    · have dk : decide ((k : Int) < (X.length : Int)) = false := decide_eq_false (by omega)
      have hkk : k = X.length := by omega
      subst hkk
      rw [dropK_all] at AB
      rw [dropK_all]
      go_wp2_with fail
      go_ret
      refine ⟨ck, lk, fk, rfl, CK.out.mono (fun j _ hj => hj.imp id (fun h => Nat.le_trans B1.out.size h)), AB.out, MO.out, ?_⟩
      exact (Frm.of_new (S := A) B1.out).andThen HF.out (fun j hj => hj.imp id (fun h => Nat.le_trans B1.out.size h))
end Go.Proofs.Ytoindlghpkjemaa.Thw
