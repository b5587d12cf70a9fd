/- Layer 10: Delete. -/
import Derived.Test.YtcpjfpbfopkngaaEv10b
namespace Go.Proofs.Ytcpjfpbfopkngaa.Thw
open Go Go.RowKit Go.Proofs.YtcpjfpbfopkngaaW.PrintWords Go.Proofs.YtcpjfpbfopkngaaW.PrintLast Go.Proofs.YtcpjfpbfopkngaaW.PrintMore
set_option linter.unusedVariables false
set_option linter.unusedSimpArgs false
theorem cells6d {w : World} {s : Nat} {v0 v1 v2 v3 v4 v5 : Value} {t : TypeId} (h : w.heap[s]? = some (.cells #[v0, v1, v2, v3, v4, v5] t)) :
    w.cell? ⟨s, 0, none⟩ = some v0 ∧ w.cell? ⟨s, 1, none⟩ = some v1 ∧ w.cell? ⟨s, 2, none⟩ = some v2 ∧ w.cell? ⟨s, 3, none⟩ = some v3 ∧ w.cell? ⟨s, 4, none⟩ = some v4 ∧ w.cell? ⟨s, 5, none⟩ = some v5 ∧ ∀ i, w.frozen? ⟨s, i, none⟩ = false := by
  refine ⟨?_, ?_, ?_, ?_, ?_, ?_, fun i => ?_⟩ <;> simp [World.cell?, World.frozen?, h]
theorem hmK_lt {n : Nat} (k : ByteArray) (h : 0 < n) : hmK n k < n := Nat.mod_lt _ h
theorem reT_mem {T : List Slt} {j : Nat} {s : Slt} (h : s ∈ reT T j) : s ∈ T ∨ s = zS := by
  unfold reT at h
  split at h
  · rename_i x hx
    rcases List.mem_or_eq_of_mem_set h with h | h
    · rcases List.mem_or_eq_of_mem_set h with h | h
      · exact Or.inl h
      · exact Or.inr h
    · rw [h]; exact Or.inl (List.mem_of_getElem? hx)
  · exact Or.inl h
theorem dl_mem {T : List Slt} {i0 : Nat} {s : Slt} : ∀ t, s ∈ dl T i0 t → s ∈ T ∨ s = zS
  | 0, h => by
    rcases List.mem_or_eq_of_mem_set h with h | h
    · exact Or.inl h
    · exact Or.inr h
  | t + 1, h => by
    rcases reT_mem h with h | h
    · exact dl_mem t h
    · exact Or.inr h
def RunAt (T : List Slt) (i0 m : Nat) : Prop := 1 ≤ m ∧ m < T.length ∧ (∀ u, u < m → occ T ((i0 + u) % T.length) ≠ none) ∧ occ T ((i0 + m) % T.length) = none
def DelPost (w : World) (A : Nat → Prop) (p : Nat) (T : List Slt) (many : Int) (i0 : Nat) (k : ByteArray) (e : Ending) (w' : World) : Prop :=
  (occ T i0 = none ∧ e = .returned (.bool false) ∧ DirAt w' A p T many ∧ Frm A w w') ∨
  (occ T i0 = some k ∧ e = .returned (.bool true) ∧ ∃ m, RunAt T i0 m ∧ DirAt w' A p (dl T i0 (m - 1)) (wrap64 (many - 1)) ∧ Frm A w w')
theorem dir_many {w : World} {A : Nat → Prop} {p : Nat} {T : List Slt} {many : Int} (h : DirAt w A p T many) (x : Int) : DirAt (w.setCell ⟨p, 1, none⟩ (.int .i64 x)) A p T x ∧ Frm A w (w.setCell ⟨p, 1, none⟩ (.int .i64 x)) := by
  obtain ⟨h1, h2, v, h3, h4⟩ := h
  refine ⟨⟨h1, fun k hk => by have := h2 k hk; simpa [World.setCell] using this, v, by simpa using blk_set h3 1 (.int .i64 x), Kd.R_far h4 (p := ⟨p, 1, none⟩) (fun k hk => hk.2) _⟩, (Frm.refl _ _).setCell (Or.inl h1) _⟩
def del11T : Bool × List (List Nat × List Nat) := (true, [([], []), ([0], [0]), ([1], [1]), ([2], [2]), ([], []), ([], []), ([5], [5]), ([4, 6], [4, 6]), ([], []), ([3, 7, 0, 1, 2, 3, 4, 5, 6, 7, 8], [3, 7]), ([9, 8, 7, 0, 1, 2, 3, 4, 5, 6, 7, 8], [8, 9])])
def del11B : List Nat := [0, 1, 3, 7, 0, 0, 32, 112, 0, 511, 1023]
theorem del11tab : rtab .any (opsOf Try.f14 11) = del11T := by kernel_rfl
theorem del11bits : waitsOk del11T.2 del11B = true := by kernel_rfl
set_option maxHeartbeats 12800000 in
set_option maxRecDepth 100000 in
theorem dir_Delete.calls (w : World) (A : Nat → Prop) (p : Nat) (T : List Slt) (many : Int) (h : DirAt w A p T many) (j : Nat) (hj : j ≤ 30) (hT : T.length = 2 ^ j) (hG : Good (occ T) T.length (hmK T.length)) (hg : Gap (occ T) T.length) (k : ByteArray) (hk : k.size ≤ 4611686018427387904) (hks : ∀ s ∈ T, s.1.size ≤ 4611686018427387904) :
    Calls Try.prog 14 #[.pointer (some ⟨p, 0, none⟩), .string k] w (DelPost w A p T many (fnd (occ T) T.length (hmK T.length k) k) k) := by
  have hp0 : 0 < T.length := by rw [hT]; exact Nat.two_pow_pos j
  have H := Aside0.mk h
  have HT := Aside0.mk hT
  have HG := Aside0.mk hG
  have HGap := Aside0.mk hg
  have HKS := Aside0.mk hks
  have HFD := Aside0.mk (dir_find.calls w A p T many h j hj hT hg k hk)
  have HTW := Aside0.mk (fnd_two (k := k) (hmK_lt k hp0) hg)
  have HI0 := Aside0.mk (fnd_lt (f := occ T) (h := hmK T.length k) (k := k) hp0)
  obtain ⟨i0, hi0⟩ : ∃ i0, fnd (occ T) T.length (hmK T.length k) k = i0 := ⟨_, rfl⟩
  rw [hi0] at HFD HTW HI0 ⊢
  have HP0 := Aside0.mk hp0
  clear h hT hG hg hks hi0 hp0
  go_enter Try.func14, Try.ntmps14
  go_wp2_with fail
  refine HFD.out.mono ?_
  rintro e w1 ⟨rfl, b1⟩
  have B1 := Aside0.mk b1
  have D1 := Aside0.mk (H.out.below b1)
  have F1 := Aside0.mk (Frm.of_new (S := A) b1)
  clear b1 HFD
  have hi := HI0.out
  obtain ⟨g, c, h3, h4⟩ := D1.out.form HP0.out
  obtain ⟨c0, c1, fr⟩ := cells2d h3
  obtain ⟨q0, q1, q2, q3, q4, q5⟩ := dir_slot h4 i0 hi
  have fz0 := dir_frozen h4 (i0 * 6)
  have fz1 := dir_frozen h4 (i0 * 6 + 1)
  have fz2 := dir_frozen h4 (i0 * 6 + 2)
  have fz3 := dir_frozen h4 (i0 * 6 + 3)
  have fz4 := dir_frozen h4 (i0 * 6 + 4)
  have fz5 := dir_frozen h4 (i0 * 6 + 5)
  have H3 := Aside0.mk h3
  have H4 := Aside0.mk h4
  have HOC := Aside0.mk (occ_at hi)
  generalize T[i0] = s at q0 q1 q2 q3 q4 q5 HOC
  obtain ⟨key, ⟨l0, l1, l2, l3⟩, is⟩ := s
  simp only at q0 q1 q2 q3 q4 q5 HOC
  have z0 : 0 ≤ (i0 : Int) := by omega
  have z1 : (i0 : Int) < (T.length : Int) := by omega
  clear h3 h4
  cases is with
  | false =>
    have HN := Aside0.mk (HOC.out.trans (if_neg (by simp)))
    go_wp2_with fail
    go_ret
    exact Or.inl ⟨HN.out, rfl, D1.out, F1.out⟩
  | true =>
    have HN := Aside0.mk (HOC.out.trans (if_pos rfl))
    have HKK := Aside0.mk (show occ T i0 = some k by
      rcases HTW.out with h5 | h5
      · rw [HN.out] at h5; cases h5
      · exact h5)
    obtain ⟨m, hm1, hm2, hm3, hm4⟩ := run_end hi HGap.out (by rw [HKK.out]; simp)
    have HRUN := Aside0.mk (show RunAt T i0 m from ⟨hm1, hm2, hm3, hm4⟩)
    have HMID := Aside0.mk (dl_mid HG.out hi hm1 hm2 hm3 hm4)
    have HM1 := Aside0.mk (And.intro hm1 hm2)
    clear hm1 hm2 hm3 hm4
    go_upto_region 5 with (fail)
    have HSET := Aside0.mk (show DirAt ((((((w1.setCell ⟨g, i0 * 6, none⟩ (.string ⟨#[]⟩)).setCell ⟨g, i0 * 6 + 1, none⟩ (.int .i64 0)).setCell ⟨g, i0 * 6 + 2, none⟩ (.int .i64 0)).setCell ⟨g, i0 * 6 + 3, none⟩ (.int .i64 0)).setCell ⟨g, i0 * 6 + 4, none⟩ (.int .u64 0)).setCell ⟨g, i0 * 6 + 5, none⟩ (.bool false)) A p (T.set i0 zS) many ∧ Frm A w1 ((((((w1.setCell ⟨g, i0 * 6, none⟩ (.string ⟨#[]⟩)).setCell ⟨g, i0 * 6 + 1, none⟩ (.int .i64 0)).setCell ⟨g, i0 * 6 + 2, none⟩ (.int .i64 0)).setCell ⟨g, i0 * 6 + 3, none⟩ (.int .i64 0)).setCell ⟨g, i0 * 6 + 4, none⟩ (.int .u64 0)).setCell ⟨g, i0 * 6 + 5, none⟩ (.bool false)) from dir_set D1.out.1 D1.out.2.1 H3.out H4.out i0 hi zS)
    generalize ((((((w1.setCell ⟨g, i0 * 6, none⟩ (.string ⟨#[]⟩)).setCell ⟨g, i0 * 6 + 1, none⟩ (.int .i64 0)).setCell ⟨g, i0 * 6 + 2, none⟩ (.int .i64 0)).setCell ⟨g, i0 * 6 + 3, none⟩ (.int .i64 0)).setCell ⟨g, i0 * 6 + 4, none⟩ (.int .u64 0)).setCell ⟨g, i0 * 6 + 5, none⟩ (.bool false)) = w2 at HSET ⊢
    clear c0 c1 fr q0 q1 q2 q3 q4 q5 fz0 fz1 fz2 fz3 fz4 fz5
    have hl2 : (T.set i0 zS).length = T.length := List.length_set
    obtain ⟨g2, c2, h3, h4⟩ := HSET.out.1.form (by rw [hl2]; exact HP0.out)
    rw [hl2] at h3
    obtain ⟨c0, c1, fr⟩ := cells2d h3
    clear h3 h4 hl2
    go_upto_region 6 with (fail)
    have HMN := Aside0.mk (dir_many HSET.out.1 (wrap64 (many - 1)))
    have F3 := Aside0.mk ((F1.out.andThen HSET.out.2 (fun i hi => Or.inl hi)).andThen HMN.out.2 (fun i hi => Or.inl hi))
    have D3 := Aside0.mk HMN.out.1
    clear c0 c1 fr HMN HSET
    obtain ⟨many', hmn⟩ : ∃ x, wrap64 (many - 1) = x := ⟨_, rfl⟩
    rw [hmn] at D3 F3 ⊢
    have HMNE := Aside0.mk hmn
    clear hmn
    generalize w2.setCell ⟨p, 1, none⟩ (.int .i64 many') = w3 at D3 F3 ⊢
    go_wp2_with fail
    refine (dir_next.calls w3 A p (T.set i0 zS) many' D3.out j hj (by rw [List.length_set]; exact HT.out) i0 (by rw [List.length_set]; exact hi)).mono ?_
    rintro e w4 ⟨rfl, hw⟩
    subst hw
    rw [List.length_set]
    go_wp2_with fail
    go_loopw [5] (fun v5 wr => ∃ t : Nat, t + 1 ≤ m ∧ v5 = .int .i64 ((i0 + (t + 1)) % T.length : Nat) ∧ Aside0 (DirAt wr A p (dl T i0 t) many') ∧ Aside0 (Frm A w wr)) (fun v5 _ => T.length - ((intOf v5).toNat + T.length - i0) % T.length)
    case atStart => exact ⟨0, HM1.out.1, rfl, D3, F3⟩
    case round =>
      clear D3 F3
      obtain ⟨t, ht, rfl, HD, HF⟩ := hrel
      obtain ⟨hM, hs⟩ := HMID.out t (by omega)
      have hjj : (i0 + (t + 1)) % T.length < T.length := Nat.mod_lt _ HP0.out
      have HWD := Aside0.mk (walk_dist (n := T.length) (h := i0) (d := t + 1) hi (by have := HM1.out; omega))
      have HWN := Aside0.mk (walk_next (n := T.length) (h := i0) (d := t + 1))
      have hXl : (dl T i0 t).length = T.length := dl_length T i0 t
      have HXL := Aside0.mk hXl
      obtain ⟨g, c, h3, h4⟩ := HD.out.form (by rw [hXl]; exact HP0.out)
      rw [hXl] at h3 h4
      obtain ⟨c0, c1, fr⟩ := cells2d h3
      have HOC := Aside0.mk (occ_at (T := dl T i0 t) (by rw [hXl]; exact hjj))
      obtain ⟨q0, q1, q2, q3, q4, q5⟩ := dir_slot h4 ((i0 + (t + 1)) % T.length) (by rw [hXl]; exact hjj)
      have HTAIL := Aside0.mk (fun he : t + 1 = m => (by have h := hM.tail (t + 1) (Nat.le_refl _) (by omega); rw [h, he]; exact HRUN.out.2.2.2 : occ (dl T i0 t) ((i0 + (t + 1)) % T.length) = none))
      have HMEM := Aside0.mk (dl_mem (T := T) (i0 := i0) (s := (dl T i0 t)[(i0 + (t + 1)) % T.length]'(by rw [hXl]; exact hjj)) t (List.getElem_mem _))
      have HSTEP := Aside0.mk (fun (hlt : t + 1 < m) (key : ByteArray) (hk : occ (dl T i0 t) ((i0 + (t + 1)) % T.length) = some key) => (hM.step (fun k => hmK_lt k HP0.out) hi hlt HM1.out.2 HG.out HRUN.out.2.2.2 hk).2.1)
      have HSOME := Aside0.mk (fun hlt : t + 1 < m => hs hlt)
      have HGET := Aside0.mk (List.getElem?_eq_getElem (l := dl T i0 t) (i := (i0 + (t + 1)) % T.length) (by rw [hXl]; exact hjj))
      have HDL := Aside0.mk (show dl T i0 (t + 1) = reT (dl T i0 t) ((i0 + (t + 1)) % T.length) from rfl)
      clear hM hs
      generalize hsl : (dl T i0 t)[(i0 + (t + 1)) % T.length]'(by rw [hXl]; exact hjj) = s at q0 q1 q2 q3 q4 q5 HOC HMEM HGET
      clear hsl
      obtain ⟨key, ⟨l0, l1, l2, l3⟩, is⟩ := s
      simp only at q0 q1 q2 q3 q4 q5 HOC
      generalize hx : (i0 + (t + 1)) % T.length = jj at hjj HWD HWN HOC q0 q1 q2 q3 q4 q5 HTAIL HSTEP HSOME HGET HDL ⊢
      clear hx
      have j0 : 0 ≤ (jj : Int) := by omega
      have j1 : (jj : Int) < (T.length : Int) := by omega
      by_cases hlt : t + 1 < m
      · have his : is = true := by
          obtain ⟨s2, e1, e2⟩ := HSOME.out hlt
          rw [HGET.out] at e1
          injection e1 with e1
          rw [← e1] at e2
          exact e2
        subst his
        have HGAP1 := Aside0.mk (HSTEP.out hlt key (HOC.out.trans (if_pos rfl)))
        have HKEY := Aside0.mk (show key.size ≤ 4611686018427387904 by
          rcases HMEM.out with h5 | h5
          · exact HKS.out _ h5
          · have e1 := congrArg (fun x : Slt => x.1) h5
            have e2 : key = ⟨#[]⟩ := e1
            rw [e2]
            decide)
        have HH := Aside0.mk (show dl T i0 (t + 1) = ((dl T i0 t).set jj zS).set (fnd (occ ((dl T i0 t).set jj zS)) T.length (hmK T.length key) key) (key, (l0, l1, l2, l3), true) by
          rw [HDL.out]
          unfold reT
          rw [HGET.out]
          simp only [HXL.out])
        clear HDL HSTEP HSOME HTAIL HMEM HMID HGET HOC
        have FZ := Aside0.mk (fun o => dir_frozen (T := dl T i0 t) (Kd.R_alloc h4 (.cells #[.string key, .int .i64 l0, .int .i64 l1, .int .i64 l2, .int .u64 l3, .bool true] 57)) o)
        have HD5 := Aside0.mk (HD.out.below ((Below.refl _ wr).alloc (Nat.le_refl _) (.cells #[.string key, .int .i64 l0, .int .i64 l1, .int .i64 l2, .int .u64 l3, .bool true] 57)))
        have H35 := Aside0.mk (blk_alloc h3 (.cells #[.string key, .int .i64 l0, .int .i64 l1, .int .i64 l2, .int .u64 l3, .bool true] 57))
        have H45 := Aside0.mk (Kd.R_alloc h4 (.cells #[.string key, .int .i64 l0, .int .i64 l1, .int .i64 l2, .int .u64 l3, .bool true] 57))
        have X5 := Aside0.mk (blk_new wr (.cells #[.string key, .int .i64 l0, .int .i64 l1, .int .i64 l2, .int .u64 l3, .bool true] 57))
        have HXO := Aside0.mk (fun ha : A wr.heap.size => Nat.lt_irrefl _ (HD.out.2.1 _ ha))
        have F5 := Aside0.mk (HF.out.alloc (.cells #[.string key, .int .i64 l0, .int .i64 l1, .int .i64 l2, .int .u64 l3, .bool true] 57))
        generalize dl T i0 t = X at HXL h4 H45 HD5 HGAP1 HH ⊢
        obtain ⟨r0, r1, r2, r3, r4, r5⟩ := dir_slot H45.out jj (by rw [HXL.out]; exact hjj)
        obtain ⟨d0, d1, dr⟩ := cells2d H35.out
        have fz0 := FZ.out (jj * 6)
        have fz1 := FZ.out (jj * 6 + 1)
        have fz2 := FZ.out (jj * 6 + 2)
        have fz3 := FZ.out (jj * 6 + 3)
        have fz4 := FZ.out (jj * 6 + 4)
        have fz5 := FZ.out (jj * 6 + 5)
        clear HD HF h3 h4 FZ
        obtain ⟨bx, hbx⟩ : ∃ bx, wr.heap.size = bx := ⟨_, rfl⟩
        rw [hbx] at X5 HXO
        have HBX := Aside0.mk hbx
        go_upto_region 10 with (fail)
        try rw [hbx]
        clear hbx
        generalize wr.alloc (.cells #[.string key, .int .i64 l0, .int .i64 l1, .int .i64 l2, .int .u64 l3, .bool true] 57) = w4 at H35 H45 HD5 X5 F5 d0 d1 dr r0 r1 r2 r3 r4 r5 fz0 fz1 fz2 fz3 fz4 fz5 ⊢
        clear q0 q1 q2 q3 q4 q5 c0 c1 fr HBX
        go_upto_region 11 with (fail)
        have HSET := Aside0.mk (show DirAt ((((((w4.setCell ⟨g, jj * 6, none⟩ (.string ⟨#[]⟩)).setCell ⟨g, jj * 6 + 1, none⟩ (.int .i64 0)).setCell ⟨g, jj * 6 + 2, none⟩ (.int .i64 0)).setCell ⟨g, jj * 6 + 3, none⟩ (.int .i64 0)).setCell ⟨g, jj * 6 + 4, none⟩ (.int .u64 0)).setCell ⟨g, jj * 6 + 5, none⟩ (.bool false)) A p (X.set jj zS) many' ∧ Frm A w4 ((((((w4.setCell ⟨g, jj * 6, none⟩ (.string ⟨#[]⟩)).setCell ⟨g, jj * 6 + 1, none⟩ (.int .i64 0)).setCell ⟨g, jj * 6 + 2, none⟩ (.int .i64 0)).setCell ⟨g, jj * 6 + 3, none⟩ (.int .i64 0)).setCell ⟨g, jj * 6 + 4, none⟩ (.int .u64 0)).setCell ⟨g, jj * 6 + 5, none⟩ (.bool false)) from dir_set (many := many') HD5.out.1 HD5.out.2.1 (by rw [HXL.out]; exact H35.out) (by have h := H45.out; rwa [← HXL.out] at h) jj (by rw [HXL.out]; exact hjj) zS)
        have XB := Aside0.mk (HSET.out.2.keeps X5.out HXO.out)
        have F6 := Aside0.mk (F5.out.andThen HSET.out.2 (fun i hi => Or.inl hi))
        have D6 := Aside0.mk HSET.out.1
        clear HSET X5 F5 HD5 H35 H45 d0 d1 dr r0 r1 r2 r3 r4 r5 fz0 fz1 fz2 fz3 fz4 fz5
        generalize ((((((w4.setCell ⟨g, jj * 6, none⟩ (.string ⟨#[]⟩)).setCell ⟨g, jj * 6 + 1, none⟩ (.int .i64 0)).setCell ⟨g, jj * 6 + 2, none⟩ (.int .i64 0)).setCell ⟨g, jj * 6 + 3, none⟩ (.int .i64 0)).setCell ⟨g, jj * 6 + 4, none⟩ (.int .u64 0)).setCell ⟨g, jj * 6 + 5, none⟩ (.bool false)) = w5 at XB F6 D6 ⊢
        have hYL : (X.set jj zS).length = T.length := by rw [List.length_set]; exact HXL.out
        obtain ⟨g5, c5, h3, h4⟩ := D6.out.form (by rw [hYL]; exact HP0.out)
        rw [hYL] at h3 h4
        have H36 := Aside0.mk h3
        have H46 := Aside0.mk h4
        have HYL := Aside0.mk hYL
        clear h3 h4 hYL
        have HFI := Aside0.mk (fun W (hW : Below w5.heap.size w5 W) => dir_find.calls W A p (X.set jj zS) many' (D6.out.below hW) j hj (HYL.out.trans HT.out) (by rw [HYL.out, occ_set_z (by rw [HXL.out]; exact hjj)]; exact HGAP1.out) key HKEY.out)
        rw [HYL.out] at HFI
        have hip : fnd (occ (X.set jj zS)) T.length (hmK T.length key) key < T.length := fnd_lt HP0.out
        obtain ⟨ip, hipe⟩ : ∃ ip, fnd (occ (X.set jj zS)) T.length (hmK T.length key) key = ip := ⟨_, rfl⟩
        rw [hipe] at hip HH HFI
        clear hipe
        have p0 : 0 ≤ (ip : Int) := by omega
        have p1 : (ip : Int) < (T.length : Int) := by omega
        refine region_draw (n := 11) (S := fun W => Below w5.heap.size w5 W) (ds := [10]) #[false, false, false, false, false, false, false, false, false, false, false] (by kernel_rfl) rfl rfl (fun W => Below w5.heap.size w5 W) ((Below.refl _ _).drew) (fun W h => h) ?_
        rintro ws hws
        refine with_tabW del11tab del11bits (fun HT_ HW_ => ?_)
        have BS := Aside0.mk hws
        clear hws
        refine pure_ (i := 0) (N := some 61) (v := ?_) (a' := ?_) #[true, false, false, false, false, false, false, false, false, false, false] rfl rfl (any_of HT_.out (by kernel_rfl)) (fun _ _ _ h => h) (Or.inl ⟨by rfl, ?_⟩) ?_ ?_
        rotate_left
        · intro w'
          go_simp
          with_reducible rfl
        rotate_left
        · simp only [Act.put, List.setIfInBounds_toArray, List.set_cons_zero, List.set_cons_succ, i64_w, i32_w]
          rfl
        refine pure_ (i := 1) (N := some 62) (v := ?_) (a' := ?_) #[true, true, false, false, false, false, false, false, false, false, false] rfl rfl (any_of HT_.out (by kernel_rfl)) (fun _ _ _ h => h) (Or.inl ⟨by rfl, ?_⟩) ?_ ?_
        rotate_left
        · intro w'
          go_simp
          with_reducible rfl
        rotate_left
        · simp only [Act.put, List.setIfInBounds_toArray, List.set_cons_zero, List.set_cons_succ, i64_w, i32_w]
          rfl
        refine pure_ (i := 2) (N := some 63) (v := ?_) (a' := ?_) #[true, true, true, false, false, false, false, false, false, false, false] rfl rfl (any_of HT_.out (by kernel_rfl)) (fun _ _ _ h => h) (Or.inl ⟨by rfl, ?_⟩) ?_ ?_
        rotate_left
        · intro w'
          go_simp
          with_reducible rfl
        rotate_left
        · simp only [Act.put, List.setIfInBounds_toArray, List.set_cons_zero, List.set_cons_succ, i64_w, i32_w]
          rfl
        refine take_ (i := 3) (N := some 64) (v := ?_) (a' := ?_) #[true, true, true, true, false, false, false, false, false, false, false] rfl rfl (take_ofW HT_.out HW_.out (by kernel_rfl)) (fun _ _ _ h => h) (Or.inl ⟨by rfl, ?_⟩) BS.out ?_ ?_
        rotate_left
        · intro w' hW
          obtain ⟨d0, d1, dr⟩ := cells2d (blk_below H36.out hW)
          go_simp
          with_reducible rfl
        rotate_left
        · simp only [Act.put, List.setIfInBounds_toArray, List.set_cons_zero, List.set_cons_succ, i64_w, i32_w]
          rfl
        refine pure_ (i := 4) (N := some 65) (v := ?_) (a' := ?_) #[true, true, true, true, true, false, false, false, false, false, false] rfl rfl (any_of HT_.out (by kernel_rfl)) (fun _ _ _ h => h) (Or.inl ⟨by rfl, ?_⟩) ?_ ?_
        rotate_left
        · intro w'
          go_simp
          with_reducible rfl
        rotate_left
        · simp only [Act.put, List.setIfInBounds_toArray, List.set_cons_zero, List.set_cons_succ, i64_w, i32_w]
          rfl
        refine pure_ (i := 5) (N := some 66) (v := ?_) (a' := ?_) #[true, true, true, true, true, true, false, false, false, false, false] rfl rfl (any_of HT_.out (by kernel_rfl)) (fun _ _ _ h => h) (Or.inl ⟨by rfl, ?_⟩) ?_ ?_
        rotate_left
        · intro w'
          go_simp
          with_reducible rfl
        rotate_left
        · simp only [Act.put, List.setIfInBounds_toArray, List.set_cons_zero, List.set_cons_succ, i64_w, i32_w]
          rfl
        refine take_ (i := 6) (N := some 67) (v := ?_) (a' := ?_) #[true, true, true, true, true, true, true, false, false, false, false] rfl rfl (take_ofW HT_.out HW_.out (by kernel_rfl)) (fun _ _ _ h => h) (Or.inl ⟨by rfl, ?_⟩) BS.out ?_ ?_
        rotate_left
        · intro w' hW
          obtain ⟨b0, b1, b2, b3, b4, b5, br⟩ := cells6d (blk_below XB.out hW)
          go_simp
          with_reducible rfl
        rotate_left
        · simp only [Act.put, List.setIfInBounds_toArray, List.set_cons_zero, List.set_cons_succ, i64_w, i32_w]
          rfl
        refine take_ (i := 8) (N := some 69) (v := ?_) (a' := ?_) #[true, true, true, true, true, true, true, false, true, false, false] rfl rfl (take_ofW HT_.out HW_.out (by kernel_rfl)) (fun _ _ _ h => h) (Or.inl ⟨by rfl, ?_⟩) BS.out ?_ ?_
        rotate_left
        · intro w' hW
          obtain ⟨b0, b1, b2, b3, b4, b5, br⟩ := cells6d (blk_below XB.out hW)
          go_simp
          with_reducible rfl
        rotate_left
        · simp only [Act.put, List.setIfInBounds_toArray, List.set_cons_zero, List.set_cons_succ, i64_w, i32_w]
          rfl
        refine one_ (i := 7) (N := some 68) #[true, true, true, true, true, true, true, true, true, false, false] rfl rfl (one_of HT_.out (by kernel_rfl)) (by decide) (fun K hK => ?_)
        refine goes_ Try.func23 (by kernel_rfl) rfl #[.pointer (some ⟨p, 0, none⟩), .string key] (by rfl) rfl rfl (by (try simp only [List.map_toArray, List.map_cons, List.map_nil]); first | done | rfl) ?_
        refine (HFI.out ws BS.out).mono ?_
        rintro e w6 ⟨rfl, b6⟩
        refine ⟨_, rfl, ?_⟩
        have B6 := Aside0.mk (BS.out.trans (b6.mono BS.out.size))
        clear b6
        refine hK.out _ _ B6.out (fun _ => ?_)
        clear hK K
        refine norm_ (a' := ?_) ?_ ?_
        rotate_left
        · show Act.put _ (some 68) _ = _
          simp only [Act.put, List.setIfInBounds_toArray, List.set_cons_zero, List.set_cons_succ, i64_w, i32_w]
          rfl
        refine pure_ (i := 9) (N := some 70) (v := ?_) (a' := ?_) #[true, true, true, true, true, true, true, true, true, true, false] rfl rfl (any_of HT_.out (by kernel_rfl)) (fun _ _ _ h => h) (Or.inl ⟨by rfl, ?_⟩) ?_ ?_
        rotate_left
        · intro w'
          go_simp
          with_reducible rfl
        rotate_left
        · simp only [Act.put, List.setIfInBounds_toArray, List.set_cons_zero, List.set_cons_succ, i64_w, i32_w]
          rfl
        refine last_ (i := 10) (N := none) #[true, true, true, true, true, true, true, true, true, true, true] rfl rfl (one_of HT_.out (by kernel_rfl)) (by decide) (fun K hK => ?_)
        obtain ⟨t0, t1, t2, t3, t4, t5⟩ := dir_slot (Kd.R_below H46.out B6.out) ip (by rw [HYL.out]; exact hip)
        have gz0 := dir_frozen (Kd.R_below H46.out B6.out) (ip * 6)
        have gz1 := dir_frozen (Kd.R_below H46.out B6.out) (ip * 6 + 1)
        have gz2 := dir_frozen (Kd.R_below H46.out B6.out) (ip * 6 + 2)
        have gz3 := dir_frozen (Kd.R_below H46.out B6.out) (ip * 6 + 3)
        have gz4 := dir_frozen (Kd.R_below H46.out B6.out) (ip * 6 + 4)
        have gz5 := dir_frozen (Kd.R_below H46.out B6.out) (ip * 6 + 5)
        refine skip_ (w1 := ?_) (by rfl) rfl ?_ ?_
        rotate_left
        · go_simp
          rfl
        refine hK.out _ _ ?_
        clear hK K
        refine done_ (done_of HT_.out (by kernel_rfl)) ?_
        have HSET := Aside0.mk (show DirAt ((((((w6.setCell ⟨g5, ip * 6, none⟩ (.string key)).setCell ⟨g5, ip * 6 + 1, none⟩ (.int .i64 l0)).setCell ⟨g5, ip * 6 + 2, none⟩ (.int .i64 l1)).setCell ⟨g5, ip * 6 + 3, none⟩ (.int .i64 l2)).setCell ⟨g5, ip * 6 + 4, none⟩ (.int .u64 l3)).setCell ⟨g5, ip * 6 + 5, none⟩ (.bool true)) A p ((X.set jj zS).set ip (key, (l0, l1, l2, l3), true)) many' ∧ Frm A w6 ((((((w6.setCell ⟨g5, ip * 6, none⟩ (.string key)).setCell ⟨g5, ip * 6 + 1, none⟩ (.int .i64 l0)).setCell ⟨g5, ip * 6 + 2, none⟩ (.int .i64 l1)).setCell ⟨g5, ip * 6 + 3, none⟩ (.int .i64 l2)).setCell ⟨g5, ip * 6 + 4, none⟩ (.int .u64 l3)).setCell ⟨g5, ip * 6 + 5, none⟩ (.bool true)) from dir_set (many := many') (D6.out.below B6.out).1 (D6.out.below B6.out).2.1 (by rw [HYL.out]; exact blk_below H36.out B6.out) (by have h := Kd.R_below H46.out B6.out; rwa [← HYL.out] at h) ip (by rw [HYL.out]; exact hip) (key, (l0, l1, l2, l3), true))
        have F7 := Aside0.mk ((F6.out.andThen (Frm.of_new (S := A) B6.out) (fun i hi => Or.inl hi)).andThen HSET.out.2 (fun i hi => Or.inl hi))
        have D7 := Aside0.mk HSET.out.1
        rw [← HH.out] at D7
        clear HSET t0 t1 t2 t3 t4 t5 gz0 gz1 gz2 gz3 gz4 gz5
        generalize ((((((w6.setCell ⟨g5, ip * 6, none⟩ (.string key)).setCell ⟨g5, ip * 6 + 1, none⟩ (.int .i64 l0)).setCell ⟨g5, ip * 6 + 2, none⟩ (.int .i64 l1)).setCell ⟨g5, ip * 6 + 3, none⟩ (.int .i64 l2)).setCell ⟨g5, ip * 6 + 4, none⟩ (.int .u64 l3)).setCell ⟨g5, ip * 6 + 5, none⟩ (.bool true)) = w7 at F7 D7 ⊢
        go_wp2_with fail
        refine (dir_next.calls w7 A p (dl T i0 (t + 1)) many' D7.out j hj ((dl_length T i0 (t + 1)).trans HT.out) jj (by rw [dl_length]; exact hjj)).mono ?_
        rintro e w8 ⟨rfl, hw⟩
        subst hw
        rw [dl_length, HWN.out]
        go_wp2_with fail
        go_roundw
        case rel => exact ⟨t + 1, by omega, rfl, D7, F7⟩
        case measure =>
          have h7 := walk_dist (n := T.length) (h := i0) (d := t + 1 + 1) hi (by have := HM1.out; omega)
          have h9 := HWD.out
          have hI : ∀ z : Int, intOf (Value.int .i64 z) = z := fun z => rfl
          show T.length - ((intOf (Value.int .i64 (((i0 + (t + 1 + 1)) % T.length : Nat) : Int))).toNat + T.length - i0) % T.length < T.length - ((intOf (Value.int .i64 (jj : Int))).toNat + T.length - i0) % T.length
          rw [hI, hI, Int.toNat_natCast, Int.toNat_natCast, h7, h9]
          have := HM1.out
          omega
      · have he : t + 1 = m := by omega
        have his : is = false := by
          have h5 := HTAIL.out he
          rw [HOC.out] at h5
          cases is with
          | false => rfl
          | true => rw [if_pos rfl] at h5; cases h5
        subst his
        have HTM := Aside0.mk (show t = m - 1 by omega)
        clear he hlt
        go_wp2_with fail
        go_ret
        refine Or.inr ⟨HKK.out, rfl, m, HRUN.out, ?_, HF.out⟩
        rw [← HTM.out, HMNE.out]
        exact HD.out
end Go.Proofs.Ytcpjfpbfopkngaa.Thw
