/- Layer 10: grow. -/
import Derived.Test.YtcpjfpbfopkngaaEv10f
namespace Go.Proofs.Ytcpjfpbfopkngaa.Thw
open Go Go.RowKit Go.Proofs.YtcpjfpbfopkngaaW.PrintWords Go.Proofs.YtcpjfpbfopkngaaW.PrintLast Go.Proofs.YtcpjfpbfopkngaaW.PrintMore
set_option linter.unusedVariables false
set_option linter.unusedSimpArgs false
/-- A slot is laid at the first empty place from its home on. -/
def lay (U : List Slt) (s : Slt) : List Slt := U.set (fnd (occ U) U.length (hmK U.length s.1) s.1) s
def layAll (n : Nat) (L : List Slt) : List Slt := L.foldl lay (List.replicate n zS)
theorem lay_length (U : List Slt) (s : Slt) : (lay U s).length = U.length := List.length_set
theorem foldl_lay_length : ∀ (L U : List Slt), (L.foldl lay U).length = U.length
  | [], _ => rfl
  | s :: L, U => by rw [List.foldl_cons, foldl_lay_length L, lay_length]
theorem layAll_length (n : Nat) (L : List Slt) : (layAll n L).length = n := by unfold layAll; rw [foldl_lay_length, List.length_replicate]
theorem layAll_take (n : Nat) (L : List Slt) (i : Nat) (hi : i < L.length) : layAll n (L.take (i + 1)) = lay (layAll n (L.take i)) L[i] := by
  unfold layAll
  rw [List.take_succ_eq_append_getElem hi, List.foldl_append]
  rfl
def cnt (U : List Slt) : Nat := (U.filter fun x => !gn x).length
theorem cnt_set : ∀ (U : List Slt) (i : Nat) (s : Slt), cnt (U.set i s) ≤ cnt U + 1
  | [], i, s => by simp [cnt]
  | x :: U, 0, s => by
    unfold cnt
    rw [List.set_cons_zero, List.filter_cons, List.filter_cons]
    split <;> split <;> simp <;> omega
  | x :: U, i + 1, s => by
    have h := cnt_set U i s
    unfold cnt at *
    rw [List.set_cons_succ, List.filter_cons, List.filter_cons]
    split <;> simp <;> omega
theorem cnt_zero (n : Nat) : cnt (List.replicate n zS) = 0 := by
  unfold cnt
  rw [List.length_eq_zero_iff, List.filter_eq_nil_iff]
  intro x hx
  rw [List.eq_of_mem_replicate hx]
  decide
theorem cnt_foldl : ∀ (L U : List Slt), cnt (L.foldl lay U) ≤ cnt U + L.length
  | [], U => by simp
  | s :: L, U => by
    have h := cnt_foldl L (lay U s)
    have h2 : cnt (lay U s) ≤ cnt U + 1 := cnt_set _ _ _
    rw [List.foldl_cons, List.length_cons]
    omega
theorem cnt_layAll (n : Nat) (L : List Slt) : cnt (layAll n L) ≤ L.length := by
  have h := cnt_foldl L (List.replicate n zS)
  rw [cnt_zero] at h
  unfold layAll
  omega
theorem gap_of_cnt {T : List Slt} (h : cnt T < T.length) : Gap (occ T) T.length := by
  apply Classical.byContradiction
  intro hn
  have : T.filter (fun x => !gn x) = T := by
    rw [List.filter_eq_self]
    intro x hx
    obtain ⟨i, hi, rfl⟩ := List.getElem_of_mem hx
    cases hb : T[i].2.2 with
    | true => unfold gn; rw [hb]; rfl
    | false => exact absurd ⟨i, hi, by rw [occ_at hi, if_neg (by rw [hb]; simp)]⟩ hn
  unfold cnt at h
  rw [this] at h
  omega
theorem dir_remade {w : World} {A : Nat → Prop} {p : Nat} {T U : List Slt} {many : Int} {B : Nat} {v : Value} (h : DirAt w A p T many) (hR : Kd.R kS 57 w B (fun _ => True) v U) (hB : ∀ k, A k → k < B) :
    DirAt (w.setCell ⟨p, 0, none⟩ v) (fun k => A k ∨ (B ≤ k ∧ k < w.heap.size)) p U many ∧ Frm A w (w.setCell ⟨p, 0, none⟩ v) := by
  obtain ⟨h1, h2, v0, h3, h4⟩ := h
  refine ⟨⟨Or.inl h1, fun k hk => ?_, v, by simpa using blk_set h3 0 v, ?_⟩, (Frm.refl _ _).setCell (Or.inl h1) _⟩
  · rcases hk with hk | hk
    · have := h2 k hk; simpa [World.setCell] using this
    · simpa [World.setCell] using hk.2
  · have h5 := Kd.R_lower (Kd.R_mono (Kd.R_bound hR) (ok' := fun k => B ≤ k ∧ k < w.heap.size) (fun k hk => ⟨hk.2.1, hk.2.2.1⟩)) (Nat.zero_le _)
    have h6 := Kd.R_far h5 (p := ⟨p, 0, none⟩) (fun k hk => by have := hB p h1; show k ≠ p; omega) v
    exact Kd.R_mono h6 (fun k hk => ⟨Or.inr hk, by have := hB p h1; omega⟩)
def GrowPost (w : World) (A : Nat → Prop) (p : Nat) (T : List Slt) (many : Int) (e : Ending) (w' : World) : Prop :=
  e = .returned (.tuple #[]) ∧ ∃ (L : List Slt) (A' : Nat → Prop), Ris T L ∧ DirAt w' A' p (layAll (2 * T.length) L) many ∧ Frm A w w' ∧ ∀ k, A' k → A k ∨ w.heap.size ≤ k
theorem ris_mem {T L : List Slt} (h : Ris T L) {s : Slt} (hs : s ∈ L) : s ∈ T ∧ s.2.2 = true := by
  have h1 := h.1.mem_iff.1 hs
  rw [List.mem_filter] at h1
  exact ⟨h1.1, by simpa [gn] using h1.2⟩
def grow5T : Bool × List (List Nat × List Nat) := (true, [([], []), ([0], [0]), ([1], [1]), ([2], [2]), ([], []), ([], []), ([5], [5]), ([4, 6], [4, 6]), ([], []), ([3, 7, 0, 1, 2, 3, 4, 5, 6, 7, 8], [3, 7]), ([9, 8, 7, 0, 1, 2, 3, 4, 5, 6, 7, 8], [8, 9])])
def grow5B : List Nat := [0, 1, 3, 7, 0, 0, 32, 112, 0, 511, 1023]
theorem grow5tab : rtab .any (opsOf Try.f24 5) = grow5T := by kernel_rfl
theorem grow5bits : waitsOk grow5T.2 grow5B = true := by kernel_rfl
set_option maxHeartbeats 12800000 in
set_option maxRecDepth 100000 in
theorem dir_grow.calls (w : World) (A : Nat → Prop) (p : Nat) (T : List Slt) (many : Int) (h : DirAt w A p T many) (j : Nat) (hj : j ≤ 18) (hT : T.length = 2 ^ j) (hks : ∀ s ∈ T, s.1.size ≤ 4611686018427387904) :
    Calls Try.prog 24 #[.pointer (some ⟨p, 0, none⟩)] w (GrowPost w A p T many) := by
  have hn : T.length ≤ 262144 := by rw [hT]; exact Nat.pow_le_pow_right (n := 2) (by decide) hj
  have hp0 : 0 < T.length := by rw [hT]; exact Nat.two_pow_pos j
  have H := Aside0.mk h
  have HN := Aside0.mk (And.intro hp0 hn)
  have HT := Aside0.mk hT
  have HKS := Aside0.mk hks
  have HRI := Aside0.mk (dir_rising.calls w A p T many h (by omega))
  have HW := Aside0.mk (show wrap64 (2 * (T.length : Int)) = ((2 * T.length : Nat) : Int) by rw [wrap64_in (by omega) (by omega)]; omega)
  clear h hT hks hp0 hn
  go_enter Try.func24, Try.ntmps24
  go_wp2_with fail
  refine HRI.out.mono ?_
  rintro e w1 ⟨A1, c1, L, rfl, r1, s1, b1⟩
  have R1 := Aside0.mk r1
  have S1 := Aside0.mk s1
  have B1 := Aside0.mk b1
  have D1 := Aside0.mk (H.out.below b1)
  clear r1 s1 b1 HRI
  obtain ⟨g, c, h3, h4⟩ := D1.out.form HN.out.1
  obtain ⟨c0, c1', fr⟩ := cells2d h3
  have H3 := Aside0.mk h3
  clear h3 h4
  go_wp2_with ((with_reducible refine gate_dst (N := 14) rfl ?_); refine Kd.R_make kS (w0 := w1) w1.heap.size 57 rfl (N := 14) rfl 52 _ _ rfl (wrap64 (2 * (T.length : Int))) rfl rfl Try.underlying52 (.agg #[.string ⟨#[]⟩, .int .i64 0, .int .i64 0, .int .i64 0, .int .u64 0, .bool false]) 56 infoS rfl (by decide) (by decide) zS (ok := fun _ => True) (okp := fun _ => False) ?aM (fun _ x => x.elim) trivial ?a0 ?aL (Below.refl _ _) (Nat.le_refl _) ?_; (case aM => exact kS_M _ _ _ zS); (case a0 => rw [HW.out]; omega); (case aL => rw [HW.out]; have := HN.out.2; omega); intro v1 w3 hR3 hB3 hg3 hv3; clear hg3 hv3; rw [HW.out, Int.toNat_natCast] at hR3; obtain ⟨A3, c3, rfl⟩ := Kd.R_slice hR3; obtain ⟨n8, hn8⟩ : ∃ n_ : Nat, (List.replicate (2 * T.length) zS).length = n_ := ⟨_, rfl⟩; rw [hn8] at hR3 ⊢; have HN8 := Aside0.mk hn8; have HR3 := Aside0.mk hR3; have HB3 := Aside0.mk hB3; clear hR3 hB3 hn8 c0 c1' fr; obtain ⟨c0, c1', fr⟩ := cells2d (blk_below H3.out HB3.out))

  have HD4 := Aside0.mk (dir_remade (D1.out.below HB3.out) HR3.out D1.out.2.1)
  obtain ⟨A', hA'⟩ : ∃ A' : Nat → Prop, A' = (fun k => A k ∨ (w1.heap.size ≤ k ∧ k < w3.heap.size)) := ⟨_, rfl⟩
  rw [← hA'] at HD4
  have HAA := Aside0.mk (show ∀ k, A' k → A k ∨ w.heap.size ≤ k by
    intro k hk
    rw [hA'] at hk
    rcases hk with hk | hk
    · exact Or.inl hk
    · exact Or.inr (Nat.le_trans B1.out.size hk.1))
  have HAR := Aside0.mk (show ∀ k, A' k → ¬ (w.heap.size ≤ k ∧ k < w1.heap.size) by
    intro k hk hr
    rw [hA'] at hk
    rcases hk with hk | hk
    · have := H.out.2.1 k hk; omega
    · omega)
  have R4 := Aside0.mk (Kd.R_far (Kd.R_below (Kd.R_lower (Kd.R_mono (Kd.R_bound R1.out) (ok' := fun k => w.heap.size ≤ k ∧ k < w1.heap.size) (fun k hk => ⟨hk.2.1, hk.2.2.1⟩)) (Nat.zero_le _)) HB3.out) (p := ⟨p, 0, none⟩) (fun k hk => by have := H.out.2.1 p H.out.1; show k ≠ p; omega) (.slice A3 n8 c3))
  have F4 := Aside0.mk (((Frm.of_new (S := A) B1.out).andThen (Frm.of_new (S := A) HB3.out) (fun i hi => Or.inl hi)).andThen HD4.out.2 (fun i hi => Or.inl hi))
  have D4 := Aside0.mk HD4.out.1
  have HLL := Aside0.mk (show L.length ≤ T.length from Ris.length S1.out)
  clear hA' HD4 HR3 HB3 D1 B1 R1 H3 c0 c1' fr HN8
  generalize w3.setCell ⟨p, 0, none⟩ (.slice A3 n8 c3) = w4 at D4 F4 R4 ⊢
  go_loopw [19] (fun v19 wr => ∃ i : Nat, i ≤ L.length ∧ v19 = .int .i64 i ∧ Aside0 (DirAt wr A' p (layAll (2 * T.length) (L.take i)) many) ∧ Aside0 (Kd.R kS 57 wr 0 (fun k => w.heap.size ≤ k ∧ k < w1.heap.size) (.slice A1 L.length c1) L) ∧ Aside0 (Frm A w wr)) (fun v19 _ => L.length - (intOf v19).toNat)
  case atStart => exact ⟨0, Nat.zero_le _, rfl, D4, R4, F4⟩
  case round =>
    clear D4 F4 R4
    obtain ⟨i, hi, rfl, HD, HR, HF⟩ := hrel
    by_cases hlt : i < L.length
    · have hlb : L.length ≤ 262144 := Nat.le_trans HLL.out HN.out.2
      have d1 : decide ((i : Int) < (L.length : Int)) = true := decide_eq_true (by omega)
      obtain ⟨ad, e, q0, q1, q2, q3, q4, q5⟩ := C_slAt (Kd.R_reads' HR.out).2.2 hlt
      cases e
      have HTK := Aside0.mk (layAll_take (2 * T.length) L i hlt)
      have HKEY := Aside0.mk (HKS.out _ (ris_mem S1.out (List.getElem_mem hlt)).1)
      have HUL := Aside0.mk (layAll_length (2 * T.length) (L.take i))
      have HGAP := Aside0.mk (gap_of_cnt (T := layAll (2 * T.length) (L.take i)) (by
        rw [layAll_length]
        have h1 := cnt_layAll (2 * T.length) (L.take i)
        rw [List.length_take] at h1
        have h2 := HLL.out
        have h3 := HN.out.1
        omega))
      generalize L[i] = s at q0 q1 q2 q3 q4 q5 HTK HKEY
      obtain ⟨key, ⟨l0, l1, l2, l3⟩, is⟩ := s
      simp only at q0 q1 q2 q3 q4 q5 HKEY
      generalize layAll (2 * T.length) (L.take i) = U at HD HTK HUL HGAP ⊢
      have HTWO := Aside0.mk (show U.length = 2 ^ (j + 1) by rw [HUL.out, HT.out, Nat.pow_succ, Nat.mul_comm])
      have HNU := Aside0.mk (show 0 < U.length by rw [HTWO.out]; exact Nat.two_pow_pos _)
      obtain ⟨g5, c5, h3, h4⟩ := HD.out.form HNU.out
      have H35 := Aside0.mk (blk_alloc h3 (.cells #[.string key, .int .i64 l0, .int .i64 l1, .int .i64 l2, .int .u64 l3, .bool is] 57))
      have H45 := Aside0.mk (Kd.R_alloc h4 (.cells #[.string key, .int .i64 l0, .int .i64 l1, .int .i64 l2, .int .u64 l3, .bool is] 57))
      have XB := Aside0.mk (blk_new wr (.cells #[.string key, .int .i64 l0, .int .i64 l1, .int .i64 l2, .int .u64 l3, .bool is] 57))
      have D5 := Aside0.mk (HD.out.below (below_alloc (Below.refl _ _) (.cells #[.string key, .int .i64 l0, .int .i64 l1, .int .i64 l2, .int .u64 l3, .bool is] 57)))
      have R5 := Aside0.mk (Kd.R_alloc HR.out (.cells #[.string key, .int .i64 l0, .int .i64 l1, .int .i64 l2, .int .u64 l3, .bool is] 57))
      have F5 := Aside0.mk (HF.out.alloc (.cells #[.string key, .int .i64 l0, .int .i64 l1, .int .i64 l2, .int .u64 l3, .bool is] 57))
      have i0 : 0 ≤ (i : Int) := by omega
      have i1 : (i : Int) < (L.length : Int) := by omega
      clear h3 h4 HD HR HF
      go_upto_region 5 with (fail)
      obtain ⟨bx, hbx⟩ : ∃ bx, wr.heap.size = bx := ⟨_, rfl⟩
      rw [hbx] at XB ⊢
      clear hbx q0 q1 q2 q3 q4 q5
      generalize wr.alloc (.cells #[.string key, .int .i64 l0, .int .i64 l1, .int .i64 l2, .int .u64 l3, .bool is] 57) = w5 at XB H35 H45 D5 R5 F5 ⊢
      have HFI := Aside0.mk (fun W (hW : Below w5.heap.size w5 W) => dir_find.calls W A' p U many (D5.out.below hW) (j + 1) (by omega) HTWO.out HGAP.out key HKEY.out)
      have hip : fnd (occ U) U.length (hmK U.length key) key < U.length := fnd_lt HNU.out
      have HLY := Aside0.mk (show lay U (key, (l0, l1, l2, l3), is) = U.set (fnd (occ U) U.length (hmK U.length key) key) (key, (l0, l1, l2, l3), is) from rfl)
      obtain ⟨ip, hipe⟩ : ∃ ip, fnd (occ U) U.length (hmK U.length key) key = ip := ⟨_, rfl⟩
      rw [hipe] at hip HFI HLY
      clear hipe
      have p0 : 0 ≤ (ip : Int) := by omega
      have p1 : (ip : Int) < (U.length : Int) := by omega
      refine region_draw (n := 11) (S := fun W => Below w5.heap.size w5 W) (ds := [10]) #[false, false, false, false, false, false, false, false, false, false, false] (by kernel_rfl) rfl rfl (fun W => Below w5.heap.size w5 W) ((Below.refl _ _).drew) (fun W h => h) ?_
      rintro ws hws
      refine with_tabW grow5tab grow5bits (fun HT_ HW_ => ?_)
      have BS := Aside0.mk hws
      clear hws
      refine pure_ (i := 0) (N := some 23) (v := ?_) (a' := ?_) #[true, false, false, false, false, false, false, false, false, false, false] rfl rfl (any_of HT_.out (by kernel_rfl)) (fun _ _ _ h => h) (Or.inl ⟨by rfl, ?_⟩) ?_ ?_
      rotate_left
      · intro w'
        go_simp
        with_reducible rfl
      rotate_left
      · simp only [Act.put, List.setIfInBounds_toArray, List.set_cons_zero, List.set_cons_succ, i64_w, i32_w]
        rfl
      refine pure_ (i := 1) (N := some 24) (v := ?_) (a' := ?_) #[true, true, false, false, false, false, false, false, false, false, false] rfl rfl (any_of HT_.out (by kernel_rfl)) (fun _ _ _ h => h) (Or.inl ⟨by rfl, ?_⟩) ?_ ?_
      rotate_left
      · intro w'
        go_simp
        with_reducible rfl
      rotate_left
      · simp only [Act.put, List.setIfInBounds_toArray, List.set_cons_zero, List.set_cons_succ, i64_w, i32_w]
        rfl
      refine pure_ (i := 2) (N := some 25) (v := ?_) (a' := ?_) #[true, true, true, false, false, false, false, false, false, false, false] rfl rfl (any_of HT_.out (by kernel_rfl)) (fun _ _ _ h => h) (Or.inl ⟨by rfl, ?_⟩) ?_ ?_
      rotate_left
      · intro w'
        go_simp
        with_reducible rfl
      rotate_left
      · simp only [Act.put, List.setIfInBounds_toArray, List.set_cons_zero, List.set_cons_succ, i64_w, i32_w]
        rfl
      refine take_ (i := 3) (N := some 26) (v := ?_) (a' := ?_) #[true, true, true, true, false, false, false, false, false, false, false] rfl rfl (take_ofW HT_.out HW_.out (by kernel_rfl)) (fun _ _ _ h => h) (Or.inl ⟨by rfl, ?_⟩) BS.out ?_ ?_
      rotate_left
      · intro w' hW
        obtain ⟨d0, d1, dr⟩ := cells2d (blk_below H35.out hW)
        go_simp
        with_reducible rfl
      rotate_left
      · simp only [Act.put, List.setIfInBounds_toArray, List.set_cons_zero, List.set_cons_succ, i64_w, i32_w]
        rfl
      refine pure_ (i := 4) (N := some 27) (v := ?_) (a' := ?_) #[true, true, true, true, true, false, false, false, false, false, false] rfl rfl (any_of HT_.out (by kernel_rfl)) (fun _ _ _ h => h) (Or.inl ⟨by rfl, ?_⟩) ?_ ?_
      rotate_left
      · intro w'
        go_simp
        with_reducible rfl
      rotate_left
      · simp only [Act.put, List.setIfInBounds_toArray, List.set_cons_zero, List.set_cons_succ, i64_w, i32_w]
        rfl
      refine pure_ (i := 5) (N := some 28) (v := ?_) (a' := ?_) #[true, true, true, true, true, true, false, false, false, false, false] rfl rfl (any_of HT_.out (by kernel_rfl)) (fun _ _ _ h => h) (Or.inl ⟨by rfl, ?_⟩) ?_ ?_
      rotate_left
      · intro w'
        go_simp
        with_reducible rfl
      rotate_left
      · simp only [Act.put, List.setIfInBounds_toArray, List.set_cons_zero, List.set_cons_succ, i64_w, i32_w]
        rfl
      refine take_ (i := 6) (N := some 29) (v := ?_) (a' := ?_) #[true, true, true, true, true, true, true, false, false, false, false] rfl rfl (take_ofW HT_.out HW_.out (by kernel_rfl)) (fun _ _ _ h => h) (Or.inl ⟨by rfl, ?_⟩) BS.out ?_ ?_
      rotate_left
      · intro w' hW
        obtain ⟨b0, b1, b2, b3, b4, b5, br⟩ := cells6d (blk_below XB.out hW)
        go_simp
        with_reducible rfl
      rotate_left
      · simp only [Act.put, List.setIfInBounds_toArray, List.set_cons_zero, List.set_cons_succ, i64_w, i32_w]
        rfl
      refine take_ (i := 8) (N := some 31) (v := ?_) (a' := ?_) #[true, true, true, true, true, true, true, false, true, false, false] rfl rfl (take_ofW HT_.out HW_.out (by kernel_rfl)) (fun _ _ _ h => h) (Or.inl ⟨by rfl, ?_⟩) BS.out ?_ ?_
      rotate_left
      · intro w' hW
        obtain ⟨b0, b1, b2, b3, b4, b5, br⟩ := cells6d (blk_below XB.out hW)
        go_simp
        with_reducible rfl
      rotate_left
      · simp only [Act.put, List.setIfInBounds_toArray, List.set_cons_zero, List.set_cons_succ, i64_w, i32_w]
        rfl
      refine one_ (i := 7) (N := some 30) #[true, true, true, true, true, true, true, true, true, false, false] rfl rfl (one_of HT_.out (by kernel_rfl)) (by decide) (fun K hK => ?_)
      refine goes_ Try.func23 (by kernel_rfl) rfl #[.pointer (some ⟨p, 0, none⟩), .string key] (by rfl) rfl rfl (by (try simp only [List.map_toArray, List.map_cons, List.map_nil]); first | done | rfl) ?_
      refine (HFI.out ws BS.out).mono ?_
      rintro e w6 ⟨rfl, b6⟩
      refine ⟨_, rfl, ?_⟩
      have B6 := Aside0.mk (BS.out.trans (b6.mono BS.out.size))
      clear b6
      refine hK.out _ _ B6.out (fun _ => ?_)
      clear hK K
      refine norm_ (a' := ?_) ?_ ?_
      rotate_left
      · show Act.put _ (some 30) _ = _
        simp only [Act.put, List.setIfInBounds_toArray, List.set_cons_zero, List.set_cons_succ, i64_w, i32_w]
        rfl
      refine pure_ (i := 9) (N := some 32) (v := ?_) (a' := ?_) #[true, true, true, true, true, true, true, true, true, true, false] rfl rfl (any_of HT_.out (by kernel_rfl)) (fun _ _ _ h => h) (Or.inl ⟨by rfl, ?_⟩) ?_ ?_
      rotate_left
      · intro w'
        go_simp
        with_reducible rfl
      rotate_left
      · simp only [Act.put, List.setIfInBounds_toArray, List.set_cons_zero, List.set_cons_succ, i64_w, i32_w]
        rfl
      refine last_ (i := 10) (N := none) #[true, true, true, true, true, true, true, true, true, true, true] rfl rfl (one_of HT_.out (by kernel_rfl)) (by decide) (fun K hK => ?_)
      obtain ⟨t0, t1, t2, t3, t4, t5⟩ := dir_slot (Kd.R_below H45.out B6.out) ip hip
      have gz0 := dir_frozen (Kd.R_below H45.out B6.out) (ip * 6)
      have gz1 := dir_frozen (Kd.R_below H45.out B6.out) (ip * 6 + 1)
      have gz2 := dir_frozen (Kd.R_below H45.out B6.out) (ip * 6 + 2)
      have gz3 := dir_frozen (Kd.R_below H45.out B6.out) (ip * 6 + 3)
      have gz4 := dir_frozen (Kd.R_below H45.out B6.out) (ip * 6 + 4)
      have gz5 := dir_frozen (Kd.R_below H45.out B6.out) (ip * 6 + 5)
      refine skip_ (w1 := ?_) (by rfl) rfl ?_ ?_
      rotate_left
      · go_simp
        rfl
      refine hK.out _ _ ?_
      clear hK K
      refine done_ (done_of HT_.out (by kernel_rfl)) ?_
      have HSET := Aside0.mk (show DirAt ((((((w6.setCell ⟨g5, ip * 6, none⟩ (.string key)).setCell ⟨g5, ip * 6 + 1, none⟩ (.int .i64 l0)).setCell ⟨g5, ip * 6 + 2, none⟩ (.int .i64 l1)).setCell ⟨g5, ip * 6 + 3, none⟩ (.int .i64 l2)).setCell ⟨g5, ip * 6 + 4, none⟩ (.int .u64 l3)).setCell ⟨g5, ip * 6 + 5, none⟩ (.bool is)) A' p (U.set ip (key, (l0, l1, l2, l3), is)) many ∧ Frm A' w6 ((((((w6.setCell ⟨g5, ip * 6, none⟩ (.string key)).setCell ⟨g5, ip * 6 + 1, none⟩ (.int .i64 l0)).setCell ⟨g5, ip * 6 + 2, none⟩ (.int .i64 l1)).setCell ⟨g5, ip * 6 + 3, none⟩ (.int .i64 l2)).setCell ⟨g5, ip * 6 + 4, none⟩ (.int .u64 l3)).setCell ⟨g5, ip * 6 + 5, none⟩ (.bool is)) from dir_set (many := many) (D5.out.below B6.out).1 (D5.out.below B6.out).2.1 (blk_below H35.out B6.out) (Kd.R_below H45.out B6.out) ip hip (key, (l0, l1, l2, l3), is))
      rw [← HLY.out, ← HTK.out] at HSET
      have F7 := Aside0.mk ((F5.out.andThen (Frm.of_new (S := A) B6.out) (fun i hi => Or.inl hi)).andThen HSET.out.2 HAA.out)
      have D7 := Aside0.mk HSET.out.1
      have R7 := Aside0.mk (Kd.R_step (Kd.R_below R5.out B6.out) (fun k hk hlt => HSET.out.2.block k hlt (fun ha => HAR.out k ha hk)))
      clear HSET t0 t1 t2 t3 t4 t5 gz0 gz1 gz2 gz3 gz4 gz5
      generalize ((((((w6.setCell ⟨g5, ip * 6, none⟩ (.string key)).setCell ⟨g5, ip * 6 + 1, none⟩ (.int .i64 l0)).setCell ⟨g5, ip * 6 + 2, none⟩ (.int .i64 l1)).setCell ⟨g5, ip * 6 + 3, none⟩ (.int .i64 l2)).setCell ⟨g5, ip * 6 + 4, none⟩ (.int .u64 l3)).setCell ⟨g5, ip * 6 + 5, none⟩ (.bool is)) = w7 at F7 D7 R7 ⊢
      go_wp2_with fail
      go_roundw
      case rel => exact ⟨i + 1, by omega, by go_num, D7, R7, F7⟩
      case measure => simp [intOf]; omega
    · have d1 : decide ((i : Int) < (L.length : Int)) = false := decide_eq_false (by omega)
      have he : i = L.length := by omega
      have HTA := Aside0.mk (show L.take i = L by rw [he, List.take_length])
      clear he
      go_wp2_with fail
      go_end0
      exact ⟨rfl, L, A', S1.out, by rw [← HTA.out]; exact HD.out, HF.out, HAA.out⟩
end Go.Proofs.Ytcpjfpbfopkngaa.Thw
