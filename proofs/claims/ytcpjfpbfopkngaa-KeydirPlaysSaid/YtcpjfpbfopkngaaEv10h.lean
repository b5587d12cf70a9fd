/- Layer 10: Put. -/
import Derived.Test.YtcpjfpbfopkngaaEv10g
namespace Go.Proofs.Ytcpjfpbfopkngaa.Thw
open Go Go.RowKit Go.Proofs.YtcpjfpbfopkngaaW.PrintWords Go.Proofs.YtcpjfpbfopkngaaW.PrintLast Go.Proofs.YtcpjfpbfopkngaaW.PrintMore
set_option linter.unusedVariables false
set_option linter.unusedSimpArgs false
/-- What a Put comes to. -/
def PutTo (T : List Slt) (m : Nat) (s : Slt) (T' : List Slt) (m' : Nat) : Prop :=
  (occ T (fnd (occ T) T.length (hmK T.length s.1) s.1) = some s.1 ∧ T' = lay T s ∧ m' = m) ∨
  (occ T (fnd (occ T) T.length (hmK T.length s.1) s.1) = none ∧ m' = m + 1 ∧ ((2 * (m + 1) ≤ T.length ∧ T' = lay T s) ∨ (T.length < 2 * (m + 1) ∧ ∃ L, Ris T L ∧ T' = lay (layAll (2 * T.length) L) s)))
def PutPost (w : World) (A : Nat → Prop) (p : Nat) (T : List Slt) (m : Nat) (s : Slt) (e : Ending) (w' : World) : Prop :=
  e = .returned (.tuple #[]) ∧ ∃ (T' : List Slt) (m' : Nat) (A' : Nat → Prop), PutTo T m s T' m' ∧ DirAt w' A' p T' m' ∧ Frm A w w' ∧ ∀ k, A' k → A k ∨ w.heap.size ≤ k
def put4T : Bool × List (List Nat × List Nat) := (true, [([], []), ([0], [0]), ([1], [1]), ([2], [2]), ([3], [3]), ([], []), ([5], [5]), ([6], [6]), ([7], [7]), ([8], [8]), ([4, 9], [4, 9])])
def put4B : List Nat := [0, 1, 3, 7, 15, 0, 32, 96, 224, 480, 1023]
theorem put4tab : rtab .any (opsOf Try.f10 4) = put4T := by kernel_rfl
theorem put4bits : waitsOk put4T.2 put4B = true := by kernel_rfl
def put7T : Bool × List (List Nat × List Nat) := (true, [([], []), ([0], [0]), ([1], [1]), ([2], [2]), ([], []), ([], []), ([], []), ([5, 6], [5, 6]), ([3, 4, 0, 1, 2, 3, 4, 5, 6, 7], [3, 4]), ([8, 7, 0, 1, 2, 3, 4, 5, 6, 7], [7, 8])])
def put7B : List Nat := [0, 1, 3, 7, 0, 0, 0, 96, 255, 511]
theorem put7tab : rtab .any (opsOf Try.f10 7) = put7T := by kernel_rfl
theorem put7bits : waitsOk put7T.2 put7B = true := by kernel_rfl
set_option maxHeartbeats 12800000 in
set_option maxRecDepth 100000 in
theorem dir_Put.calls (w : World) (A : Nat → Prop) (p : Nat) (T : List Slt) (m : Nat) (h : DirAt w A p T m) (hm : m ≤ 1000000) (j : Nat) (hj : j ≤ 18) (hT : T.length = 2 ^ j) (hg : Gap (occ T) T.length) (k : ByteArray) (hk : k.size ≤ 4611686018427387904) (hks : ∀ s ∈ T, s.1.size ≤ 4611686018427387904) (l0 l1 l2 l3 : Int) :
    Calls Try.prog 10 #[.pointer (some ⟨p, 0, none⟩), .string k, .agg #[.int .i64 l0, .int .i64 l1, .int .i64 l2, .int .u64 l3]] w (PutPost w A p T m (k, (l0, l1, l2, l3), true)) := by
  have hn : T.length ≤ 262144 := by rw [hT]; exact Nat.pow_le_pow_right (n := 2) (by decide) hj
  have hp0 : 0 < T.length := by rw [hT]; exact Nat.two_pow_pos j
  obtain ⟨w2, hw2⟩ : ∃ w2, w.alloc (.cells #[.int .i64 l0, .int .i64 l1, .int .i64 l2, .int .u64 l3] 31) = w2 := ⟨_, rfl⟩
  have B2 := Aside0.mk (show Below w.heap.size w w2 by rw [← hw2]; exact below_alloc (Below.refl _ _) _)
  have HSZ := Aside0.mk (show w.heap.size < w2.heap.size by rw [← hw2]; simp)
  have RB := Aside0.mk (show w2.heap[w.heap.size]? = some (.cells #[.int .i64 l0, .int .i64 l1, .int .i64 l2, .int .u64 l3] 31) by rw [← hw2]; exact blk_new _ _)
  have HNA := Aside0.mk (fun ha : A w.heap.size => Nat.lt_irrefl _ (h.2.1 _ ha))
  have H := Aside0.mk h
  have D2 := Aside0.mk (h.below B2.out)
  have F2 := Aside0.mk (Frm.of_new (S := A) B2.out)
  have HN := Aside0.mk (And.intro hp0 hn)
  have HT := Aside0.mk hT
  have HKS := Aside0.mk hks
  have HK := Aside0.mk hk
  have HFD := Aside0.mk (dir_find.calls w2 A p T m D2.out j (by omega) hT hg k hk)
  have HTW := Aside0.mk (fnd_two (k := k) (hmK_lt k hp0) hg)
  have HI0 := Aside0.mk (fnd_lt (f := occ T) (h := hmK T.length k) (k := k) hp0)
  have HLY := Aside0.mk (show lay T (k, (l0, l1, l2, l3), true) = T.set (fnd (occ T) T.length (hmK T.length k) k) (k, (l0, l1, l2, l3), true) from rfl)
  have HPT := Aside0.mk (show ∀ T' m', PutTo T m (k, (l0, l1, l2, l3), true) T' m' ↔ ((occ T (fnd (occ T) T.length (hmK T.length k) k) = some k ∧ T' = lay T (k, (l0, l1, l2, l3), true) ∧ m' = m) ∨ (occ T (fnd (occ T) T.length (hmK T.length k) k) = none ∧ m' = m + 1 ∧ ((2 * (m + 1) ≤ T.length ∧ T' = lay T (k, (l0, l1, l2, l3), true)) ∨ (T.length < 2 * (m + 1) ∧ ∃ L, Ris T L ∧ T' = lay (layAll (2 * T.length) L) (k, (l0, l1, l2, l3), true))))) from fun _ _ => Iff.rfl)
  obtain ⟨i0, hi0⟩ : ∃ i0, fnd (occ T) T.length (hmK T.length k) k = i0 := ⟨_, rfl⟩
  rw [hi0] at HFD HTW HI0 HLY HPT
  have HW2 := Aside0.mk hw2
  clear h hT hg hi0 hp0 hw2 hks hk hn
  go_enter Try.func10, Try.ntmps10
  go_wp2_with fail
  rw [HW2.out]
  clear HW2
  refine HFD.out.mono ?_
  rintro e w3 ⟨rfl, b3⟩
  have D3 := Aside0.mk (D2.out.below b3)
  have F3 := Aside0.mk (F2.out.andThen (Frm.of_new (S := A) b3) (fun i hi => Or.inl hi))
  have RB3 := Aside0.mk (blk_below RB.out b3)
  have HZ3 := Aside0.mk (Nat.lt_of_lt_of_le HSZ.out b3.size)
  clear b3 HFD D2 F2 RB HSZ B2
  have hi := HI0.out
  obtain ⟨g, c, h3, h4⟩ := D3.out.form HN.out.1
  obtain ⟨c0, c1, fr⟩ := cells2d h3
  obtain ⟨q0, q1, q2, q3, q4, q5⟩ := dir_slot h4 i0 hi
  have HOC := Aside0.mk (occ_at hi)
  generalize T[i0] = s at q0 q1 q2 q3 q4 q5 HOC
  obtain ⟨key, ⟨m0, m1, m2, m3⟩, is⟩ := s
  simp only at q0 q1 q2 q3 q4 q5 HOC
  have z0 : 0 ≤ (i0 : Int) := by omega
  have z1 : (i0 : Int) < (T.length : Int) := by omega
  clear h3 h4
  cases is with
  | true =>
    have HN1 := Aside0.mk (HOC.out.trans (if_pos rfl))
    have HPX := Aside0.mk (show PutTo T m (k, (l0, l1, l2, l3), true) (lay T (k, (l0, l1, l2, l3), true)) m by
      refine (HPT.out _ _).2 (Or.inl ⟨?_, rfl, rfl⟩)
      rcases HTW.out with h5 | h5
      · rw [HN1.out] at h5; cases h5
      · exact h5)
    rw [HLY.out] at HPX
    have HAX := Aside0.mk (show ∀ k, A k → A k ∨ w.heap.size ≤ k from fun k hk => Or.inl hk)
    go_upto_region 7 with (fail)
    clear q0 q1 q2 q3 q4 q5 c0 c1 fr HN1
    obtain ⟨g7, c7, h3, h4⟩ := D3.out.form (HN.out.1)
    have H37 := Aside0.mk h3
    have H47 := Aside0.mk h4
    clear h3 h4
    have y0 : 0 ≤ (i0 : Int) := by omega
    have y1 : (i0 : Int) < (T.length : Int) := by have := hi; omega
    refine region_draw (n := 10) (S := fun W => Below w3.heap.size w3 W) (ds := [9]) #[false, false, false, false, false, false, false, false, false, false] (by kernel_rfl) rfl rfl (fun W => Below w3.heap.size w3 W) ((Below.refl _ _).drew) (fun W h => h) ?_
    rintro ws hws
    refine with_tabW put7tab put7bits (fun HT_ HW_ => ?_)
    have BS := Aside0.mk hws
    clear hws
    refine pure_ (i := 0) (N := some 42) (v := ?_) (a' := ?_) #[true, false, false, false, false, false, false, false, false, false] rfl rfl (any_of HT_.out (by kernel_rfl)) (fun _ _ _ h => h) (Or.inl ⟨by rfl, ?_⟩) ?_ ?_
    rotate_left
    · intro w'
      go_simp
      with_reducible rfl
    rotate_left
    · simp only [Act.put, List.setIfInBounds_toArray, List.set_cons_zero, List.set_cons_succ, i64_w, i32_w]
      rfl
    refine pure_ (i := 1) (N := some 43) (v := ?_) (a' := ?_) #[true, true, false, false, false, false, false, false, false, false] rfl rfl (any_of HT_.out (by kernel_rfl)) (fun _ _ _ h => h) (Or.inl ⟨by rfl, ?_⟩) ?_ ?_
    rotate_left
    · intro w'
      go_simp
      with_reducible rfl
    rotate_left
    · simp only [Act.put, List.setIfInBounds_toArray, List.set_cons_zero, List.set_cons_succ, i64_w, i32_w]
      rfl
    refine pure_ (i := 2) (N := some 44) (v := ?_) (a' := ?_) #[true, true, true, false, false, false, false, false, false, false] rfl rfl (any_of HT_.out (by kernel_rfl)) (fun _ _ _ h => h) (Or.inl ⟨by rfl, ?_⟩) ?_ ?_
    rotate_left
    · intro w'
      go_simp
      with_reducible rfl
    rotate_left
    · simp only [Act.put, List.setIfInBounds_toArray, List.set_cons_zero, List.set_cons_succ, i64_w, i32_w]
      rfl
    refine take_ (i := 3) (N := some 45) (v := ?_) (a' := ?_) #[true, true, true, true, false, false, false, false, false, false] rfl rfl (take_ofW HT_.out HW_.out (by kernel_rfl)) (fun _ _ _ h => h) (Or.inl ⟨by rfl, ?_⟩) BS.out ?_ ?_
    rotate_left
    · intro w' hW
      obtain ⟨d0, d1, dr⟩ := cells2d (blk_below H37.out hW)
      go_simp
      with_reducible rfl
    rotate_left
    · simp only [Act.put, List.setIfInBounds_toArray, List.set_cons_zero, List.set_cons_succ, i64_w, i32_w]
      rfl
    refine pure_ (i := 4) (N := some 46) (v := ?_) (a' := ?_) #[true, true, true, true, true, false, false, false, false, false] rfl rfl (any_of HT_.out (by kernel_rfl)) (fun _ _ _ h => h) (Or.inl ⟨by rfl, ?_⟩) ?_ ?_
    rotate_left
    · intro w'
      go_simp
      with_reducible rfl
    rotate_left
    · simp only [Act.put, List.setIfInBounds_toArray, List.set_cons_zero, List.set_cons_succ, i64_w, i32_w]
      rfl
    refine pure_ (i := 5) (N := some 47) (v := ?_) (a' := ?_) #[true, true, true, true, true, true, false, false, false, false] rfl rfl (any_of HT_.out (by kernel_rfl)) (fun _ _ _ h => h) (Or.inl ⟨by rfl, ?_⟩) ?_ ?_
    rotate_left
    · intro w'
      go_simp
      with_reducible rfl
    rotate_left
    · simp only [Act.put, List.setIfInBounds_toArray, List.set_cons_zero, List.set_cons_succ, i64_w, i32_w]
      rfl
    refine take_ (i := 6) (N := some 48) (v := ?_) (a' := ?_) #[true, true, true, true, true, true, true, false, false, false] rfl rfl (take_ofW HT_.out HW_.out (by kernel_rfl)) (fun _ _ _ h => h) (Or.inl ⟨by rfl, ?_⟩) BS.out ?_ ?_
    rotate_left
    · intro w' hW
      obtain ⟨b0, b1, b2, b3, br⟩ := cells4e (blk_below RB3.out hW)
      go_simp
      with_reducible rfl
    rotate_left
    · simp only [Act.put, List.setIfInBounds_toArray, List.set_cons_zero, List.set_cons_succ, i64_w, i32_w]
      rfl
    refine pure_ (i := 7) (N := some 49) (v := ?_) (a' := ?_) #[true, true, true, true, true, true, true, true, false, false] rfl rfl (any_of HT_.out (by kernel_rfl)) (fun _ _ _ h => h) (Or.inl ⟨by rfl, ?_⟩) ?_ ?_
    rotate_left
    · intro w'
      go_simp
      with_reducible rfl
    rotate_left
    · simp only [Act.put, List.setIfInBounds_toArray, List.set_cons_zero, List.set_cons_succ, i64_w, i32_w]
      rfl
    refine pure_ (i := 8) (N := some 50) (v := ?_) (a' := ?_) #[true, true, true, true, true, true, true, true, true, false] rfl rfl (any_of HT_.out (by kernel_rfl)) (fun _ _ _ h => h) (Or.inl ⟨by rfl, ?_⟩) ?_ ?_
    rotate_left
    · intro w'
      go_simp
      with_reducible rfl
    rotate_left
    · simp only [Act.put, List.setIfInBounds_toArray, List.set_cons_zero, List.set_cons_succ, i64_w, i32_w]
      rfl
    refine last_ (i := 9) (N := none) #[true, true, true, true, true, true, true, true, true, true] rfl rfl (one_of HT_.out (by kernel_rfl)) (by decide) (fun K hK => ?_)
    obtain ⟨t0, t1, t2, t3, t4, t5⟩ := dir_slot (Kd.R_below H47.out BS.out) i0 (hi)
    have gz0 := dir_frozen (Kd.R_below H47.out BS.out) (i0 * 6)
    have gz1 := dir_frozen (Kd.R_below H47.out BS.out) (i0 * 6 + 1)
    have gz2 := dir_frozen (Kd.R_below H47.out BS.out) (i0 * 6 + 2)
    have gz3 := dir_frozen (Kd.R_below H47.out BS.out) (i0 * 6 + 3)
    have gz4 := dir_frozen (Kd.R_below H47.out BS.out) (i0 * 6 + 4)
    have gz5 := dir_frozen (Kd.R_below H47.out BS.out) (i0 * 6 + 5)
    refine skip_ (w1 := ?_) (by rfl) rfl ?_ ?_
    rotate_left
    · go_simp
      rfl
    refine hK.out _ _ ?_
    clear hK K
    refine done_ (done_of HT_.out (by kernel_rfl)) ?_
    have HSET := Aside0.mk (show DirAt ((((((ws.setCell ⟨g7, i0 * 6, none⟩ (.string k)).setCell ⟨g7, i0 * 6 + 1, none⟩ (.int .i64 l0)).setCell ⟨g7, i0 * 6 + 2, none⟩ (.int .i64 l1)).setCell ⟨g7, i0 * 6 + 3, none⟩ (.int .i64 l2)).setCell ⟨g7, i0 * 6 + 4, none⟩ (.int .u64 l3)).setCell ⟨g7, i0 * 6 + 5, none⟩ (.bool true)) A p (T.set i0 (k, (l0, l1, l2, l3), true)) m ∧ Frm A ws ((((((ws.setCell ⟨g7, i0 * 6, none⟩ (.string k)).setCell ⟨g7, i0 * 6 + 1, none⟩ (.int .i64 l0)).setCell ⟨g7, i0 * 6 + 2, none⟩ (.int .i64 l1)).setCell ⟨g7, i0 * 6 + 3, none⟩ (.int .i64 l2)).setCell ⟨g7, i0 * 6 + 4, none⟩ (.int .u64 l3)).setCell ⟨g7, i0 * 6 + 5, none⟩ (.bool true)) from dir_set (D3.out.below BS.out).1 (D3.out.below BS.out).2.1 (blk_below H37.out BS.out) (Kd.R_below H47.out BS.out) i0 (hi) (k, (l0, l1, l2, l3), true))
    have F9 := Aside0.mk ((F3.out.andThen (Frm.of_new (S := A) BS.out) (fun i hi => Or.inl hi)).andThen HSET.out.2 HAX.out)
    have D9 := Aside0.mk HSET.out.1
    clear HSET t0 t1 t2 t3 t4 t5 gz0 gz1 gz2 gz3 gz4 gz5
    generalize ((((((ws.setCell ⟨g7, i0 * 6, none⟩ (.string k)).setCell ⟨g7, i0 * 6 + 1, none⟩ (.int .i64 l0)).setCell ⟨g7, i0 * 6 + 2, none⟩ (.int .i64 l1)).setCell ⟨g7, i0 * 6 + 3, none⟩ (.int .i64 l2)).setCell ⟨g7, i0 * 6 + 4, none⟩ (.int .u64 l3)).setCell ⟨g7, i0 * 6 + 5, none⟩ (.bool true)) = w9 at F9 D9 ⊢
    go_wp2_with fail
    go_end0
    exact ⟨rfl, _, _, _, HPX.out, D9.out, F9.out, HAX.out⟩
  | false =>
    have HN1 := Aside0.mk (HOC.out.trans (if_neg (by simp)))
    go_upto_region 4 with (fail)
    have HMN := Aside0.mk (dir_many D3.out ((m : Int) + 1))
    have F4 := Aside0.mk (F3.out.andThen HMN.out.2 (fun i hi => Or.inl hi))
    have D4 := Aside0.mk HMN.out.1
    have RB4 := Aside0.mk (HMN.out.2.keeps RB3.out HNA.out)
    have HZ4 := Aside0.mk (Nat.lt_of_lt_of_le HZ3.out HMN.out.2.size)
    clear c0 c1 fr HMN D3 F3 RB3 HZ3 q0 q1 q2 q3 q4 q5
    generalize w3.setCell ⟨p, 1, none⟩ (.int .i64 ((m : Int) + 1)) = w4 at D4 F4 RB4 HZ4 ⊢
    obtain ⟨g7, c7, h3, h4⟩ := D4.out.form HN.out.1
    have H34 := Aside0.mk h3
    clear h3 h4
    refine region_draw (n := 11) (S := fun W => Below w4.heap.size w4 W) (ds := []) #[false, false, false, false, false, false, false, false, false, false, false] (by kernel_rfl) rfl rfl (fun W => Below w4.heap.size w4 W) ((Below.refl _ _).drew) (fun W h => h) ?_
    rintro ws hws
    refine with_tabW put4tab put4bits (fun HT_ HW_ => ?_)
    have BS := Aside0.mk hws
    clear hws
    refine pure_ (i := 0) (N := some 26) (v := ?_) (a' := ?_) #[true, false, false, false, false, false, false, false, false, false, false] rfl rfl (any_of HT_.out (by kernel_rfl)) (fun _ _ _ h => h) (Or.inl ⟨by rfl, ?_⟩) ?_ ?_
    rotate_left
    · intro w'
      go_simp
      with_reducible rfl
    rotate_left
    · simp only [Act.put, List.setIfInBounds_toArray, List.set_cons_zero, List.set_cons_succ, i64_w, i32_w]
      rfl
    refine pure_ (i := 1) (N := some 27) (v := ?_) (a' := ?_) #[true, true, false, false, false, false, false, false, false, false, false] rfl rfl (any_of HT_.out (by kernel_rfl)) (fun _ _ _ h => h) (Or.inl ⟨by rfl, ?_⟩) ?_ ?_
    rotate_left
    · intro w'
      go_simp
      with_reducible rfl
    rotate_left
    · simp only [Act.put, List.setIfInBounds_toArray, List.set_cons_zero, List.set_cons_succ, i64_w, i32_w]
      rfl
    refine pure_ (i := 2) (N := some 28) (v := ?_) (a' := ?_) #[true, true, true, false, false, false, false, false, false, false, false] rfl rfl (any_of HT_.out (by kernel_rfl)) (fun _ _ _ h => h) (Or.inl ⟨by rfl, ?_⟩) ?_ ?_
    rotate_left
    · intro w'
      go_simp
      with_reducible rfl
    rotate_left
    · simp only [Act.put, List.setIfInBounds_toArray, List.set_cons_zero, List.set_cons_succ, i64_w, i32_w]
      rfl
    refine take_ (i := 3) (N := some 29) (v := ?_) (a' := ?_) #[true, true, true, true, false, false, false, false, false, false, false] rfl rfl (take_ofW HT_.out HW_.out (by kernel_rfl)) (fun _ _ _ h => h) (Or.inl ⟨by rfl, ?_⟩) BS.out ?_ ?_
    rotate_left
    · intro w' hW
      obtain ⟨d0, d1, dr⟩ := cells2d (blk_below H34.out hW)
      go_simp
      with_reducible rfl
    rotate_left
    · simp only [Act.put, List.setIfInBounds_toArray, List.set_cons_zero, List.set_cons_succ, i64_w, i32_w]
      rfl
    refine pure_ (i := 4) (N := some 30) (v := ?_) (a' := ?_) #[true, true, true, true, true, false, false, false, false, false, false] rfl rfl (any_of HT_.out (by kernel_rfl)) (fun _ _ _ h => h) (Or.inl ⟨by rfl, ?_⟩) ?_ ?_
    rotate_left
    · intro w'
      go_simp
      with_reducible rfl
    rotate_left
    · simp only [Act.put, List.setIfInBounds_toArray, List.set_cons_zero, List.set_cons_succ, i64_w, i32_w]
      rfl
    refine pure_ (i := 5) (N := some 31) (v := ?_) (a' := ?_) #[true, true, true, true, true, true, false, false, false, false, false] rfl rfl (any_of HT_.out (by kernel_rfl)) (fun _ _ _ h => h) (Or.inl ⟨by rfl, ?_⟩) ?_ ?_
    rotate_left
    · intro w'
      go_simp
      with_reducible rfl
    rotate_left
    · simp only [Act.put, List.setIfInBounds_toArray, List.set_cons_zero, List.set_cons_succ, i64_w, i32_w]
      rfl
    refine pure_ (i := 6) (N := some 32) (v := ?_) (a' := ?_) #[true, true, true, true, true, true, true, false, false, false, false] rfl rfl (any_of HT_.out (by kernel_rfl)) (fun _ _ _ h => h) (Or.inl ⟨by rfl, ?_⟩) ?_ ?_
    rotate_left
    · intro w'
      go_simp
      with_reducible rfl
    rotate_left
    · simp only [Act.put, List.setIfInBounds_toArray, List.set_cons_zero, List.set_cons_succ, i64_w, i32_w]
      rfl
    refine pure_ (i := 7) (N := some 33) (v := ?_) (a' := ?_) #[true, true, true, true, true, true, true, true, false, false, false] rfl rfl (any_of HT_.out (by kernel_rfl)) (fun _ _ _ h => h) (Or.inl ⟨by rfl, ?_⟩) ?_ ?_
    rotate_left
    · intro w'
      go_simp
      with_reducible rfl
    rotate_left
    · simp only [Act.put, List.setIfInBounds_toArray, List.set_cons_zero, List.set_cons_succ, i64_w, i32_w]
      rfl
    refine take_ (i := 8) (N := some 34) (v := ?_) (a' := ?_) #[true, true, true, true, true, true, true, true, true, false, false] rfl rfl (take_ofW HT_.out HW_.out (by kernel_rfl)) (fun _ _ _ h => h) (Or.inl ⟨by rfl, ?_⟩) BS.out ?_ ?_
    rotate_left
    · intro w' hW
      obtain ⟨d0, d1, dr⟩ := cells2d (blk_below H34.out hW)
      go_simp
      with_reducible rfl
    rotate_left
    · simp only [Act.put, List.setIfInBounds_toArray, List.set_cons_zero, List.set_cons_succ, i64_w, i32_w]
      rfl
    refine pure_ (i := 9) (N := some 35) (v := ?_) (a' := ?_) #[true, true, true, true, true, true, true, true, true, true, false] rfl rfl (any_of HT_.out (by kernel_rfl)) (fun _ _ _ h => h) (Or.inl ⟨by rfl, ?_⟩) ?_ ?_
    rotate_left
    · intro w'
      go_simp
      with_reducible rfl
    rotate_left
    · simp only [Act.put, List.setIfInBounds_toArray, List.set_cons_zero, List.set_cons_succ, i64_w, i32_w]
      rfl
    refine pure_ (i := 10) (N := some 36) (v := ?_) (a' := ?_) #[true, true, true, true, true, true, true, true, true, true, true] rfl rfl (any_of HT_.out (by kernel_rfl)) (fun _ _ _ h => h) (Or.inl ⟨by rfl, ?_⟩) ?_ ?_
    rotate_left
    · intro w'
      go_simp
      with_reducible rfl
    rotate_left
    · simp only [Act.put, List.setIfInBounds_toArray, List.set_cons_zero, List.set_cons_succ, i64_w, i32_w]
      rfl
    refine done_ (done_of HT_.out (by kernel_rfl)) ?_
    have D5 := Aside0.mk (D4.out.below BS.out)
    have F5 := Aside0.mk (F4.out.andThen (Frm.of_new (S := A) BS.out) (fun i hi => Or.inl hi))
    have RB5 := Aside0.mk (blk_below RB4.out BS.out)
    have HZ5 := Aside0.mk (Nat.lt_of_lt_of_le HZ4.out BS.out.size)
    clear D4 F4 RB4 HZ4 H34 BS
    by_cases hgt : T.length < 2 * (m + 1)
    · have d1 : (T.length : Int) < wrap64 (2 * ((m : Int) + 1)) := by rw [wrap64_in (by omega) (by omega)]; omega
      have HGT := Aside0.mk hgt
      go_wp2_with fail
      refine (dir_grow.calls ws A p T ((m : Int) + 1) D5.out j hj HT.out HKS.out).mono ?_
      rintro e w6 ⟨rfl, L, A', hr, hd, hf, ha⟩
      have HR := Aside0.mk hr
      have D6 := Aside0.mk hd
      have F6 := Aside0.mk (F5.out.andThen hf (fun i hi => Or.inl hi))
      have HAX := Aside0.mk (show ∀ k, A' k → A k ∨ w.heap.size ≤ k from fun k hk => (ha k hk).imp id (fun h => by have := HZ5.out; omega))
      have RB6 := Aside0.mk (hf.keeps RB5.out HNA.out)
      have HNB := Aside0.mk (show ¬ A' w.heap.size from fun h => by
        rcases ha _ h with h5 | h5
        · exact HNA.out h5
        · have := HZ5.out; omega)
      clear hr hd hf ha D5 F5 RB5 HZ5
      have HUL := Aside0.mk (layAll_length (2 * T.length) L)
      have HTWO := Aside0.mk (show (layAll (2 * T.length) L).length = 2 ^ (j + 1) by rw [HUL.out, HT.out, Nat.pow_succ, Nat.mul_comm])
      have HGAP := Aside0.mk (gap_of_cnt (T := layAll (2 * T.length) L) (by
        rw [layAll_length]
        have h1 := cnt_layAll (2 * T.length) L
        have h2 := Ris.length HR.out
        have h3 := HN.out.1
        omega))
      have HPX := Aside0.mk ((HPT.out (lay (layAll (2 * T.length) L) (k, (l0, l1, l2, l3), true)) (m + 1)).2 (Or.inr ⟨HN1.out, rfl, Or.inr ⟨hgt, L, HR.out, rfl⟩⟩))
      clear hgt d1
      generalize layAll (2 * T.length) L = U at D6 HUL HTWO HGAP HPX
      have HNU := Aside0.mk (show 0 < U.length by rw [HTWO.out]; exact Nat.two_pow_pos _)
      have HFI := Aside0.mk (dir_find.calls w6 A' p U ((m : Int) + 1) D6.out (j + 1) (by omega) HTWO.out HGAP.out k HK.out)
      have hip : fnd (occ U) U.length (hmK U.length k) k < U.length := fnd_lt HNU.out
      rw [show lay U (k, (l0, l1, l2, l3), true) = U.set (fnd (occ U) U.length (hmK U.length k) k) (k, (l0, l1, l2, l3), true) from rfl] at HPX
      obtain ⟨ip, hipe⟩ : ∃ ip, fnd (occ U) U.length (hmK U.length k) k = ip := ⟨_, rfl⟩
      rw [hipe] at hip HFI HPX
      clear hipe
      go_wp2_with fail
      refine HFI.out.mono ?_
      rintro e w7 ⟨rfl, b7⟩
      have D7 := Aside0.mk (D6.out.below b7)
      have F7 := Aside0.mk (F6.out.andThen (Frm.of_new (S := A) b7) (fun i hi => Or.inl hi))
      have RB7 := Aside0.mk (blk_below RB6.out b7)
      clear b7 HFI D6 F6 RB6
      go_upto_region 7 with (fail)
      obtain ⟨g7, c7, h3, h4⟩ := D7.out.form (HNU.out)
      have H37 := Aside0.mk h3
      have H47 := Aside0.mk h4
      clear h3 h4
      have y0 : 0 ≤ (ip : Int) := by omega
      have y1 : (ip : Int) < (U.length : Int) := by have := hip; omega
      refine region_draw (n := 10) (S := fun W => Below w7.heap.size w7 W) (ds := [9]) #[false, false, false, false, false, false, false, false, false, false] (by kernel_rfl) rfl rfl (fun W => Below w7.heap.size w7 W) ((Below.refl _ _).drew) (fun W h => h) ?_
      rintro ws hws
      refine with_tabW put7tab put7bits (fun HT_ HW_ => ?_)
      have BS := Aside0.mk hws
      clear hws
      refine pure_ (i := 0) (N := some 42) (v := ?_) (a' := ?_) #[true, false, false, false, false, false, false, false, false, false] rfl rfl (any_of HT_.out (by kernel_rfl)) (fun _ _ _ h => h) (Or.inl ⟨by rfl, ?_⟩) ?_ ?_
      rotate_left
      · intro w'
        go_simp
        with_reducible rfl
      rotate_left
      · simp only [Act.put, List.setIfInBounds_toArray, List.set_cons_zero, List.set_cons_succ, i64_w, i32_w]
        rfl
      refine pure_ (i := 1) (N := some 43) (v := ?_) (a' := ?_) #[true, true, false, false, false, false, false, false, false, false] rfl rfl (any_of HT_.out (by kernel_rfl)) (fun _ _ _ h => h) (Or.inl ⟨by rfl, ?_⟩) ?_ ?_
      rotate_left
      · intro w'
        go_simp
        with_reducible rfl
      rotate_left
      · simp only [Act.put, List.setIfInBounds_toArray, List.set_cons_zero, List.set_cons_succ, i64_w, i32_w]
        rfl
      refine pure_ (i := 2) (N := some 44) (v := ?_) (a' := ?_) #[true, true, true, false, false, false, false, false, false, false] rfl rfl (any_of HT_.out (by kernel_rfl)) (fun _ _ _ h => h) (Or.inl ⟨by rfl, ?_⟩) ?_ ?_
      rotate_left
      · intro w'
        go_simp
        with_reducible rfl
      rotate_left
      · simp only [Act.put, List.setIfInBounds_toArray, List.set_cons_zero, List.set_cons_succ, i64_w, i32_w]
        rfl
      refine take_ (i := 3) (N := some 45) (v := ?_) (a' := ?_) #[true, true, true, true, false, false, false, false, false, false] rfl rfl (take_ofW HT_.out HW_.out (by kernel_rfl)) (fun _ _ _ h => h) (Or.inl ⟨by rfl, ?_⟩) BS.out ?_ ?_
      rotate_left
      · intro w' hW
        obtain ⟨d0, d1, dr⟩ := cells2d (blk_below H37.out hW)
        go_simp
        with_reducible rfl
      rotate_left
      · simp only [Act.put, List.setIfInBounds_toArray, List.set_cons_zero, List.set_cons_succ, i64_w, i32_w]
        rfl
      refine pure_ (i := 4) (N := some 46) (v := ?_) (a' := ?_) #[true, true, true, true, true, false, false, false, false, false] rfl rfl (any_of HT_.out (by kernel_rfl)) (fun _ _ _ h => h) (Or.inl ⟨by rfl, ?_⟩) ?_ ?_
      rotate_left
      · intro w'
        go_simp
        with_reducible rfl
      rotate_left
      · simp only [Act.put, List.setIfInBounds_toArray, List.set_cons_zero, List.set_cons_succ, i64_w, i32_w]
        rfl
      refine pure_ (i := 5) (N := some 47) (v := ?_) (a' := ?_) #[true, true, true, true, true, true, false, false, false, false] rfl rfl (any_of HT_.out (by kernel_rfl)) (fun _ _ _ h => h) (Or.inl ⟨by rfl, ?_⟩) ?_ ?_
      rotate_left
      · intro w'
        go_simp
        with_reducible rfl
      rotate_left
      · simp only [Act.put, List.setIfInBounds_toArray, List.set_cons_zero, List.set_cons_succ, i64_w, i32_w]
        rfl
      refine take_ (i := 6) (N := some 48) (v := ?_) (a' := ?_) #[true, true, true, true, true, true, true, false, false, false] rfl rfl (take_ofW HT_.out HW_.out (by kernel_rfl)) (fun _ _ _ h => h) (Or.inl ⟨by rfl, ?_⟩) BS.out ?_ ?_
      rotate_left
      · intro w' hW
        obtain ⟨b0, b1, b2, b3, br⟩ := cells4e (blk_below RB7.out hW)
        go_simp
        with_reducible rfl
      rotate_left
      · simp only [Act.put, List.setIfInBounds_toArray, List.set_cons_zero, List.set_cons_succ, i64_w, i32_w]
        rfl
      refine pure_ (i := 7) (N := some 49) (v := ?_) (a' := ?_) #[true, true, true, true, true, true, true, true, false, false] rfl rfl (any_of HT_.out (by kernel_rfl)) (fun _ _ _ h => h) (Or.inl ⟨by rfl, ?_⟩) ?_ ?_
      rotate_left
      · intro w'
        go_simp
        with_reducible rfl
      rotate_left
      · simp only [Act.put, List.setIfInBounds_toArray, List.set_cons_zero, List.set_cons_succ, i64_w, i32_w]
        rfl
      refine pure_ (i := 8) (N := some 50) (v := ?_) (a' := ?_) #[true, true, true, true, true, true, true, true, true, false] rfl rfl (any_of HT_.out (by kernel_rfl)) (fun _ _ _ h => h) (Or.inl ⟨by rfl, ?_⟩) ?_ ?_
      rotate_left
      · intro w'
        go_simp
        with_reducible rfl
      rotate_left
      · simp only [Act.put, List.setIfInBounds_toArray, List.set_cons_zero, List.set_cons_succ, i64_w, i32_w]
        rfl
      refine last_ (i := 9) (N := none) #[true, true, true, true, true, true, true, true, true, true] rfl rfl (one_of HT_.out (by kernel_rfl)) (by decide) (fun K hK => ?_)
      obtain ⟨t0, t1, t2, t3, t4, t5⟩ := dir_slot (Kd.R_below H47.out BS.out) ip (hip)
      have gz0 := dir_frozen (Kd.R_below H47.out BS.out) (ip * 6)
      have gz1 := dir_frozen (Kd.R_below H47.out BS.out) (ip * 6 + 1)
      have gz2 := dir_frozen (Kd.R_below H47.out BS.out) (ip * 6 + 2)
      have gz3 := dir_frozen (Kd.R_below H47.out BS.out) (ip * 6 + 3)
      have gz4 := dir_frozen (Kd.R_below H47.out BS.out) (ip * 6 + 4)
      have gz5 := dir_frozen (Kd.R_below H47.out BS.out) (ip * 6 + 5)
      refine skip_ (w1 := ?_) (by rfl) rfl ?_ ?_
      rotate_left
      · go_simp
        rfl
      refine hK.out _ _ ?_
      clear hK K
      refine done_ (done_of HT_.out (by kernel_rfl)) ?_
      have HSET := Aside0.mk (show DirAt ((((((ws.setCell ⟨g7, ip * 6, none⟩ (.string k)).setCell ⟨g7, ip * 6 + 1, none⟩ (.int .i64 l0)).setCell ⟨g7, ip * 6 + 2, none⟩ (.int .i64 l1)).setCell ⟨g7, ip * 6 + 3, none⟩ (.int .i64 l2)).setCell ⟨g7, ip * 6 + 4, none⟩ (.int .u64 l3)).setCell ⟨g7, ip * 6 + 5, none⟩ (.bool true)) A' p (U.set ip (k, (l0, l1, l2, l3), true)) ((m : Int) + 1) ∧ Frm A' ws ((((((ws.setCell ⟨g7, ip * 6, none⟩ (.string k)).setCell ⟨g7, ip * 6 + 1, none⟩ (.int .i64 l0)).setCell ⟨g7, ip * 6 + 2, none⟩ (.int .i64 l1)).setCell ⟨g7, ip * 6 + 3, none⟩ (.int .i64 l2)).setCell ⟨g7, ip * 6 + 4, none⟩ (.int .u64 l3)).setCell ⟨g7, ip * 6 + 5, none⟩ (.bool true)) from dir_set (D7.out.below BS.out).1 (D7.out.below BS.out).2.1 (blk_below H37.out BS.out) (Kd.R_below H47.out BS.out) ip (hip) (k, (l0, l1, l2, l3), true))
      have F9 := Aside0.mk ((F7.out.andThen (Frm.of_new (S := A) BS.out) (fun i hi => Or.inl hi)).andThen HSET.out.2 HAX.out)
      have D9 := Aside0.mk HSET.out.1
      clear HSET t0 t1 t2 t3 t4 t5 gz0 gz1 gz2 gz3 gz4 gz5
      generalize ((((((ws.setCell ⟨g7, ip * 6, none⟩ (.string k)).setCell ⟨g7, ip * 6 + 1, none⟩ (.int .i64 l0)).setCell ⟨g7, ip * 6 + 2, none⟩ (.int .i64 l1)).setCell ⟨g7, ip * 6 + 3, none⟩ (.int .i64 l2)).setCell ⟨g7, ip * 6 + 4, none⟩ (.int .u64 l3)).setCell ⟨g7, ip * 6 + 5, none⟩ (.bool true)) = w9 at F9 D9 ⊢
      go_wp2_with fail
      go_end0
      exact ⟨rfl, _, _, _, HPX.out, D9.out, F9.out, HAX.out⟩
    · have d1 : ¬ (T.length : Int) < wrap64 (2 * ((m : Int) + 1)) := by rw [wrap64_in (by omega) (by omega)]; omega
      have HPX := Aside0.mk (show PutTo T m (k, (l0, l1, l2, l3), true) (lay T (k, (l0, l1, l2, l3), true)) (m + 1) from (HPT.out _ _).2 (Or.inr ⟨HN1.out, rfl, Or.inl ⟨by omega, rfl⟩⟩))
      rw [HLY.out] at HPX
      have HAX := Aside0.mk (show ∀ k, A k → A k ∨ w.heap.size ≤ k from fun k hk => Or.inl hk)
      go_upto_region 7 with (fail)
      obtain ⟨g8, c8, h3, h4⟩ := D5.out.form (HN.out.1)
      have H37 := Aside0.mk h3
      have H47 := Aside0.mk h4
      clear h3 h4
      have y0 : 0 ≤ (i0 : Int) := by omega
      have y1 : (i0 : Int) < (T.length : Int) := by have := hi; omega
      refine region_draw (n := 10) (S := fun W => Below ws.heap.size ws W) (ds := [9]) #[false, false, false, false, false, false, false, false, false, false] (by kernel_rfl) rfl rfl (fun W => Below ws.heap.size ws W) ((Below.refl _ _).drew) (fun W h => h) ?_
      rintro wt hwt
      refine with_tabW put7tab put7bits (fun HT_ HW_ => ?_)
      have BT := Aside0.mk hwt
      clear hwt
      refine pure_ (i := 0) (N := some 42) (v := ?_) (a' := ?_) #[true, false, false, false, false, false, false, false, false, false] rfl rfl (any_of HT_.out (by kernel_rfl)) (fun _ _ _ h => h) (Or.inl ⟨by rfl, ?_⟩) ?_ ?_
      rotate_left
      · intro w'
        go_simp
        with_reducible rfl
      rotate_left
      · simp only [Act.put, List.setIfInBounds_toArray, List.set_cons_zero, List.set_cons_succ, i64_w, i32_w]
        rfl
      refine pure_ (i := 1) (N := some 43) (v := ?_) (a' := ?_) #[true, true, false, false, false, false, false, false, false, false] rfl rfl (any_of HT_.out (by kernel_rfl)) (fun _ _ _ h => h) (Or.inl ⟨by rfl, ?_⟩) ?_ ?_
      rotate_left
      · intro w'
        go_simp
        with_reducible rfl
      rotate_left
      · simp only [Act.put, List.setIfInBounds_toArray, List.set_cons_zero, List.set_cons_succ, i64_w, i32_w]
        rfl
      refine pure_ (i := 2) (N := some 44) (v := ?_) (a' := ?_) #[true, true, true, false, false, false, false, false, false, false] rfl rfl (any_of HT_.out (by kernel_rfl)) (fun _ _ _ h => h) (Or.inl ⟨by rfl, ?_⟩) ?_ ?_
      rotate_left
      · intro w'
        go_simp
        with_reducible rfl
      rotate_left
      · simp only [Act.put, List.setIfInBounds_toArray, List.set_cons_zero, List.set_cons_succ, i64_w, i32_w]
        rfl
      refine take_ (i := 3) (N := some 45) (v := ?_) (a' := ?_) #[true, true, true, true, false, false, false, false, false, false] rfl rfl (take_ofW HT_.out HW_.out (by kernel_rfl)) (fun _ _ _ h => h) (Or.inl ⟨by rfl, ?_⟩) BT.out ?_ ?_
      rotate_left
      · intro w' hW
        obtain ⟨d0, d1, dr⟩ := cells2d (blk_below H37.out hW)
        go_simp
        with_reducible rfl
      rotate_left
      · simp only [Act.put, List.setIfInBounds_toArray, List.set_cons_zero, List.set_cons_succ, i64_w, i32_w]
        rfl
      refine pure_ (i := 4) (N := some 46) (v := ?_) (a' := ?_) #[true, true, true, true, true, false, false, false, false, false] rfl rfl (any_of HT_.out (by kernel_rfl)) (fun _ _ _ h => h) (Or.inl ⟨by rfl, ?_⟩) ?_ ?_
      rotate_left
      · intro w'
        go_simp
        with_reducible rfl
      rotate_left
      · simp only [Act.put, List.setIfInBounds_toArray, List.set_cons_zero, List.set_cons_succ, i64_w, i32_w]
        rfl
      refine pure_ (i := 5) (N := some 47) (v := ?_) (a' := ?_) #[true, true, true, true, true, true, false, false, false, false] rfl rfl (any_of HT_.out (by kernel_rfl)) (fun _ _ _ h => h) (Or.inl ⟨by rfl, ?_⟩) ?_ ?_
      rotate_left
      · intro w'
        go_simp
        with_reducible rfl
      rotate_left
      · simp only [Act.put, List.setIfInBounds_toArray, List.set_cons_zero, List.set_cons_succ, i64_w, i32_w]
        rfl
      refine take_ (i := 6) (N := some 48) (v := ?_) (a' := ?_) #[true, true, true, true, true, true, true, false, false, false] rfl rfl (take_ofW HT_.out HW_.out (by kernel_rfl)) (fun _ _ _ h => h) (Or.inl ⟨by rfl, ?_⟩) BT.out ?_ ?_
      rotate_left
      · intro w' hW
        obtain ⟨b0, b1, b2, b3, br⟩ := cells4e (blk_below RB5.out hW)
        go_simp
        with_reducible rfl
      rotate_left
      · simp only [Act.put, List.setIfInBounds_toArray, List.set_cons_zero, List.set_cons_succ, i64_w, i32_w]
        rfl
      refine pure_ (i := 7) (N := some 49) (v := ?_) (a' := ?_) #[true, true, true, true, true, true, true, true, false, false] rfl rfl (any_of HT_.out (by kernel_rfl)) (fun _ _ _ h => h) (Or.inl ⟨by rfl, ?_⟩) ?_ ?_
      rotate_left
      · intro w'
        go_simp
        with_reducible rfl
      rotate_left
      · simp only [Act.put, List.setIfInBounds_toArray, List.set_cons_zero, List.set_cons_succ, i64_w, i32_w]
        rfl
      refine pure_ (i := 8) (N := some 50) (v := ?_) (a' := ?_) #[true, true, true, true, true, true, true, true, true, false] rfl rfl (any_of HT_.out (by kernel_rfl)) (fun _ _ _ h => h) (Or.inl ⟨by rfl, ?_⟩) ?_ ?_
      rotate_left
      · intro w'
        go_simp
        with_reducible rfl
      rotate_left
      · simp only [Act.put, List.setIfInBounds_toArray, List.set_cons_zero, List.set_cons_succ, i64_w, i32_w]
        rfl
      refine last_ (i := 9) (N := none) #[true, true, true, true, true, true, true, true, true, true] rfl rfl (one_of HT_.out (by kernel_rfl)) (by decide) (fun K hK => ?_)
      obtain ⟨t0, t1, t2, t3, t4, t5⟩ := dir_slot (Kd.R_below H47.out BT.out) i0 (hi)
      have gz0 := dir_frozen (Kd.R_below H47.out BT.out) (i0 * 6)
      have gz1 := dir_frozen (Kd.R_below H47.out BT.out) (i0 * 6 + 1)
      have gz2 := dir_frozen (Kd.R_below H47.out BT.out) (i0 * 6 + 2)
      have gz3 := dir_frozen (Kd.R_below H47.out BT.out) (i0 * 6 + 3)
      have gz4 := dir_frozen (Kd.R_below H47.out BT.out) (i0 * 6 + 4)
      have gz5 := dir_frozen (Kd.R_below H47.out BT.out) (i0 * 6 + 5)
      refine skip_ (w1 := ?_) (by rfl) rfl ?_ ?_
      rotate_left
      · go_simp
        rfl
      refine hK.out _ _ ?_
      clear hK K
      refine done_ (done_of HT_.out (by kernel_rfl)) ?_
      have HSET := Aside0.mk (show DirAt ((((((wt.setCell ⟨g8, i0 * 6, none⟩ (.string k)).setCell ⟨g8, i0 * 6 + 1, none⟩ (.int .i64 l0)).setCell ⟨g8, i0 * 6 + 2, none⟩ (.int .i64 l1)).setCell ⟨g8, i0 * 6 + 3, none⟩ (.int .i64 l2)).setCell ⟨g8, i0 * 6 + 4, none⟩ (.int .u64 l3)).setCell ⟨g8, i0 * 6 + 5, none⟩ (.bool true)) A p (T.set i0 (k, (l0, l1, l2, l3), true)) ((m : Int) + 1) ∧ Frm A wt ((((((wt.setCell ⟨g8, i0 * 6, none⟩ (.string k)).setCell ⟨g8, i0 * 6 + 1, none⟩ (.int .i64 l0)).setCell ⟨g8, i0 * 6 + 2, none⟩ (.int .i64 l1)).setCell ⟨g8, i0 * 6 + 3, none⟩ (.int .i64 l2)).setCell ⟨g8, i0 * 6 + 4, none⟩ (.int .u64 l3)).setCell ⟨g8, i0 * 6 + 5, none⟩ (.bool true)) from dir_set (D5.out.below BT.out).1 (D5.out.below BT.out).2.1 (blk_below H37.out BT.out) (Kd.R_below H47.out BT.out) i0 (hi) (k, (l0, l1, l2, l3), true))
      have F9 := Aside0.mk ((F5.out.andThen (Frm.of_new (S := A) BT.out) (fun i hi => Or.inl hi)).andThen HSET.out.2 HAX.out)
      have D9 := Aside0.mk HSET.out.1
      clear HSET t0 t1 t2 t3 t4 t5 gz0 gz1 gz2 gz3 gz4 gz5
      generalize ((((((wt.setCell ⟨g8, i0 * 6, none⟩ (.string k)).setCell ⟨g8, i0 * 6 + 1, none⟩ (.int .i64 l0)).setCell ⟨g8, i0 * 6 + 2, none⟩ (.int .i64 l1)).setCell ⟨g8, i0 * 6 + 3, none⟩ (.int .i64 l2)).setCell ⟨g8, i0 * 6 + 4, none⟩ (.int .u64 l3)).setCell ⟨g8, i0 * 6 + 5, none⟩ (.bool true)) = w9 at F9 D9 ⊢
      go_wp2_with fail
      go_end0
      exact ⟨rfl, _, _, _, HPX.out, D9.out, F9.out, HAX.out⟩
end Go.Proofs.Ytcpjfpbfopkngaa.Thw
