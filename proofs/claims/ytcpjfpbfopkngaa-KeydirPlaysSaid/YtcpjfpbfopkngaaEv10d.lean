/- Layer 10: Far, Get. -/
import Derived.Test.YtcpjfpbfopkngaaEv10c
namespace Go.Proofs.Ytcpjfpbfopkngaa.Thw
open Go Go.RowKit Go.Proofs.YtcpjfpbfopkngaaW.PrintWords Go.Proofs.YtcpjfpbfopkngaaW.PrintLast Go.Proofs.YtcpjfpbfopkngaaW.PrintMore
set_option linter.unusedVariables false
set_option linter.unusedSimpArgs false
theorem far_num (n j i h : Nat) (hn : n = 2 ^ j) (hj : j ≤ 30) (hi : i < n) (hh : h < n) : Go.bits .and .i64 (wrap64 ((i : Int) - (h : Int))) (wrap64 ((n : Int) - 1)) = (((i + n - h) % n : Nat) : Int) := by
  obtain ⟨h1, h0⟩ := pow30 j hj
  rw [← hn] at h1 h0
  rw [wrap64_in (by omega) (by omega), wrap64_in (by omega) (by omega), show (n : Int) - 1 = ((n - 1 : Nat) : Int) by omega]
  rcases Nat.lt_or_ge i h with h2 | h2
  · have e1 : (i + n - h) % n = n - (h - i) := by rw [show i + n - h = n - (h - i) by omega]; exact Nat.mod_eq_of_lt (by omega)
    rw [e1]
    have hd : 18446744073709551616 = n * 2 ^ (64 - j) := by rw [hn, ← Nat.pow_add, show j + (64 - j) = 64 by omega]
    have e2 : (18446744073709551616 - (h - i)) % n = n - (h - i) := by
      have hq : 0 < 2 ^ (64 - j) := Nat.two_pow_pos _
      obtain ⟨q, hq2⟩ : ∃ q, 2 ^ (64 - j) = q + 1 := ⟨2 ^ (64 - j) - 1, by omega⟩
      rw [hd, hq2, Nat.mul_add, Nat.mul_one, show n * q + n - (h - i) = (n - (h - i)) + n * q by omega, Nat.add_mul_mod_self_left]
      exact Nat.mod_eq_of_lt (by omega)
    have e3 : (BitVec.ofInt 64 ((i : Int) - (h : Int))).toNat = 18446744073709551616 - (h - i) := by
      rw [BitVec.toNat_ofInt]
      omega
    have e4 : (BitVec.ofInt 64 ((n - 1 : Nat) : Int)).toNat = n - 1 := by
      rw [BitVec.toNat_ofInt]
      omega
    show IntKind.i64.wrap (((BitVec.ofInt 64 ((i : Int) - (h : Int)) &&& BitVec.ofInt 64 ((n - 1 : Nat) : Int)).toNat : Nat) : Int) = _
    rw [BitVec.toNat_and, e3, e4]
    have e5 : (18446744073709551616 - (h - i)) &&& (n - 1) = n - (h - i) := by rw [hn, Nat.and_two_pow_sub_one_eq_mod, ← hn]; exact e2
    rw [e5, i64_w, wrap64_in (by omega) (by omega)]
  · have e1 : (i + n - h) % n = i - h := by rw [show i + n - h = (i - h) + n by omega, Nat.add_mod_right]; exact Nat.mod_eq_of_lt (by omega)
    rw [e1, show (i : Int) - (h : Int) = ((i - h : Nat) : Int) by omega, and_i64 _ _ (by omega) (by omega)]
    congr 1
    rw [hn, Nat.and_two_pow_sub_one_eq_mod, ← hn]
    exact Nat.mod_eq_of_lt (by omega)
theorem cast_place (k : ByteArray) (hk : k.size ≤ 4611686018427387904) (n j : Nat) (hn : n = 2 ^ j) (hj : j ≤ 30) (w : World) :
    Calls Try.prog 28 #[.string k, .int .i64 (n : Int)] w fun e w' => e = .returned (.int .i64 ((hmK n k : Nat) : Int)) ∧ Below w.heap.size w w' := by
  subst hn
  exact place_calls k hk j hj w
def FarPost (w : World) (T : List Slt) (k : ByteArray) (i0 hm : Nat) (e : Ending) (w' : World) : Prop :=
  ((occ T i0 = none ∧ e = .returned (.tuple #[.int .i64 0, .bool false])) ∨ (occ T i0 = some k ∧ e = .returned (.tuple #[.int .i64 ((i0 + T.length - hm) % T.length : Nat), .bool true]))) ∧ Below w.heap.size w w'
def far4T : Bool × List (List Nat × List Nat) := (true, [([], []), ([], []), ([], []), ([2], [2]), ([3], [3]), ([4], [4]), ([5], [5]), ([1, 6], [1, 6]), ([0, 7], [0, 7]), ([], []), ([9], [9]), ([10], [10]), ([11], [11]), ([12], [12]), ([13], [13]), ([8, 14], [8, 14]), ([15, 7, 0, 1, 2, 3, 4, 5, 6, 7, 8, 9, 10, 11, 12, 13, 14, 15], [15]), ([16, 0, 1, 2, 3, 4, 5, 6, 7, 8, 9, 10, 11, 12, 13, 14, 15, 16], [])])
def far4B : List Nat := [0, 0, 0, 4, 12, 28, 60, 126, 255, 0, 512, 1536, 3584, 7680, 15872, 32767, 65535, 131071]
theorem far4tab : rtab .any (opsOf Try.f19 4) = far4T := by kernel_rfl
theorem far4bits : waitsOk far4T.2 far4B = true := by kernel_rfl
set_option maxHeartbeats 6400000 in
set_option maxRecDepth 100000 in
theorem dir_Far.calls (w : World) (A : Nat → Prop) (p : Nat) (T : List Slt) (many : Int) (h : DirAt w A p T many) (j : Nat) (hj : j ≤ 30) (hT : T.length = 2 ^ j) (hg : Gap (occ T) T.length) (k : ByteArray) (hk : k.size ≤ 4611686018427387904) :
    Calls Try.prog 19 #[.pointer (some ⟨p, 0, none⟩), .string k] w (FarPost w T k (fnd (occ T) T.length (hmK T.length k) k) (hmK T.length k)) := by
  have hp0 : 0 < T.length := by rw [hT]; exact Nat.two_pow_pos j
  have H := Aside0.mk h
  have HT := Aside0.mk hT
  have HFD := Aside0.mk (dir_find.calls w A p T many h j hj hT hg k hk)
  have HTW := Aside0.mk (fnd_two (k := k) (hmK_lt k hp0) hg)
  have HI0 := Aside0.mk (fnd_lt (f := occ T) (h := hmK T.length k) (k := k) hp0)
  obtain ⟨i0, hi0⟩ : ∃ i0, fnd (occ T) T.length (hmK T.length k) k = i0 := ⟨_, rfl⟩
  rw [hi0] at HFD HTW HI0 ⊢
  have HP0 := Aside0.mk hp0
  have HPL := Aside0.mk (fun W => cast_place k hk T.length j hT hj W)
  have HHM := Aside0.mk (hmK_lt k hp0)
  obtain ⟨hm, hhm⟩ : ∃ hm, hmK T.length k = hm := ⟨_, rfl⟩
  rw [hhm] at HPL HHM ⊢
  have HNUM := Aside0.mk (far_num T.length j i0 hm hT hj HI0.out HHM.out)
  clear h hT hg hi0 hp0 hhm
  go_enter Try.func19, Try.ntmps19
  go_wp2_with fail
  refine HFD.out.mono ?_
  rintro e w1 ⟨rfl, b1⟩
  have B1 := Aside0.mk b1
  have D1 := Aside0.mk (H.out.below b1)
  clear b1 HFD
  have hi := HI0.out
  obtain ⟨g, c, h3, h4⟩ := D1.out.form HP0.out
  obtain ⟨c0, c1, fr⟩ := cells2d h3
  obtain ⟨q0, q1, q2, q3, q4, q5⟩ := dir_slot h4 i0 hi
  have H3 := Aside0.mk h3
  have H4 := Aside0.mk h4
  have HOC := Aside0.mk (occ_at hi)
  generalize T[i0] = s at q0 q1 q2 q3 q4 q5 HOC
  obtain ⟨key, ⟨l0, l1, l2, l3⟩, is⟩ := s
  simp only at q0 q1 q2 q3 q4 q5 HOC
  have z0 : 0 ≤ (i0 : Int) := by omega
  have z1 : (i0 : Int) < (T.length : Int) := by omega
  clear h3 h4
  cases is with
  | false =>
    have HN := Aside0.mk (HOC.out.trans (if_neg (by simp)))
    go_wp2_with fail
    go_ret2
    exact ⟨Or.inl ⟨HN.out, rfl⟩, B1.out⟩
  | true =>
    have HN := Aside0.mk (HOC.out.trans (if_pos rfl))
    have HKK := Aside0.mk (show occ T i0 = some k by
      rcases HTW.out with h5 | h5
      · rw [HN.out] at h5; cases h5
      · exact h5)
    go_wp2_with fail
    clear c0 c1 fr q0 q1 q2 q3 q4 q5
    refine region_draw (n := 18) (S := fun W => Below w1.heap.size w1 W) (ds := []) #[false, false, false, false, false, false, false, false, false, false, false, false, false, false, false, false, false, false] (by kernel_rfl) rfl rfl (fun W => Below w1.heap.size w1 W) ((Below.refl _ _).drew) (fun W h => h) ?_
    rintro ws hws
    refine with_tabW far4tab far4bits (fun HT_ HW_ => ?_)
    have BS := Aside0.mk hws
    clear hws
    refine pure_ (i := 0) (N := some 19) (v := ?_) (a' := ?_) #[true, false, false, false, false, false, false, false, false, false, false, false, false, false, false, false, false, false] rfl rfl (any_of HT_.out (by kernel_rfl)) (fun _ _ _ h => h) (Or.inl ⟨by rfl, ?_⟩) ?_ ?_
    rotate_left
    · intro w'
      go_simp
      with_reducible rfl
    rotate_left
    · simp only [Act.put, List.setIfInBounds_toArray, List.set_cons_zero, List.set_cons_succ, i64_w, i32_w]
      rfl
    refine pure_ (i := 1) (N := some 20) (v := ?_) (a' := ?_) #[true, true, false, false, false, false, false, false, false, false, false, false, false, false, false, false, false, false] rfl rfl (any_of HT_.out (by kernel_rfl)) (fun _ _ _ h => h) (Or.inl ⟨by rfl, ?_⟩) ?_ ?_
    rotate_left
    · intro w'
      go_simp
      with_reducible rfl
    rotate_left
    · simp only [Act.put, List.setIfInBounds_toArray, List.set_cons_zero, List.set_cons_succ, i64_w, i32_w]
      rfl
    refine pure_ (i := 2) (N := some 21) (v := ?_) (a' := ?_) #[true, true, true, false, false, false, false, false, false, false, false, false, false, false, false, false, false, false] rfl rfl (any_of HT_.out (by kernel_rfl)) (fun _ _ _ h => h) (Or.inl ⟨by rfl, ?_⟩) ?_ ?_
    rotate_left
    · intro w'
      go_simp
      with_reducible rfl
    rotate_left
    · simp only [Act.put, List.setIfInBounds_toArray, List.set_cons_zero, List.set_cons_succ, i64_w, i32_w]
      rfl
    refine pure_ (i := 3) (N := some 22) (v := ?_) (a' := ?_) #[true, true, true, true, false, false, false, false, false, false, false, false, false, false, false, false, false, false] rfl rfl (any_of HT_.out (by kernel_rfl)) (fun _ _ _ h => h) (Or.inl ⟨by rfl, ?_⟩) ?_ ?_
    rotate_left
    · intro w'
      go_simp
      with_reducible rfl
    rotate_left
    · simp only [Act.put, List.setIfInBounds_toArray, List.set_cons_zero, List.set_cons_succ, i64_w, i32_w]
      rfl
    refine pure_ (i := 4) (N := some 23) (v := ?_) (a' := ?_) #[true, true, true, true, true, false, false, false, false, false, false, false, false, false, false, false, false, false] rfl rfl (any_of HT_.out (by kernel_rfl)) (fun _ _ _ h => h) (Or.inl ⟨by rfl, ?_⟩) ?_ ?_
    rotate_left
    · intro w'
      go_simp
      with_reducible rfl
    rotate_left
    · simp only [Act.put, List.setIfInBounds_toArray, List.set_cons_zero, List.set_cons_succ, i64_w, i32_w]
      rfl
    refine take_ (i := 5) (N := some 24) (v := ?_) (a' := ?_) #[true, true, true, true, true, true, false, false, false, false, false, false, false, false, false, false, false, false] rfl rfl (take_ofW HT_.out HW_.out (by kernel_rfl)) (fun _ _ _ h => h) (Or.inl ⟨by rfl, ?_⟩) BS.out ?_ ?_
    rotate_left
    · intro w' hW
      obtain ⟨d0, d1, dr⟩ := cells2d (blk_below H3.out hW)
      go_simp
      with_reducible rfl
    rotate_left
    · simp only [Act.put, List.setIfInBounds_toArray, List.set_cons_zero, List.set_cons_succ, i64_w, i32_w]
      rfl
    refine pure_ (i := 6) (N := some 25) (v := ?_) (a' := ?_) #[true, true, true, true, true, true, true, false, false, false, false, false, false, false, false, false, false, false] rfl rfl (any_of HT_.out (by kernel_rfl)) (fun _ _ _ h => h) (Or.inl ⟨by rfl, ?_⟩) ?_ ?_
    rotate_left
    · intro w'
      go_simp
      with_reducible rfl
    rotate_left
    · simp only [Act.put, List.setIfInBounds_toArray, List.set_cons_zero, List.set_cons_succ, i64_w, i32_w]
      rfl
    refine pure_ (i := 9) (N := some 28) (v := ?_) (a' := ?_) #[true, true, true, true, true, true, true, false, false, true, false, false, false, false, false, false, false, false] rfl rfl (any_of HT_.out (by kernel_rfl)) (fun _ _ _ h => h) (Or.inl ⟨by rfl, ?_⟩) ?_ ?_
    rotate_left
    · intro w'
      go_simp
      with_reducible rfl
    rotate_left
    · simp only [Act.put, List.setIfInBounds_toArray, List.set_cons_zero, List.set_cons_succ, i64_w, i32_w]
      rfl
    refine pure_ (i := 10) (N := some 29) (v := ?_) (a' := ?_) #[true, true, true, true, true, true, true, false, false, true, true, false, false, false, false, false, false, false] rfl rfl (any_of HT_.out (by kernel_rfl)) (fun _ _ _ h => h) (Or.inl ⟨by rfl, ?_⟩) ?_ ?_
    rotate_left
    · intro w'
      go_simp
      with_reducible rfl
    rotate_left
    · simp only [Act.put, List.setIfInBounds_toArray, List.set_cons_zero, List.set_cons_succ, i64_w, i32_w]
      rfl
    refine pure_ (i := 11) (N := some 30) (v := ?_) (a' := ?_) #[true, true, true, true, true, true, true, false, false, true, true, true, false, false, false, false, false, false] rfl rfl (any_of HT_.out (by kernel_rfl)) (fun _ _ _ h => h) (Or.inl ⟨by rfl, ?_⟩) ?_ ?_
    rotate_left
    · intro w'
      go_simp
      with_reducible rfl
    rotate_left
    · simp only [Act.put, List.setIfInBounds_toArray, List.set_cons_zero, List.set_cons_succ, i64_w, i32_w]
      rfl
    refine take_ (i := 12) (N := some 31) (v := ?_) (a' := ?_) #[true, true, true, true, true, true, true, false, false, true, true, true, true, false, false, false, false, false] rfl rfl (take_ofW HT_.out HW_.out (by kernel_rfl)) (fun _ _ _ h => h) (Or.inl ⟨by rfl, ?_⟩) BS.out ?_ ?_
    rotate_left
    · intro w' hW
      obtain ⟨d0, d1, dr⟩ := cells2d (blk_below H3.out hW)
      go_simp
      with_reducible rfl
    rotate_left
    · simp only [Act.put, List.setIfInBounds_toArray, List.set_cons_zero, List.set_cons_succ, i64_w, i32_w]
      rfl
    refine pure_ (i := 13) (N := some 32) (v := ?_) (a' := ?_) #[true, true, true, true, true, true, true, false, false, true, true, true, true, true, false, false, false, false] rfl rfl (any_of HT_.out (by kernel_rfl)) (fun _ _ _ h => h) (Or.inl ⟨by rfl, ?_⟩) ?_ ?_
    rotate_left
    · intro w'
      go_simp
      with_reducible rfl
    rotate_left
    · simp only [Act.put, List.setIfInBounds_toArray, List.set_cons_zero, List.set_cons_succ, i64_w, i32_w]
      rfl
    refine pure_ (i := 14) (N := some 33) (v := ?_) (a' := ?_) #[true, true, true, true, true, true, true, false, false, true, true, true, true, true, true, false, false, false] rfl rfl (any_of HT_.out (by kernel_rfl)) (fun _ _ _ h => h) (Or.inl ⟨by rfl, ?_⟩) ?_ ?_
    rotate_left
    · intro w'
      go_simp
      with_reducible rfl
    rotate_left
    · simp only [Act.put, List.setIfInBounds_toArray, List.set_cons_zero, List.set_cons_succ, i64_w, i32_w]
      rfl
    refine one_ (i := 7) (N := some 26) #[true, true, true, true, true, true, true, true, false, true, true, true, true, true, true, false, false, false] rfl rfl (one_of HT_.out (by kernel_rfl)) (by decide) (fun K hK => ?_)
    refine goes_ Try.func28 (by kernel_rfl) rfl #[.string k, .int .i64 (T.length : Int)] (by rfl) rfl rfl (by (try simp only [List.map_toArray, List.map_cons, List.map_nil]); first | done | rfl) ?_
    refine (HPL.out ws).mono ?_
    rintro e w6 ⟨rfl, b6⟩
    refine ⟨_, rfl, ?_⟩
    have B6 := Aside0.mk (BS.out.trans (b6.mono BS.out.size))
    clear b6
    refine hK.out _ _ B6.out (fun _ => ?_)
    clear hK K
    refine norm_ (a' := ?_) ?_ ?_
    rotate_left
    · show Act.put _ (some 26) _ = _
      simp only [Act.put, List.setIfInBounds_toArray, List.set_cons_zero, List.set_cons_succ, i64_w, i32_w]
      rfl
    refine pure_ (i := 8) (N := some 27) (v := ?_) (a' := ?_) #[true, true, true, true, true, true, true, true, true, true, true, true, true, true, true, false, false, false] rfl rfl (any_of HT_.out (by kernel_rfl)) (fun _ _ _ h => h) (Or.inl ⟨by rfl, ?_⟩) ?_ ?_
    rotate_left
    · intro w'
      go_simp
      with_reducible rfl
    rotate_left
    · simp only [Act.put, List.setIfInBounds_toArray, List.set_cons_zero, List.set_cons_succ, i64_w, i32_w]
      rfl
    refine pure_ (i := 15) (N := some 34) (v := ?_) (a' := ?_) #[true, true, true, true, true, true, true, true, true, true, true, true, true, true, true, true, false, false] rfl rfl (any_of HT_.out (by kernel_rfl)) (fun _ _ _ h => h) (Or.inl ⟨by rfl, ?_⟩) ?_ ?_
    rotate_left
    · intro w'
      go_simp
      with_reducible rfl
    rotate_left
    · simp only [Act.put, List.setIfInBounds_toArray, List.set_cons_zero, List.set_cons_succ, i64_w, i32_w]
      rfl
    refine pure_ (i := 16) (N := some 4) (v := ?_) (a' := ?_) #[true, true, true, true, true, true, true, true, true, true, true, true, true, true, true, true, true, false] rfl rfl (any_of HT_.out (by kernel_rfl)) (fun _ _ _ h => h) (Or.inl ⟨by rfl, ?_⟩) ?_ ?_
    rotate_left
    · intro w'
      go_simp
      with_reducible rfl
    rotate_left
    · simp only [Act.put, List.setIfInBounds_toArray, List.set_cons_zero, List.set_cons_succ, i64_w, i32_w]
      rfl
    refine pure_ (i := 17) (N := some 5) (v := ?_) (a' := ?_) #[true, true, true, true, true, true, true, true, true, true, true, true, true, true, true, true, true, true] rfl rfl (any_of HT_.out (by kernel_rfl)) (fun _ _ _ h => h) (Or.inl ⟨by rfl, ?_⟩) ?_ ?_
    rotate_left
    · intro w'
      go_simp
      with_reducible rfl
    rotate_left
    · simp only [Act.put, List.setIfInBounds_toArray, List.set_cons_zero, List.set_cons_succ, i64_w, i32_w]
      rfl
    refine done_ (done_of HT_.out (by kernel_rfl)) ?_
    go_wp2_with fail
    go_ret2
    rw [HNUM.out]
    exact ⟨Or.inr ⟨HKK.out, rfl⟩, B1.out.trans (B6.out.mono B1.out.size)⟩
def get1T : Bool × List (List Nat × List Nat) := (true, [([], []), ([0], [0]), ([1], [1]), ([2], [2]), ([], []), ([], []), ([4, 5], [4, 5]), ([3, 6], [3, 6]), ([7], [7]), ([], []), ([9, 8, 6, 0, 1, 2, 3, 4, 5, 6, 7, 8, 9], [8, 9])])
def get1B : List Nat := [0, 1, 3, 7, 0, 0, 48, 127, 255, 0, 1023]
theorem get1tab : rtab .any (opsOf Try.f12 1) = get1T := by kernel_rfl
theorem get1bits : waitsOk get1T.2 get1B = true := by kernel_rfl
def get2T : Bool × List (List Nat × List Nat) := (true, [([], []), ([0], [0]), ([], []), ([2], [2]), ([1, 0, 1], [1]), ([3, 4, 0, 1, 2, 3, 4], [3])])
def get2B : List Nat := [0, 1, 0, 4, 3, 31]
theorem get2tab : rtab .any (opsOf Try.f12 2) = get2T := by kernel_rfl
theorem get2bits : waitsOk get2T.2 get2B = true := by kernel_rfl
theorem cells4e {w : World} {s : Nat} {v0 v1 v2 v3 : Value} {t : TypeId} (h : w.heap[s]? = some (.cells #[v0, v1, v2, v3] t)) :
    w.cell? ⟨s, 0, none⟩ = some v0 ∧ w.cell? ⟨s, 1, none⟩ = some v1 ∧ w.cell? ⟨s, 2, none⟩ = some v2 ∧ w.cell? ⟨s, 3, none⟩ = some v3 ∧ ∀ i, w.frozen? ⟨s, i, none⟩ = false := by
  refine ⟨?_, ?_, ?_, ?_, fun i => ?_⟩ <;> simp [World.cell?, World.frozen?, h]
theorem getBox {w w2 w9 : World} {b : Nat} {x0 x1 x2 x3 x4 x5 : Value} {o : Obj} {t : TypeId} (hr : w2.heap[w.heap.size]? = some o) (h2 : Below w.heap.size w w2) (h9 : Below w2.heap.size w2 w9) (hx : w9.heap[b]? = some (.cells #[x0, x1, x2, x3, x4, x5] t)) (hb : w2.heap.size ≤ b) (v0 v1 v2 v3 v4 v5 : Value) :
    ((((((w9.setCell ⟨b, 0, none⟩ v0).setCell ⟨b, 1, none⟩ v1).setCell ⟨b, 2, none⟩ v2).setCell ⟨b, 3, none⟩ v3).setCell ⟨b, 4, none⟩ v4).setCell ⟨b, 5, none⟩ v5).heap[w.heap.size]? = some o ∧
    ((((((w9.setCell ⟨b, 0, none⟩ v0).setCell ⟨b, 1, none⟩ v1).setCell ⟨b, 2, none⟩ v2).setCell ⟨b, 3, none⟩ v3).setCell ⟨b, 4, none⟩ v4).setCell ⟨b, 5, none⟩ v5).heap[b]? = some (.cells #[v0, v1, v2, v3, v4, v5] t) ∧
    Below w.heap.size w ((((((w9.setCell ⟨b, 0, none⟩ v0).setCell ⟨b, 1, none⟩ v1).setCell ⟨b, 2, none⟩ v2).setCell ⟨b, 3, none⟩ v3).setCell ⟨b, 4, none⟩ v4).setCell ⟨b, 5, none⟩ v5) := by
  have hlt := blk_lt hr
  have hne : w.heap.size ≠ b := by omega
  have h0 := blk_below hr h9
  refine ⟨?_, ?_, ?_⟩
  · have st : ∀ {W : World} (i : Nat) (v : Value), W.heap[w.heap.size]? = some o → (W.setCell ⟨b, i, none⟩ v).heap[w.heap.size]? = some o := fun i v h => (Below.heap_setCell _ ⟨b, i, none⟩ v w.heap.size hne).trans h
    exact st 5 _ (st 4 _ (st 3 _ (st 2 _ (st 1 _ (st 0 _ h0)))))
  · have s1 := blk_set (blk_set (blk_set (blk_set (blk_set (blk_set hx 0 v0) 1 v1) 2 v2) 3 v3) 4 v4) 5 v5
    simpa using s1
  · have hb' : w.heap.size ≤ b := by have := h2.size; omega
    exact ((((((h2.trans (h9.mono h2.size)).setCell (p := ⟨b, 0, none⟩) hb' v0).setCell (p := ⟨b, 1, none⟩) hb' v1).setCell (p := ⟨b, 2, none⟩) hb' v2).setCell (p := ⟨b, 3, none⟩) hb' v3).setCell (p := ⟨b, 4, none⟩) hb' v4).setCell (p := ⟨b, 5, none⟩) hb' v5
theorem getLoc {w W : World} {b : Nat} {o : Obj} {x0 x1 x2 x3 : Value} {t : TypeId} (h : W.heap[w.heap.size]? = some (.cells #[x0, x1, x2, x3] t)) (hb : W.heap[b]? = some o) (hne : w.heap.size ≠ b) (hB : Below w.heap.size w W) (v0 v1 v2 v3 : Value) :
    ((((W.setCell ⟨w.heap.size, 0, none⟩ v0).setCell ⟨w.heap.size, 1, none⟩ v1).setCell ⟨w.heap.size, 2, none⟩ v2).setCell ⟨w.heap.size, 3, none⟩ v3).heap[w.heap.size]? = some (.cells #[v0, v1, v2, v3] t) ∧
    ((((W.setCell ⟨w.heap.size, 0, none⟩ v0).setCell ⟨w.heap.size, 1, none⟩ v1).setCell ⟨w.heap.size, 2, none⟩ v2).setCell ⟨w.heap.size, 3, none⟩ v3).heap[b]? = some o ∧
    Below w.heap.size w ((((W.setCell ⟨w.heap.size, 0, none⟩ v0).setCell ⟨w.heap.size, 1, none⟩ v1).setCell ⟨w.heap.size, 2, none⟩ v2).setCell ⟨w.heap.size, 3, none⟩ v3) := by
  refine ⟨?_, ?_, ?_⟩
  · have s1 := blk_set (blk_set (blk_set (blk_set h 0 v0) 1 v1) 2 v2) 3 v3
    simpa using s1
  · have st : ∀ {W : World} (i : Nat) (v : Value), W.heap[b]? = some o → (W.setCell ⟨w.heap.size, i, none⟩ v).heap[b]? = some o := fun i v h => (Below.heap_setCell _ ⟨w.heap.size, i, none⟩ v b (fun e => hne e.symm)).trans h
    exact st 3 _ (st 2 _ (st 1 _ (st 0 _ hb)))
  · have hl : w.heap.size ≤ w.heap.size := Nat.le_refl _
    exact (((hB.setCell (p := ⟨w.heap.size, 0, none⟩) hl v0).setCell (p := ⟨w.heap.size, 1, none⟩) hl v1).setCell (p := ⟨w.heap.size, 2, none⟩) hl v2).setCell (p := ⟨w.heap.size, 3, none⟩) hl v3
theorem results_row_tmp {P : Program} {fn : Func} {p q : Tmp} {ty : TypeId} (h : fn.results = #[.cell p ty, .tmp q]) (tmps : Array Value) (w : World) (g : Nat) (t : TypeId) (cs : Array Value) (fr : Nat × Nat) (d : TypeDesc)
    (hp : tmps.getD p undef = .pointer (some ⟨g, 0, none⟩)) (hg : w.heap[g]? = some (.cells cs t fr))
    (hu : P.underlying ty = some d) (hd : (match d with | .struct _ | .array _ _ => true | _ => false) = true) (hi : (P.info? ty).map (·.size) = some cs.size) :
    (results fn tmps).run P w = .ok (.tuple #[.agg cs, tmps.getD q undef]) w := by
  have hp' : tmps[p]?.getD undef = .pointer (some ⟨g, 0, none⟩) := by simpa using hp
  simp [results, h, hp', asAddr, run_loadVar_row w g t ty cs fr d hg hu hd hi]
def LocV (l : Loc4) : Value := .agg #[.int .i64 l.1, .int .i64 l.2.1, .int .i64 l.2.2.1, .int .u64 l.2.2.2]
/-- What a place tells. -/
def atT (T : List Slt) (i : Nat) : Loc4 × Bool := match T[i]? with
  | some s => (s.2.1, s.2.2)
  | none => ((0, 0, 0, 0), false)
def GetPost (w : World) (T : List Slt) (i0 : Nat) (e : Ending) (w' : World) : Prop := e = .returned (.tuple #[LocV (atT T i0).1, .bool (atT T i0).2]) ∧ Below w.heap.size w w'
set_option maxHeartbeats 6400000 in
set_option maxRecDepth 100000 in
theorem dir_Get.calls (w : World) (A : Nat → Prop) (p : Nat) (T : List Slt) (many : Int) (h : DirAt w A p T many) (j : Nat) (hj : j ≤ 30) (hT : T.length = 2 ^ j) (hg : Gap (occ T) T.length) (k : ByteArray) (hk : k.size ≤ 4611686018427387904) :
    Calls Try.prog 12 #[.pointer (some ⟨p, 0, none⟩), .string k] w (GetPost w T (fnd (occ T) T.length (hmK T.length k) k)) := by
  have hp0 : 0 < T.length := by rw [hT]; exact Nat.two_pow_pos j
  obtain ⟨w2, hw2⟩ : ∃ w2, w.alloc (.cells #[.int .i64 0, .int .i64 0, .int .i64 0, .int .u64 0] 31) = w2 := ⟨_, rfl⟩
  have B2 := Aside0.mk (show Below w.heap.size w w2 by rw [← hw2]; exact below_alloc (Below.refl _ _) _)
  have RB := Aside0.mk (show w2.heap[w.heap.size]? = some (.cells #[.int .i64 0, .int .i64 0, .int .i64 0, .int .u64 0] 31) by rw [← hw2]; exact blk_new _ _)
  have D2 := Aside0.mk (h.below B2.out)
  have HFD := Aside0.mk (fun W (hW : Below w2.heap.size w2 W) => dir_find.calls W A p T many (D2.out.below hW) j hj hT hg k hk)
  have HI0 := Aside0.mk (fnd_lt (f := occ T) (h := hmK T.length k) (k := k) hp0)
  obtain ⟨i0, hi0⟩ : ∃ i0, fnd (occ T) T.length (hmK T.length k) k = i0 := ⟨_, rfl⟩
  rw [hi0] at HFD HI0 ⊢
  have hi := HI0.out
  obtain ⟨g, c, h3, h4⟩ := D2.out.form hp0
  have H3 := Aside0.mk h3
  have H4 := Aside0.mk h4
  have HSL := Aside0.mk (fun W (hW : Below w2.heap.size w2 W) => dir_slot (Kd.R_below h4 hW) i0 hi)
  have HAT := Aside0.mk (show atT T i0 = (T[i0].2.1, T[i0].2.2) by unfold atT; rw [List.getElem?_eq_getElem hi])
  generalize T[i0] = s at HSL HAT
  obtain ⟨key, ⟨l0, l1, l2, l3⟩, is⟩ := s
  simp only at HSL HAT
  have z0 : 0 ≤ (i0 : Int) := by omega
  have z1 : (i0 : Int) < (T.length : Int) := by omega
  have HW2 := Aside0.mk hw2
  clear h hT hg hi0 hp0 h3 h4 hw2
  go_enter Try.func12, Try.ntmps12
  go_wp2_with fail
  rw [HW2.out]
  clear HW2
  refine region_draw (n := 11) (S := fun W => Below w2.heap.size w2 W) (ds := [10]) #[false, false, false, false, false, false, false, false, false, false, false] (by kernel_rfl) rfl rfl (fun W => Below w2.heap.size w2 W) ((Below.refl _ _).drew) (fun W h => h) ?_
  rintro ws hws
  refine with_tabW get1tab get1bits (fun HT_ HW_ => ?_)
  have BS := Aside0.mk hws
  clear hws
  refine pure_ (i := 0) (N := some 7) (v := ?_) (a' := ?_) #[true, false, false, false, false, false, false, false, false, false, false] rfl rfl (any_of HT_.out (by kernel_rfl)) (fun _ _ _ h => h) (Or.inl ⟨by rfl, ?_⟩) ?_ ?_
  rotate_left
  · intro w'
    go_simp
    with_reducible rfl
  rotate_left
  · simp only [Act.put, List.setIfInBounds_toArray, List.set_cons_zero, List.set_cons_succ, i64_w, i32_w]
    rfl
  refine pure_ (i := 1) (N := some 8) (v := ?_) (a' := ?_) #[true, true, false, false, false, false, false, false, false, false, false] rfl rfl (any_of HT_.out (by kernel_rfl)) (fun _ _ _ h => h) (Or.inl ⟨by rfl, ?_⟩) ?_ ?_
  rotate_left
  · intro w'
    go_simp
    with_reducible rfl
  rotate_left
  · simp only [Act.put, List.setIfInBounds_toArray, List.set_cons_zero, List.set_cons_succ, i64_w, i32_w]
    rfl
  refine pure_ (i := 2) (N := some 9) (v := ?_) (a' := ?_) #[true, true, true, false, false, false, false, false, false, false, false] rfl rfl (any_of HT_.out (by kernel_rfl)) (fun _ _ _ h => h) (Or.inl ⟨by rfl, ?_⟩) ?_ ?_
  rotate_left
  · intro w'
    go_simp
    with_reducible rfl
  rotate_left
  · simp only [Act.put, List.setIfInBounds_toArray, List.set_cons_zero, List.set_cons_succ, i64_w, i32_w]
    rfl
  refine take_ (i := 3) (N := some 10) (v := ?_) (a' := ?_) #[true, true, true, true, false, false, false, false, false, false, false] rfl rfl (take_ofW HT_.out HW_.out (by kernel_rfl)) (fun _ _ _ h => h) (Or.inl ⟨by rfl, ?_⟩) BS.out ?_ ?_
  rotate_left
  · intro w' hW
    obtain ⟨d0, d1, dr⟩ := cells2d (blk_below H3.out hW)
    go_simp
    with_reducible rfl
  rotate_left
  · simp only [Act.put, List.setIfInBounds_toArray, List.set_cons_zero, List.set_cons_succ, i64_w, i32_w]
    rfl
  refine pure_ (i := 4) (N := some 11) (v := ?_) (a' := ?_) #[true, true, true, true, true, false, false, false, false, false, false] rfl rfl (any_of HT_.out (by kernel_rfl)) (fun _ _ _ h => h) (Or.inl ⟨by rfl, ?_⟩) ?_ ?_
  rotate_left
  · intro w'
    go_simp
    with_reducible rfl
  rotate_left
  · simp only [Act.put, List.setIfInBounds_toArray, List.set_cons_zero, List.set_cons_succ, i64_w, i32_w]
    rfl
  refine pure_ (i := 5) (N := some 12) (v := ?_) (a' := ?_) #[true, true, true, true, true, true, false, false, false, false, false] rfl rfl (any_of HT_.out (by kernel_rfl)) (fun _ _ _ h => h) (Or.inl ⟨by rfl, ?_⟩) ?_ ?_
  rotate_left
  · intro w'
    go_simp
    with_reducible rfl
  rotate_left
  · simp only [Act.put, List.setIfInBounds_toArray, List.set_cons_zero, List.set_cons_succ, i64_w, i32_w]
    rfl
  refine two_ (i := 6) (j := 9) (Ni := some 13) (Nj := some 6) #[true, true, true, true, true, true, true, false, false, false, false] #[true, true, true, true, true, true, false, false, false, true, false] rfl rfl rfl rfl (two_of HT_.out (by kernel_rfl)) (by decide) (by decide) (fun K hK => ?_) (fun K hK => ?_)
  · skip
    refine goes_ Try.func23 (by kernel_rfl) rfl #[.pointer (some ⟨p, 0, none⟩), .string k] (by rfl) rfl rfl (by (try simp only [List.map_toArray, List.map_cons, List.map_nil]); first | done | rfl) ?_
    refine (HFD.out ws BS.out).mono ?_
    rintro e w6 ⟨rfl, b6⟩
    refine ⟨_, rfl, ?_⟩
    have B6 := Aside0.mk (BS.out.trans (b6.mono BS.out.size))
    clear b6
    refine hK.out _ _ B6.out (fun _ => ?_)
    clear hK K
    refine norm_ (a' := ?_) ?_ ?_
    rotate_left
    · show Act.put _ (some 13) _ = _
      simp only [Act.put, List.setIfInBounds_toArray, List.set_cons_zero, List.set_cons_succ, i64_w, i32_w]
      rfl
    refine pure_ (i := 7) (N := some 14) (v := ?_) (a' := ?_) #[true, true, true, true, true, true, true, true, false, false, false] rfl rfl (any_of HT_.out (by kernel_rfl)) (fun _ _ _ h => h) (Or.inl ⟨by rfl, ?_⟩) ?_ ?_
    rotate_left
    · intro w'
      go_simp
      with_reducible rfl
    rotate_left
    · simp only [Act.put, List.setIfInBounds_toArray, List.set_cons_zero, List.set_cons_succ, i64_w, i32_w]
      rfl
    refine take_ (i := 8) (N := some 15) (v := ?_) (a' := ?_) #[true, true, true, true, true, true, true, true, true, false, false] rfl rfl (take_ofW HT_.out HW_.out (by kernel_rfl)) (fun _ _ _ h => h) (Or.inl ⟨by rfl, ?_⟩) B6.out ?_ ?_
    rotate_left
    · intro w' hW
      obtain ⟨q0, q1, q2, q3, q4, q5⟩ := HSL.out w' hW
      go_simp
      with_reducible rfl
    rotate_left
    · simp only [Act.put, List.setIfInBounds_toArray, List.set_cons_zero, List.set_cons_succ, i64_w, i32_w]
      rfl
    refine one_ (i := 9) (N := some 6) #[true, true, true, true, true, true, true, true, true, true, false] rfl rfl (one_of HT_.out (by kernel_rfl)) (by decide) (fun K hK => ?_)
    refine box_step (by rfl) (N := 6) (by rfl) (by first | (go_simp; done) | (go_simp; rfl)) ?_
    intro b hb w9 x7 b7
    have B9 := Aside0.mk (B6.out.trans (b7.mono B6.out.size))
    have X9 := Aside0.mk x7
    have HB9 := Aside0.mk (show w2.heap.size ≤ b by have := B6.out.size; omega)
    clear x7 b7 hb
    refine hK.out _ _ B9.out (fun _ => ?_)
    clear hK K
    refine norm_ (a' := ?_) ?_ ?_
    rotate_left
    · show Act.put _ (some 6) _ = _
      simp only [Act.put, List.setIfInBounds_toArray, List.set_cons_zero, List.set_cons_succ, i64_w, i32_w]
      rfl
    refine last_ (i := 10) (N := none) #[true, true, true, true, true, true, true, true, true, true, true] rfl rfl (one_of HT_.out (by kernel_rfl)) (by decide) (fun K hK => ?_)
    obtain ⟨e0, e1, e2, e3, e4, e5, er⟩ := cells6d X9.out
    refine skip_ (w1 := ?_) (by rfl) rfl ?_ ?_
    rotate_left
    · go_simp
      rfl
    refine hK.out _ _ ?_
    clear hK K
    refine done_ (done_of HT_.out (by kernel_rfl)) ?_
    have HX8 := Aside0.mk (show ((((((w9.setCell ⟨b, 0, none⟩ (.string key)).setCell ⟨b, 1, none⟩ (.int .i64 l0)).setCell ⟨b, 2, none⟩ (.int .i64 l1)).setCell ⟨b, 3, none⟩ (.int .i64 l2)).setCell ⟨b, 4, none⟩ (.int .u64 l3)).setCell ⟨b, 5, none⟩ (.bool is)).heap[w.heap.size]? = some (.cells #[.int .i64 0, .int .i64 0, .int .i64 0, .int .u64 0] 31) ∧ ((((((w9.setCell ⟨b, 0, none⟩ (.string key)).setCell ⟨b, 1, none⟩ (.int .i64 l0)).setCell ⟨b, 2, none⟩ (.int .i64 l1)).setCell ⟨b, 3, none⟩ (.int .i64 l2)).setCell ⟨b, 4, none⟩ (.int .u64 l3)).setCell ⟨b, 5, none⟩ (.bool is)).heap[b]? = some (.cells #[.string key, .int .i64 l0, .int .i64 l1, .int .i64 l2, .int .u64 l3, .bool is] 57) ∧ Below w.heap.size w ((((((w9.setCell ⟨b, 0, none⟩ (.string key)).setCell ⟨b, 1, none⟩ (.int .i64 l0)).setCell ⟨b, 2, none⟩ (.int .i64 l1)).setCell ⟨b, 3, none⟩ (.int .i64 l2)).setCell ⟨b, 4, none⟩ (.int .u64 l3)).setCell ⟨b, 5, none⟩ (.bool is)) from getBox RB.out B2.out B9.out X9.out HB9.out _ _ _ _ _ _)
    clear e0 e1 e2 e3 e4 e5 er
    generalize ((((((w9.setCell ⟨b, 0, none⟩ (.string key)).setCell ⟨b, 1, none⟩ (.int .i64 l0)).setCell ⟨b, 2, none⟩ (.int .i64 l1)).setCell ⟨b, 3, none⟩ (.int .i64 l2)).setCell ⟨b, 4, none⟩ (.int .u64 l3)).setCell ⟨b, 5, none⟩ (.bool is)) = w8 at HX8 ⊢
    go_wp2_with fail
    refine region_draw (n := 6) (S := fun W => W.heap[b]? = some (.cells #[.string key, .int .i64 l0, .int .i64 l1, .int .i64 l2, .int .u64 l3, .bool is] 57) ∧ (∃ v0 v1 v2 v3, W.heap[w.heap.size]? = some (.cells #[v0, v1, v2, v3] 31)) ∧ Below w.heap.size w W) (ds := []) #[false, false, false, false, false, false] (by kernel_rfl) rfl rfl (fun W => W.heap[b]? = some (.cells #[.string key, .int .i64 l0, .int .i64 l1, .int .i64 l2, .int .u64 l3, .bool is] 57) ∧ W.heap[w.heap.size]? = some (.cells #[.int .i64 0, .int .i64 0, .int .i64 0, .int .u64 0] 31) ∧ Below w.heap.size w W) ⟨blk_drew HX8.out.2.1, blk_drew HX8.out.1, HX8.out.2.2.drew⟩ (fun W h => ⟨h.1, ⟨_, _, _, _, h.2.1⟩, h.2.2⟩) ?_
    rintro ws2 ⟨hy1, hy2, hy3⟩
    refine with_tabW get2tab get2bits (fun HT_ HW_ => ?_)
    have HY1 := Aside0.mk hy1
    have HY2 := Aside0.mk hy2
    have HY3 := Aside0.mk hy3
    clear hy1 hy2 hy3
    refine pure_ (i := 0) (N := some 16) (v := ?_) (a' := ?_) #[true, false, false, false, false, false] rfl rfl (any_of HT_.out (by kernel_rfl)) (fun _ _ _ h => h) (Or.inl ⟨by rfl, ?_⟩) ?_ ?_
    rotate_left
    · intro w'
      go_simp
      with_reducible rfl
    rotate_left
    · simp only [Act.put, List.setIfInBounds_toArray, List.set_cons_zero, List.set_cons_succ, i64_w, i32_w]
      rfl
    refine take_ (i := 1) (N := some 17) (v := ?_) (a' := ?_) #[true, true, false, false, false, false] rfl rfl (take_ofW HT_.out HW_.out (by kernel_rfl)) (fun _ _ _ h => h) (Or.inl ⟨by rfl, ?_⟩) ⟨HY1.out, ⟨_, _, _, _, HY2.out⟩, HY3.out⟩ ?_ ?_
    rotate_left
    · intro w' hW
      obtain ⟨e0, e1, e2, e3, e4, e5, er⟩ := cells6d hW.1
      go_simp
      with_reducible rfl
    rotate_left
    · simp only [Act.put, List.setIfInBounds_toArray, List.set_cons_zero, List.set_cons_succ, i64_w, i32_w]
      rfl
    refine pure_ (i := 2) (N := some 18) (v := ?_) (a' := ?_) #[true, true, true, false, false, false] rfl rfl (any_of HT_.out (by kernel_rfl)) (fun _ _ _ h => h) (Or.inl ⟨by rfl, ?_⟩) ?_ ?_
    rotate_left
    · intro w'
      go_simp
      with_reducible rfl
    rotate_left
    · simp only [Act.put, List.setIfInBounds_toArray, List.set_cons_zero, List.set_cons_succ, i64_w, i32_w]
      rfl
    refine take_ (i := 3) (N := some 19) (v := ?_) (a' := ?_) #[true, true, true, true, false, false] rfl rfl (take_ofW HT_.out HW_.out (by kernel_rfl)) (fun _ _ _ h => h) (Or.inl ⟨by rfl, ?_⟩) ⟨HY1.out, ⟨_, _, _, _, HY2.out⟩, HY3.out⟩ ?_ ?_
    rotate_left
    · intro w' hW
      obtain ⟨e0, e1, e2, e3, e4, e5, er⟩ := cells6d hW.1
      go_simp
      with_reducible rfl
    rotate_left
    · simp only [Act.put, List.setIfInBounds_toArray, List.set_cons_zero, List.set_cons_succ, i64_w, i32_w]
      rfl
    have HZ := Aside0.mk (getLoc HY2.out HY1.out (show w.heap.size ≠ b by have := blk_lt RB.out; have := HB9.out; omega) HY3.out (.int .i64 l0) (.int .i64 l1) (.int .i64 l2) (.int .u64 l3))
    obtain ⟨f0, f1, f2, f3, fr⟩ := cells4e HY2.out
    refine one_ (i := 4) (N := none) #[true, true, true, true, true, false] rfl rfl (one_of HT_.out (by kernel_rfl)) (by decide) (fun K hK => ?_)
    refine skip_ (w1 := ?_) (by rfl) rfl ?_ ?_
    rotate_left
    · go_simp
      rfl
    refine hK.out _ _ ⟨HZ.out.2.1, ⟨_, _, _, _, HZ.out.1⟩, HZ.out.2.2⟩ (fun _ => ?_)
    clear hK K
    clear f0 f1 f2 f3 fr
    generalize ((((ws2.setCell ⟨w.heap.size, 0, none⟩ (.int .i64 l0)).setCell ⟨w.heap.size, 1, none⟩ (.int .i64 l1)).setCell ⟨w.heap.size, 2, none⟩ (.int .i64 l2)).setCell ⟨w.heap.size, 3, none⟩ (.int .u64 l3)) = w11 at HZ ⊢
    refine pure_ (i := 5) (N := some 5) (v := ?_) (a' := ?_) #[true, true, true, true, true, true] rfl rfl (any_of HT_.out (by kernel_rfl)) (fun _ _ _ h => h) (Or.inl ⟨by rfl, ?_⟩) ?_ ?_
    rotate_left
    · intro w'
      go_simp
      with_reducible rfl
    rotate_left
    · simp only [Act.put, List.setIfInBounds_toArray, List.set_cons_zero, List.set_cons_succ, i64_w, i32_w]
      rfl
    refine done_ (done_of HT_.out (by kernel_rfl)) ?_
    go_wp2_with fail
    exact bodyPost_ret (v := .tuple #[LocV (l0, l1, l2, l3), .bool is]) (results_row_tmp (q := 5) rfl _ _ w.heap.size _ _ (0, 0) _ rfl HZ.out.1 Try.underlying31 rfl (by kernel_rfl)) rfl ⟨by rw [HAT.out], HZ.out.2.2⟩
  · skip
    refine box_step (by rfl) (N := 6) (by rfl) (by first | (go_simp; done) | (go_simp; rfl)) ?_
    intro b hb w7 x7 b7
    have B7 := Aside0.mk (BS.out.trans (b7.mono BS.out.size))
    have X7 := Aside0.mk x7
    have HB9 := Aside0.mk (show w2.heap.size ≤ b by have := BS.out.size; omega)
    clear x7 b7 hb
    refine hK.out _ _ B7.out (fun _ => ?_)
    clear hK K
    refine norm_ (a' := ?_) ?_ ?_
    rotate_left
    · show Act.put _ (some 6) _ = _
      simp only [Act.put, List.setIfInBounds_toArray, List.set_cons_zero, List.set_cons_succ, i64_w, i32_w]
      rfl
    refine one_ (i := 6) (N := some 13) #[true, true, true, true, true, true, true, false, false, true, false] rfl rfl (one_of HT_.out (by kernel_rfl)) (by decide) (fun K hK => ?_)
    refine goes_ Try.func23 (by kernel_rfl) rfl #[.pointer (some ⟨p, 0, none⟩), .string k] (by rfl) rfl rfl (by (try simp only [List.map_toArray, List.map_cons, List.map_nil]); first | done | rfl) ?_
    refine (HFD.out w7 B7.out).mono ?_
    rintro e w9 ⟨rfl, b6⟩
    refine ⟨_, rfl, ?_⟩
    have B9 := Aside0.mk (B7.out.trans (b6.mono B7.out.size))
    have X9 := Aside0.mk (blk_below X7.out b6)
    clear b6
    refine hK.out _ _ B9.out (fun _ => ?_)
    clear hK K
    refine norm_ (a' := ?_) ?_ ?_
    rotate_left
    · show Act.put _ (some 13) _ = _
      simp only [Act.put, List.setIfInBounds_toArray, List.set_cons_zero, List.set_cons_succ, i64_w, i32_w]
      rfl
    refine pure_ (i := 7) (N := some 14) (v := ?_) (a' := ?_) #[true, true, true, true, true, true, true, true, false, true, false] rfl rfl (any_of HT_.out (by kernel_rfl)) (fun _ _ _ h => h) (Or.inl ⟨by rfl, ?_⟩) ?_ ?_
    rotate_left
    · intro w'
      go_simp
      with_reducible rfl
    rotate_left
    · simp only [Act.put, List.setIfInBounds_toArray, List.set_cons_zero, List.set_cons_succ, i64_w, i32_w]
      rfl
    refine take_ (i := 8) (N := some 15) (v := ?_) (a' := ?_) #[true, true, true, true, true, true, true, true, true, true, false] rfl rfl (take_ofW HT_.out HW_.out (by kernel_rfl)) (fun _ _ _ h => h) (Or.inl ⟨by rfl, ?_⟩) B9.out ?_ ?_
    rotate_left
    · intro w' hW
      obtain ⟨q0, q1, q2, q3, q4, q5⟩ := HSL.out w' hW
      go_simp
      with_reducible rfl
    rotate_left
    · simp only [Act.put, List.setIfInBounds_toArray, List.set_cons_zero, List.set_cons_succ, i64_w, i32_w]
      rfl
    refine last_ (i := 10) (N := none) #[true, true, true, true, true, true, true, true, true, true, true] rfl rfl (one_of HT_.out (by kernel_rfl)) (by decide) (fun K hK => ?_)
    obtain ⟨e0, e1, e2, e3, e4, e5, er⟩ := cells6d X9.out
    refine skip_ (w1 := ?_) (by rfl) rfl ?_ ?_
    rotate_left
    · go_simp
      rfl
    refine hK.out _ _ ?_
    clear hK K
    refine done_ (done_of HT_.out (by kernel_rfl)) ?_
    have HX8 := Aside0.mk (show ((((((w9.setCell ⟨b, 0, none⟩ (.string key)).setCell ⟨b, 1, none⟩ (.int .i64 l0)).setCell ⟨b, 2, none⟩ (.int .i64 l1)).setCell ⟨b, 3, none⟩ (.int .i64 l2)).setCell ⟨b, 4, none⟩ (.int .u64 l3)).setCell ⟨b, 5, none⟩ (.bool is)).heap[w.heap.size]? = some (.cells #[.int .i64 0, .int .i64 0, .int .i64 0, .int .u64 0] 31) ∧ ((((((w9.setCell ⟨b, 0, none⟩ (.string key)).setCell ⟨b, 1, none⟩ (.int .i64 l0)).setCell ⟨b, 2, none⟩ (.int .i64 l1)).setCell ⟨b, 3, none⟩ (.int .i64 l2)).setCell ⟨b, 4, none⟩ (.int .u64 l3)).setCell ⟨b, 5, none⟩ (.bool is)).heap[b]? = some (.cells #[.string key, .int .i64 l0, .int .i64 l1, .int .i64 l2, .int .u64 l3, .bool is] 57) ∧ Below w.heap.size w ((((((w9.setCell ⟨b, 0, none⟩ (.string key)).setCell ⟨b, 1, none⟩ (.int .i64 l0)).setCell ⟨b, 2, none⟩ (.int .i64 l1)).setCell ⟨b, 3, none⟩ (.int .i64 l2)).setCell ⟨b, 4, none⟩ (.int .u64 l3)).setCell ⟨b, 5, none⟩ (.bool is)) from getBox RB.out B2.out B9.out X9.out HB9.out _ _ _ _ _ _)
    clear e0 e1 e2 e3 e4 e5 er
    generalize ((((((w9.setCell ⟨b, 0, none⟩ (.string key)).setCell ⟨b, 1, none⟩ (.int .i64 l0)).setCell ⟨b, 2, none⟩ (.int .i64 l1)).setCell ⟨b, 3, none⟩ (.int .i64 l2)).setCell ⟨b, 4, none⟩ (.int .u64 l3)).setCell ⟨b, 5, none⟩ (.bool is)) = w8 at HX8 ⊢
    go_wp2_with fail
    refine region_draw (n := 6) (S := fun W => W.heap[b]? = some (.cells #[.string key, .int .i64 l0, .int .i64 l1, .int .i64 l2, .int .u64 l3, .bool is] 57) ∧ (∃ v0 v1 v2 v3, W.heap[w.heap.size]? = some (.cells #[v0, v1, v2, v3] 31)) ∧ Below w.heap.size w W) (ds := []) #[false, false, false, false, false, false] (by kernel_rfl) rfl rfl (fun W => W.heap[b]? = some (.cells #[.string key, .int .i64 l0, .int .i64 l1, .int .i64 l2, .int .u64 l3, .bool is] 57) ∧ W.heap[w.heap.size]? = some (.cells #[.int .i64 0, .int .i64 0, .int .i64 0, .int .u64 0] 31) ∧ Below w.heap.size w W) ⟨blk_drew HX8.out.2.1, blk_drew HX8.out.1, HX8.out.2.2.drew⟩ (fun W h => ⟨h.1, ⟨_, _, _, _, h.2.1⟩, h.2.2⟩) ?_
    rintro ws2 ⟨hy1, hy2, hy3⟩
    refine with_tabW get2tab get2bits (fun HT_ HW_ => ?_)
    have HY1 := Aside0.mk hy1
    have HY2 := Aside0.mk hy2
    have HY3 := Aside0.mk hy3
    clear hy1 hy2 hy3
    refine pure_ (i := 0) (N := some 16) (v := ?_) (a' := ?_) #[true, false, false, false, false, false] rfl rfl (any_of HT_.out (by kernel_rfl)) (fun _ _ _ h => h) (Or.inl ⟨by rfl, ?_⟩) ?_ ?_
    rotate_left
    · intro w'
      go_simp
      with_reducible rfl
    rotate_left
    · simp only [Act.put, List.setIfInBounds_toArray, List.set_cons_zero, List.set_cons_succ, i64_w, i32_w]
      rfl
    refine take_ (i := 1) (N := some 17) (v := ?_) (a' := ?_) #[true, true, false, false, false, false] rfl rfl (take_ofW HT_.out HW_.out (by kernel_rfl)) (fun _ _ _ h => h) (Or.inl ⟨by rfl, ?_⟩) ⟨HY1.out, ⟨_, _, _, _, HY2.out⟩, HY3.out⟩ ?_ ?_
    rotate_left
    · intro w' hW
      obtain ⟨e0, e1, e2, e3, e4, e5, er⟩ := cells6d hW.1
      go_simp
      with_reducible rfl
    rotate_left
    · simp only [Act.put, List.setIfInBounds_toArray, List.set_cons_zero, List.set_cons_succ, i64_w, i32_w]
      rfl
    refine pure_ (i := 2) (N := some 18) (v := ?_) (a' := ?_) #[true, true, true, false, false, false] rfl rfl (any_of HT_.out (by kernel_rfl)) (fun _ _ _ h => h) (Or.inl ⟨by rfl, ?_⟩) ?_ ?_
    rotate_left
    · intro w'
      go_simp
      with_reducible rfl
    rotate_left
    · simp only [Act.put, List.setIfInBounds_toArray, List.set_cons_zero, List.set_cons_succ, i64_w, i32_w]
      rfl
    refine take_ (i := 3) (N := some 19) (v := ?_) (a' := ?_) #[true, true, true, true, false, false] rfl rfl (take_ofW HT_.out HW_.out (by kernel_rfl)) (fun _ _ _ h => h) (Or.inl ⟨by rfl, ?_⟩) ⟨HY1.out, ⟨_, _, _, _, HY2.out⟩, HY3.out⟩ ?_ ?_
    rotate_left
    · intro w' hW
      obtain ⟨e0, e1, e2, e3, e4, e5, er⟩ := cells6d hW.1
      go_simp
      with_reducible rfl
    rotate_left
    · simp only [Act.put, List.setIfInBounds_toArray, List.set_cons_zero, List.set_cons_succ, i64_w, i32_w]
      rfl
    have HZ := Aside0.mk (getLoc HY2.out HY1.out (show w.heap.size ≠ b by have := blk_lt RB.out; have := HB9.out; omega) HY3.out (.int .i64 l0) (.int .i64 l1) (.int .i64 l2) (.int .u64 l3))
    obtain ⟨f0, f1, f2, f3, fr⟩ := cells4e HY2.out
    refine one_ (i := 4) (N := none) #[true, true, true, true, true, false] rfl rfl (one_of HT_.out (by kernel_rfl)) (by decide) (fun K hK => ?_)
    refine skip_ (w1 := ?_) (by rfl) rfl ?_ ?_
    rotate_left
    · go_simp
      rfl
    refine hK.out _ _ ⟨HZ.out.2.1, ⟨_, _, _, _, HZ.out.1⟩, HZ.out.2.2⟩ (fun _ => ?_)
    clear hK K
    clear f0 f1 f2 f3 fr
    generalize ((((ws2.setCell ⟨w.heap.size, 0, none⟩ (.int .i64 l0)).setCell ⟨w.heap.size, 1, none⟩ (.int .i64 l1)).setCell ⟨w.heap.size, 2, none⟩ (.int .i64 l2)).setCell ⟨w.heap.size, 3, none⟩ (.int .u64 l3)) = w11 at HZ ⊢
    refine pure_ (i := 5) (N := some 5) (v := ?_) (a' := ?_) #[true, true, true, true, true, true] rfl rfl (any_of HT_.out (by kernel_rfl)) (fun _ _ _ h => h) (Or.inl ⟨by rfl, ?_⟩) ?_ ?_
    rotate_left
    · intro w'
      go_simp
      with_reducible rfl
    rotate_left
    · simp only [Act.put, List.setIfInBounds_toArray, List.set_cons_zero, List.set_cons_succ, i64_w, i32_w]
      rfl
    refine done_ (done_of HT_.out (by kernel_rfl)) ?_
    go_wp2_with fail
    exact bodyPost_ret (v := .tuple #[LocV (l0, l1, l2, l3), .bool is]) (results_row_tmp (q := 5) rfl _ _ w.heap.size _ _ (0, 0) _ rfl HZ.out.1 Try.underlying31 rfl (by kernel_rfl)) rfl ⟨by rw [HAT.out], HZ.out.2.2⟩
end Go.Proofs.Ytcpjfpbfopkngaa.Thw
