/- Layer 7: the document's lay. -/
import Derived.Test.YtnkadkahdnnbbaaEv07W
import Derived.Test.YtnkadkahdnnbbaaWTab
namespace Go.Proofs.Ytnkadkahdnnbbaa.Thw
open Go Go.RowKit Go.Maps Go.Proofs.YtnkadkahdnnbbaaW.PrintWords Go.Proofs.YtnkadkahdnnbbaaW.PrintLast Go.Proofs.YtnkadkahdnnbbaaW.PrintMore
set_option linter.unusedVariables false
set_option linter.unusedSimpArgs false
theorem region_draw {P : Program} {ops : Array Oper} {Q : Exit → Act → World → Prop} {S : World → Prop} {ds : List Nat} {id n : Nat} {a : Act} {w : World} (l : Array Bool) (hm : P.follows .mixedOrders = true) (hn : ops.size = n) (hl : Array.replicate n false = l)
    (F : World → Prop) (hF : F w.drew) (hFS : ∀ W, F W → S W) (h : ∀ W, F W → wpAnyLast P .any ops Q S ds n l a W) : (Code.region id ops true).wp P Q a w := start_ l hm hn hl (hFS _ hF) (fun _ => h _ hF)
theorem wi_at (x : RObj) : ∀ (L : List RObj) (i : Nat), (∀ j (h : j < L.length), j < i → slB L[j].1 x.1 = true) → (∀ h : i < L.length, slB L[i].1 x.1 = false) → i ≤ L.length → L.take i ++ [x] ++ L.drop i = wi L x
  | [], i, _, _, h => by simp at h; subst h; rfl
  | y :: L, 0, _, h, _ => by
    have h0 : slB y.1 x.1 = false := h (by simp)
    unfold wi
    rw [List.takeWhile_cons, if_neg (by rw [h0]; decide), List.dropWhile_cons, if_neg (by rw [h0]; decide)]
    rfl
  | y :: L, i + 1, hj, h, hi => by
    have h0 : slB y.1 x.1 = true := hj 0 (by simp) (by omega)
    have ih := wi_at x L i (fun j hl hlt => hj (j + 1) (by simpa using hl) (by omega)) (fun hl => h (by simpa using hl)) (by simpa using hi)
    unfold wi at ih ⊢
    rw [List.takeWhile_cons, if_pos h0, List.dropWhile_cons, if_pos h0, List.cons_append, ← ih]
    rfl
/-- A row cut in two, as the walk spells it. -/
theorem cut_two {P : Program} {α : Type} {d : Kd α} {w : World} {A : Option Addr} {L : List α} {c : Nat} (t e : TypeId) {z : Value} {bytes : Nat} (ht : P.underlying t = some (.slice e)) (hinfo : (P.info? e).map (fun i => (i.zero, i.size, i.bytes)) = some (some z, d.sz, bytes))
    (h : d.C w A L.length L) (hc : L.length ≤ c) (i : Nat) (hi : i ≤ L.length) :
    ∃ A1 c1 A2 c2, (∀ W : World, (Instr.slice t (.slice A L.length c) none (some (.int .i64 (i : Int))) none).run P W = .ok (.slice A1 (L.take i).length c1) W) ∧ d.C w A1 (L.take i).length (L.take i) ∧
      (∀ W : World, (Instr.slice t (.slice A L.length c) (some (.int .i64 (i : Int))) none none).run P W = .ok (.slice A2 (L.drop i).length c2) W) ∧ d.C w A2 (L.drop i).length (L.drop i) := by
  obtain ⟨i0, hi0, hzz⟩ := Option.map_eq_some_iff.1 hinfo
  simp only [Prod.mk.injEq] at hzz
  obtain ⟨hz0, hz1, hz2⟩ := hzz
  have h1 := cut_to (P := P) t e .i64 ht hi0 A L.length c (i : Int) (by omega) (by omega) hc
  have h2 := cut_from (P := P) t e .i64 ht hi0 d.sz hz1 A L.length c (i : Int) (by omega) (by omega)
  have e1 : (L.take i).length = (i : Int).toNat := by rw [List.length_take]; omega
  have e2 : (L.drop i).length = L.length - (i : Int).toNat := by rw [List.length_drop]; omega
  refine ⟨A, c, (if c = i then A else A.map (·.add (i * d.sz))), c - i, ?_, Kd.C_take h hi, ?_, Kd.C_drop h hi hc⟩
  · rw [e1]; exact h1
  · rw [e2]; exact h2
def lay4T : Bool × List (List Nat × List Nat) := (true, [([], []), ([], []), ([], []), ([2], [2]), ([3], [3]), ([4], [4]), ([], []), ([5, 6], [5, 6]), ([1, 7], [1, 7]), ([], []), ([], []), ([9, 10], [9, 10]), ([11], [11]), ([8, 12, 8], [8, 12]), ([], []), ([14], [14]), ([15], [15]), ([16], [16]), ([], []), ([17, 18], [17, 18]), ([13, 19, 13], [13, 19]), ([0, 0, 1, 2, 3, 4, 5, 6, 7, 8, 9, 10, 11, 12, 13, 14, 15, 16, 17, 18, 19, 20], [0]), ([21, 0, 1, 2, 3, 4, 5, 6, 7, 8, 9, 10, 11, 12, 13, 14, 15, 16, 17, 18, 19, 20], [21]), ([22, 20, 20, 0, 1, 2, 3, 4, 5, 6, 7, 8, 9, 10, 11, 12, 13, 14, 15, 16, 17, 18, 19, 20], [20, 22])])
def lay4B : List Nat := [0, 0, 0, 4, 12, 28, 0, 124, 254, 0, 0, 1536, 3584, 8190, 0, 16384, 49152, 114688, 0, 507904, 1048574, 2097151, 4194303, 8388607]
theorem lay4tab : rtab .any (opsOf Try.f44 4) = lay4T := by kernel_rfl
theorem lay4bits : waitsOk lay4T.2 lay4B = true := by kernel_rfl
set_option maxHeartbeats 6400000 in
set_option maxRecDepth 100000 in
theorem rf_lay (w : World) (A : Nat → Prop) (g : Nat) (L : List RObj) (s : List Int) (n : Int) (h : RfR w A g L s n) (hl : L.length ≤ 1000000) (k b : ByteArray) :
    Calls Try.prog 44 #[.pointer (some ⟨g, 0, none⟩), .string k, .string b] w (RPost (.tuple #[]) w A g (wi (wo L k) (k, b)) s n) := by
  have H := Aside0.mk h
  have HL := Aside0.mk hl
  clear h hl
  go_enter Try.func44, Try.ntmps44
  go_wp2_with fail
  refine (rf_without w A g L s n H.out HL.out k).mono ?_
  rintro e w1 ⟨rfl, h1, f1⟩
  have H1 := Aside0.mk h1
  have F1 := Aside0.mk f1
  have HY := Aside0.mk (Nat.le_trans (wo_len L k) HL.out)
  obtain ⟨X, hX⟩ : ∃ X, wo L k = X := ⟨_, rfl⟩
  rw [hX] at h1 H1 HY
  have HXE := Aside0.mk hX
  clear hX
  obtain ⟨_, _, v, sv, hb, hR, _⟩ := h1
  obtain ⟨A0, c0', rfl, hc0, hC⟩ := Kd.R_reads hR
  have HB := Aside0.mk hb
  have HC := Aside0.mk hC
  clear hR hb hC f1
  obtain ⟨t0, t1, t2, fr⟩ := cells3 HB.out
  go_wp2_with fail
  go_loopw [6] (fun v6 wr => ∃ i : Nat, i ≤ X.length ∧ v6 = .int .i64 i ∧ Aside0 (∀ j (h : j < X.length), j < i → slB X[j].1 k = true) ∧ wr = w1) (fun v6 _ => X.length - (intOf v6).toNat)
  case atStart => exact ⟨0, by omega, rfl, ⟨fun j _ hj => by omega⟩, rfl⟩
  case round =>
    obtain ⟨i, hi, rfl, HA, rfl⟩ := hrel
    have hxl := HY.out
    by_cases hlt : i < X.length
    · have d1 : decide ((i : Int) < (X.length : Int)) = true := decide_eq_true (by omega)
      have i0 : 0 ≤ (i : Int) := by omega
      have i1 : (i : Int) < (X.length : Int) := by omega
      obtain ⟨ad, rfl, q0, q1⟩ := C_obAt HC.out hlt
      obtain ⟨x, hx⟩ : ∃ x, X[i] = x := ⟨_, rfl⟩
      rw [hx] at q0 q1
      have HX := Aside0.mk hx
      clear hx
      cases hbl : Op.bytesLess x.1.toList k.toList with
      | true =>
        have HA2 := Aside0.mk (show ∀ j (h : j < X.length), j < i + 1 → slB X[j].1 k = true from fun j h hj => by
          rcases Nat.lt_succ_iff_lt_or_eq.1 hj with h3 | rfl
          · exact HA.out j h h3
          · rw [HX.out]; exact hbl)
        go_wp2_with fail
        go_roundw
        case rel => exact ⟨i + 1, by omega, by go_num, HA2, trivial⟩
        case measure => simp [intOf]; omega
      | false =>
        have HWI := Aside0.mk (wi_at (k, b) X i HA.out (fun _ => by rw [HX.out]; exact hbl) hi)
        go_wp2_with fail
        clear q0 q1
        obtain ⟨A1, c1, A2, c2, hcut1, hCT, hcut2, hCD⟩ := cut_two (P := Try.prog) 59 91 Try.underlying59 infoO HC.out hc0 i hi
        obtain ⟨n1, hn1⟩ : ∃ n_ : Nat, (X.take i).length = n_ := ⟨_, rfl⟩
        obtain ⟨n2, hn2⟩ : ∃ n_ : Nat, (X.drop i).length = n_ := ⟨_, rfl⟩
        rw [hn1] at hcut1 hCT
        rw [hn2] at hcut2 hCD
        have HN1 := Aside0.mk (show n1 ≤ 1000000 by rw [← hn1, List.length_take]; have := HY.out; omega)
        have HN2 := Aside0.mk (show n2 ≤ 1000000 by rw [← hn2, List.length_drop]; have := HY.out; omega)
        clear hn1 hn2
        have CT := Aside0.mk hCT
        have CD := Aside0.mk hCD
        clear hCT hCD t0 t1 t2 fr
        refine region_draw (n := 24) (S := fun W => Below wr.heap.size wr W) (ds := [23]) #[false, false, false, false, false, false, false, false, false, false, false, false, false, false, false, false, false, false, false, false, false, false, false, false] (by kernel_rfl) rfl rfl (fun W => Below wr.heap.size wr W) ((Below.refl _ _).drew) (fun W h => h) ?_
        rintro ws hws
        refine with_tabW lay4tab lay4bits (fun HT_ HW_ => ?_)
        have BS := Aside0.mk hws
        clear hws
        refine pure_ (i := 0) (N := some 31) (v := ?_) (a' := ?_) #[true, false, false, false, false, false, false, false, false, false, false, false, false, false, false, false, false, false, false, false, false, false, false, false] rfl rfl (any_of HT_.out (by kernel_rfl)) (fun _ _ _ h => h) (Or.inl ⟨by rfl, ?_⟩) ?_ ?_
        rotate_left
        · intro w'
          go_simp
          with_reducible rfl
        rotate_left
        · simp only [Act.put, List.setIfInBounds_toArray, List.set_cons_zero, List.set_cons_succ, i64_w, i32_w]
          rfl
        refine pure_ (i := 2) (N := some 33) (v := ?_) (a' := ?_) #[true, false, true, false, false, false, false, false, false, false, false, false, false, false, false, false, false, false, false, false, false, false, false, false] rfl rfl (any_of HT_.out (by kernel_rfl)) (fun _ _ _ h => h) (Or.inl ⟨by rfl, ?_⟩) ?_ ?_
        rotate_left
        · intro w'
          go_simp
          with_reducible rfl
        rotate_left
        · simp only [Act.put, List.setIfInBounds_toArray, List.set_cons_zero, List.set_cons_succ, i64_w, i32_w]
          rfl
        refine pure_ (i := 3) (N := some 34) (v := ?_) (a' := ?_) #[true, false, true, true, false, false, false, false, false, false, false, false, false, false, false, false, false, false, false, false, false, false, false, false] rfl rfl (any_of HT_.out (by kernel_rfl)) (fun _ _ _ h => h) (Or.inl ⟨by rfl, ?_⟩) ?_ ?_
        rotate_left
        · intro w'
          go_simp
          with_reducible rfl
        rotate_left
        · simp only [Act.put, List.setIfInBounds_toArray, List.set_cons_zero, List.set_cons_succ, i64_w, i32_w]
          rfl
        refine pure_ (i := 4) (N := some 35) (v := ?_) (a' := ?_) #[true, false, true, true, true, false, false, false, false, false, false, false, false, false, false, false, false, false, false, false, false, false, false, false] rfl rfl (any_of HT_.out (by kernel_rfl)) (fun _ _ _ h => h) (Or.inl ⟨by rfl, ?_⟩) ?_ ?_
        rotate_left
        · intro w'
          go_simp
          with_reducible rfl
        rotate_left
        · simp only [Act.put, List.setIfInBounds_toArray, List.set_cons_zero, List.set_cons_succ, i64_w, i32_w]
          rfl
        refine take_ (i := 5) (N := some 36) (v := ?_) (a' := ?_) #[true, false, true, true, true, true, false, false, false, false, false, false, false, false, false, false, false, false, false, false, false, false, false, false] rfl rfl (take_ofW HT_.out HW_.out (by kernel_rfl)) (fun _ _ _ h => h) (Or.inl ⟨by rfl, ?_⟩) BS.out ?_ ?_
        rotate_left
        · intro w' hW
          obtain ⟨t0, t1, t2, fr⟩ := cells3 (blk_below HB.out hW)
          go_simp
          with_reducible rfl
        rotate_left
        · simp only [Act.put, List.setIfInBounds_toArray, List.set_cons_zero, List.set_cons_succ, i64_w, i32_w]
          rfl
        refine pure_ (i := 6) (N := some 37) (v := ?_) (a' := ?_) #[true, false, true, true, true, true, true, false, false, false, false, false, false, false, false, false, false, false, false, false, false, false, false, false] rfl rfl (any_of HT_.out (by kernel_rfl)) (fun _ _ _ h => h) (Or.inl ⟨by rfl, ?_⟩) ?_ ?_
        rotate_left
        · intro w'
          go_simp
          with_reducible rfl
        rotate_left
        · simp only [Act.put, List.setIfInBounds_toArray, List.set_cons_zero, List.set_cons_succ, i64_w, i32_w]
          rfl
        refine pure_ (i := 7) (N := some 38) (v := ?_) (a' := ?_) #[true, false, true, true, true, true, true, true, false, false, false, false, false, false, false, false, false, false, false, false, false, false, false, false] rfl rfl (any_of HT_.out (by kernel_rfl)) (fun _ _ _ h => h) (Or.inl ⟨by rfl, ?_⟩) ?_ ?_
        rotate_left
        · intro w'
          go_simp
          with_reducible rfl
        rotate_left
        · simp only [Act.put, List.setIfInBounds_toArray, List.set_cons_zero, List.set_cons_succ, i64_w, i32_w]
          rfl
        refine pure_ (i := 9) (N := some 40) (v := ?_) (a' := ?_) #[true, false, true, true, true, true, true, true, false, true, false, false, false, false, false, false, false, false, false, false, false, false, false, false] rfl rfl (any_of HT_.out (by kernel_rfl)) (fun _ _ _ h => h) (Or.inl ⟨by rfl, ?_⟩) ?_ ?_
        rotate_left
        · intro w'
          go_simp
          with_reducible rfl
        rotate_left
        · simp only [Act.put, List.setIfInBounds_toArray, List.set_cons_zero, List.set_cons_succ, i64_w, i32_w]
          rfl
        refine pure_ (i := 10) (N := some 41) (v := ?_) (a' := ?_) #[true, false, true, true, true, true, true, true, false, true, true, false, false, false, false, false, false, false, false, false, false, false, false, false] rfl rfl (any_of HT_.out (by kernel_rfl)) (fun _ _ _ h => h) (Or.inl ⟨by rfl, ?_⟩) ?_ ?_
        rotate_left
        · intro w'
          go_simp
          with_reducible rfl
        rotate_left
        · simp only [Act.put, List.setIfInBounds_toArray, List.set_cons_zero, List.set_cons_succ, i64_w, i32_w]
          rfl
        refine pure_ (i := 11) (N := some 42) (v := ?_) (a' := ?_) #[true, false, true, true, true, true, true, true, false, true, true, true, false, false, false, false, false, false, false, false, false, false, false, false] rfl rfl (any_of HT_.out (by kernel_rfl)) (fun _ _ _ h => h) (Or.inl ⟨by rfl, ?_⟩) ?_ ?_
        rotate_left
        · intro w'
          go_simp
          with_reducible rfl
        rotate_left
        · simp only [Act.put, List.setIfInBounds_toArray, List.set_cons_zero, List.set_cons_succ, i64_w, i32_w]
          rfl
        refine pure_ (i := 14) (N := some 45) (v := ?_) (a' := ?_) #[true, false, true, true, true, true, true, true, false, true, true, true, false, false, true, false, false, false, false, false, false, false, false, false] rfl rfl (any_of HT_.out (by kernel_rfl)) (fun _ _ _ h => h) (Or.inl ⟨by rfl, ?_⟩) ?_ ?_
        rotate_left
        · intro w'
          go_simp
          with_reducible rfl
        rotate_left
        · simp only [Act.put, List.setIfInBounds_toArray, List.set_cons_zero, List.set_cons_succ, i64_w, i32_w]
          rfl
        refine pure_ (i := 15) (N := some 46) (v := ?_) (a' := ?_) #[true, false, true, true, true, true, true, true, false, true, true, true, false, false, true, true, false, false, false, false, false, false, false, false] rfl rfl (any_of HT_.out (by kernel_rfl)) (fun _ _ _ h => h) (Or.inl ⟨by rfl, ?_⟩) ?_ ?_
        rotate_left
        · intro w'
          go_simp
          with_reducible rfl
        rotate_left
        · simp only [Act.put, List.setIfInBounds_toArray, List.set_cons_zero, List.set_cons_succ, i64_w, i32_w]
          rfl
        refine pure_ (i := 16) (N := some 47) (v := ?_) (a' := ?_) #[true, false, true, true, true, true, true, true, false, true, true, true, false, false, true, true, true, false, false, false, false, false, false, false] rfl rfl (any_of HT_.out (by kernel_rfl)) (fun _ _ _ h => h) (Or.inl ⟨by rfl, ?_⟩) ?_ ?_
        rotate_left
        · intro w'
          go_simp
          with_reducible rfl
        rotate_left
        · simp only [Act.put, List.setIfInBounds_toArray, List.set_cons_zero, List.set_cons_succ, i64_w, i32_w]
          rfl
        refine take_ (i := 17) (N := some 48) (v := ?_) (a' := ?_) #[true, false, true, true, true, true, true, true, false, true, true, true, false, false, true, true, true, true, false, false, false, false, false, false] rfl rfl (take_ofW HT_.out HW_.out (by kernel_rfl)) (fun _ _ _ h => h) (Or.inl ⟨by rfl, ?_⟩) BS.out ?_ ?_
        rotate_left
        · intro w' hW
          obtain ⟨t0, t1, t2, fr⟩ := cells3 (blk_below HB.out hW)
          go_simp
          with_reducible rfl
        rotate_left
        · simp only [Act.put, List.setIfInBounds_toArray, List.set_cons_zero, List.set_cons_succ, i64_w, i32_w]
          rfl
        refine pure_ (i := 18) (N := some 49) (v := ?_) (a' := ?_) #[true, false, true, true, true, true, true, true, false, true, true, true, false, false, true, true, true, true, true, false, false, false, false, false] rfl rfl (any_of HT_.out (by kernel_rfl)) (fun _ _ _ h => h) (Or.inl ⟨by rfl, ?_⟩) ?_ ?_
        rotate_left
        · intro w'
          go_simp
          with_reducible rfl
        rotate_left
        · simp only [Act.put, List.setIfInBounds_toArray, List.set_cons_zero, List.set_cons_succ, i64_w, i32_w]
          rfl
        refine pure_ (i := 19) (N := some 50) (v := ?_) (a' := ?_) #[true, false, true, true, true, true, true, true, false, true, true, true, false, false, true, true, true, true, true, true, false, false, false, false] rfl rfl (any_of HT_.out (by kernel_rfl)) (fun _ _ _ h => h) (Or.inl ⟨by rfl, ?_⟩) ?_ ?_
        rotate_left
        · intro w'
          go_simp
          with_reducible rfl
        rotate_left
        · simp only [Act.put, List.setIfInBounds_toArray, List.set_cons_zero, List.set_cons_succ, i64_w, i32_w]
          rfl
        refine join_ (σ := Value × Value × Value) 5 #[true, true, true, true, true, true, true, true, true, true, true, true, true, false, true, true, true, true, true, true, false, false, false, false] (fun s_ => [(32, s_.1), (39, s_.2.1), (43, s_.2.2)]) (fun s_ w' => Aside0 (Below wr.heap.size wr w') ∧ Aside0 (kO.R 91 w' wr.heap.size (fun _ => True) s_.2.1 (X.take i)) ∧ ∃ A_ c_, s_.2.2 = .slice A_ 1 c_ ∧ Aside0 (kO.C w' A_ 1 [(k, b)])) ?_ ?_
        rotate_left
        · intro hCont
          refine two_ (i := 1) (j := 12) (Ni := some 32) (Nj := some 43) #[true, true, true, true, true, true, true, true, false, true, true, true, false, false, true, true, true, true, true, true, false, false, false, false] #[true, false, true, true, true, true, true, true, false, true, true, true, true, false, true, true, true, true, true, true, false, false, false, false] rfl rfl rfl rfl (two_of HT_.out (by kernel_rfl)) (by decide) (by decide) (fun K hK => ?_) (fun K hK => ?_)
          · skip
            refine Kd.R_lit_step kO (w0 := wr) wr.heap.size 91 ?hg (N := 32) ?hd (xs := []) (inner := []) (ok := (fun _ => True)) (okp := fun _ => False) ?hr (Reps.none _ _) (fun _ hk => hk.elim) trivial BS.out BS.out.size (by simp) ?_; (case hd => rfl); (case hg => rfl); (case hr => first | (go_simp; done) | (go_simp; rfl))
            intro v0 w5 hR0 hB0 hg0 hat0
            have B5 := Aside0.mk hB0
            have R5 := Aside0.mk hR0
            clear hR0 hB0 hg0 hat0
            refine hK.out _ _ B5.out (fun _ => ?_)
            clear hK K
            refine norm_ (a' := ?_) ?_ ?_
            rotate_left
            · show Act.put _ (some 32) _ = _
              simp only [Act.put, List.setIfInBounds_toArray, List.set_cons_zero, List.set_cons_succ, i64_w, i32_w]
              rfl
            refine two_ (i := 8) (j := 12) (Ni := some 39) (Nj := some 43) #[true, true, true, true, true, true, true, true, true, true, true, true, false, false, true, true, true, true, true, true, false, false, false, false] #[true, true, true, true, true, true, true, true, false, true, true, true, true, false, true, true, true, true, true, true, false, false, false, false] rfl rfl rfl rfl (two_of HT_.out (by kernel_rfl)) (by decide) (by decide) (fun K hK => ?_) (fun K hK => ?_)
            · skip
              refine Kd.R_append_rows_step kO (w0 := wr) wr.heap.size (by rfl) (.tmp 32) (.tmp 38) 59 91 (.agg #[.string ⟨#[]⟩, .string ⟨#[]⟩]) 32 rfl Try.underlying59 infoO rfl (by decide) (by omega) v0 [] (X.take i) A1 n1 c1 (fun _ => True) (fun _ => False) rfl rfl R5.out (Kd.C_below CT.out B5.out) (fun x cs h => kO_KM h) (fun _ h => h.elim) (fun _ _ => trivial) B5.out B5.out.size (by have h1 := HN1.out; have h2 := HN2.out; have h3 := HY.out; simp; omega) ?_
              intro v1 w6 hR hB hg hat
              have B6 := Aside0.mk hB
              have R6 := Aside0.mk hR
              clear hR hB hg hat R5 B5
              refine hK.out _ _ B6.out (fun _ => ?_)
              clear hK K
              refine norm_ (a' := ?_) ?_ ?_
              rotate_left
              · show Act.put _ (some 39) _ = _
                simp only [Act.put, List.setIfInBounds_toArray, List.set_cons_zero, List.set_cons_succ, i64_w, i32_w]
                rfl
              refine one_ (i := 12) (N := some 43) #[true, true, true, true, true, true, true, true, true, true, true, true, true, false, true, true, true, true, true, true, false, false, false, false] rfl rfl (one_of HT_.out (by kernel_rfl)) (by decide) (fun K hK => ?_)
              refine Kd.R_lit_step kO (w0 := wr) wr.heap.size 91 ?hg (N := 43) ?hd (xs := [(k, b)]) (inner := [.string k, .string b]) (ok := (fun _ => True)) (okp := fun _ => False) ?hr ?hp (fun _ hk => hk.elim) trivial B6.out B6.out.size (by simp) ?_; (case hd => rfl); (case hg => rfl); (case hr => first | (go_simp; done) | (go_simp; rfl)); (case hp => exact (Reps.c2 (kO_M _ _ _ (k, b)) (Reps.none _ _)))
              intro v2 w7 hR hB hg hat
              obtain ⟨A_, c_, rfl, _, hC_⟩ := Kd.R_reads hR
              have B7 := Aside0.mk hB
              have R7 := Aside0.mk (Kd.R_below R6.out ⟨hg.os, hg.tape, hg.output, hg.size, fun k hk => hg.block k hk (by simp)⟩)
              have C7 := Aside0.mk hC_
              clear hR hB hg hat hC_ R6 B6
              refine hK.out _ _ B7.out (fun _ => ?_)
              clear hK K
              refine norm_ (a' := ?_) ?_ ?_
              rotate_left
              · show Act.put _ (some 43) _ = _
                simp only [Act.put, List.setIfInBounds_toArray, List.set_cons_zero, List.set_cons_succ, i64_w, i32_w]
                rfl
              exact hCont (_, _, _) _ ⟨B7, R7, A_, c_, rfl, C7⟩
            · skip
              refine Kd.R_lit_step kO (w0 := wr) wr.heap.size 91 ?hg (N := 43) ?hd (xs := [(k, b)]) (inner := [.string k, .string b]) (ok := (fun k => some k ≠ v0.ownBlock)) (okp := fun _ => False) ?hr ?hp (fun _ hk => hk.elim) (fun e => by have := Kd.R_lt R5.out _ e.symm; omega) B5.out B5.out.size (by simp) ?_; (case hd => rfl); (case hg => rfl); (case hr => first | (go_simp; done) | (go_simp; rfl)); (case hp => exact (Reps.c2 (kO_M _ _ _ (k, b)) (Reps.none _ _)))
              intro v2 w6 hR hB hg hat
              have B6 := Aside0.mk hB
              have R6 := Aside0.mk (Kd.R_below R5.out ⟨hg.os, hg.tape, hg.output, hg.size, fun k hk => hg.block k hk (by simp)⟩)
              have V6 := Aside0.mk hR
              clear hR hB hg hat R5 B5
              refine hK.out _ _ B6.out (fun _ => ?_)
              clear hK K
              refine norm_ (a' := ?_) ?_ ?_
              rotate_left
              · show Act.put _ (some 43) _ = _
                simp only [Act.put, List.setIfInBounds_toArray, List.set_cons_zero, List.set_cons_succ, i64_w, i32_w]
                rfl
              refine one_ (i := 8) (N := some 39) #[true, true, true, true, true, true, true, true, true, true, true, true, true, false, true, true, true, true, true, true, false, false, false, false] rfl rfl (one_of HT_.out (by kernel_rfl)) (by decide) (fun K hK => ?_)
              refine Kd.R_append_rows_step kO (w0 := wr) wr.heap.size (by rfl) (.tmp 32) (.tmp 38) 59 91 (.agg #[.string ⟨#[]⟩, .string ⟨#[]⟩]) 32 rfl Try.underlying59 infoO rfl (by decide) (by omega) v0 [] (X.take i) A1 n1 c1 (fun _ => True) (fun _ => False) rfl rfl R6.out (Kd.C_below CT.out B6.out) (fun x cs h => kO_KM h) (fun _ h => h.elim) (fun _ _ => trivial) B6.out B6.out.size (by have h1 := HN1.out; have h2 := HN2.out; have h3 := HY.out; simp; omega) ?_
              intro v1 w7 hR hB hg hat
              obtain ⟨A_, c_, rfl, _, hC_⟩ := Kd.R_reads (Kd.R_grown V6.out hg (fun _ h => h))
              have B7 := Aside0.mk hB
              have R7 := Aside0.mk hR
              have C7 := Aside0.mk hC_
              clear hR hB hg hat hC_ R6 B6 V6
              refine hK.out _ _ B7.out (fun _ => ?_)
              clear hK K
              refine norm_ (a' := ?_) ?_ ?_
              rotate_left
              · show Act.put _ (some 39) _ = _
                simp only [Act.put, List.setIfInBounds_toArray, List.set_cons_zero, List.set_cons_succ, i64_w, i32_w]
                rfl
              exact hCont (_, _, _) _ ⟨B7, R7, A_, c_, rfl, C7⟩
          · skip
            refine Kd.R_lit_step kO (w0 := wr) wr.heap.size 91 ?hg (N := 43) ?hd (xs := [(k, b)]) (inner := [.string k, .string b]) (ok := (fun _ => True)) (okp := fun _ => False) ?hr ?hp (fun _ hk => hk.elim) trivial BS.out BS.out.size (by simp) ?_; (case hd => rfl); (case hg => rfl); (case hr => first | (go_simp; done) | (go_simp; rfl)); (case hp => exact (Reps.c2 (kO_M _ _ _ (k, b)) (Reps.none _ _)))
            intro v2 w5 hR hB hg hat
            have B5 := Aside0.mk hB
            have V5 := Aside0.mk hR
            clear hR hB hg hat
            refine hK.out _ _ B5.out (fun _ => ?_)
            clear hK K
            refine norm_ (a' := ?_) ?_ ?_
            rotate_left
            · show Act.put _ (some 43) _ = _
              simp only [Act.put, List.setIfInBounds_toArray, List.set_cons_zero, List.set_cons_succ, i64_w, i32_w]
              rfl
            refine one_ (i := 1) (N := some 32) #[true, true, true, true, true, true, true, true, false, true, true, true, true, false, true, true, true, true, true, true, false, false, false, false] rfl rfl (one_of HT_.out (by kernel_rfl)) (by decide) (fun K hK => ?_)
            refine Kd.R_lit_step kO (w0 := wr) wr.heap.size 91 ?hg (N := 32) ?hd (xs := []) (inner := []) (ok := (fun _ => True)) (okp := fun _ => False) ?hr (Reps.none _ _) (fun _ hk => hk.elim) trivial B5.out B5.out.size (by simp) ?_; (case hd => rfl); (case hg => rfl); (case hr => first | (go_simp; done) | (go_simp; rfl))
            intro v0 w6 hR hB hg hat
            obtain ⟨b_, hb_, hb2_⟩ := hat
            have B6 := Aside0.mk hB
            have R6 := Aside0.mk hR
            have V6 := Aside0.mk (Kd.R_mono (Kd.R_below (Kd.R_bound V5.out) ⟨hg.os, hg.tape, hg.output, hg.size, fun k hk => hg.block k hk (by simp)⟩) (ok' := fun k => some k ≠ v0.ownBlock) (fun k hk e => by rw [hb_] at e; injection e with e; have := hk.2.2.1; omega))
            clear hR hB hg hb_ hb2_ B5 V5
            refine hK.out _ _ B6.out (fun _ => ?_)
            clear hK K
            refine norm_ (a' := ?_) ?_ ?_
            rotate_left
            · show Act.put _ (some 32) _ = _
              simp only [Act.put, List.setIfInBounds_toArray, List.set_cons_zero, List.set_cons_succ, i64_w, i32_w]
              rfl
            refine one_ (i := 8) (N := some 39) #[true, true, true, true, true, true, true, true, true, true, true, true, true, false, true, true, true, true, true, true, false, false, false, false] rfl rfl (one_of HT_.out (by kernel_rfl)) (by decide) (fun K hK => ?_)
            refine Kd.R_append_rows_step kO (w0 := wr) wr.heap.size (by rfl) (.tmp 32) (.tmp 38) 59 91 (.agg #[.string ⟨#[]⟩, .string ⟨#[]⟩]) 32 rfl Try.underlying59 infoO rfl (by decide) (by omega) v0 [] (X.take i) A1 n1 c1 (fun _ => True) (fun _ => False) rfl rfl R6.out (Kd.C_below CT.out B6.out) (fun x cs h => kO_KM h) (fun _ h => h.elim) (fun _ _ => trivial) B6.out B6.out.size (by have h1 := HN1.out; have h2 := HN2.out; have h3 := HY.out; simp; omega) ?_
            intro v1 w7 hR hB hg hat
            obtain ⟨A_, c_, rfl, _, hC_⟩ := Kd.R_reads (Kd.R_grown V6.out hg (fun _ h => h))
            have B7 := Aside0.mk hB
            have R7 := Aside0.mk hR
            have C7 := Aside0.mk hC_
            clear hR hB hg hat hC_ R6 B6 V6
            refine hK.out _ _ B7.out (fun _ => ?_)
            clear hK K
            refine norm_ (a' := ?_) ?_ ?_
            rotate_left
            · show Act.put _ (some 39) _ = _
              simp only [Act.put, List.setIfInBounds_toArray, List.set_cons_zero, List.set_cons_succ, i64_w, i32_w]
              rfl
            exact hCont (_, _, _) _ ⟨B7, R7, A_, c_, rfl, C7⟩
        rintro ⟨v0, v1, v2⟩ w7 ⟨B7, R7, A_, c_, hv_, C7⟩
        simp only at R7 hv_
        subst hv_
        refine norm_ (a' := ?_) ?_ ?_
        rotate_left
        · simp only [putAll, List.foldl_cons, List.foldl_nil, Act.put, List.setIfInBounds_toArray, List.set_cons_zero, List.set_cons_succ]
          rfl
        refine one_ (i := 13) (N := some 44) #[true, true, true, true, true, true, true, true, true, true, true, true, true, true, true, true, true, true, true, true, false, false, false, false] rfl rfl (one_of HT_.out (by kernel_rfl)) (by decide) (fun K hK => ?_)
        refine Kd.R_append_rows_step kO (w0 := wr) wr.heap.size (by rfl) (.tmp 39) (.tmp 43) 59 91 (.agg #[.string ⟨#[]⟩, .string ⟨#[]⟩]) 32 rfl Try.underlying59 infoO rfl (by decide) (by omega) v1 (X.take i) [(k, b)] A_ 1 c_ (fun _ => True) (fun _ => False) rfl rfl R7.out C7.out (fun x cs h => kO_KM h) (fun _ h => h.elim) (fun _ _ => trivial) B7.out B7.out.size (by have h1 := HN1.out; have h2 := HN2.out; have h3 := HY.out; simp; omega) ?_
        intro v3 w8 hR hB hg hat
        have B8 := Aside0.mk hB
        have R8 := Aside0.mk hR
        clear hR hB hg hat B7 R7 C7
        refine hK.out _ _ B8.out (fun _ => ?_)
        clear hK K
        refine norm_ (a' := ?_) ?_ ?_
        rotate_left
        · show Act.put _ (some 44) _ = _
          simp only [Act.put, List.setIfInBounds_toArray, List.set_cons_zero, List.set_cons_succ, i64_w, i32_w]
          rfl
        refine one_ (i := 20) (N := some 51) #[true, true, true, true, true, true, true, true, true, true, true, true, true, true, true, true, true, true, true, true, true, false, false, false] rfl rfl (one_of HT_.out (by kernel_rfl)) (by decide) (fun K hK => ?_)
        refine Kd.R_append_rows_step kO (w0 := wr) wr.heap.size (by rfl) (.tmp 44) (.tmp 50) 59 91 (.agg #[.string ⟨#[]⟩, .string ⟨#[]⟩]) 32 rfl Try.underlying59 infoO rfl (by decide) (by omega) v3 ((X.take i) ++ [(k, b)]) (X.drop i) A2 n2 c2 (fun _ => True) (fun _ => False) rfl rfl R8.out (Kd.C_below CD.out B8.out) (fun x cs h => kO_KM h) (fun _ h => h.elim) (fun _ _ => trivial) B8.out B8.out.size (by have h1 := HN1.out; have h2 := HN2.out; have h3 := HY.out; simp; omega) ?_
        intro v4 w9 hR hB hg hat
        have B9 := Aside0.mk hB
        have R9 := Aside0.mk hR
        clear hR hB hg hat B8 R8
        refine hK.out _ _ B9.out (fun _ => ?_)
        clear hK K
        refine norm_ (a' := ?_) ?_ ?_
        rotate_left
        · show Act.put _ (some 51) _ = _
          simp only [Act.put, List.setIfInBounds_toArray, List.set_cons_zero, List.set_cons_succ, i64_w, i32_w]
          rfl
        refine pure_ (i := 21) (N := some 52) (v := ?_) (a' := ?_) #[true, true, true, true, true, true, true, true, true, true, true, true, true, true, true, true, true, true, true, true, true, true, false, false] rfl rfl (any_of HT_.out (by kernel_rfl)) (fun _ _ _ h => h) (Or.inl ⟨by rfl, ?_⟩) ?_ ?_
        rotate_left
        · intro w'
          go_simp
          with_reducible rfl
        rotate_left
        · simp only [Act.put, List.setIfInBounds_toArray, List.set_cons_zero, List.set_cons_succ, i64_w, i32_w]
          rfl
        refine pure_ (i := 22) (N := some 53) (v := ?_) (a' := ?_) #[true, true, true, true, true, true, true, true, true, true, true, true, true, true, true, true, true, true, true, true, true, true, true, false] rfl rfl (any_of HT_.out (by kernel_rfl)) (fun _ _ _ h => h) (Or.inl ⟨by rfl, ?_⟩) ?_ ?_
        rotate_left
        · intro w'
          go_simp
          with_reducible rfl
        rotate_left
        · simp only [Act.put, List.setIfInBounds_toArray, List.set_cons_zero, List.set_cons_succ, i64_w, i32_w]
          rfl
        refine last_ (i := 23) (N := none) #[true, true, true, true, true, true, true, true, true, true, true, true, true, true, true, true, true, true, true, true, true, true, true, true] rfl rfl (one_of HT_.out (by kernel_rfl)) (by decide) (fun K hK => ?_)
        obtain ⟨A9, c9, rfl⟩ := Kd.R_slice R9.out
        generalize (X.take i ++ [(k, b)] ++ X.drop i).length = n9 at R9 ⊢
        obtain ⟨t0, t1, t2, fr⟩ := cells3 (blk_below HB.out B9.out)
        refine skip_ (w1 := ?_) (by rfl) rfl ?_ ?_
        rotate_left
        · go_simp
          rfl
        refine hK.out _ _ ?_
        clear hK K
        refine done_ (done_of HT_.out (by kernel_rfl)) ?_
        clear t0 t1 t2 fr
        have hT := H1.out.turned B9.out R9.out
        rw [HWI.out] at hT
        have HT := Aside0.mk hT
        clear hT
        go_wp2_with fail
        go_end0
        rw [HXE.out]
        refine ⟨rfl, HT.out.1.mono (fun k hk => ⟨hk.1.elim (fun x => x.1) (fun x => Or.inr (Nat.le_trans F1.out.size x)), hk.2⟩) (fun k hk => hk.2), F1.out.andThen HT.out.2 (fun i hi => hi.1)⟩
    · have d1 : decide ((i : Int) < (X.length : Int)) = false := decide_eq_false (by omega)
      have hii : i = X.length := by omega
      subst hii
      have HWI := Aside0.mk (wi_at (k, b) X X.length HA.out (fun hh => by omega) hi)
      go_wp2_with fail
      obtain ⟨A1, c1, A2, c2, hcut1, hCT, hcut2, hCD⟩ := cut_two (P := Try.prog) 59 91 Try.underlying59 infoO HC.out hc0 X.length hi
      obtain ⟨n1, hn1⟩ : ∃ n_ : Nat, (X.take X.length).length = n_ := ⟨_, rfl⟩
      obtain ⟨n2, hn2⟩ : ∃ n_ : Nat, (X.drop X.length).length = n_ := ⟨_, rfl⟩
      rw [hn1] at hcut1 hCT
      rw [hn2] at hcut2 hCD
      have HN1 := Aside0.mk (show n1 ≤ 1000000 by rw [← hn1, List.length_take]; have := HY.out; omega)
      have HN2 := Aside0.mk (show n2 ≤ 1000000 by rw [← hn2, List.length_drop]; have := HY.out; omega)
      clear hn1 hn2
      have CT := Aside0.mk hCT
      have CD := Aside0.mk hCD
      clear hCT hCD t0 t1 t2 fr
      refine region_draw (n := 24) (S := fun W => Below wr.heap.size wr W) (ds := [23]) #[false, false, false, false, false, false, false, false, false, false, false, false, false, false, false, false, false, false, false, false, false, false, false, false] (by kernel_rfl) rfl rfl (fun W => Below wr.heap.size wr W) ((Below.refl _ _).drew) (fun W h => h) ?_
      rintro ws hws
      refine with_tabW lay4tab lay4bits (fun HT_ HW_ => ?_)
      have BS := Aside0.mk hws
      clear hws
      refine pure_ (i := 0) (N := some 31) (v := ?_) (a' := ?_) #[true, false, false, false, false, false, false, false, false, false, false, false, false, false, false, false, false, false, false, false, false, false, false, false] rfl rfl (any_of HT_.out (by kernel_rfl)) (fun _ _ _ h => h) (Or.inl ⟨by rfl, ?_⟩) ?_ ?_
      rotate_left
      · intro w'
        go_simp
        with_reducible rfl
      rotate_left
      · simp only [Act.put, List.setIfInBounds_toArray, List.set_cons_zero, List.set_cons_succ, i64_w, i32_w]
        rfl
      refine pure_ (i := 2) (N := some 33) (v := ?_) (a' := ?_) #[true, false, true, false, false, false, false, false, false, false, false, false, false, false, false, false, false, false, false, false, false, false, false, false] rfl rfl (any_of HT_.out (by kernel_rfl)) (fun _ _ _ h => h) (Or.inl ⟨by rfl, ?_⟩) ?_ ?_
      rotate_left
      · intro w'
        go_simp
        with_reducible rfl
      rotate_left
      · simp only [Act.put, List.setIfInBounds_toArray, List.set_cons_zero, List.set_cons_succ, i64_w, i32_w]
        rfl
      refine pure_ (i := 3) (N := some 34) (v := ?_) (a' := ?_) #[true, false, true, true, false, false, false, false, false, false, false, false, false, false, false, false, false, false, false, false, false, false, false, false] rfl rfl (any_of HT_.out (by kernel_rfl)) (fun _ _ _ h => h) (Or.inl ⟨by rfl, ?_⟩) ?_ ?_
      rotate_left
      · intro w'
        go_simp
        with_reducible rfl
      rotate_left
      · simp only [Act.put, List.setIfInBounds_toArray, List.set_cons_zero, List.set_cons_succ, i64_w, i32_w]
        rfl
      refine pure_ (i := 4) (N := some 35) (v := ?_) (a' := ?_) #[true, false, true, true, true, false, false, false, false, false, false, false, false, false, false, false, false, false, false, false, false, false, false, false] rfl rfl (any_of HT_.out (by kernel_rfl)) (fun _ _ _ h => h) (Or.inl ⟨by rfl, ?_⟩) ?_ ?_
      rotate_left
      · intro w'
        go_simp
        with_reducible rfl
      rotate_left
      · simp only [Act.put, List.setIfInBounds_toArray, List.set_cons_zero, List.set_cons_succ, i64_w, i32_w]
        rfl
      refine take_ (i := 5) (N := some 36) (v := ?_) (a' := ?_) #[true, false, true, true, true, true, false, false, false, false, false, false, false, false, false, false, false, false, false, false, false, false, false, false] rfl rfl (take_ofW HT_.out HW_.out (by kernel_rfl)) (fun _ _ _ h => h) (Or.inl ⟨by rfl, ?_⟩) BS.out ?_ ?_
      rotate_left
      · intro w' hW
        obtain ⟨t0, t1, t2, fr⟩ := cells3 (blk_below HB.out hW)
        go_simp
        with_reducible rfl
      rotate_left
      · simp only [Act.put, List.setIfInBounds_toArray, List.set_cons_zero, List.set_cons_succ, i64_w, i32_w]
        rfl
      refine pure_ (i := 6) (N := some 37) (v := ?_) (a' := ?_) #[true, false, true, true, true, true, true, false, false, false, false, false, false, false, false, false, false, false, false, false, false, false, false, false] rfl rfl (any_of HT_.out (by kernel_rfl)) (fun _ _ _ h => h) (Or.inl ⟨by rfl, ?_⟩) ?_ ?_
      rotate_left
      · intro w'
        go_simp
        with_reducible rfl
      rotate_left
      · simp only [Act.put, List.setIfInBounds_toArray, List.set_cons_zero, List.set_cons_succ, i64_w, i32_w]
        rfl
      refine pure_ (i := 7) (N := some 38) (v := ?_) (a' := ?_) #[true, false, true, true, true, true, true, true, false, false, false, false, false, false, false, false, false, false, false, false, false, false, false, false] rfl rfl (any_of HT_.out (by kernel_rfl)) (fun _ _ _ h => h) (Or.inl ⟨by rfl, ?_⟩) ?_ ?_
      rotate_left
      · intro w'
        go_simp
        with_reducible rfl
      rotate_left
      · simp only [Act.put, List.setIfInBounds_toArray, List.set_cons_zero, List.set_cons_succ, i64_w, i32_w]
        rfl
      refine pure_ (i := 9) (N := some 40) (v := ?_) (a' := ?_) #[true, false, true, true, true, true, true, true, false, true, false, false, false, false, false, false, false, false, false, false, false, false, false, false] rfl rfl (any_of HT_.out (by kernel_rfl)) (fun _ _ _ h => h) (Or.inl ⟨by rfl, ?_⟩) ?_ ?_
      rotate_left
      · intro w'
        go_simp
        with_reducible rfl
      rotate_left
      · simp only [Act.put, List.setIfInBounds_toArray, List.set_cons_zero, List.set_cons_succ, i64_w, i32_w]
        rfl
      refine pure_ (i := 10) (N := some 41) (v := ?_) (a' := ?_) #[true, false, true, true, true, true, true, true, false, true, true, false, false, false, false, false, false, false, false, false, false, false, false, false] rfl rfl (any_of HT_.out (by kernel_rfl)) (fun _ _ _ h => h) (Or.inl ⟨by rfl, ?_⟩) ?_ ?_
      rotate_left
      · intro w'
        go_simp
        with_reducible rfl
      rotate_left
      · simp only [Act.put, List.setIfInBounds_toArray, List.set_cons_zero, List.set_cons_succ, i64_w, i32_w]
        rfl
      refine pure_ (i := 11) (N := some 42) (v := ?_) (a' := ?_) #[true, false, true, true, true, true, true, true, false, true, true, true, false, false, false, false, false, false, false, false, false, false, false, false] rfl rfl (any_of HT_.out (by kernel_rfl)) (fun _ _ _ h => h) (Or.inl ⟨by rfl, ?_⟩) ?_ ?_
      rotate_left
      · intro w'
        go_simp
        with_reducible rfl
      rotate_left
      · simp only [Act.put, List.setIfInBounds_toArray, List.set_cons_zero, List.set_cons_succ, i64_w, i32_w]
        rfl
      refine pure_ (i := 14) (N := some 45) (v := ?_) (a' := ?_) #[true, false, true, true, true, true, true, true, false, true, true, true, false, false, true, false, false, false, false, false, false, false, false, false] rfl rfl (any_of HT_.out (by kernel_rfl)) (fun _ _ _ h => h) (Or.inl ⟨by rfl, ?_⟩) ?_ ?_
      rotate_left
      · intro w'
        go_simp
        with_reducible rfl
      rotate_left
      · simp only [Act.put, List.setIfInBounds_toArray, List.set_cons_zero, List.set_cons_succ, i64_w, i32_w]
        rfl
      refine pure_ (i := 15) (N := some 46) (v := ?_) (a' := ?_) #[true, false, true, true, true, true, true, true, false, true, true, true, false, false, true, true, false, false, false, false, false, false, false, false] rfl rfl (any_of HT_.out (by kernel_rfl)) (fun _ _ _ h => h) (Or.inl ⟨by rfl, ?_⟩) ?_ ?_
      rotate_left
      · intro w'
        go_simp
        with_reducible rfl
      rotate_left
      · simp only [Act.put, List.setIfInBounds_toArray, List.set_cons_zero, List.set_cons_succ, i64_w, i32_w]
        rfl
      refine pure_ (i := 16) (N := some 47) (v := ?_) (a' := ?_) #[true, false, true, true, true, true, true, true, false, true, true, true, false, false, true, true, true, false, false, false, false, false, false, false] rfl rfl (any_of HT_.out (by kernel_rfl)) (fun _ _ _ h => h) (Or.inl ⟨by rfl, ?_⟩) ?_ ?_
      rotate_left
      · intro w'
        go_simp
        with_reducible rfl
      rotate_left
      · simp only [Act.put, List.setIfInBounds_toArray, List.set_cons_zero, List.set_cons_succ, i64_w, i32_w]
        rfl
      refine take_ (i := 17) (N := some 48) (v := ?_) (a' := ?_) #[true, false, true, true, true, true, true, true, false, true, true, true, false, false, true, true, true, true, false, false, false, false, false, false] rfl rfl (take_ofW HT_.out HW_.out (by kernel_rfl)) (fun _ _ _ h => h) (Or.inl ⟨by rfl, ?_⟩) BS.out ?_ ?_
      rotate_left
      · intro w' hW
        obtain ⟨t0, t1, t2, fr⟩ := cells3 (blk_below HB.out hW)
        go_simp
        with_reducible rfl
      rotate_left
      · simp only [Act.put, List.setIfInBounds_toArray, List.set_cons_zero, List.set_cons_succ, i64_w, i32_w]
        rfl
      refine pure_ (i := 18) (N := some 49) (v := ?_) (a' := ?_) #[true, false, true, true, true, true, true, true, false, true, true, true, false, false, true, true, true, true, true, false, false, false, false, false] rfl rfl (any_of HT_.out (by kernel_rfl)) (fun _ _ _ h => h) (Or.inl ⟨by rfl, ?_⟩) ?_ ?_
      rotate_left
      · intro w'
        go_simp
        with_reducible rfl
      rotate_left
      · simp only [Act.put, List.setIfInBounds_toArray, List.set_cons_zero, List.set_cons_succ, i64_w, i32_w]
        rfl
      refine pure_ (i := 19) (N := some 50) (v := ?_) (a' := ?_) #[true, false, true, true, true, true, true, true, false, true, true, true, false, false, true, true, true, true, true, true, false, false, false, false] rfl rfl (any_of HT_.out (by kernel_rfl)) (fun _ _ _ h => h) (Or.inl ⟨by rfl, ?_⟩) ?_ ?_
      rotate_left
      · intro w'
        go_simp
        with_reducible rfl
      rotate_left
      · simp only [Act.put, List.setIfInBounds_toArray, List.set_cons_zero, List.set_cons_succ, i64_w, i32_w]
        rfl
      refine join_ (σ := Value × Value × Value) 5 #[true, true, true, true, true, true, true, true, true, true, true, true, true, false, true, true, true, true, true, true, false, false, false, false] (fun s_ => [(32, s_.1), (39, s_.2.1), (43, s_.2.2)]) (fun s_ w' => Aside0 (Below wr.heap.size wr w') ∧ Aside0 (kO.R 91 w' wr.heap.size (fun _ => True) s_.2.1 (X.take X.length)) ∧ ∃ A_ c_, s_.2.2 = .slice A_ 1 c_ ∧ Aside0 (kO.C w' A_ 1 [(k, b)])) ?_ ?_
      rotate_left
      · intro hCont
        refine two_ (i := 1) (j := 12) (Ni := some 32) (Nj := some 43) #[true, true, true, true, true, true, true, true, false, true, true, true, false, false, true, true, true, true, true, true, false, false, false, false] #[true, false, true, true, true, true, true, true, false, true, true, true, true, false, true, true, true, true, true, true, false, false, false, false] rfl rfl rfl rfl (two_of HT_.out (by kernel_rfl)) (by decide) (by decide) (fun K hK => ?_) (fun K hK => ?_)
        · skip
          refine Kd.R_lit_step kO (w0 := wr) wr.heap.size 91 ?hg (N := 32) ?hd (xs := []) (inner := []) (ok := (fun _ => True)) (okp := fun _ => False) ?hr (Reps.none _ _) (fun _ hk => hk.elim) trivial BS.out BS.out.size (by simp) ?_; (case hd => rfl); (case hg => rfl); (case hr => first | (go_simp; done) | (go_simp; rfl))
          intro v0 w5 hR0 hB0 hg0 hat0
          have B5 := Aside0.mk hB0
          have R5 := Aside0.mk hR0
          clear hR0 hB0 hg0 hat0
          refine hK.out _ _ B5.out (fun _ => ?_)
          clear hK K
          refine norm_ (a' := ?_) ?_ ?_
          rotate_left
          · show Act.put _ (some 32) _ = _
            simp only [Act.put, List.setIfInBounds_toArray, List.set_cons_zero, List.set_cons_succ, i64_w, i32_w]
            rfl
          refine two_ (i := 8) (j := 12) (Ni := some 39) (Nj := some 43) #[true, true, true, true, true, true, true, true, true, true, true, true, false, false, true, true, true, true, true, true, false, false, false, false] #[true, true, true, true, true, true, true, true, false, true, true, true, true, false, true, true, true, true, true, true, false, false, false, false] rfl rfl rfl rfl (two_of HT_.out (by kernel_rfl)) (by decide) (by decide) (fun K hK => ?_) (fun K hK => ?_)
          · skip
            refine Kd.R_append_rows_step kO (w0 := wr) wr.heap.size (by rfl) (.tmp 32) (.tmp 38) 59 91 (.agg #[.string ⟨#[]⟩, .string ⟨#[]⟩]) 32 rfl Try.underlying59 infoO rfl (by decide) (by omega) v0 [] (X.take X.length) A1 n1 c1 (fun _ => True) (fun _ => False) rfl rfl R5.out (Kd.C_below CT.out B5.out) (fun x cs h => kO_KM h) (fun _ h => h.elim) (fun _ _ => trivial) B5.out B5.out.size (by have h1 := HN1.out; have h2 := HN2.out; have h3 := HY.out; simp; omega) ?_
            intro v1 w6 hR hB hg hat
            have B6 := Aside0.mk hB
            have R6 := Aside0.mk hR
            clear hR hB hg hat R5 B5
            refine hK.out _ _ B6.out (fun _ => ?_)
            clear hK K
            refine norm_ (a' := ?_) ?_ ?_
            rotate_left
            · show Act.put _ (some 39) _ = _
              simp only [Act.put, List.setIfInBounds_toArray, List.set_cons_zero, List.set_cons_succ, i64_w, i32_w]
              rfl
            refine one_ (i := 12) (N := some 43) #[true, true, true, true, true, true, true, true, true, true, true, true, true, false, true, true, true, true, true, true, false, false, false, false] rfl rfl (one_of HT_.out (by kernel_rfl)) (by decide) (fun K hK => ?_)
            refine Kd.R_lit_step kO (w0 := wr) wr.heap.size 91 ?hg (N := 43) ?hd (xs := [(k, b)]) (inner := [.string k, .string b]) (ok := (fun _ => True)) (okp := fun _ => False) ?hr ?hp (fun _ hk => hk.elim) trivial B6.out B6.out.size (by simp) ?_; (case hd => rfl); (case hg => rfl); (case hr => first | (go_simp; done) | (go_simp; rfl)); (case hp => exact (Reps.c2 (kO_M _ _ _ (k, b)) (Reps.none _ _)))
            intro v2 w7 hR hB hg hat
            obtain ⟨A_, c_, rfl, _, hC_⟩ := Kd.R_reads hR
            have B7 := Aside0.mk hB
            have R7 := Aside0.mk (Kd.R_below R6.out ⟨hg.os, hg.tape, hg.output, hg.size, fun k hk => hg.block k hk (by simp)⟩)
            have C7 := Aside0.mk hC_
            clear hR hB hg hat hC_ R6 B6
            refine hK.out _ _ B7.out (fun _ => ?_)
            clear hK K
            refine norm_ (a' := ?_) ?_ ?_
            rotate_left
            · show Act.put _ (some 43) _ = _
              simp only [Act.put, List.setIfInBounds_toArray, List.set_cons_zero, List.set_cons_succ, i64_w, i32_w]
              rfl
            exact hCont (_, _, _) _ ⟨B7, R7, A_, c_, rfl, C7⟩
          · skip
            refine Kd.R_lit_step kO (w0 := wr) wr.heap.size 91 ?hg (N := 43) ?hd (xs := [(k, b)]) (inner := [.string k, .string b]) (ok := (fun k => some k ≠ v0.ownBlock)) (okp := fun _ => False) ?hr ?hp (fun _ hk => hk.elim) (fun e => by have := Kd.R_lt R5.out _ e.symm; omega) B5.out B5.out.size (by simp) ?_; (case hd => rfl); (case hg => rfl); (case hr => first | (go_simp; done) | (go_simp; rfl)); (case hp => exact (Reps.c2 (kO_M _ _ _ (k, b)) (Reps.none _ _)))
            intro v2 w6 hR hB hg hat
            have B6 := Aside0.mk hB
            have R6 := Aside0.mk (Kd.R_below R5.out ⟨hg.os, hg.tape, hg.output, hg.size, fun k hk => hg.block k hk (by simp)⟩)
            have V6 := Aside0.mk hR
            clear hR hB hg hat R5 B5
            refine hK.out _ _ B6.out (fun _ => ?_)
            clear hK K
            refine norm_ (a' := ?_) ?_ ?_
            rotate_left
            · show Act.put _ (some 43) _ = _
              simp only [Act.put, List.setIfInBounds_toArray, List.set_cons_zero, List.set_cons_succ, i64_w, i32_w]
              rfl
            refine one_ (i := 8) (N := some 39) #[true, true, true, true, true, true, true, true, true, true, true, true, true, false, true, true, true, true, true, true, false, false, false, false] rfl rfl (one_of HT_.out (by kernel_rfl)) (by decide) (fun K hK => ?_)
            refine Kd.R_append_rows_step kO (w0 := wr) wr.heap.size (by rfl) (.tmp 32) (.tmp 38) 59 91 (.agg #[.string ⟨#[]⟩, .string ⟨#[]⟩]) 32 rfl Try.underlying59 infoO rfl (by decide) (by omega) v0 [] (X.take X.length) A1 n1 c1 (fun _ => True) (fun _ => False) rfl rfl R6.out (Kd.C_below CT.out B6.out) (fun x cs h => kO_KM h) (fun _ h => h.elim) (fun _ _ => trivial) B6.out B6.out.size (by have h1 := HN1.out; have h2 := HN2.out; have h3 := HY.out; simp; omega) ?_
            intro v1 w7 hR hB hg hat
            obtain ⟨A_, c_, rfl, _, hC_⟩ := Kd.R_reads (Kd.R_grown V6.out hg (fun _ h => h))
            have B7 := Aside0.mk hB
            have R7 := Aside0.mk hR
            have C7 := Aside0.mk hC_
            clear hR hB hg hat hC_ R6 B6 V6
            refine hK.out _ _ B7.out (fun _ => ?_)
            clear hK K
            refine norm_ (a' := ?_) ?_ ?_
            rotate_left
            · show Act.put _ (some 39) _ = _
              simp only [Act.put, List.setIfInBounds_toArray, List.set_cons_zero, List.set_cons_succ, i64_w, i32_w]
              rfl
            exact hCont (_, _, _) _ ⟨B7, R7, A_, c_, rfl, C7⟩
        · skip
          refine Kd.R_lit_step kO (w0 := wr) wr.heap.size 91 ?hg (N := 43) ?hd (xs := [(k, b)]) (inner := [.string k, .string b]) (ok := (fun _ => True)) (okp := fun _ => False) ?hr ?hp (fun _ hk => hk.elim) trivial BS.out BS.out.size (by simp) ?_; (case hd => rfl); (case hg => rfl); (case hr => first | (go_simp; done) | (go_simp; rfl)); (case hp => exact (Reps.c2 (kO_M _ _ _ (k, b)) (Reps.none _ _)))
          intro v2 w5 hR hB hg hat
          have B5 := Aside0.mk hB
          have V5 := Aside0.mk hR
          clear hR hB hg hat
          refine hK.out _ _ B5.out (fun _ => ?_)
          clear hK K
          refine norm_ (a' := ?_) ?_ ?_
          rotate_left
          · show Act.put _ (some 43) _ = _
            simp only [Act.put, List.setIfInBounds_toArray, List.set_cons_zero, List.set_cons_succ, i64_w, i32_w]
            rfl
          refine one_ (i := 1) (N := some 32) #[true, true, true, true, true, true, true, true, false, true, true, true, true, false, true, true, true, true, true, true, false, false, false, false] rfl rfl (one_of HT_.out (by kernel_rfl)) (by decide) (fun K hK => ?_)
          refine Kd.R_lit_step kO (w0 := wr) wr.heap.size 91 ?hg (N := 32) ?hd (xs := []) (inner := []) (ok := (fun _ => True)) (okp := fun _ => False) ?hr (Reps.none _ _) (fun _ hk => hk.elim) trivial B5.out B5.out.size (by simp) ?_; (case hd => rfl); (case hg => rfl); (case hr => first | (go_simp; done) | (go_simp; rfl))
          intro v0 w6 hR hB hg hat
          obtain ⟨b_, hb_, hb2_⟩ := hat
          have B6 := Aside0.mk hB
          have R6 := Aside0.mk hR
          have V6 := Aside0.mk (Kd.R_mono (Kd.R_below (Kd.R_bound V5.out) ⟨hg.os, hg.tape, hg.output, hg.size, fun k hk => hg.block k hk (by simp)⟩) (ok' := fun k => some k ≠ v0.ownBlock) (fun k hk e => by rw [hb_] at e; injection e with e; have := hk.2.2.1; omega))
          clear hR hB hg hb_ hb2_ B5 V5
          refine hK.out _ _ B6.out (fun _ => ?_)
          clear hK K
          refine norm_ (a' := ?_) ?_ ?_
          rotate_left
          · show Act.put _ (some 32) _ = _
            simp only [Act.put, List.setIfInBounds_toArray, List.set_cons_zero, List.set_cons_succ, i64_w, i32_w]
            rfl
          refine one_ (i := 8) (N := some 39) #[true, true, true, true, true, true, true, true, true, true, true, true, true, false, true, true, true, true, true, true, false, false, false, false] rfl rfl (one_of HT_.out (by kernel_rfl)) (by decide) (fun K hK => ?_)
          refine Kd.R_append_rows_step kO (w0 := wr) wr.heap.size (by rfl) (.tmp 32) (.tmp 38) 59 91 (.agg #[.string ⟨#[]⟩, .string ⟨#[]⟩]) 32 rfl Try.underlying59 infoO rfl (by decide) (by omega) v0 [] (X.take X.length) A1 n1 c1 (fun _ => True) (fun _ => False) rfl rfl R6.out (Kd.C_below CT.out B6.out) (fun x cs h => kO_KM h) (fun _ h => h.elim) (fun _ _ => trivial) B6.out B6.out.size (by have h1 := HN1.out; have h2 := HN2.out; have h3 := HY.out; simp; omega) ?_
          intro v1 w7 hR hB hg hat
          obtain ⟨A_, c_, rfl, _, hC_⟩ := Kd.R_reads (Kd.R_grown V6.out hg (fun _ h => h))
          have B7 := Aside0.mk hB
          have R7 := Aside0.mk hR
          have C7 := Aside0.mk hC_
          clear hR hB hg hat hC_ R6 B6 V6
          refine hK.out _ _ B7.out (fun _ => ?_)
          clear hK K
          refine norm_ (a' := ?_) ?_ ?_
          rotate_left
          · show Act.put _ (some 39) _ = _
            simp only [Act.put, List.setIfInBounds_toArray, List.set_cons_zero, List.set_cons_succ, i64_w, i32_w]
            rfl
          exact hCont (_, _, _) _ ⟨B7, R7, A_, c_, rfl, C7⟩
      rintro ⟨v0, v1, v2⟩ w7 ⟨B7, R7, A_, c_, hv_, C7⟩
      simp only at R7 hv_
      subst hv_
      refine norm_ (a' := ?_) ?_ ?_
      rotate_left
      · simp only [putAll, List.foldl_cons, List.foldl_nil, Act.put, List.setIfInBounds_toArray, List.set_cons_zero, List.set_cons_succ]
        rfl
      refine one_ (i := 13) (N := some 44) #[true, true, true, true, true, true, true, true, true, true, true, true, true, true, true, true, true, true, true, true, false, false, false, false] rfl rfl (one_of HT_.out (by kernel_rfl)) (by decide) (fun K hK => ?_)
      refine Kd.R_append_rows_step kO (w0 := wr) wr.heap.size (by rfl) (.tmp 39) (.tmp 43) 59 91 (.agg #[.string ⟨#[]⟩, .string ⟨#[]⟩]) 32 rfl Try.underlying59 infoO rfl (by decide) (by omega) v1 (X.take X.length) [(k, b)] A_ 1 c_ (fun _ => True) (fun _ => False) rfl rfl R7.out C7.out (fun x cs h => kO_KM h) (fun _ h => h.elim) (fun _ _ => trivial) B7.out B7.out.size (by have h1 := HN1.out; have h2 := HN2.out; have h3 := HY.out; simp; omega) ?_
      intro v3 w8 hR hB hg hat
      have B8 := Aside0.mk hB
      have R8 := Aside0.mk hR
      clear hR hB hg hat B7 R7 C7
      refine hK.out _ _ B8.out (fun _ => ?_)
      clear hK K
      refine norm_ (a' := ?_) ?_ ?_
      rotate_left
      · show Act.put _ (some 44) _ = _
        simp only [Act.put, List.setIfInBounds_toArray, List.set_cons_zero, List.set_cons_succ, i64_w, i32_w]
        rfl
      refine one_ (i := 20) (N := some 51) #[true, true, true, true, true, true, true, true, true, true, true, true, true, true, true, true, true, true, true, true, true, false, false, false] rfl rfl (one_of HT_.out (by kernel_rfl)) (by decide) (fun K hK => ?_)
      refine Kd.R_append_rows_step kO (w0 := wr) wr.heap.size (by rfl) (.tmp 44) (.tmp 50) 59 91 (.agg #[.string ⟨#[]⟩, .string ⟨#[]⟩]) 32 rfl Try.underlying59 infoO rfl (by decide) (by omega) v3 ((X.take X.length) ++ [(k, b)]) (X.drop X.length) A2 n2 c2 (fun _ => True) (fun _ => False) rfl rfl R8.out (Kd.C_below CD.out B8.out) (fun x cs h => kO_KM h) (fun _ h => h.elim) (fun _ _ => trivial) B8.out B8.out.size (by have h1 := HN1.out; have h2 := HN2.out; have h3 := HY.out; simp; omega) ?_
      intro v4 w9 hR hB hg hat
      have B9 := Aside0.mk hB
      have R9 := Aside0.mk hR
      clear hR hB hg hat B8 R8
      refine hK.out _ _ B9.out (fun _ => ?_)
      clear hK K
      refine norm_ (a' := ?_) ?_ ?_
      rotate_left
      · show Act.put _ (some 51) _ = _
        simp only [Act.put, List.setIfInBounds_toArray, List.set_cons_zero, List.set_cons_succ, i64_w, i32_w]
        rfl
      refine pure_ (i := 21) (N := some 52) (v := ?_) (a' := ?_) #[true, true, true, true, true, true, true, true, true, true, true, true, true, true, true, true, true, true, true, true, true, true, false, false] rfl rfl (any_of HT_.out (by kernel_rfl)) (fun _ _ _ h => h) (Or.inl ⟨by rfl, ?_⟩) ?_ ?_
      rotate_left
      · intro w'
        go_simp
        with_reducible rfl
      rotate_left
      · simp only [Act.put, List.setIfInBounds_toArray, List.set_cons_zero, List.set_cons_succ, i64_w, i32_w]
        rfl
      refine pure_ (i := 22) (N := some 53) (v := ?_) (a' := ?_) #[true, true, true, true, true, true, true, true, true, true, true, true, true, true, true, true, true, true, true, true, true, true, true, false] rfl rfl (any_of HT_.out (by kernel_rfl)) (fun _ _ _ h => h) (Or.inl ⟨by rfl, ?_⟩) ?_ ?_
      rotate_left
      · intro w'
        go_simp
        with_reducible rfl
      rotate_left
      · simp only [Act.put, List.setIfInBounds_toArray, List.set_cons_zero, List.set_cons_succ, i64_w, i32_w]
        rfl
      refine last_ (i := 23) (N := none) #[true, true, true, true, true, true, true, true, true, true, true, true, true, true, true, true, true, true, true, true, true, true, true, true] rfl rfl (one_of HT_.out (by kernel_rfl)) (by decide) (fun K hK => ?_)
      obtain ⟨A9, c9, rfl⟩ := Kd.R_slice R9.out
      generalize (X.take X.length ++ [(k, b)] ++ X.drop X.length).length = n9 at R9 ⊢
      obtain ⟨t0, t1, t2, fr⟩ := cells3 (blk_below HB.out B9.out)
      refine skip_ (w1 := ?_) (by rfl) rfl ?_ ?_
      rotate_left
      · go_simp
        rfl
      refine hK.out _ _ ?_
      clear hK K
      refine done_ (done_of HT_.out (by kernel_rfl)) ?_
      clear t0 t1 t2 fr
      have hT := H1.out.turned B9.out R9.out
      rw [HWI.out] at hT
      have HT := Aside0.mk hT
      clear hT
      go_wp2_with fail
      go_end0
      rw [HXE.out]
      refine ⟨rfl, HT.out.1.mono (fun k hk => ⟨hk.1.elim (fun x => x.1) (fun x => Or.inr (Nat.le_trans F1.out.size x)), hk.2⟩) (fun k hk => hk.2), F1.out.andThen HT.out.2 (fun i hi => hi.1)⟩
end Go.Proofs.Ytnkadkahdnnbbaa.Thw
