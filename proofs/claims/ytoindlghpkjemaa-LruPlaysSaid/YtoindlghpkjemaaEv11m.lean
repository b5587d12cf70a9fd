/- Layer 11: LruPlays' walk. -/
import Derived.Test.YtoindlghpkjemaaEv11l
namespace Go.Proofs.Ytoindlghpkjemaa.Thw
open Go Go.RowKit Go.Proofs.YtoindlghpkjemaaW.PrintWords Go.Proofs.YtoindlghpkjemaaW.PrintLast Go.Proofs.YtoindlghpkjemaaW.PrintMore
set_option linter.unusedVariables false
set_option linter.unusedSimpArgs false
structure OpL where
  do_ : Int
  b : Bk
  s : ByteArray
def OpsL (W : World) (A : Option Addr) (n : Nat) (ops : Nat → OpL) : Prop :=
  ∀ i, i < n → ∃ ad, A = some ad ∧ W.cell? (ad.add (i * 4)) = some (.int .i64 (ops i).do_) ∧ W.cell? ⟨(ad.add (i * 4)).block, (ad.add (i * 4)).off + 1, none⟩ = some (.int .i64 (ops i).b.1) ∧ W.cell? ⟨(ad.add (i * 4)).block, (ad.add (i * 4)).off + 2, none⟩ = some (.int .i64 (ops i).b.2) ∧ W.cell? ⟨(ad.add (i * 4)).block, (ad.add (i * 4)).off + 3, none⟩ = some (.string (ops i).s)
theorem cells4' {w : World} {s : Nat} {v0 v1 v2 v3 : Value} {t : TypeId} (h : w.heap[s]? = some (.cells #[v0, v1, v2, v3] t)) :
    w.cell? ⟨s, 0, none⟩ = some v0 ∧ w.cell? ⟨s, 1, none⟩ = some v1 ∧ w.cell? ⟨s, 2, none⟩ = some v2 ∧ w.cell? ⟨s, 3, none⟩ = some v3 ∧ ∀ i, w.frozen? ⟨s, i, none⟩ = false := by
  refine ⟨?_, ?_, ?_, ?_, fun i => ?_⟩ <;> simp [World.cell?, World.frozen?, h]
/-- Both caches say X; they share no block. -/
structure Pair (N : Nat) (most : Int) (p g : Nat) (W : World) (A B : Nat → Prop) (X : Row2) : Prop where
  c : CAt W A p X most
  r : RfL W B g X most
  dis : ∀ k, A k → ¬ B k
  la : ∀ k, A k → N ≤ k
  lb : ∀ k, B k → N ≤ k
theorem Pair.below {N : Nat} {most : Int} {p g : Nat} {W W' : World} {A B : Nat → Prop} {X : Row2} (h : Pair N most p g W A B X) (hb : Below W.heap.size W W') : Pair N most p g W' A B X := ⟨h.c.below hb, h.r.below hb, h.dis, h.la, h.lb⟩
def PlayRel (N : Nat) (most : Int) (p g : Nat) (w W : World) : Prop := ∃ A B X, Pair N most p g W A B X ∧ Below N w W
theorem Pair.mid {N : Nat} {most : Int} {p g : Nat} {W w3 : World} {A B : Nat → Prop} {X : Row2} (h : Pair N most p g W A B X) (f : Frm A W w3) : RfL w3 B g X most := h.r.frm f (fun k _ hb ha => h.dis k ha hb)
theorem Pair.close {N : Nat} {most : Int} {p g : Nat} {W w3 w4 : World} {A B : Nat → Prop} {X Y : Row2} (h : Pair N most p g W A B X) (hN : N ≤ W.heap.size) (hc : CAt w3 (nA A W w3) p Y most) (f3 : Frm A W w3) (hr : RfL w4 (nA B w3 w4) g Y most) (f4 : Frm B w3 w4) : Pair N most p g w4 (nA A W w3) (nA B w3 w4) Y := by
  have z3 := f3.size
  refine ⟨hc.frm f4 (fun k _ hk hb => ?_), hr, fun k hk hb => ?_, nA_lo h.la hN, nA_lo h.lb (by omega)⟩
  · have := h.r.old k hb
    exact hk.1.elim (fun ha => h.dis k ha hb) (fun hx => by omega)
  · rcases hb.1 with hb | hb
    · have := h.r.old k hb
      exact hk.1.elim (fun ha => h.dis k ha hb) (fun hx => by omega)
    · have := hk.2; omega
theorem Pair.frm {N : Nat} {most : Int} {p g : Nat} {W w3 w4 : World} {A B : Nat → Prop} {X : Row2} (h : Pair N most p g W A B X) (hN : N ≤ W.heap.size) (f3 : Frm A W w3) (f4 : Frm B w3 w4) : Below N W w4 :=
  (f3.below hN (fun k _ hk => h.la k hk)).trans (f4.below (Nat.le_trans hN f3.size) (fun k _ hk => h.lb k hk))
def lruplays12T : Bool × List (List Nat × List Nat) := (true, [([], []), ([], []), ([1], [1]), ([2], [2]), ([0, 3], [0, 3]), ([], []), ([], []), ([6], [6]), ([7], [7]), ([5, 8, 4], [5, 8]), ([4, 9], [4, 9]), ([10, 9, 0, 1, 2, 3, 4, 5, 6, 7, 8, 9, 10], [10])])
def lruplays12B : List Nat := [0, 0, 2, 6, 15, 0, 0, 64, 192, 511, 1023, 2047]
theorem lruplays12tab : rtab .any (opsOf Try.f6 12) = lruplays12T := by kernel_rfl
theorem lruplays12bits : waitsOk lruplays12T.2 lruplays12B = true := by kernel_rfl
def lruplays23T : Bool × List (List Nat × List Nat) := (true, [([], []), ([0], [0]), ([], []), ([2], [2]), ([3], [3]), ([4], [4]), ([1, 5, 1], [1, 5]), ([6, 6, 0, 1, 2, 3, 4, 5, 6], [6])])
def lruplays23B : List Nat := [0, 1, 0, 4, 12, 28, 63, 127]
theorem lruplays23tab : rtab .any (opsOf Try.f6 23) = lruplays23T := by kernel_rfl
theorem lruplays23bits : waitsOk lruplays23T.2 lruplays23B = true := by kernel_rfl
set_option maxHeartbeats 12800000 in
set_option maxRecDepth 100000 in
theorem plays11_walk (most : Int) (A1 : Option Addr) (n c1 : Nat) (ops : Nat → OpL) (w : World) (hc : OpsL w A1 n ops) (hs : ∀ i, i < n → BkOk (ops i).b) (hn : n ≤ c1) :
    Calls Try.prog 6 #[.int .i64 most, .slice A1 n c1] w fun e w' => e = .returned (.bool true) ∧ Below w.heap.size w w' := by
  have HC := Aside0.mk hc
  have HS := Aside0.mk hs
  clear hc hs
  go_enter Try.func6, Try.ntmps6
  go_wp2_with fail
  refine (awake11.calls _).mono ?_
  rintro e w1 ⟨rfl, b1⟩
  have B1 := Aside0.mk b1
  clear b1
  go_wp2_with fail
  refine (cat_New most _).mono ?_
  rintro e w2 (⟨hx, rfl, rfl⟩ | ⟨hmo, p, rfl, h2, b2⟩)
  · go_wp2_with fail
    refine (rf_New most _).mono ?_
    rintro e w3 (⟨hx2, rfl, rfl⟩ | ⟨hmo, p, rfl, h2, b2⟩)
    case inr => omega
    go_wp2_with fail
    go_loopw [10] (fun v10 wr => v10 = .int .i64 0 ∧ Aside0 (Below w.heap.size w wr)) (fun _ _ => 0)
    case atStart => exact ⟨rfl, B1⟩
    case round =>
      obtain ⟨rfl, HB⟩ := hrel
      by_cases h0 : (0 : Int) < n
      · have d0 : decide ((0 : Int) < n) = true := decide_eq_true h0
        go_wp2_with fail
        go_ret
        exact ⟨rfl, HB.out⟩
      · have d0 : decide ((0 : Int) < n) = false := decide_eq_false h0
        go_wp2_with fail
        go_ret
        exact ⟨rfl, HB.out⟩
  have Z1 := Aside0.mk B1.out.size
  have B2 := Aside0.mk (B1.out.trans (b2.mono B1.out.size))
  have H2 := Aside0.mk h2
  have HMO := Aside0.mk hmo
  clear h2 b2
  go_wp2_with fail
  refine (rf_New most _).mono ?_
  rintro e w3 (⟨hx2, rfl, rfl⟩ | ⟨_, g, rfl, h3, b3⟩)
  case inl => omega
  have P3 := Aside0.mk (show Pair w.heap.size most p g w3 _ _ [] from ⟨H2.out.below b3, h3, fun k hk hb => by have := hk.2; have := hb.1; omega, fun k hk => Nat.le_trans Z1.out hk.1, fun k hk => by have := hk.1; have := B2.out.size; omega⟩)
  have B3 := Aside0.mk (B2.out.trans (b3.mono B2.out.size))
  clear h3 b3 H2
  go_wp2_with fail
  go_loopw [10] (fun v10 wr => ∃ k : Nat, k ≤ n ∧ v10 = .int .i64 k ∧ Aside0 (PlayRel w.heap.size most p g w wr)) (fun v10 _ => n - (intOf v10).toNat)
  case atStart => exact ⟨0, Nat.zero_le _, rfl, ⟨_, _, _, P3.out, B3.out⟩⟩
  case round =>
    obtain ⟨k, hk, rfl, HP⟩ := hrel
    obtain ⟨A, B, X, hP, hB⟩ := HP.out
    by_cases hkn : k < n
    case neg =>
      have dkn : decide ((k : Int) < (n : Int)) = false := decide_eq_false (by omega)
      go_wp2_with fail
      go_ret
      exact ⟨rfl, hB⟩
    have dkn : decide ((k : Int) < (n : Int)) = true := decide_eq_true (by omega)
    by_cases hk8 : k < 150
    case neg =>
      have dk8 : decide ((k : Int) < 150) = false := decide_eq_false (by omega)
      go_wp2_with fail
      go_ret
      exact ⟨rfl, hB⟩
    have dk8 : decide ((k : Int) < 150) = true := decide_eq_true (by omega)
    obtain ⟨ad, rfl, q0, q1, q2, q3⟩ := HC.out k hkn
    have HZ := Aside0.mk (HS.out k hkn)
    generalize ops k = o at q0 q1 q2 q3 HZ
    obtain ⟨x0, ⟨x1, x2⟩, x3⟩ := o
    simp only at q0 q1 q2 q3
    replace q0 := pw_cell_below hB q0
    replace q1 := pw_cell_below hB q1
    replace q2 := pw_cell_below hB q2
    replace q3 := pw_cell_below hB q3
    have p0 : 0 ≤ (k : Int) := by omega
    obtain ⟨wb, hwb⟩ : ∃ wb, wr.alloc (.cells #[.int .i64 x0, .int .i64 x1, .int .i64 x2, .string x3] 56) = wb := ⟨_, rfl⟩
    have PB := Aside0.mk (show Pair w.heap.size most p g wb A B X by rw [← hwb]; exact hP.below ((Below.refl _ _).alloc (Nat.le_refl _) _))
    have HBb := Aside0.mk (show Below w.heap.size w wb by rw [← hwb]; exact hB.alloc hB.size _)
    have XB := Aside0.mk (show wb.heap[wr.heap.size]? = some (.cells #[.int .i64 x0, .int .i64 x1, .int .i64 x2, .string x3] 56) by rw [← hwb]; exact blk_new _ _)
    have NXA := Aside0.mk (show ¬ A wr.heap.size from fun h => by have := hP.c.old _ h; omega)
    have NXB := Aside0.mk (show ¬ B wr.heap.size from fun h => by have := hP.r.old _ h; omega)
    have HWB := Aside0.mk hwb
    have HLX := Aside0.mk (show X.length ≤ 1000 from by have := hP.c.lim.2.2.2.1; omega)
    clear hP hB HP P3 B3 hwb
    go_upto_region 10 with (fail)
    rw [HWB.out]
    obtain ⟨bx, hbx⟩ : ∃ bx, wr.heap.size = bx := ⟨_, rfl⟩
    rw [hbx] at XB NXA NXB ⊢
    clear hbx HWB q0 q1 q2 q3
    obtain ⟨d0, d1, d2, d3, dr⟩ := cells4' XB.out
    go_upto_block 2 with (fail)
    go_cut [12] from 57 to 110 (fun s12 wx => s12 = .bool true ∧ Aside0 (PlayRel w.heap.size most p g w wx))
    case first =>
      rcases Bool.eq_false_or_eq_true (x0 == 0) with z0 | z0
      · as_aux_lemma =>
        go_wp2_with fail
        refine (cat_Get PB.out.c (x1, x2) HZ.out).mono ?_
        rintro e w3 ⟨rfl, h3, f3⟩
        have H3 := Aside0.mk h3
        have F3 := Aside0.mk f3
        have R3 := Aside0.mk (PB.out.mid f3)
        have X3 := Aside0.mk (f3.keeps XB.out NXA.out)
        clear h3 f3 d0 d1 d2 d3 dr
        obtain ⟨d0, d1, d2, d3, dr⟩ := cells4' X3.out
        obtain ⟨gs, hgs⟩ : ∃ gs, (look X (x1, x2)).getD ⟨#[]⟩ = gs := ⟨_, rfl⟩
        obtain ⟨gi, hgi⟩ : ∃ gi, (look X (x1, x2)).isSome = gi := ⟨_, rfl⟩
        rw [hgs, hgi]
        have HGS := Aside0.mk hgs
        have HGI := Aside0.mk hgi
        clear hgs hgi
        go_wp2_with fail
        refine (rf_Get w3 B g X most R3.out HLX.out (x1, x2)).mono ?_
        rintro e w4 ⟨rfl, h4, f4⟩
        have P4 := Aside0.mk (PB.out.close HBb.out.size H3.out F3.out h4 f4)
        have B4 := Aside0.mk (HBb.out.trans (PB.out.frm HBb.out.size F3.out f4))
        rw [HGS.out, HGI.out]
        clear h4 f4
        go_wp2_with fail
        go_meet
        case rel => exact ⟨by first | rfl | simp, ⟨_, _, _, P4.out, B4.out⟩⟩
      rcases Bool.eq_false_or_eq_true (x0 == 1) with z1 | z1
      · as_aux_lemma =>
        go_wp2_with fail
        refine (cat_Get PB.out.c (x1, x2) HZ.out).mono ?_
        rintro e w3 ⟨rfl, h3, f3⟩
        have H3 := Aside0.mk h3
        have F3 := Aside0.mk f3
        have R3 := Aside0.mk (PB.out.mid f3)
        have X3 := Aside0.mk (f3.keeps XB.out NXA.out)
        clear h3 f3 d0 d1 d2 d3 dr
        obtain ⟨d0, d1, d2, d3, dr⟩ := cells4' X3.out
        obtain ⟨gs, hgs⟩ : ∃ gs, (look X (x1, x2)).getD ⟨#[]⟩ = gs := ⟨_, rfl⟩
        obtain ⟨gi, hgi⟩ : ∃ gi, (look X (x1, x2)).isSome = gi := ⟨_, rfl⟩
        rw [hgs, hgi]
        have HGS := Aside0.mk hgs
        have HGI := Aside0.mk hgi
        clear hgs hgi
        go_wp2_with fail
        refine (rf_Get w3 B g X most R3.out HLX.out (x1, x2)).mono ?_
        rintro e w4 ⟨rfl, h4, f4⟩
        have P4 := Aside0.mk (PB.out.close HBb.out.size H3.out F3.out h4 f4)
        have B4 := Aside0.mk (HBb.out.trans (PB.out.frm HBb.out.size F3.out f4))
        rw [HGS.out, HGI.out]
        clear h4 f4
        go_wp2_with fail
        go_meet
        case rel => exact ⟨by first | rfl | simp, ⟨_, _, _, P4.out, B4.out⟩⟩
      rcases Bool.eq_false_or_eq_true (x0 == 2) with z2 | z2
      · as_aux_lemma =>
        go_wp2_with fail
        refine (cat_Put PB.out.c (x1, x2) HZ.out x3).mono ?_
        rintro e w3 ⟨rfl, h3, f3⟩
        have H3 := Aside0.mk h3
        have F3 := Aside0.mk f3
        have R3 := Aside0.mk (PB.out.mid f3)
        have X3 := Aside0.mk (f3.keeps XB.out NXA.out)
        clear h3 f3 d0 d1 d2 d3 dr
        obtain ⟨d0, d1, d2, d3, dr⟩ := cells4' X3.out
        go_wp2_with fail
        refine (rf_Put w3 B g X most R3.out HLX.out (by have := HMO.out; omega) (x1, x2) x3).mono ?_
        rintro e w4 ⟨rfl, h4, f4⟩
        have P4 := Aside0.mk (PB.out.close HBb.out.size H3.out F3.out h4 f4)
        have B4 := Aside0.mk (HBb.out.trans (PB.out.frm HBb.out.size F3.out f4))
        clear h4 f4
        go_wp2_with fail
        go_meet
        case rel => exact ⟨rfl, ⟨_, _, _, P4.out, B4.out⟩⟩
      rcases Bool.eq_false_or_eq_true (x0 == 3) with z3 | z3
      · as_aux_lemma =>
        go_wp2_with fail
        refine (cat_Put PB.out.c (x1, x2) HZ.out x3).mono ?_
        rintro e w3 ⟨rfl, h3, f3⟩
        have H3 := Aside0.mk h3
        have F3 := Aside0.mk f3
        have R3 := Aside0.mk (PB.out.mid f3)
        have X3 := Aside0.mk (f3.keeps XB.out NXA.out)
        clear h3 f3 d0 d1 d2 d3 dr
        obtain ⟨d0, d1, d2, d3, dr⟩ := cells4' X3.out
        go_wp2_with fail
        refine (rf_Put w3 B g X most R3.out HLX.out (by have := HMO.out; omega) (x1, x2) x3).mono ?_
        rintro e w4 ⟨rfl, h4, f4⟩
        have P4 := Aside0.mk (PB.out.close HBb.out.size H3.out F3.out h4 f4)
        have B4 := Aside0.mk (HBb.out.trans (PB.out.frm HBb.out.size F3.out f4))
        clear h4 f4
        go_wp2_with fail
        go_meet
        case rel => exact ⟨rfl, ⟨_, _, _, P4.out, B4.out⟩⟩
      rcases Bool.eq_false_or_eq_true (x0 == 4) with z4 | z4
      · as_aux_lemma =>
        go_wp2_with fail
        refine (cat_Put PB.out.c (x1, x2) HZ.out x3).mono ?_
        rintro e w3 ⟨rfl, h3, f3⟩
        have H3 := Aside0.mk h3
        have F3 := Aside0.mk f3
        have R3 := Aside0.mk (PB.out.mid f3)
        have X3 := Aside0.mk (f3.keeps XB.out NXA.out)
        clear h3 f3 d0 d1 d2 d3 dr
        obtain ⟨d0, d1, d2, d3, dr⟩ := cells4' X3.out
        go_wp2_with fail
        refine (rf_Put w3 B g X most R3.out HLX.out (by have := HMO.out; omega) (x1, x2) x3).mono ?_
        rintro e w4 ⟨rfl, h4, f4⟩
        have P4 := Aside0.mk (PB.out.close HBb.out.size H3.out F3.out h4 f4)
        have B4 := Aside0.mk (HBb.out.trans (PB.out.frm HBb.out.size F3.out f4))
        clear h4 f4
        go_wp2_with fail
        go_meet
        case rel => exact ⟨rfl, ⟨_, _, _, P4.out, B4.out⟩⟩
      go_upto_region 12 with (fail)
      refine region_draw (n := 12) (S := fun W => W.heap[bx]? = some (.cells #[.int .i64 x0, .int .i64 x1, .int .i64 x2, .string x3] 56)) (ds := []) #[false, false, false, false, false, false, false, false, false, false, false, false] (by kernel_rfl) rfl rfl (fun W => (W.heap[bx]? = some (.cells #[.int .i64 x0, .int .i64 x1, .int .i64 x2, .string x3] 56)) ∧ Pair w.heap.size most p g W A B X ∧ Below w.heap.size w W) ⟨blk_drew XB.out, PB.out.below (Below.refl _ _).drew, HBb.out.drew⟩ (fun W h => h.1) ?_
      rintro w4 ⟨k4, p4, b4⟩
      refine with_tabW lruplays12tab lruplays12bits (fun HT_ HW_ => ?_)
      have K4 := Aside0.mk k4
      have P4 := Aside0.mk p4
      have B4 := Aside0.mk b4
      clear k4 p4 b4 d0 d1 d2 d3 dr
      refine pure_ (i := 0) (N := some 59) (v := ?_) (a' := ?_) #[true, false, false, false, false, false, false, false, false, false, false, false] rfl rfl (any_of HT_.out (by kernel_rfl)) (fun _ _ _ h => h) (Or.inl ⟨by rfl, ?_⟩) ?_ ?_
      rotate_left
      · intro w'
        go_simp
        with_reducible rfl
      rotate_left
      · simp only [Act.put, List.setIfInBounds_toArray, List.set_cons_zero, List.set_cons_succ, i64_w, i32_w]
        rfl
      refine pure_ (i := 1) (N := some 60) (v := ?_) (a' := ?_) #[true, true, false, false, false, false, false, false, false, false, false, false] rfl rfl (any_of HT_.out (by kernel_rfl)) (fun _ _ _ h => h) (Or.inl ⟨by rfl, ?_⟩) ?_ ?_
      rotate_left
      · intro w'
        go_simp
        with_reducible rfl
      rotate_left
      · simp only [Act.put, List.setIfInBounds_toArray, List.set_cons_zero, List.set_cons_succ, i64_w, i32_w]
        rfl
      refine pure_ (i := 2) (N := some 61) (v := ?_) (a' := ?_) #[true, true, true, false, false, false, false, false, false, false, false, false] rfl rfl (any_of HT_.out (by kernel_rfl)) (fun _ _ _ h => h) (Or.inl ⟨by rfl, ?_⟩) ?_ ?_
      rotate_left
      · intro w'
        go_simp
        with_reducible rfl
      rotate_left
      · simp only [Act.put, List.setIfInBounds_toArray, List.set_cons_zero, List.set_cons_succ, i64_w, i32_w]
        rfl
      refine pure_ (i := 5) (N := some 64) (v := ?_) (a' := ?_) #[true, true, true, false, false, true, false, false, false, false, false, false] rfl rfl (any_of HT_.out (by kernel_rfl)) (fun _ _ _ h => h) (Or.inl ⟨by rfl, ?_⟩) ?_ ?_
      rotate_left
      · intro w'
        go_simp
        with_reducible rfl
      rotate_left
      · simp only [Act.put, List.setIfInBounds_toArray, List.set_cons_zero, List.set_cons_succ, i64_w, i32_w]
        rfl
      refine pure_ (i := 6) (N := some 65) (v := ?_) (a' := ?_) #[true, true, true, false, false, true, true, false, false, false, false, false] rfl rfl (any_of HT_.out (by kernel_rfl)) (fun _ _ _ h => h) (Or.inl ⟨by rfl, ?_⟩) ?_ ?_
      rotate_left
      · intro w'
        go_simp
        with_reducible rfl
      rotate_left
      · simp only [Act.put, List.setIfInBounds_toArray, List.set_cons_zero, List.set_cons_succ, i64_w, i32_w]
        rfl
      refine pure_ (i := 7) (N := some 66) (v := ?_) (a' := ?_) #[true, true, true, false, false, true, true, true, false, false, false, false] rfl rfl (any_of HT_.out (by kernel_rfl)) (fun _ _ _ h => h) (Or.inl ⟨by rfl, ?_⟩) ?_ ?_
      rotate_left
      · intro w'
        go_simp
        with_reducible rfl
      rotate_left
      · simp only [Act.put, List.setIfInBounds_toArray, List.set_cons_zero, List.set_cons_succ, i64_w, i32_w]
        rfl
      refine take_ (i := 3) (N := some 62) (v := ?_) (a' := ?_) #[true, true, true, true, false, true, true, true, false, false, false, false] rfl rfl (take_ofW HT_.out HW_.out (by kernel_rfl)) (fun _ _ _ h => h) (Or.inl ⟨by rfl, ?_⟩) K4.out ?_ ?_
      rotate_left
      · intro w' hW
        obtain ⟨d0, d1, d2, d3, dr⟩ := cells4' hW
        go_simp
        with_reducible rfl
      rotate_left
      · simp only [Act.put, List.setIfInBounds_toArray, List.set_cons_zero, List.set_cons_succ, i64_w, i32_w]
        rfl
      refine take_ (i := 8) (N := some 67) (v := ?_) (a' := ?_) #[true, true, true, true, false, true, true, true, true, false, false, false] rfl rfl (take_ofW HT_.out HW_.out (by kernel_rfl)) (fun _ _ _ h => h) (Or.inl ⟨by rfl, ?_⟩) K4.out ?_ ?_
      rotate_left
      · intro w' hW
        obtain ⟨d0, d1, d2, d3, dr⟩ := cells4' hW
        go_simp
        with_reducible rfl
      rotate_left
      · simp only [Act.put, List.setIfInBounds_toArray, List.set_cons_zero, List.set_cons_succ, i64_w, i32_w]
        rfl
      refine one_ (i := 4) (N := some 63) #[true, true, true, true, true, true, true, true, true, false, false, false] rfl rfl (one_of HT_.out (by kernel_rfl)) (by decide) (fun K hK => ?_)
      refine goes_ Try.func30 (by kernel_rfl) rfl #[.pointer (some ⟨p, 0, none⟩), .int .i64 x1] (by rfl) rfl rfl (by (try simp only [List.map_toArray, List.map_cons, List.map_nil]); first | done | rfl) ?_
      refine (cat_Drop P4.out.c x1).mono ?_
      rintro e w5 ⟨rfl, h5, f5⟩
      refine ⟨_, rfl, ?_⟩
      have K5 := Aside0.mk (f5.keeps K4.out NXA.out)
      have H5 := Aside0.mk h5
      have R5 := Aside0.mk (P4.out.mid f5)
      have F5 := Aside0.mk f5
      clear h5 f5
      refine hK.out _ _ K5.out (fun _ => ?_)
      clear hK K
      refine norm_ (a' := ?_) ?_ ?_
      rotate_left
      · show Act.put _ (some 63) _ = _
        simp only [Act.put, List.setIfInBounds_toArray, List.set_cons_zero, List.set_cons_succ, i64_w, i32_w]
        rfl
      refine one_ (i := 9) (N := some 68) #[true, true, true, true, true, true, true, true, true, true, false, false] rfl rfl (one_of HT_.out (by kernel_rfl)) (by decide) (fun K hK => ?_)
      refine goes_ Try.func31 (by kernel_rfl) rfl #[.pointer (some ⟨g, 0, none⟩), .int .i64 x1] (by rfl) rfl rfl (by (try simp only [List.map_toArray, List.map_cons, List.map_nil]); first | done | rfl) ?_
      refine (rf_Drop w5 B g X most R5.out HLX.out x1).mono ?_
      rintro e w6 ⟨rfl, h6, f6⟩
      refine ⟨_, rfl, ?_⟩
      have K6 := Aside0.mk (f6.keeps K5.out NXB.out)
      have P6 := Aside0.mk (P4.out.close B4.out.size H5.out F5.out h6 f6)
      have B6 := Aside0.mk (B4.out.trans (P4.out.frm B4.out.size F5.out f6))
      clear h6 f6
      refine hK.out _ _ K6.out (fun _ => ?_)
      clear hK K
      refine norm_ (a' := ?_) ?_ ?_
      rotate_left
      · show Act.put _ (some 68) _ = _
        simp only [Act.put, List.setIfInBounds_toArray, List.set_cons_zero, List.set_cons_succ, i64_w, i32_w]
        rfl
      refine pure_ (i := 10) (N := some 69) (v := ?_) (a' := ?_) #[true, true, true, true, true, true, true, true, true, true, true, false] rfl rfl (any_of HT_.out (by kernel_rfl)) (fun _ _ _ h => h) (Or.inl ⟨by rfl, ?_⟩) ?_ ?_
      rotate_left
      · intro w'
        go_simp
        with_reducible rfl
      rotate_left
      · simp only [Act.put, List.setIfInBounds_toArray, List.set_cons_zero, List.set_cons_succ, i64_w, i32_w]
        rfl
      refine pure_ (i := 11) (N := some 12) (v := ?_) (a' := ?_) #[true, true, true, true, true, true, true, true, true, true, true, true] rfl rfl (any_of HT_.out (by kernel_rfl)) (fun _ _ _ h => h) (Or.inl ⟨by rfl, ?_⟩) ?_ ?_
      rotate_left
      · intro w'
        go_simp
        with_reducible rfl
      rotate_left
      · simp only [Act.put, List.setIfInBounds_toArray, List.set_cons_zero, List.set_cons_succ, i64_w, i32_w]
        rfl
      refine done_ (done_of HT_.out (by kernel_rfl)) ?_
      go_wp2_with fail
      go_meet
      case rel => exact ⟨by first | rfl | simp, ⟨_, _, _, P6.out, B6.out⟩⟩
    case rest =>
      obtain ⟨rfl, HP⟩ := hcut
      obtain ⟨A', B', X', hP, hB⟩ := HP.out
      have P5 := Aside0.mk hP
      have B5 := Aside0.mk hB
      have HX5 := Aside0.mk (show X'.length ≤ 1000 from by have := hP.c.lim.2.2.2.1; omega)
      obtain ⟨_, _, v0, hst, hRst⟩ := hP.r
      obtain ⟨Ar, cr, rfl, hcr, hCr⟩ := Kd.R_reads hRst
      have ST := Aside0.mk hst
      have CR := Aside0.mk hCr
      clear HP hP hB hst hRst hCr d0 d1 d2 d3 dr
      go_upto_region 23 with (fail)
      refine region_draw (n := 8) (S := fun W => W.heap[g]? = some (.cells #[.int .i64 most, .slice Ar X'.length cr] 66)) (ds := []) #[false, false, false, false, false, false, false, false] (by kernel_rfl) rfl rfl (fun W => (W.heap[g]? = some (.cells #[.int .i64 most, .slice Ar X'.length cr] 66)) ∧ Below wc.heap.size wc W) ⟨blk_drew ST.out, (Below.refl _ _).drew⟩ (fun W h => h.1) ?_
      rintro w4 ⟨k4, b4⟩
      refine with_tabW lruplays23tab lruplays23bits (fun HT_ HW_ => ?_)
      have K4 := Aside0.mk k4
      have B4 := Aside0.mk b4
      clear k4 b4
      refine pure_ (i := 0) (N := some 111) (v := ?_) (a' := ?_) #[true, false, false, false, false, false, false, false] rfl rfl (any_of HT_.out (by kernel_rfl)) (fun _ _ _ h => h) (Or.inl ⟨by rfl, ?_⟩) ?_ ?_
      rotate_left
      · intro w'
        go_simp
        with_reducible rfl
      rotate_left
      · simp only [Act.put, List.setIfInBounds_toArray, List.set_cons_zero, List.set_cons_succ, i64_w, i32_w]
        rfl
      refine pure_ (i := 2) (N := some 113) (v := ?_) (a' := ?_) #[true, false, true, false, false, false, false, false] rfl rfl (any_of HT_.out (by kernel_rfl)) (fun _ _ _ h => h) (Or.inl ⟨by rfl, ?_⟩) ?_ ?_
      rotate_left
      · intro w'
        go_simp
        with_reducible rfl
      rotate_left
      · simp only [Act.put, List.setIfInBounds_toArray, List.set_cons_zero, List.set_cons_succ, i64_w, i32_w]
        rfl
      refine pure_ (i := 3) (N := some 114) (v := ?_) (a' := ?_) #[true, false, true, true, false, false, false, false] rfl rfl (any_of HT_.out (by kernel_rfl)) (fun _ _ _ h => h) (Or.inl ⟨by rfl, ?_⟩) ?_ ?_
      rotate_left
      · intro w'
        go_simp
        with_reducible rfl
      rotate_left
      · simp only [Act.put, List.setIfInBounds_toArray, List.set_cons_zero, List.set_cons_succ, i64_w, i32_w]
        rfl
      refine pure_ (i := 4) (N := some 115) (v := ?_) (a' := ?_) #[true, false, true, true, true, false, false, false] rfl rfl (any_of HT_.out (by kernel_rfl)) (fun _ _ _ h => h) (Or.inl ⟨by rfl, ?_⟩) ?_ ?_
      rotate_left
      · intro w'
        go_simp
        with_reducible rfl
      rotate_left
      · simp only [Act.put, List.setIfInBounds_toArray, List.set_cons_zero, List.set_cons_succ, i64_w, i32_w]
        rfl
      refine take_ (i := 5) (N := some 116) (v := ?_) (a' := ?_) #[true, false, true, true, true, true, false, false] rfl rfl (take_ofW HT_.out HW_.out (by kernel_rfl)) (fun _ _ _ h => h) (Or.inl ⟨by rfl, ?_⟩) K4.out ?_ ?_
      rotate_left
      · intro w' hW
        obtain ⟨t0, t1, tr⟩ := cells2' hW
        go_simp
        with_reducible rfl
      rotate_left
      · simp only [Act.put, List.setIfInBounds_toArray, List.set_cons_zero, List.set_cons_succ, i64_w, i32_w]
        rfl
      refine one_ (i := 1) (N := some 112) #[true, true, true, true, true, true, false, false] rfl rfl (one_of HT_.out (by kernel_rfl)) (by decide) (fun K hK => ?_)
      refine goes_ Try.func33 (by kernel_rfl) rfl #[.pointer (some ⟨p, 0, none⟩)] (by rfl) rfl rfl (by (try simp only [List.map_toArray, List.map_cons, List.map_nil]); first | done | rfl) ?_
      refine (cat_Blocks (P5.out.c.below B4.out)).mono ?_
      rintro e w5 ⟨v5, rfl, hR5, hB5⟩
      refine ⟨_, rfl, ?_⟩
      obtain ⟨A7, c7, rfl, hc7, hC7⟩ := Kd.R_reads hR5
      have hkl : (keysOf X').length = X'.length := by simp [keysOf]
      rw [hkl] at hc7 hC7 ⊢
      have K5 := Aside0.mk (blk_below K4.out hB5)
      have B5' := Aside0.mk (B4.out.trans (hB5.mono B4.out.size))
      have C7 := Aside0.mk hC7
      clear hR5 hB5 hC7 hkl
      refine hK.out _ _ K5.out (fun _ => ?_)
      clear hK K
      refine norm_ (a' := ?_) ?_ ?_
      rotate_left
      · show Act.put _ (some 112) _ = _
        simp only [Act.put, List.setIfInBounds_toArray, List.set_cons_zero, List.set_cons_succ, i64_w, i32_w]
        rfl
      refine one_ (i := 6) (N := some 117) #[true, true, true, true, true, true, true, false] rfl rfl (one_of HT_.out (by kernel_rfl)) (by decide) (fun K hK => ?_)
      refine goes_ Try.func32 (by kernel_rfl) rfl #[.slice A7 X'.length c7, .slice Ar X'.length cr] (by rfl) rfl rfl (by (try simp only [List.map_toArray, List.map_cons, List.map_nil]); first | done | rfl) ?_
      refine (same11 w5 X' A7 Ar c7 cr C7.out (Kd.C_below CR.out B5'.out) hc7 hcr HX5.out).mono ?_
      rintro e w6 ⟨rfl, hB6⟩
      refine ⟨_, rfl, ?_⟩
      have K6 := Aside0.mk (blk_below K5.out hB6)
      have B6 := Aside0.mk (B5'.out.trans (hB6.mono B5'.out.size))
      clear hB6
      refine hK.out _ _ K6.out (fun _ => ?_)
      clear hK K
      refine norm_ (a' := ?_) ?_ ?_
      rotate_left
      · show Act.put _ (some 117) _ = _
        simp only [Act.put, List.setIfInBounds_toArray, List.set_cons_zero, List.set_cons_succ, i64_w, i32_w]
        rfl
      refine pure_ (i := 7) (N := some 17) (v := ?_) (a' := ?_) #[true, true, true, true, true, true, true, true] rfl rfl (any_of HT_.out (by kernel_rfl)) (fun _ _ _ h => h) (Or.inl ⟨by rfl, ?_⟩) ?_ ?_
      rotate_left
      · intro w'
        go_simp
        with_reducible rfl
      rotate_left
      · simp only [Act.put, List.setIfInBounds_toArray, List.set_cons_zero, List.set_cons_succ, i64_w, i32_w]
        rfl
      refine done_ (done_of HT_.out (by kernel_rfl)) ?_
      go_wp2_with fail
      go_roundw
      case rel => exact ⟨k + 1, by omega, by go_num, ⟨A', B', X', P5.out.below B6.out, B5.out.trans (B6.out.mono B5.out.size)⟩⟩
      case measure => simp [intOf]; omega
end Go.Proofs.Ytoindlghpkjemaa.Thw
