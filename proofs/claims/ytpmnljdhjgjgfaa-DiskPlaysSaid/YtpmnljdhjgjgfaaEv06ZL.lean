/- Layer 6: DiskPlays' walk. -/
import Derived.Test.YtpmnljdhjgjgfaaEv06ZM
import Derived.Deep.CutRange
import Derived.Deep.CutBlock
namespace Go.Proofs.Ytpmnljdhjgjgfaa.Thw
open Go Go.RowKit Go.Maps Go.Proofs.YtpmnljdhjgjgfaaW.PrintWords Go.Proofs.YtpmnljdhjgjgfaaW.PrintLast Go.Proofs.YtpmnljdhjgjgfaaW.PrintMore
attribute [local go_sem] max2_int min2_int max_two min_two
set_option linter.unusedVariables false
set_option linter.unusedSimpArgs false
structure OpG extends OpF where
  kept : List Int
def OpG.ok (o : OpG) : Prop := o.f1 ≤ 9223372036854775807 ∧ o.f2.size ≤ 9223372036854775807 ∧ o.f3.size ≤ 9223372036854775807 ∧ o.f4.size ≤ 9223372036854775807
def OpsG (W : World) (A : Option Addr) (n : Nat) (ops : Nat → OpG) : Prop :=
  ∀ i, i < n → ∃ ad A5 c5, A = some ad ∧ W.cell? (ad.add (i * 6)) = some (.int .i64 (ops i).f0) ∧ W.cell? ⟨(ad.add (i * 6)).block, (ad.add (i * 6)).off + 1, none⟩ = some (.int .i64 (ops i).f1) ∧ W.cell? ⟨(ad.add (i * 6)).block, (ad.add (i * 6)).off + 2, none⟩ = some (.string (ops i).f2) ∧ W.cell? ⟨(ad.add (i * 6)).block, (ad.add (i * 6)).off + 3, none⟩ = some (.string (ops i).f3) ∧ W.cell? ⟨(ad.add (i * 6)).block, (ad.add (i * 6)).off + 4, none⟩ = some (.string (ops i).f4) ∧ W.cell? ⟨(ad.add (i * 6)).block, (ad.add (i * 6)).off + 5, none⟩ = some (.slice A5 (ops i).kept.length c5) ∧ (ops i).kept.length ≤ c5 ∧ (Kd.int .i64).C W A5 (ops i).kept.length (ops i).kept
theorem len_bool {a b : Bool} (h : a = b) : (a == b) = true := by subst h; cases a <;> rfl
def plays19T : Bool × List (List Nat × List Nat) := (true, [([], []), ([], []), ([1], [1]), ([], []), ([3], [3]), ([0, 2, 4], [0, 2, 4]), ([], []), ([], []), ([7], [7]), ([], []), ([9], [9]), ([6, 8, 10, 5], [6, 8, 10]), ([5, 11], [5, 11]), ([12, 11, 0, 1, 2, 3, 4, 5, 6, 7, 8, 9, 10, 11, 12], [12])])
def plays19B : List Nat := [0, 0, 2, 0, 8, 31, 0, 0, 128, 0, 512, 2047, 4095, 8191]
theorem plays19tab : rtab .any (opsOf Try.f5 19) = plays19T := by kernel_rfl
theorem plays19bits : waitsOk plays19T.2 plays19B = true := by kernel_rfl
def plays21T : Bool × List (List Nat × List Nat) := (true, [([], []), ([], []), ([1], [1]), ([0, 2], [0, 2]), ([], []), ([], []), ([5], [5]), ([4, 6, 3], [4, 6]), ([3, 7], [3, 7]), ([8, 7, 0, 1, 2, 3, 4, 5, 6, 7, 8], [8])])
def plays21B : List Nat := [0, 0, 2, 7, 0, 0, 32, 127, 255, 511]
theorem plays21tab : rtab .any (opsOf Try.f5 21) = plays21T := by kernel_rfl
theorem plays21bits : waitsOk plays21T.2 plays21B = true := by kernel_rfl
def plays23T : Bool × List (List Nat × List Nat) := (true, [([], []), ([], []), ([1], [1]), ([], []), ([3], [3]), ([0, 2, 4], [0, 2, 4]), ([], []), ([], []), ([7], [7]), ([], []), ([9], [9]), ([6, 8, 10, 5], [6, 8, 10]), ([5, 11], [5, 11]), ([12, 11, 0, 1, 2, 3, 4, 5, 6, 7, 8, 9, 10, 11, 12], [12])])
def plays23B : List Nat := [0, 0, 2, 0, 8, 31, 0, 0, 128, 0, 512, 2047, 4095, 8191]
theorem plays23tab : rtab .any (opsOf Try.f5 23) = plays23T := by kernel_rfl
theorem plays23bits : waitsOk plays23T.2 plays23B = true := by kernel_rfl
def plays25T : Bool × List (List Nat × List Nat) := (true, [([], []), ([], []), ([1], [1]), ([0, 2], [0, 2]), ([], []), ([], []), ([5], [5]), ([4, 6, 3], [4, 6]), ([3, 7], [3, 7]), ([8, 7, 0, 1, 2, 3, 4, 5, 6, 7, 8], [8])])
def plays25B : List Nat := [0, 0, 2, 7, 0, 0, 32, 127, 255, 511]
theorem plays25tab : rtab .any (opsOf Try.f5 25) = plays25T := by kernel_rfl
theorem plays25bits : waitsOk plays25T.2 plays25B = true := by kernel_rfl
def plays27T : Bool × List (List Nat × List Nat) := (true, [([], []), ([], []), ([1], [1]), ([], []), ([3], [3]), ([0, 2, 4], [0, 2, 4]), ([], []), ([], []), ([7], [7]), ([], []), ([9], [9]), ([6, 8, 10, 5], [6, 8, 10]), ([5, 11], [5, 11]), ([12, 11, 0, 1, 2, 3, 4, 5, 6, 7, 8, 9, 10, 11, 12], [12])])
def plays27B : List Nat := [0, 0, 2, 0, 8, 31, 0, 0, 128, 0, 512, 2047, 4095, 8191]
theorem plays27tab : rtab .any (opsOf Try.f5 27) = plays27T := by kernel_rfl
theorem plays27bits : waitsOk plays27T.2 plays27B = true := by kernel_rfl
def plays42T : Bool × List (List Nat × List Nat) := (true, [([], []), ([], []), ([0, 1], [0, 1]), ([2], [2]), ([3], [3]), ([3], [3]), ([4, 5, 3], [3, 4, 5]), ([3, 6], [3, 6]), ([7, 3], [7]), ([8], [8]), ([8], [8]), ([8], [8]), ([10, 11, 8], [8, 10, 11]), ([12, 8], [8, 12]), ([9, 13, 8, 8], [8, 9, 13]), ([8], [8]), ([15, 8], [8, 15]), ([16, 8], [8, 16]), ([17, 8], [8, 17]), ([8], [8]), ([18, 19, 8], [8, 18, 19]), ([20, 8], [8, 20]), ([21, 8], [8, 21]), ([14, 22, 8], [8, 14, 22]), ([8, 23], [8, 23])])
def plays42B : List Nat := [0, 0, 3, 7, 15, 15, 63, 127, 255, 511, 511, 511, 3583, 7679, 16383, 511, 33279, 98815, 229887, 511, 1016319, 2064895, 4162047, 8388607, 16777215]
theorem plays42tab : rtab .any (opsOf Try.f5 42) = plays42T := by kernel_rfl
theorem plays42bits : waitsOk plays42T.2 plays42B = true := by kernel_rfl
/-- What holds behind both disks' calls. -/
def PlayCut (B : Nat) (room : Int) (d r bx k : Nat) (box at_ : Obj) (w W : World) : Prop :=
  ∃ st', Two W d r st' (fun i => i < B + 1 ∨ i = bx) ∧ Bnd room (k + 1) st' ∧ Below B w W ∧ W.heap[B]? = some at_ ∧ W.heap[bx]? = some box
set_option maxHeartbeats 12800000 in
set_option maxRecDepth 100000 in
theorem plays_walk (room a0 a1 : Int) (A1 : Option Addr) (n c1 : Nat) (ops : Nat → OpG) (w : World) (hc : OpsG w A1 n ops) (hs : ∀ i, i < n → (ops i).ok) (hn : n ≤ c1) :
    Calls Try.prog 5 #[.int .i64 room, .slice A1 n c1, .agg #[.int .i64 a0, .int .i64 a1]] w fun e w' => e = .returned (.bool true) ∧ Below w.heap.size w w' := by
  have HC := Aside0.mk hc
  have HS := Aside0.mk hs
  clear hc hs
  go_enter Try.func5, Try.ntmps5
  go_wp2_with fail
  refine (awake06.calls _).mono ?_
  rintro e w1 ⟨rfl, b1⟩
  have AB1 := Aside0.mk (show w1.heap[w.heap.size]? = some (.cells #[.int .i64 a0, .int .i64 a1] 44) from (b1.block _ (by simp)).trans (blk_new _ _))
  have Z1 := Aside0.mk (show w.heap.size + 1 ≤ w1.heap.size by have := b1.size; simpa using this)
  have B1 := Aside0.mk (((Below.refl w.heap.size w).alloc (Nat.le_refl _) (.cells #[.int .i64 a0, .int .i64 a1] 44)).trans (b1.mono (by simp)))
  clear b1
  go_wp2_with fail
  refine (disk_New.calls room _).mono ?_
  rintro e w2 (⟨hx, rfl, rfl⟩ | ⟨hroom, d, rfl, h2, b2⟩)
  · go_wp2_with fail
    refine (ref_New.calls room _).mono ?_
    rintro e w3 (⟨hx2, rfl, rfl⟩ | ⟨hroom, d, rfl, h2, b2⟩)
    case inr => omega
    go_wp2_with fail
    go_loopw [12] (fun v12 wr => v12 = .int .i64 0 ∧ Aside0 (Below w.heap.size w wr)) (fun _ _ => 0)
    case atStart => exact ⟨rfl, B1⟩
    case round =>
      obtain ⟨rfl, HB⟩ := hrel
      by_cases h0 : (0 : Int) < n
      · have d0 : decide ((0 : Int) < n) = true := decide_eq_true h0
        go_wp2_with fail
        go_ret
        exact ⟨rfl, HB.out⟩
      · have d0 : decide ((0 : Int) < n) = false := decide_eq_false h0
        go_wp2_with fail
        go_ret
        exact ⟨rfl, HB.out⟩
  go_wp2_with fail
  refine (ref_New.calls room _).mono ?_
  rintro e w3 (⟨hx2, rfl, rfl⟩ | ⟨hroom2, r, rfl, h3, b3⟩)
  case inl => omega
  have T3 := Aside0.mk (show Two w3 d r (Dsk.new room) (fun i => i < w.heap.size + 1) from
    ⟨fun i => w1.heap.size ≤ i ∧ i < w2.heap.size, fun i => w2.heap.size ≤ i ∧ i < w3.heap.size, h2.bound.below b3, h3.bound, fun i hi hj => by omega, fun i hi => ⟨by have := b3.size; omega, by have := Z1.out; omega⟩, fun i hi => ⟨hi.2, by have := Z1.out; have := b2.size; omega⟩⟩)
  have AB3 := Aside0.mk (show w3.heap[w.heap.size]? = some (.cells #[.int .i64 a0, .int .i64 a1] 44) from (b3.block _ (by have := Z1.out; have := b2.size; omega)).trans ((b2.block _ (by have := Z1.out; omega)).trans AB1.out))
  have B3 := Aside0.mk ((B1.out.trans (b2.mono B1.out.size)).trans (b3.mono (by have := B1.out.size; have := b2.size; omega)))
  have HR := Aside0.mk hroom
  clear h2 b2 h3 b3 hroom hroom2 AB1 Z1 B1
  go_wp2_with fail
  go_loopw [12] (fun v12 wr => ∃ (k : Nat) (st : Dsk), k ≤ n ∧ k ≤ 80 ∧ v12 = .int .i64 k ∧ Aside0 (Bnd room k st) ∧ Aside0 (Two wr d r st (fun i => i < w.heap.size + 1)) ∧ Aside0 (Below w.heap.size w wr) ∧ Aside0 (wr.heap[w.heap.size]? = some (.cells #[.int .i64 a0, .int .i64 a1] 44))) (fun v12 _ => n - (intOf v12).toNat)
  case atStart => exact ⟨0, _, Nat.zero_le _, Nat.zero_le _, rfl, ⟨⟨rfl, ⟨Int.le_refl _, (show (-1 : Int) ≤ 9223372036854775807 by decide)⟩, (show total [] ≤ room from HR.out.1), (fun p hp => absurd hp (List.not_mem_nil)), (fun p hp => absurd hp (List.not_mem_nil)), Nat.zero_le _⟩⟩, T3, B3, AB3⟩
  case round =>
    obtain ⟨k, st, hk, hk80, rfl, HI, HT, HB, HAB⟩ := hrel
    by_cases hkn : k < n
    case neg =>
      have dkn : decide ((k : Int) < (n : Int)) = false := decide_eq_false (by omega)
      go_wp2_with fail
      go_ret
      exact ⟨rfl, HB.out⟩
    have dkn : decide ((k : Int) < (n : Int)) = true := decide_eq_true (by omega)
    by_cases hk8 : k < 80
    case neg =>
      have dk8 : decide ((k : Int) < 80) = false := decide_eq_false (by omega)
      go_wp2_with fail
      go_ret
      exact ⟨rfl, HB.out⟩
    have dk8 : decide ((k : Int) < 80) = true := decide_eq_true (by omega)
    obtain ⟨ad, A5, c5, rfl, q0, q1, q2, q3, q4, q5, hc5, hC5⟩ := HC.out k hkn
    have HZ := Aside0.mk (HS.out k hkn)
    generalize ops k = o at q0 q1 q2 q3 q4 q5 hc5 hC5 HZ
    obtain ⟨⟨x0, x1, x2, x3, x4⟩, kept⟩ := o
    simp only at q0 q1 q2 q3 q4 q5 hc5 hC5
    replace q0 := pw_cell_below HB.out q0
    replace q1 := pw_cell_below HB.out q1
    replace q2 := pw_cell_below HB.out q2
    replace q3 := pw_cell_below HB.out q3
    replace q4 := pw_cell_below HB.out q4
    replace q5 := pw_cell_below HB.out q5
    have HC5 := Aside0.mk hC5
    clear hC5
    by_cases g60 : 60 < x2.size
    · have d60 : decide ((60 : Int) < (x2.size : Int)) = true := decide_eq_true (by omega)
      go_wp2_with fail
      go_ret
      exact ⟨rfl, HB.out.alloc HB.out.size _⟩
    have d60 : decide ((60 : Int) < (x2.size : Int)) = false := decide_eq_false (by omega)
    by_cases h60 : 60 < x3.size
    · have e60 : decide ((60 : Int) < (x3.size : Int)) = true := decide_eq_true (by omega)
      go_wp2_with fail
      go_ret
      exact ⟨rfl, HB.out.alloc HB.out.size _⟩
    have e60 : decide ((60 : Int) < (x3.size : Int)) = false := decide_eq_false (by omega)
    by_cases h300 : 300 < x4.size
    · have d3 : decide ((300 : Int) < (x4.size : Int)) = true := decide_eq_true (by omega)
      go_wp2_with fail
      go_ret
      exact ⟨rfl, HB.out.alloc HB.out.size _⟩
    have d3 : decide ((300 : Int) < (x4.size : Int)) = false := decide_eq_false (by omega)
    have HZ2 := HZ.out
    simp only [OpG.ok] at HZ2
    obtain ⟨y1, y2, y3, y4⟩ := HZ2
    go_upto_block 2 with (fail)
    go_cut [14] from 61 to 172 (fun s14 wx => s14 = .bool true ∧ Aside0 (PlayCut w.heap.size room d r wr.heap.size k (.cells #[.int .i64 x0, .int .i64 x1, .string x2, .string x3, .string x4, .slice A5 kept.length c5] 37) (.cells #[.int .i64 a0, .int .i64 a1] 44) w wx))
    case first =>
      rcases Bool.eq_false_or_eq_true (x0 == 0) with z0 | z0
      · as_aux_lemma =>
        go_wp2_with fail
        refine region_draw (n := 14) (S := fun W => W.heap[wr.heap.size]? = some (.cells #[.int .i64 x0, .int .i64 x1, .string x2, .string x3, .string x4, .slice A5 kept.length c5] 37)) (ds := []) #[false, false, false, false, false, false, false, false, false, false, false, false, false, false] (by kernel_rfl) rfl rfl (fun W => W.heap[wr.heap.size]? = some (.cells #[.int .i64 x0, .int .i64 x1, .string x2, .string x3, .string x4, .slice A5 kept.length c5] 37) ∧ Two W d r st (fun i => i < w.heap.size + 1 ∨ i = wr.heap.size) ∧ Below w.heap.size w W ∧ W.heap[w.heap.size]? = some (.cells #[.int .i64 a0, .int .i64 a1] 44)) ⟨blk_drew (blk_new _ _), (HT.out.fresh _).drew, (HB.out.alloc HB.out.size _).drew, blk_drew (blk_alloc HAB.out _)⟩ (fun W h => h.1) ?_
        rintro w4 ⟨k4, T4, b4, ab4⟩
        refine with_tabW plays19tab plays19bits (fun HT_ HW_ => ?_)
        clear q0 q1 q2 q3 q4 q5
        obtain ⟨TD, TR, hD, hR, hdis, hTD, hTR⟩ := T4
        have K4 := Aside0.mk k4
        have hbD : ¬ TD wr.heap.size := fun x => (hTD _ x).2 (Or.inr rfl)
        have hbR : ¬ TR wr.heap.size := fun x => (hTR _ x).2 (Or.inr rfl)
        have haD : ¬ TD w.heap.size := fun x => (hTD _ x).2 (Or.inl (Nat.lt_succ_self _))
        have haR : ¬ TR w.heap.size := fun x => (hTR _ x).2 (Or.inl (Nat.lt_succ_self _))
        have hO : ∀ i, i < w.heap.size + 1 ∨ i = wr.heap.size → i < w4.heap.size := fun i hi => by
          have h1 := blk_lt k4
          have h2 := blk_lt ab4
          omega
        have hlo : ∀ i, TD i ∨ TR i → w.heap.size ≤ i := fun i hi => by
          rcases hi with hi | hi
          · have := (hTD i hi).2; omega
          · have := (hTR i hi).2; omega
        have NDP := Aside0.mk hD.nodup
        have hD := Aside0.mk hD
        have hR := Aside0.mk hR
        have B4 := Aside0.mk b4
        have AB4 := Aside0.mk ab4
        clear k4 b4 ab4
        refine pure_ (i := 0) (N := some 96) (v := ?_) (a' := ?_) #[true, false, false, false, false, false, false, false, false, false, false, false, false, false] rfl rfl (any_of HT_.out (by kernel_rfl)) (fun _ _ _ h => h) (Or.inl ⟨by rfl, ?_⟩) ?_ ?_
        rotate_left
        · intro w'
          go_simp
          with_reducible rfl
        rotate_left
        · simp only [Act.put, List.setIfInBounds_toArray, List.set_cons_zero, List.set_cons_succ, i64_w, i32_w]
          rfl
        refine pure_ (i := 1) (N := some 97) (v := ?_) (a' := ?_) #[true, true, false, false, false, false, false, false, false, false, false, false, false, false] rfl rfl (any_of HT_.out (by kernel_rfl)) (fun _ _ _ h => h) (Or.inl ⟨by rfl, ?_⟩) ?_ ?_
        rotate_left
        · intro w'
          go_simp
          with_reducible rfl
        rotate_left
        · simp only [Act.put, List.setIfInBounds_toArray, List.set_cons_zero, List.set_cons_succ, i64_w, i32_w]
          rfl
        refine pure_ (i := 3) (N := some 99) (v := ?_) (a' := ?_) #[true, true, false, true, false, false, false, false, false, false, false, false, false, false] rfl rfl (any_of HT_.out (by kernel_rfl)) (fun _ _ _ h => h) (Or.inl ⟨by rfl, ?_⟩) ?_ ?_
        rotate_left
        · intro w'
          go_simp
          with_reducible rfl
        rotate_left
        · simp only [Act.put, List.setIfInBounds_toArray, List.set_cons_zero, List.set_cons_succ, i64_w, i32_w]
          rfl
        refine pure_ (i := 6) (N := some 102) (v := ?_) (a' := ?_) #[true, true, false, true, false, false, true, false, false, false, false, false, false, false] rfl rfl (any_of HT_.out (by kernel_rfl)) (fun _ _ _ h => h) (Or.inl ⟨by rfl, ?_⟩) ?_ ?_
        rotate_left
        · intro w'
          go_simp
          with_reducible rfl
        rotate_left
        · simp only [Act.put, List.setIfInBounds_toArray, List.set_cons_zero, List.set_cons_succ, i64_w, i32_w]
          rfl
        refine pure_ (i := 7) (N := some 103) (v := ?_) (a' := ?_) #[true, true, false, true, false, false, true, true, false, false, false, false, false, false] rfl rfl (any_of HT_.out (by kernel_rfl)) (fun _ _ _ h => h) (Or.inl ⟨by rfl, ?_⟩) ?_ ?_
        rotate_left
        · intro w'
          go_simp
          with_reducible rfl
        rotate_left
        · simp only [Act.put, List.setIfInBounds_toArray, List.set_cons_zero, List.set_cons_succ, i64_w, i32_w]
          rfl
        refine pure_ (i := 9) (N := some 105) (v := ?_) (a' := ?_) #[true, true, false, true, false, false, true, true, false, true, false, false, false, false] rfl rfl (any_of HT_.out (by kernel_rfl)) (fun _ _ _ h => h) (Or.inl ⟨by rfl, ?_⟩) ?_ ?_
        rotate_left
        · intro w'
          go_simp
          with_reducible rfl
        rotate_left
        · simp only [Act.put, List.setIfInBounds_toArray, List.set_cons_zero, List.set_cons_succ, i64_w, i32_w]
          rfl
        refine take_ (i := 2) (N := some 98) (v := ?_) (a' := ?_) #[true, true, true, true, false, false, true, true, false, true, false, false, false, false] rfl rfl (take_ofW HT_.out HW_.out (by kernel_rfl)) (fun _ _ _ h => h) (Or.inl ⟨by rfl, ?_⟩) K4.out ?_ ?_
        rotate_left
        · intro w' hW
          obtain ⟨e0, e1, e2, e3, e4, e5, fr⟩ := cells6 hW
          go_simp
          with_reducible rfl
        rotate_left
        · simp only [Act.put, List.setIfInBounds_toArray, List.set_cons_zero, List.set_cons_succ, i64_w, i32_w]
          rfl
        refine take_ (i := 4) (N := some 100) (v := ?_) (a' := ?_) #[true, true, true, true, true, false, true, true, false, true, false, false, false, false] rfl rfl (take_ofW HT_.out HW_.out (by kernel_rfl)) (fun _ _ _ h => h) (Or.inl ⟨by rfl, ?_⟩) K4.out ?_ ?_
        rotate_left
        · intro w' hW
          obtain ⟨e0, e1, e2, e3, e4, e5, fr⟩ := cells6 hW
          go_simp
          with_reducible rfl
        rotate_left
        · simp only [Act.put, List.setIfInBounds_toArray, List.set_cons_zero, List.set_cons_succ, i64_w, i32_w]
          rfl
        refine take_ (i := 8) (N := some 104) (v := ?_) (a' := ?_) #[true, true, true, true, true, false, true, true, true, true, false, false, false, false] rfl rfl (take_ofW HT_.out HW_.out (by kernel_rfl)) (fun _ _ _ h => h) (Or.inl ⟨by rfl, ?_⟩) K4.out ?_ ?_
        rotate_left
        · intro w' hW
          obtain ⟨e0, e1, e2, e3, e4, e5, fr⟩ := cells6 hW
          go_simp
          with_reducible rfl
        rotate_left
        · simp only [Act.put, List.setIfInBounds_toArray, List.set_cons_zero, List.set_cons_succ, i64_w, i32_w]
          rfl
        refine take_ (i := 10) (N := some 106) (v := ?_) (a' := ?_) #[true, true, true, true, true, false, true, true, true, true, true, false, false, false] rfl rfl (take_ofW HT_.out HW_.out (by kernel_rfl)) (fun _ _ _ h => h) (Or.inl ⟨by rfl, ?_⟩) K4.out ?_ ?_
        rotate_left
        · intro w' hW
          obtain ⟨e0, e1, e2, e3, e4, e5, fr⟩ := cells6 hW
          go_simp
          with_reducible rfl
        rotate_left
        · simp only [Act.put, List.setIfInBounds_toArray, List.set_cons_zero, List.set_cons_succ, i64_w, i32_w]
          rfl
        refine one_ (i := 5) (N := some 101) #[true, true, true, true, true, true, true, true, true, true, true, false, false, false] rfl rfl (one_of HT_.out (by kernel_rfl)) (by decide) (fun K hK => ?_)
        refine goes_ Try.func8 (by kernel_rfl) rfl #[.pointer (some ⟨d, 0, none⟩), .string x2, .string x4] (by rfl) rfl rfl (by (try simp only [List.map_toArray, List.map_cons, List.map_nil]); first | done | rfl) ?_
        refine (disk_Append.calls w4 TD d st hD.out x2 y2 x4 (by have := HI.out.hroom; have := HR.out; omega) (by have := file_le (m := st.m) x2; have := HI.out.tot; have := HR.out; rw [fileOf_in]; omega)).mono ?_
        rintro e w5 ⟨rfl, hD5, fD⟩
        refine ⟨_, rfl, ?_⟩
        have K5 := Aside0.mk (fD.keeps K4.out hbD)
        have hR5 := Aside0.mk (hR.out.frm fD (fun k _ h1 h2 => hdis k h2 h1))
        have hD5 := Aside0.mk hD5
        have fD := Aside0.mk fD
        clear K4
        refine hK.out _ _ K5.out (fun _ => ?_)
        clear hK K
        refine norm_ (a' := ?_) ?_ ?_
        rotate_left
        · show Act.put _ (some 101) _ = _
          simp only [Act.put, List.setIfInBounds_toArray, List.set_cons_zero, List.set_cons_succ, i64_w, i32_w]
          rfl
        refine one_ (i := 11) (N := some 107) #[true, true, true, true, true, true, true, true, true, true, true, true, false, false] rfl rfl (one_of HT_.out (by kernel_rfl)) (by decide) (fun K hK => ?_)
        refine goes_ Try.func19 (by kernel_rfl) rfl #[.pointer (some ⟨r, 0, none⟩), .string x2, .string x4] (by rfl) rfl rfl (by (try simp only [List.map_toArray, List.map_cons, List.map_nil]); first | done | rfl) ?_
        refine (ref_Append.calls w5 TR r st hR5.out HI.out.fuse NDP.out (Nat.le_trans HI.out.len (by omega)) (by have := HI.out.hroom; have := HR.out; omega) (by have := HI.out.hroom; have := HI.out.tot; omega) x2 x4 (by have := file_le (m := st.m) x2; have := HI.out.tot; have := HR.out; rw [fileOf_in]; omega)).mono ?_
        rintro e w6 ⟨rfl, hR6, fR⟩
        refine ⟨_, rfl, ?_⟩
        have K6 := Aside0.mk (fR.keeps K5.out hbR)
        have T6 := Aside0.mk (Two.close hdis hTD hTR hO hD5.out fD.out hR6 fR)
        have F6 := Frm.two fD.out fR
        have B6 := Aside0.mk (B4.out.trans (F6.below B4.out.size (fun i _ hi => hlo i hi)))
        have AB6 := Aside0.mk (F6.keeps AB4.out (fun x => x.elim haD haR))
        clear K5 hR6 fR F6 hD5 hR5 fD hD hR B4 AB4 hO hdis hTD hTR hbD hbR haD haR hlo
        refine hK.out _ _ K6.out (fun _ => ?_)
        clear hK K
        refine norm_ (a' := ?_) ?_ ?_
        rotate_left
        · show Act.put _ (some 107) _ = _
          simp only [Act.put, List.setIfInBounds_toArray, List.set_cons_zero, List.set_cons_succ, i64_w, i32_w]
          rfl
        refine pure_ (i := 12) (N := some 108) (v := ?_) (a' := ?_) #[true, true, true, true, true, true, true, true, true, true, true, true, true, false] rfl rfl (any_of HT_.out (by kernel_rfl)) (fun _ _ _ h => h) (Or.inl ⟨by rfl, ?_⟩) ?_ ?_
        rotate_left
        · intro w'
          go_simp
          with_reducible rfl
        rotate_left
        · simp only [Act.put, List.setIfInBounds_toArray, List.set_cons_zero, List.set_cons_succ, i64_w, i32_w]
          rfl
        refine pure_ (i := 13) (N := some 14) (v := ?_) (a' := ?_) #[true, true, true, true, true, true, true, true, true, true, true, true, true, true] rfl rfl (any_of HT_.out (by kernel_rfl)) (fun _ _ _ h => h) (Or.inl ⟨by rfl, ?_⟩) ?_ ?_
        rotate_left
        · intro w'
          go_simp
          with_reducible rfl
        rotate_left
        · simp only [Act.put, List.setIfInBounds_toArray, List.set_cons_zero, List.set_cons_succ, i64_w, i32_w]
          rfl
        refine done_ (done_of HT_.out (by kernel_rfl)) ?_
        have I6 := Aside0.mk (HI.out.append NDP.out HR.out.2 x2 x4)
        generalize (st.append x2 x4).1 = st' at I6 T6
        go_wp2_with fail
        go_meet
        case rel => exact ⟨by first | rfl | simp, ⟨st', T6.out, I6.out, B6.out, AB6.out, K6.out⟩⟩
      rcases Bool.eq_false_or_eq_true (x0 == 1) with z1 | z1
      · as_aux_lemma =>
        go_wp2_with fail
        refine region_draw (n := 14) (S := fun W => W.heap[wr.heap.size]? = some (.cells #[.int .i64 x0, .int .i64 x1, .string x2, .string x3, .string x4, .slice A5 kept.length c5] 37)) (ds := []) #[false, false, false, false, false, false, false, false, false, false, false, false, false, false] (by kernel_rfl) rfl rfl (fun W => W.heap[wr.heap.size]? = some (.cells #[.int .i64 x0, .int .i64 x1, .string x2, .string x3, .string x4, .slice A5 kept.length c5] 37) ∧ Two W d r st (fun i => i < w.heap.size + 1 ∨ i = wr.heap.size) ∧ Below w.heap.size w W ∧ W.heap[w.heap.size]? = some (.cells #[.int .i64 a0, .int .i64 a1] 44)) ⟨blk_drew (blk_new _ _), (HT.out.fresh _).drew, (HB.out.alloc HB.out.size _).drew, blk_drew (blk_alloc HAB.out _)⟩ (fun W h => h.1) ?_
        rintro w4 ⟨k4, T4, b4, ab4⟩
        refine with_tabW plays19tab plays19bits (fun HT_ HW_ => ?_)
        clear q0 q1 q2 q3 q4 q5
        obtain ⟨TD, TR, hD, hR, hdis, hTD, hTR⟩ := T4
        have K4 := Aside0.mk k4
        have hbD : ¬ TD wr.heap.size := fun x => (hTD _ x).2 (Or.inr rfl)
        have hbR : ¬ TR wr.heap.size := fun x => (hTR _ x).2 (Or.inr rfl)
        have haD : ¬ TD w.heap.size := fun x => (hTD _ x).2 (Or.inl (Nat.lt_succ_self _))
        have haR : ¬ TR w.heap.size := fun x => (hTR _ x).2 (Or.inl (Nat.lt_succ_self _))
        have hO : ∀ i, i < w.heap.size + 1 ∨ i = wr.heap.size → i < w4.heap.size := fun i hi => by
          have h1 := blk_lt k4
          have h2 := blk_lt ab4
          omega
        have hlo : ∀ i, TD i ∨ TR i → w.heap.size ≤ i := fun i hi => by
          rcases hi with hi | hi
          · have := (hTD i hi).2; omega
          · have := (hTR i hi).2; omega
        have NDP := Aside0.mk hD.nodup
        have hD := Aside0.mk hD
        have hR := Aside0.mk hR
        have B4 := Aside0.mk b4
        have AB4 := Aside0.mk ab4
        clear k4 b4 ab4
        refine pure_ (i := 0) (N := some 96) (v := ?_) (a' := ?_) #[true, false, false, false, false, false, false, false, false, false, false, false, false, false] rfl rfl (any_of HT_.out (by kernel_rfl)) (fun _ _ _ h => h) (Or.inl ⟨by rfl, ?_⟩) ?_ ?_
        rotate_left
        · intro w'
          go_simp
          with_reducible rfl
        rotate_left
        · simp only [Act.put, List.setIfInBounds_toArray, List.set_cons_zero, List.set_cons_succ, i64_w, i32_w]
          rfl
        refine pure_ (i := 1) (N := some 97) (v := ?_) (a' := ?_) #[true, true, false, false, false, false, false, false, false, false, false, false, false, false] rfl rfl (any_of HT_.out (by kernel_rfl)) (fun _ _ _ h => h) (Or.inl ⟨by rfl, ?_⟩) ?_ ?_
        rotate_left
        · intro w'
          go_simp
          with_reducible rfl
        rotate_left
        · simp only [Act.put, List.setIfInBounds_toArray, List.set_cons_zero, List.set_cons_succ, i64_w, i32_w]
          rfl
        refine pure_ (i := 3) (N := some 99) (v := ?_) (a' := ?_) #[true, true, false, true, false, false, false, false, false, false, false, false, false, false] rfl rfl (any_of HT_.out (by kernel_rfl)) (fun _ _ _ h => h) (Or.inl ⟨by rfl, ?_⟩) ?_ ?_
        rotate_left
        · intro w'
          go_simp
          with_reducible rfl
        rotate_left
        · simp only [Act.put, List.setIfInBounds_toArray, List.set_cons_zero, List.set_cons_succ, i64_w, i32_w]
          rfl
        refine pure_ (i := 6) (N := some 102) (v := ?_) (a' := ?_) #[true, true, false, true, false, false, true, false, false, false, false, false, false, false] rfl rfl (any_of HT_.out (by kernel_rfl)) (fun _ _ _ h => h) (Or.inl ⟨by rfl, ?_⟩) ?_ ?_
        rotate_left
        · intro w'
          go_simp
          with_reducible rfl
        rotate_left
        · simp only [Act.put, List.setIfInBounds_toArray, List.set_cons_zero, List.set_cons_succ, i64_w, i32_w]
          rfl
        refine pure_ (i := 7) (N := some 103) (v := ?_) (a' := ?_) #[true, true, false, true, false, false, true, true, false, false, false, false, false, false] rfl rfl (any_of HT_.out (by kernel_rfl)) (fun _ _ _ h => h) (Or.inl ⟨by rfl, ?_⟩) ?_ ?_
        rotate_left
        · intro w'
          go_simp
          with_reducible rfl
        rotate_left
        · simp only [Act.put, List.setIfInBounds_toArray, List.set_cons_zero, List.set_cons_succ, i64_w, i32_w]
          rfl
        refine pure_ (i := 9) (N := some 105) (v := ?_) (a' := ?_) #[true, true, false, true, false, false, true, true, false, true, false, false, false, false] rfl rfl (any_of HT_.out (by kernel_rfl)) (fun _ _ _ h => h) (Or.inl ⟨by rfl, ?_⟩) ?_ ?_
        rotate_left
        · intro w'
          go_simp
          with_reducible rfl
        rotate_left
        · simp only [Act.put, List.setIfInBounds_toArray, List.set_cons_zero, List.set_cons_succ, i64_w, i32_w]
          rfl
        refine take_ (i := 2) (N := some 98) (v := ?_) (a' := ?_) #[true, true, true, true, false, false, true, true, false, true, false, false, false, false] rfl rfl (take_ofW HT_.out HW_.out (by kernel_rfl)) (fun _ _ _ h => h) (Or.inl ⟨by rfl, ?_⟩) K4.out ?_ ?_
        rotate_left
        · intro w' hW
          obtain ⟨e0, e1, e2, e3, e4, e5, fr⟩ := cells6 hW
          go_simp
          with_reducible rfl
        rotate_left
        · simp only [Act.put, List.setIfInBounds_toArray, List.set_cons_zero, List.set_cons_succ, i64_w, i32_w]
          rfl
        refine take_ (i := 4) (N := some 100) (v := ?_) (a' := ?_) #[true, true, true, true, true, false, true, true, false, true, false, false, false, false] rfl rfl (take_ofW HT_.out HW_.out (by kernel_rfl)) (fun _ _ _ h => h) (Or.inl ⟨by rfl, ?_⟩) K4.out ?_ ?_
        rotate_left
        · intro w' hW
          obtain ⟨e0, e1, e2, e3, e4, e5, fr⟩ := cells6 hW
          go_simp
          with_reducible rfl
        rotate_left
        · simp only [Act.put, List.setIfInBounds_toArray, List.set_cons_zero, List.set_cons_succ, i64_w, i32_w]
          rfl
        refine take_ (i := 8) (N := some 104) (v := ?_) (a' := ?_) #[true, true, true, true, true, false, true, true, true, true, false, false, false, false] rfl rfl (take_ofW HT_.out HW_.out (by kernel_rfl)) (fun _ _ _ h => h) (Or.inl ⟨by rfl, ?_⟩) K4.out ?_ ?_
        rotate_left
        · intro w' hW
          obtain ⟨e0, e1, e2, e3, e4, e5, fr⟩ := cells6 hW
          go_simp
          with_reducible rfl
        rotate_left
        · simp only [Act.put, List.setIfInBounds_toArray, List.set_cons_zero, List.set_cons_succ, i64_w, i32_w]
          rfl
        refine take_ (i := 10) (N := some 106) (v := ?_) (a' := ?_) #[true, true, true, true, true, false, true, true, true, true, true, false, false, false] rfl rfl (take_ofW HT_.out HW_.out (by kernel_rfl)) (fun _ _ _ h => h) (Or.inl ⟨by rfl, ?_⟩) K4.out ?_ ?_
        rotate_left
        · intro w' hW
          obtain ⟨e0, e1, e2, e3, e4, e5, fr⟩ := cells6 hW
          go_simp
          with_reducible rfl
        rotate_left
        · simp only [Act.put, List.setIfInBounds_toArray, List.set_cons_zero, List.set_cons_succ, i64_w, i32_w]
          rfl
        refine one_ (i := 5) (N := some 101) #[true, true, true, true, true, true, true, true, true, true, true, false, false, false] rfl rfl (one_of HT_.out (by kernel_rfl)) (by decide) (fun K hK => ?_)
        refine goes_ Try.func8 (by kernel_rfl) rfl #[.pointer (some ⟨d, 0, none⟩), .string x2, .string x4] (by rfl) rfl rfl (by (try simp only [List.map_toArray, List.map_cons, List.map_nil]); first | done | rfl) ?_
        refine (disk_Append.calls w4 TD d st hD.out x2 y2 x4 (by have := HI.out.hroom; have := HR.out; omega) (by have := file_le (m := st.m) x2; have := HI.out.tot; have := HR.out; rw [fileOf_in]; omega)).mono ?_
        rintro e w5 ⟨rfl, hD5, fD⟩
        refine ⟨_, rfl, ?_⟩
        have K5 := Aside0.mk (fD.keeps K4.out hbD)
        have hR5 := Aside0.mk (hR.out.frm fD (fun k _ h1 h2 => hdis k h2 h1))
        have hD5 := Aside0.mk hD5
        have fD := Aside0.mk fD
        clear K4
        refine hK.out _ _ K5.out (fun _ => ?_)
        clear hK K
        refine norm_ (a' := ?_) ?_ ?_
        rotate_left
        · show Act.put _ (some 101) _ = _
          simp only [Act.put, List.setIfInBounds_toArray, List.set_cons_zero, List.set_cons_succ, i64_w, i32_w]
          rfl
        refine one_ (i := 11) (N := some 107) #[true, true, true, true, true, true, true, true, true, true, true, true, false, false] rfl rfl (one_of HT_.out (by kernel_rfl)) (by decide) (fun K hK => ?_)
        refine goes_ Try.func19 (by kernel_rfl) rfl #[.pointer (some ⟨r, 0, none⟩), .string x2, .string x4] (by rfl) rfl rfl (by (try simp only [List.map_toArray, List.map_cons, List.map_nil]); first | done | rfl) ?_
        refine (ref_Append.calls w5 TR r st hR5.out HI.out.fuse NDP.out (Nat.le_trans HI.out.len (by omega)) (by have := HI.out.hroom; have := HR.out; omega) (by have := HI.out.hroom; have := HI.out.tot; omega) x2 x4 (by have := file_le (m := st.m) x2; have := HI.out.tot; have := HR.out; rw [fileOf_in]; omega)).mono ?_
        rintro e w6 ⟨rfl, hR6, fR⟩
        refine ⟨_, rfl, ?_⟩
        have K6 := Aside0.mk (fR.keeps K5.out hbR)
        have T6 := Aside0.mk (Two.close hdis hTD hTR hO hD5.out fD.out hR6 fR)
        have F6 := Frm.two fD.out fR
        have B6 := Aside0.mk (B4.out.trans (F6.below B4.out.size (fun i _ hi => hlo i hi)))
        have AB6 := Aside0.mk (F6.keeps AB4.out (fun x => x.elim haD haR))
        clear K5 hR6 fR F6 hD5 hR5 fD hD hR B4 AB4 hO hdis hTD hTR hbD hbR haD haR hlo
        refine hK.out _ _ K6.out (fun _ => ?_)
        clear hK K
        refine norm_ (a' := ?_) ?_ ?_
        rotate_left
        · show Act.put _ (some 107) _ = _
          simp only [Act.put, List.setIfInBounds_toArray, List.set_cons_zero, List.set_cons_succ, i64_w, i32_w]
          rfl
        refine pure_ (i := 12) (N := some 108) (v := ?_) (a' := ?_) #[true, true, true, true, true, true, true, true, true, true, true, true, true, false] rfl rfl (any_of HT_.out (by kernel_rfl)) (fun _ _ _ h => h) (Or.inl ⟨by rfl, ?_⟩) ?_ ?_
        rotate_left
        · intro w'
          go_simp
          with_reducible rfl
        rotate_left
        · simp only [Act.put, List.setIfInBounds_toArray, List.set_cons_zero, List.set_cons_succ, i64_w, i32_w]
          rfl
        refine pure_ (i := 13) (N := some 14) (v := ?_) (a' := ?_) #[true, true, true, true, true, true, true, true, true, true, true, true, true, true] rfl rfl (any_of HT_.out (by kernel_rfl)) (fun _ _ _ h => h) (Or.inl ⟨by rfl, ?_⟩) ?_ ?_
        rotate_left
        · intro w'
          go_simp
          with_reducible rfl
        rotate_left
        · simp only [Act.put, List.setIfInBounds_toArray, List.set_cons_zero, List.set_cons_succ, i64_w, i32_w]
          rfl
        refine done_ (done_of HT_.out (by kernel_rfl)) ?_
        have I6 := Aside0.mk (HI.out.append NDP.out HR.out.2 x2 x4)
        generalize (st.append x2 x4).1 = st' at I6 T6
        go_wp2_with fail
        go_meet
        case rel => exact ⟨by first | rfl | simp, ⟨st', T6.out, I6.out, B6.out, AB6.out, K6.out⟩⟩
      rcases Bool.eq_false_or_eq_true (x0 == 2) with z2 | z2
      · as_aux_lemma =>
        go_wp2_with fail
        refine region_draw (n := 14) (S := fun W => W.heap[wr.heap.size]? = some (.cells #[.int .i64 x0, .int .i64 x1, .string x2, .string x3, .string x4, .slice A5 kept.length c5] 37)) (ds := []) #[false, false, false, false, false, false, false, false, false, false, false, false, false, false] (by kernel_rfl) rfl rfl (fun W => W.heap[wr.heap.size]? = some (.cells #[.int .i64 x0, .int .i64 x1, .string x2, .string x3, .string x4, .slice A5 kept.length c5] 37) ∧ Two W d r st (fun i => i < w.heap.size + 1 ∨ i = wr.heap.size) ∧ Below w.heap.size w W ∧ W.heap[w.heap.size]? = some (.cells #[.int .i64 a0, .int .i64 a1] 44)) ⟨blk_drew (blk_new _ _), (HT.out.fresh _).drew, (HB.out.alloc HB.out.size _).drew, blk_drew (blk_alloc HAB.out _)⟩ (fun W h => h.1) ?_
        rintro w4 ⟨k4, T4, b4, ab4⟩
        refine with_tabW plays19tab plays19bits (fun HT_ HW_ => ?_)
        clear q0 q1 q2 q3 q4 q5
        obtain ⟨TD, TR, hD, hR, hdis, hTD, hTR⟩ := T4
        have K4 := Aside0.mk k4
        have hbD : ¬ TD wr.heap.size := fun x => (hTD _ x).2 (Or.inr rfl)
        have hbR : ¬ TR wr.heap.size := fun x => (hTR _ x).2 (Or.inr rfl)
        have haD : ¬ TD w.heap.size := fun x => (hTD _ x).2 (Or.inl (Nat.lt_succ_self _))
        have haR : ¬ TR w.heap.size := fun x => (hTR _ x).2 (Or.inl (Nat.lt_succ_self _))
        have hO : ∀ i, i < w.heap.size + 1 ∨ i = wr.heap.size → i < w4.heap.size := fun i hi => by
          have h1 := blk_lt k4
          have h2 := blk_lt ab4
          omega
        have hlo : ∀ i, TD i ∨ TR i → w.heap.size ≤ i := fun i hi => by
          rcases hi with hi | hi
          · have := (hTD i hi).2; omega
          · have := (hTR i hi).2; omega
        have NDP := Aside0.mk hD.nodup
        have hD := Aside0.mk hD
        have hR := Aside0.mk hR
        have B4 := Aside0.mk b4
        have AB4 := Aside0.mk ab4
        clear k4 b4 ab4
        refine pure_ (i := 0) (N := some 96) (v := ?_) (a' := ?_) #[true, false, false, false, false, false, false, false, false, false, false, false, false, false] rfl rfl (any_of HT_.out (by kernel_rfl)) (fun _ _ _ h => h) (Or.inl ⟨by rfl, ?_⟩) ?_ ?_
        rotate_left
        · intro w'
          go_simp
          with_reducible rfl
        rotate_left
        · simp only [Act.put, List.setIfInBounds_toArray, List.set_cons_zero, List.set_cons_succ, i64_w, i32_w]
          rfl
        refine pure_ (i := 1) (N := some 97) (v := ?_) (a' := ?_) #[true, true, false, false, false, false, false, false, false, false, false, false, false, false] rfl rfl (any_of HT_.out (by kernel_rfl)) (fun _ _ _ h => h) (Or.inl ⟨by rfl, ?_⟩) ?_ ?_
        rotate_left
        · intro w'
          go_simp
          with_reducible rfl
        rotate_left
        · simp only [Act.put, List.setIfInBounds_toArray, List.set_cons_zero, List.set_cons_succ, i64_w, i32_w]
          rfl
        refine pure_ (i := 3) (N := some 99) (v := ?_) (a' := ?_) #[true, true, false, true, false, false, false, false, false, false, false, false, false, false] rfl rfl (any_of HT_.out (by kernel_rfl)) (fun _ _ _ h => h) (Or.inl ⟨by rfl, ?_⟩) ?_ ?_
        rotate_left
        · intro w'
          go_simp
          with_reducible rfl
        rotate_left
        · simp only [Act.put, List.setIfInBounds_toArray, List.set_cons_zero, List.set_cons_succ, i64_w, i32_w]
          rfl
        refine pure_ (i := 6) (N := some 102) (v := ?_) (a' := ?_) #[true, true, false, true, false, false, true, false, false, false, false, false, false, false] rfl rfl (any_of HT_.out (by kernel_rfl)) (fun _ _ _ h => h) (Or.inl ⟨by rfl, ?_⟩) ?_ ?_
        rotate_left
        · intro w'
          go_simp
          with_reducible rfl
        rotate_left
        · simp only [Act.put, List.setIfInBounds_toArray, List.set_cons_zero, List.set_cons_succ, i64_w, i32_w]
          rfl
        refine pure_ (i := 7) (N := some 103) (v := ?_) (a' := ?_) #[true, true, false, true, false, false, true, true, false, false, false, false, false, false] rfl rfl (any_of HT_.out (by kernel_rfl)) (fun _ _ _ h => h) (Or.inl ⟨by rfl, ?_⟩) ?_ ?_
        rotate_left
        · intro w'
          go_simp
          with_reducible rfl
        rotate_left
        · simp only [Act.put, List.setIfInBounds_toArray, List.set_cons_zero, List.set_cons_succ, i64_w, i32_w]
          rfl
        refine pure_ (i := 9) (N := some 105) (v := ?_) (a' := ?_) #[true, true, false, true, false, false, true, true, false, true, false, false, false, false] rfl rfl (any_of HT_.out (by kernel_rfl)) (fun _ _ _ h => h) (Or.inl ⟨by rfl, ?_⟩) ?_ ?_
        rotate_left
        · intro w'
          go_simp
          with_reducible rfl
        rotate_left
        · simp only [Act.put, List.setIfInBounds_toArray, List.set_cons_zero, List.set_cons_succ, i64_w, i32_w]
          rfl
        refine take_ (i := 2) (N := some 98) (v := ?_) (a' := ?_) #[true, true, true, true, false, false, true, true, false, true, false, false, false, false] rfl rfl (take_ofW HT_.out HW_.out (by kernel_rfl)) (fun _ _ _ h => h) (Or.inl ⟨by rfl, ?_⟩) K4.out ?_ ?_
        rotate_left
        · intro w' hW
          obtain ⟨e0, e1, e2, e3, e4, e5, fr⟩ := cells6 hW
          go_simp
          with_reducible rfl
        rotate_left
        · simp only [Act.put, List.setIfInBounds_toArray, List.set_cons_zero, List.set_cons_succ, i64_w, i32_w]
          rfl
        refine take_ (i := 4) (N := some 100) (v := ?_) (a' := ?_) #[true, true, true, true, true, false, true, true, false, true, false, false, false, false] rfl rfl (take_ofW HT_.out HW_.out (by kernel_rfl)) (fun _ _ _ h => h) (Or.inl ⟨by rfl, ?_⟩) K4.out ?_ ?_
        rotate_left
        · intro w' hW
          obtain ⟨e0, e1, e2, e3, e4, e5, fr⟩ := cells6 hW
          go_simp
          with_reducible rfl
        rotate_left
        · simp only [Act.put, List.setIfInBounds_toArray, List.set_cons_zero, List.set_cons_succ, i64_w, i32_w]
          rfl
        refine take_ (i := 8) (N := some 104) (v := ?_) (a' := ?_) #[true, true, true, true, true, false, true, true, true, true, false, false, false, false] rfl rfl (take_ofW HT_.out HW_.out (by kernel_rfl)) (fun _ _ _ h => h) (Or.inl ⟨by rfl, ?_⟩) K4.out ?_ ?_
        rotate_left
        · intro w' hW
          obtain ⟨e0, e1, e2, e3, e4, e5, fr⟩ := cells6 hW
          go_simp
          with_reducible rfl
        rotate_left
        · simp only [Act.put, List.setIfInBounds_toArray, List.set_cons_zero, List.set_cons_succ, i64_w, i32_w]
          rfl
        refine take_ (i := 10) (N := some 106) (v := ?_) (a' := ?_) #[true, true, true, true, true, false, true, true, true, true, true, false, false, false] rfl rfl (take_ofW HT_.out HW_.out (by kernel_rfl)) (fun _ _ _ h => h) (Or.inl ⟨by rfl, ?_⟩) K4.out ?_ ?_
        rotate_left
        · intro w' hW
          obtain ⟨e0, e1, e2, e3, e4, e5, fr⟩ := cells6 hW
          go_simp
          with_reducible rfl
        rotate_left
        · simp only [Act.put, List.setIfInBounds_toArray, List.set_cons_zero, List.set_cons_succ, i64_w, i32_w]
          rfl
        refine one_ (i := 5) (N := some 101) #[true, true, true, true, true, true, true, true, true, true, true, false, false, false] rfl rfl (one_of HT_.out (by kernel_rfl)) (by decide) (fun K hK => ?_)
        refine goes_ Try.func8 (by kernel_rfl) rfl #[.pointer (some ⟨d, 0, none⟩), .string x2, .string x4] (by rfl) rfl rfl (by (try simp only [List.map_toArray, List.map_cons, List.map_nil]); first | done | rfl) ?_
        refine (disk_Append.calls w4 TD d st hD.out x2 y2 x4 (by have := HI.out.hroom; have := HR.out; omega) (by have := file_le (m := st.m) x2; have := HI.out.tot; have := HR.out; rw [fileOf_in]; omega)).mono ?_
        rintro e w5 ⟨rfl, hD5, fD⟩
        refine ⟨_, rfl, ?_⟩
        have K5 := Aside0.mk (fD.keeps K4.out hbD)
        have hR5 := Aside0.mk (hR.out.frm fD (fun k _ h1 h2 => hdis k h2 h1))
        have hD5 := Aside0.mk hD5
        have fD := Aside0.mk fD
        clear K4
        refine hK.out _ _ K5.out (fun _ => ?_)
        clear hK K
        refine norm_ (a' := ?_) ?_ ?_
        rotate_left
        · show Act.put _ (some 101) _ = _
          simp only [Act.put, List.setIfInBounds_toArray, List.set_cons_zero, List.set_cons_succ, i64_w, i32_w]
          rfl
        refine one_ (i := 11) (N := some 107) #[true, true, true, true, true, true, true, true, true, true, true, true, false, false] rfl rfl (one_of HT_.out (by kernel_rfl)) (by decide) (fun K hK => ?_)
        refine goes_ Try.func19 (by kernel_rfl) rfl #[.pointer (some ⟨r, 0, none⟩), .string x2, .string x4] (by rfl) rfl rfl (by (try simp only [List.map_toArray, List.map_cons, List.map_nil]); first | done | rfl) ?_
        refine (ref_Append.calls w5 TR r st hR5.out HI.out.fuse NDP.out (Nat.le_trans HI.out.len (by omega)) (by have := HI.out.hroom; have := HR.out; omega) (by have := HI.out.hroom; have := HI.out.tot; omega) x2 x4 (by have := file_le (m := st.m) x2; have := HI.out.tot; have := HR.out; rw [fileOf_in]; omega)).mono ?_
        rintro e w6 ⟨rfl, hR6, fR⟩
        refine ⟨_, rfl, ?_⟩
        have K6 := Aside0.mk (fR.keeps K5.out hbR)
        have T6 := Aside0.mk (Two.close hdis hTD hTR hO hD5.out fD.out hR6 fR)
        have F6 := Frm.two fD.out fR
        have B6 := Aside0.mk (B4.out.trans (F6.below B4.out.size (fun i _ hi => hlo i hi)))
        have AB6 := Aside0.mk (F6.keeps AB4.out (fun x => x.elim haD haR))
        clear K5 hR6 fR F6 hD5 hR5 fD hD hR B4 AB4 hO hdis hTD hTR hbD hbR haD haR hlo
        refine hK.out _ _ K6.out (fun _ => ?_)
        clear hK K
        refine norm_ (a' := ?_) ?_ ?_
        rotate_left
        · show Act.put _ (some 107) _ = _
          simp only [Act.put, List.setIfInBounds_toArray, List.set_cons_zero, List.set_cons_succ, i64_w, i32_w]
          rfl
        refine pure_ (i := 12) (N := some 108) (v := ?_) (a' := ?_) #[true, true, true, true, true, true, true, true, true, true, true, true, true, false] rfl rfl (any_of HT_.out (by kernel_rfl)) (fun _ _ _ h => h) (Or.inl ⟨by rfl, ?_⟩) ?_ ?_
        rotate_left
        · intro w'
          go_simp
          with_reducible rfl
        rotate_left
        · simp only [Act.put, List.setIfInBounds_toArray, List.set_cons_zero, List.set_cons_succ, i64_w, i32_w]
          rfl
        refine pure_ (i := 13) (N := some 14) (v := ?_) (a' := ?_) #[true, true, true, true, true, true, true, true, true, true, true, true, true, true] rfl rfl (any_of HT_.out (by kernel_rfl)) (fun _ _ _ h => h) (Or.inl ⟨by rfl, ?_⟩) ?_ ?_
        rotate_left
        · intro w'
          go_simp
          with_reducible rfl
        rotate_left
        · simp only [Act.put, List.setIfInBounds_toArray, List.set_cons_zero, List.set_cons_succ, i64_w, i32_w]
          rfl
        refine done_ (done_of HT_.out (by kernel_rfl)) ?_
        have I6 := Aside0.mk (HI.out.append NDP.out HR.out.2 x2 x4)
        generalize (st.append x2 x4).1 = st' at I6 T6
        go_wp2_with fail
        go_meet
        case rel => exact ⟨by first | rfl | simp, ⟨st', T6.out, I6.out, B6.out, AB6.out, K6.out⟩⟩
      rcases Bool.eq_false_or_eq_true (x0 == 3) with z3 | z3
      · as_aux_lemma =>
        go_wp2_with fail
        refine region_draw (n := 10) (S := fun W => W.heap[wr.heap.size]? = some (.cells #[.int .i64 x0, .int .i64 x1, .string x2, .string x3, .string x4, .slice A5 kept.length c5] 37)) (ds := []) #[false, false, false, false, false, false, false, false, false, false] (by kernel_rfl) rfl rfl (fun W => W.heap[wr.heap.size]? = some (.cells #[.int .i64 x0, .int .i64 x1, .string x2, .string x3, .string x4, .slice A5 kept.length c5] 37) ∧ Two W d r st (fun i => i < w.heap.size + 1 ∨ i = wr.heap.size) ∧ Below w.heap.size w W ∧ W.heap[w.heap.size]? = some (.cells #[.int .i64 a0, .int .i64 a1] 44)) ⟨blk_drew (blk_new _ _), (HT.out.fresh _).drew, (HB.out.alloc HB.out.size _).drew, blk_drew (blk_alloc HAB.out _)⟩ (fun W h => h.1) ?_
        rintro w4 ⟨k4, T4, b4, ab4⟩
        refine with_tabW plays21tab plays21bits (fun HT_ HW_ => ?_)
        clear q0 q1 q2 q3 q4 q5
        obtain ⟨TD, TR, hD, hR, hdis, hTD, hTR⟩ := T4
        have K4 := Aside0.mk k4
        have hbD : ¬ TD wr.heap.size := fun x => (hTD _ x).2 (Or.inr rfl)
        have hbR : ¬ TR wr.heap.size := fun x => (hTR _ x).2 (Or.inr rfl)
        have haD : ¬ TD w.heap.size := fun x => (hTD _ x).2 (Or.inl (Nat.lt_succ_self _))
        have haR : ¬ TR w.heap.size := fun x => (hTR _ x).2 (Or.inl (Nat.lt_succ_self _))
        have hO : ∀ i, i < w.heap.size + 1 ∨ i = wr.heap.size → i < w4.heap.size := fun i hi => by
          have h1 := blk_lt k4
          have h2 := blk_lt ab4
          omega
        have hlo : ∀ i, TD i ∨ TR i → w.heap.size ≤ i := fun i hi => by
          rcases hi with hi | hi
          · have := (hTD i hi).2; omega
          · have := (hTR i hi).2; omega
        have NDP := Aside0.mk hD.nodup
        have hD := Aside0.mk hD
        have hR := Aside0.mk hR
        have B4 := Aside0.mk b4
        have AB4 := Aside0.mk ab4
        clear k4 b4 ab4
        refine pure_ (i := 0) (N := some 111) (v := ?_) (a' := ?_) #[true, false, false, false, false, false, false, false, false, false] rfl rfl (any_of HT_.out (by kernel_rfl)) (fun _ _ _ h => h) (Or.inl ⟨by rfl, ?_⟩) ?_ ?_
        rotate_left
        · intro w'
          go_simp
          with_reducible rfl
        rotate_left
        · simp only [Act.put, List.setIfInBounds_toArray, List.set_cons_zero, List.set_cons_succ, i64_w, i32_w]
          rfl
        refine pure_ (i := 1) (N := some 112) (v := ?_) (a' := ?_) #[true, true, false, false, false, false, false, false, false, false] rfl rfl (any_of HT_.out (by kernel_rfl)) (fun _ _ _ h => h) (Or.inl ⟨by rfl, ?_⟩) ?_ ?_
        rotate_left
        · intro w'
          go_simp
          with_reducible rfl
        rotate_left
        · simp only [Act.put, List.setIfInBounds_toArray, List.set_cons_zero, List.set_cons_succ, i64_w, i32_w]
          rfl
        refine pure_ (i := 4) (N := some 115) (v := ?_) (a' := ?_) #[true, true, false, false, true, false, false, false, false, false] rfl rfl (any_of HT_.out (by kernel_rfl)) (fun _ _ _ h => h) (Or.inl ⟨by rfl, ?_⟩) ?_ ?_
        rotate_left
        · intro w'
          go_simp
          with_reducible rfl
        rotate_left
        · simp only [Act.put, List.setIfInBounds_toArray, List.set_cons_zero, List.set_cons_succ, i64_w, i32_w]
          rfl
        refine pure_ (i := 5) (N := some 116) (v := ?_) (a' := ?_) #[true, true, false, false, true, true, false, false, false, false] rfl rfl (any_of HT_.out (by kernel_rfl)) (fun _ _ _ h => h) (Or.inl ⟨by rfl, ?_⟩) ?_ ?_
        rotate_left
        · intro w'
          go_simp
          with_reducible rfl
        rotate_left
        · simp only [Act.put, List.setIfInBounds_toArray, List.set_cons_zero, List.set_cons_succ, i64_w, i32_w]
          rfl
        refine take_ (i := 2) (N := some 113) (v := ?_) (a' := ?_) #[true, true, true, false, true, true, false, false, false, false] rfl rfl (take_ofW HT_.out HW_.out (by kernel_rfl)) (fun _ _ _ h => h) (Or.inl ⟨by rfl, ?_⟩) K4.out ?_ ?_
        rotate_left
        · intro w' hW
          obtain ⟨e0, e1, e2, e3, e4, e5, fr⟩ := cells6 hW
          go_simp
          with_reducible rfl
        rotate_left
        · simp only [Act.put, List.setIfInBounds_toArray, List.set_cons_zero, List.set_cons_succ, i64_w, i32_w]
          rfl
        refine take_ (i := 6) (N := some 117) (v := ?_) (a' := ?_) #[true, true, true, false, true, true, true, false, false, false] rfl rfl (take_ofW HT_.out HW_.out (by kernel_rfl)) (fun _ _ _ h => h) (Or.inl ⟨by rfl, ?_⟩) K4.out ?_ ?_
        rotate_left
        · intro w' hW
          obtain ⟨e0, e1, e2, e3, e4, e5, fr⟩ := cells6 hW
          go_simp
          with_reducible rfl
        rotate_left
        · simp only [Act.put, List.setIfInBounds_toArray, List.set_cons_zero, List.set_cons_succ, i64_w, i32_w]
          rfl
        refine one_ (i := 3) (N := some 114) #[true, true, true, true, true, true, true, false, false, false] rfl rfl (one_of HT_.out (by kernel_rfl)) (by decide) (fun K hK => ?_)
        refine goes_ Try.func9 (by kernel_rfl) rfl #[.pointer (some ⟨d, 0, none⟩), .string x2] (by rfl) rfl rfl (by (try simp only [List.map_toArray, List.map_cons, List.map_nil]); first | done | rfl) ?_
        refine (disk_Sync.calls w4 TD d st hD.out x2 y2).mono ?_
        rintro e w5 ⟨rfl, hD5, fD⟩
        refine ⟨_, rfl, ?_⟩
        have K5 := Aside0.mk (fD.keeps K4.out hbD)
        have hR5 := Aside0.mk (hR.out.frm fD (fun k _ h1 h2 => hdis k h2 h1))
        have hD5 := Aside0.mk hD5
        have fD := Aside0.mk fD
        clear K4
        refine hK.out _ _ K5.out (fun _ => ?_)
        clear hK K
        refine norm_ (a' := ?_) ?_ ?_
        rotate_left
        · show Act.put _ (some 114) _ = _
          simp only [Act.put, List.setIfInBounds_toArray, List.set_cons_zero, List.set_cons_succ, i64_w, i32_w]
          rfl
        refine one_ (i := 7) (N := some 118) #[true, true, true, true, true, true, true, true, false, false] rfl rfl (one_of HT_.out (by kernel_rfl)) (by decide) (fun K hK => ?_)
        refine goes_ Try.func20 (by kernel_rfl) rfl #[.pointer (some ⟨r, 0, none⟩), .string x2] (by rfl) rfl rfl (by (try simp only [List.map_toArray, List.map_cons, List.map_nil]); first | done | rfl) ?_
        refine (ref_Sync.calls w5 TR r st hR5.out HI.out.fuse NDP.out (Nat.le_trans HI.out.len (by omega)) x2).mono ?_
        rintro e w6 ⟨rfl, hR6, fR⟩
        refine ⟨_, rfl, ?_⟩
        have K6 := Aside0.mk (fR.keeps K5.out hbR)
        have T6 := Aside0.mk (Two.close hdis hTD hTR hO hD5.out fD.out hR6 fR)
        have F6 := Frm.two fD.out fR
        have B6 := Aside0.mk (B4.out.trans (F6.below B4.out.size (fun i _ hi => hlo i hi)))
        have AB6 := Aside0.mk (F6.keeps AB4.out (fun x => x.elim haD haR))
        clear K5 hR6 fR F6 hD5 hR5 fD hD hR B4 AB4 hO hdis hTD hTR hbD hbR haD haR hlo
        refine hK.out _ _ K6.out (fun _ => ?_)
        clear hK K
        refine norm_ (a' := ?_) ?_ ?_
        rotate_left
        · show Act.put _ (some 118) _ = _
          simp only [Act.put, List.setIfInBounds_toArray, List.set_cons_zero, List.set_cons_succ, i64_w, i32_w]
          rfl
        refine pure_ (i := 8) (N := some 119) (v := ?_) (a' := ?_) #[true, true, true, true, true, true, true, true, true, false] rfl rfl (any_of HT_.out (by kernel_rfl)) (fun _ _ _ h => h) (Or.inl ⟨by rfl, ?_⟩) ?_ ?_
        rotate_left
        · intro w'
          go_simp
          with_reducible rfl
        rotate_left
        · simp only [Act.put, List.setIfInBounds_toArray, List.set_cons_zero, List.set_cons_succ, i64_w, i32_w]
          rfl
        refine pure_ (i := 9) (N := some 14) (v := ?_) (a' := ?_) #[true, true, true, true, true, true, true, true, true, true] rfl rfl (any_of HT_.out (by kernel_rfl)) (fun _ _ _ h => h) (Or.inl ⟨by rfl, ?_⟩) ?_ ?_
        rotate_left
        · intro w'
          go_simp
          with_reducible rfl
        rotate_left
        · simp only [Act.put, List.setIfInBounds_toArray, List.set_cons_zero, List.set_cons_succ, i64_w, i32_w]
          rfl
        refine done_ (done_of HT_.out (by kernel_rfl)) ?_
        have I6 := Aside0.mk (HI.out.sync NDP.out x2)
        generalize (st.sync x2).1 = st' at I6 T6
        go_wp2_with fail
        go_meet
        case rel => exact ⟨by first | rfl | simp, ⟨st', T6.out, I6.out, B6.out, AB6.out, K6.out⟩⟩
      rcases Bool.eq_false_or_eq_true (x0 == 4) with z4 | z4
      · as_aux_lemma =>
        go_wp2_with fail
        refine region_draw (n := 14) (S := fun W => W.heap[wr.heap.size]? = some (.cells #[.int .i64 x0, .int .i64 x1, .string x2, .string x3, .string x4, .slice A5 kept.length c5] 37)) (ds := []) #[false, false, false, false, false, false, false, false, false, false, false, false, false, false] (by kernel_rfl) rfl rfl (fun W => W.heap[wr.heap.size]? = some (.cells #[.int .i64 x0, .int .i64 x1, .string x2, .string x3, .string x4, .slice A5 kept.length c5] 37) ∧ Two W d r st (fun i => i < w.heap.size + 1 ∨ i = wr.heap.size) ∧ Below w.heap.size w W ∧ W.heap[w.heap.size]? = some (.cells #[.int .i64 a0, .int .i64 a1] 44)) ⟨blk_drew (blk_new _ _), (HT.out.fresh _).drew, (HB.out.alloc HB.out.size _).drew, blk_drew (blk_alloc HAB.out _)⟩ (fun W h => h.1) ?_
        rintro w4 ⟨k4, T4, b4, ab4⟩
        refine with_tabW plays23tab plays23bits (fun HT_ HW_ => ?_)
        clear q0 q1 q2 q3 q4 q5
        obtain ⟨TD, TR, hD, hR, hdis, hTD, hTR⟩ := T4
        have K4 := Aside0.mk k4
        have hbD : ¬ TD wr.heap.size := fun x => (hTD _ x).2 (Or.inr rfl)
        have hbR : ¬ TR wr.heap.size := fun x => (hTR _ x).2 (Or.inr rfl)
        have haD : ¬ TD w.heap.size := fun x => (hTD _ x).2 (Or.inl (Nat.lt_succ_self _))
        have haR : ¬ TR w.heap.size := fun x => (hTR _ x).2 (Or.inl (Nat.lt_succ_self _))
        have hO : ∀ i, i < w.heap.size + 1 ∨ i = wr.heap.size → i < w4.heap.size := fun i hi => by
          have h1 := blk_lt k4
          have h2 := blk_lt ab4
          omega
        have hlo : ∀ i, TD i ∨ TR i → w.heap.size ≤ i := fun i hi => by
          rcases hi with hi | hi
          · have := (hTD i hi).2; omega
          · have := (hTR i hi).2; omega
        have NDP := Aside0.mk hD.nodup
        have hD := Aside0.mk hD
        have hR := Aside0.mk hR
        have B4 := Aside0.mk b4
        have AB4 := Aside0.mk ab4
        clear k4 b4 ab4
        refine pure_ (i := 0) (N := some 122) (v := ?_) (a' := ?_) #[true, false, false, false, false, false, false, false, false, false, false, false, false, false] rfl rfl (any_of HT_.out (by kernel_rfl)) (fun _ _ _ h => h) (Or.inl ⟨by rfl, ?_⟩) ?_ ?_
        rotate_left
        · intro w'
          go_simp
          with_reducible rfl
        rotate_left
        · simp only [Act.put, List.setIfInBounds_toArray, List.set_cons_zero, List.set_cons_succ, i64_w, i32_w]
          rfl
        refine pure_ (i := 1) (N := some 123) (v := ?_) (a' := ?_) #[true, true, false, false, false, false, false, false, false, false, false, false, false, false] rfl rfl (any_of HT_.out (by kernel_rfl)) (fun _ _ _ h => h) (Or.inl ⟨by rfl, ?_⟩) ?_ ?_
        rotate_left
        · intro w'
          go_simp
          with_reducible rfl
        rotate_left
        · simp only [Act.put, List.setIfInBounds_toArray, List.set_cons_zero, List.set_cons_succ, i64_w, i32_w]
          rfl
        refine pure_ (i := 3) (N := some 125) (v := ?_) (a' := ?_) #[true, true, false, true, false, false, false, false, false, false, false, false, false, false] rfl rfl (any_of HT_.out (by kernel_rfl)) (fun _ _ _ h => h) (Or.inl ⟨by rfl, ?_⟩) ?_ ?_
        rotate_left
        · intro w'
          go_simp
          with_reducible rfl
        rotate_left
        · simp only [Act.put, List.setIfInBounds_toArray, List.set_cons_zero, List.set_cons_succ, i64_w, i32_w]
          rfl
        refine pure_ (i := 6) (N := some 128) (v := ?_) (a' := ?_) #[true, true, false, true, false, false, true, false, false, false, false, false, false, false] rfl rfl (any_of HT_.out (by kernel_rfl)) (fun _ _ _ h => h) (Or.inl ⟨by rfl, ?_⟩) ?_ ?_
        rotate_left
        · intro w'
          go_simp
          with_reducible rfl
        rotate_left
        · simp only [Act.put, List.setIfInBounds_toArray, List.set_cons_zero, List.set_cons_succ, i64_w, i32_w]
          rfl
        refine pure_ (i := 7) (N := some 129) (v := ?_) (a' := ?_) #[true, true, false, true, false, false, true, true, false, false, false, false, false, false] rfl rfl (any_of HT_.out (by kernel_rfl)) (fun _ _ _ h => h) (Or.inl ⟨by rfl, ?_⟩) ?_ ?_
        rotate_left
        · intro w'
          go_simp
          with_reducible rfl
        rotate_left
        · simp only [Act.put, List.setIfInBounds_toArray, List.set_cons_zero, List.set_cons_succ, i64_w, i32_w]
          rfl
        refine pure_ (i := 9) (N := some 131) (v := ?_) (a' := ?_) #[true, true, false, true, false, false, true, true, false, true, false, false, false, false] rfl rfl (any_of HT_.out (by kernel_rfl)) (fun _ _ _ h => h) (Or.inl ⟨by rfl, ?_⟩) ?_ ?_
        rotate_left
        · intro w'
          go_simp
          with_reducible rfl
        rotate_left
        · simp only [Act.put, List.setIfInBounds_toArray, List.set_cons_zero, List.set_cons_succ, i64_w, i32_w]
          rfl
        refine take_ (i := 2) (N := some 124) (v := ?_) (a' := ?_) #[true, true, true, true, false, false, true, true, false, true, false, false, false, false] rfl rfl (take_ofW HT_.out HW_.out (by kernel_rfl)) (fun _ _ _ h => h) (Or.inl ⟨by rfl, ?_⟩) K4.out ?_ ?_
        rotate_left
        · intro w' hW
          obtain ⟨e0, e1, e2, e3, e4, e5, fr⟩ := cells6 hW
          go_simp
          with_reducible rfl
        rotate_left
        · simp only [Act.put, List.setIfInBounds_toArray, List.set_cons_zero, List.set_cons_succ, i64_w, i32_w]
          rfl
        refine take_ (i := 4) (N := some 126) (v := ?_) (a' := ?_) #[true, true, true, true, true, false, true, true, false, true, false, false, false, false] rfl rfl (take_ofW HT_.out HW_.out (by kernel_rfl)) (fun _ _ _ h => h) (Or.inl ⟨by rfl, ?_⟩) K4.out ?_ ?_
        rotate_left
        · intro w' hW
          obtain ⟨e0, e1, e2, e3, e4, e5, fr⟩ := cells6 hW
          go_simp
          with_reducible rfl
        rotate_left
        · simp only [Act.put, List.setIfInBounds_toArray, List.set_cons_zero, List.set_cons_succ, i64_w, i32_w]
          rfl
        refine take_ (i := 8) (N := some 130) (v := ?_) (a' := ?_) #[true, true, true, true, true, false, true, true, true, true, false, false, false, false] rfl rfl (take_ofW HT_.out HW_.out (by kernel_rfl)) (fun _ _ _ h => h) (Or.inl ⟨by rfl, ?_⟩) K4.out ?_ ?_
        rotate_left
        · intro w' hW
          obtain ⟨e0, e1, e2, e3, e4, e5, fr⟩ := cells6 hW
          go_simp
          with_reducible rfl
        rotate_left
        · simp only [Act.put, List.setIfInBounds_toArray, List.set_cons_zero, List.set_cons_succ, i64_w, i32_w]
          rfl
        refine take_ (i := 10) (N := some 132) (v := ?_) (a' := ?_) #[true, true, true, true, true, false, true, true, true, true, true, false, false, false] rfl rfl (take_ofW HT_.out HW_.out (by kernel_rfl)) (fun _ _ _ h => h) (Or.inl ⟨by rfl, ?_⟩) K4.out ?_ ?_
        rotate_left
        · intro w' hW
          obtain ⟨e0, e1, e2, e3, e4, e5, fr⟩ := cells6 hW
          go_simp
          with_reducible rfl
        rotate_left
        · simp only [Act.put, List.setIfInBounds_toArray, List.set_cons_zero, List.set_cons_succ, i64_w, i32_w]
          rfl
        refine one_ (i := 5) (N := some 127) #[true, true, true, true, true, true, true, true, true, true, true, false, false, false] rfl rfl (one_of HT_.out (by kernel_rfl)) (by decide) (fun K hK => ?_)
        refine goes_ Try.func13 (by kernel_rfl) rfl #[.pointer (some ⟨d, 0, none⟩), .string x2, .string x3] (by rfl) rfl rfl (by (try simp only [List.map_toArray, List.map_cons, List.map_nil]); first | done | rfl) ?_
        refine (disk_Rename.calls w4 TD d st hD.out x2 y2 x3 y3).mono ?_
        rintro e w5 ⟨rfl, hD5, fD⟩
        refine ⟨_, rfl, ?_⟩
        have K5 := Aside0.mk (fD.keeps K4.out hbD)
        have hR5 := Aside0.mk (hR.out.frm fD (fun k _ h1 h2 => hdis k h2 h1))
        have hD5 := Aside0.mk hD5
        have fD := Aside0.mk fD
        clear K4
        refine hK.out _ _ K5.out (fun _ => ?_)
        clear hK K
        refine norm_ (a' := ?_) ?_ ?_
        rotate_left
        · show Act.put _ (some 127) _ = _
          simp only [Act.put, List.setIfInBounds_toArray, List.set_cons_zero, List.set_cons_succ, i64_w, i32_w]
          rfl
        refine one_ (i := 11) (N := some 133) #[true, true, true, true, true, true, true, true, true, true, true, true, false, false] rfl rfl (one_of HT_.out (by kernel_rfl)) (by decide) (fun K hK => ?_)
        refine goes_ Try.func21 (by kernel_rfl) rfl #[.pointer (some ⟨r, 0, none⟩), .string x2, .string x3] (by rfl) rfl rfl (by (try simp only [List.map_toArray, List.map_cons, List.map_nil]); first | done | rfl) ?_
        refine (ref_Rename.calls w5 TR r st hR5.out HI.out.fuse NDP.out (Nat.le_trans HI.out.len (by omega)) x2 x3).mono ?_
        rintro e w6 ⟨rfl, hR6, fR⟩
        refine ⟨_, rfl, ?_⟩
        have K6 := Aside0.mk (fR.keeps K5.out hbR)
        have T6 := Aside0.mk (Two.close hdis hTD hTR hO hD5.out fD.out hR6 fR)
        have F6 := Frm.two fD.out fR
        have B6 := Aside0.mk (B4.out.trans (F6.below B4.out.size (fun i _ hi => hlo i hi)))
        have AB6 := Aside0.mk (F6.keeps AB4.out (fun x => x.elim haD haR))
        clear K5 hR6 fR F6 hD5 hR5 fD hD hR B4 AB4 hO hdis hTD hTR hbD hbR haD haR hlo
        refine hK.out _ _ K6.out (fun _ => ?_)
        clear hK K
        refine norm_ (a' := ?_) ?_ ?_
        rotate_left
        · show Act.put _ (some 133) _ = _
          simp only [Act.put, List.setIfInBounds_toArray, List.set_cons_zero, List.set_cons_succ, i64_w, i32_w]
          rfl
        refine pure_ (i := 12) (N := some 134) (v := ?_) (a' := ?_) #[true, true, true, true, true, true, true, true, true, true, true, true, true, false] rfl rfl (any_of HT_.out (by kernel_rfl)) (fun _ _ _ h => h) (Or.inl ⟨by rfl, ?_⟩) ?_ ?_
        rotate_left
        · intro w'
          go_simp
          with_reducible rfl
        rotate_left
        · simp only [Act.put, List.setIfInBounds_toArray, List.set_cons_zero, List.set_cons_succ, i64_w, i32_w]
          rfl
        refine pure_ (i := 13) (N := some 14) (v := ?_) (a' := ?_) #[true, true, true, true, true, true, true, true, true, true, true, true, true, true] rfl rfl (any_of HT_.out (by kernel_rfl)) (fun _ _ _ h => h) (Or.inl ⟨by rfl, ?_⟩) ?_ ?_
        rotate_left
        · intro w'
          go_simp
          with_reducible rfl
        rotate_left
        · simp only [Act.put, List.setIfInBounds_toArray, List.set_cons_zero, List.set_cons_succ, i64_w, i32_w]
          rfl
        refine done_ (done_of HT_.out (by kernel_rfl)) ?_
        have I6 := Aside0.mk (HI.out.rename NDP.out x2 x3)
        generalize (st.rename x2 x3).1 = st' at I6 T6
        go_wp2_with fail
        go_meet
        case rel => exact ⟨by first | rfl | simp, ⟨st', T6.out, I6.out, B6.out, AB6.out, K6.out⟩⟩
      rcases Bool.eq_false_or_eq_true (x0 == 5) with z5 | z5
      · as_aux_lemma =>
        go_wp2_with fail
        refine region_draw (n := 10) (S := fun W => W.heap[wr.heap.size]? = some (.cells #[.int .i64 x0, .int .i64 x1, .string x2, .string x3, .string x4, .slice A5 kept.length c5] 37)) (ds := []) #[false, false, false, false, false, false, false, false, false, false] (by kernel_rfl) rfl rfl (fun W => W.heap[wr.heap.size]? = some (.cells #[.int .i64 x0, .int .i64 x1, .string x2, .string x3, .string x4, .slice A5 kept.length c5] 37) ∧ Two W d r st (fun i => i < w.heap.size + 1 ∨ i = wr.heap.size) ∧ Below w.heap.size w W ∧ W.heap[w.heap.size]? = some (.cells #[.int .i64 a0, .int .i64 a1] 44)) ⟨blk_drew (blk_new _ _), (HT.out.fresh _).drew, (HB.out.alloc HB.out.size _).drew, blk_drew (blk_alloc HAB.out _)⟩ (fun W h => h.1) ?_
        rintro w4 ⟨k4, T4, b4, ab4⟩
        refine with_tabW plays25tab plays25bits (fun HT_ HW_ => ?_)
        clear q0 q1 q2 q3 q4 q5
        obtain ⟨TD, TR, hD, hR, hdis, hTD, hTR⟩ := T4
        have K4 := Aside0.mk k4
        have hbD : ¬ TD wr.heap.size := fun x => (hTD _ x).2 (Or.inr rfl)
        have hbR : ¬ TR wr.heap.size := fun x => (hTR _ x).2 (Or.inr rfl)
        have haD : ¬ TD w.heap.size := fun x => (hTD _ x).2 (Or.inl (Nat.lt_succ_self _))
        have haR : ¬ TR w.heap.size := fun x => (hTR _ x).2 (Or.inl (Nat.lt_succ_self _))
        have hO : ∀ i, i < w.heap.size + 1 ∨ i = wr.heap.size → i < w4.heap.size := fun i hi => by
          have h1 := blk_lt k4
          have h2 := blk_lt ab4
          omega
        have hlo : ∀ i, TD i ∨ TR i → w.heap.size ≤ i := fun i hi => by
          rcases hi with hi | hi
          · have := (hTD i hi).2; omega
          · have := (hTR i hi).2; omega
        have NDP := Aside0.mk hD.nodup
        have hD := Aside0.mk hD
        have hR := Aside0.mk hR
        have B4 := Aside0.mk b4
        have AB4 := Aside0.mk ab4
        clear k4 b4 ab4
        refine pure_ (i := 0) (N := some 137) (v := ?_) (a' := ?_) #[true, false, false, false, false, false, false, false, false, false] rfl rfl (any_of HT_.out (by kernel_rfl)) (fun _ _ _ h => h) (Or.inl ⟨by rfl, ?_⟩) ?_ ?_
        rotate_left
        · intro w'
          go_simp
          with_reducible rfl
        rotate_left
        · simp only [Act.put, List.setIfInBounds_toArray, List.set_cons_zero, List.set_cons_succ, i64_w, i32_w]
          rfl
        refine pure_ (i := 1) (N := some 138) (v := ?_) (a' := ?_) #[true, true, false, false, false, false, false, false, false, false] rfl rfl (any_of HT_.out (by kernel_rfl)) (fun _ _ _ h => h) (Or.inl ⟨by rfl, ?_⟩) ?_ ?_
        rotate_left
        · intro w'
          go_simp
          with_reducible rfl
        rotate_left
        · simp only [Act.put, List.setIfInBounds_toArray, List.set_cons_zero, List.set_cons_succ, i64_w, i32_w]
          rfl
        refine pure_ (i := 4) (N := some 141) (v := ?_) (a' := ?_) #[true, true, false, false, true, false, false, false, false, false] rfl rfl (any_of HT_.out (by kernel_rfl)) (fun _ _ _ h => h) (Or.inl ⟨by rfl, ?_⟩) ?_ ?_
        rotate_left
        · intro w'
          go_simp
          with_reducible rfl
        rotate_left
        · simp only [Act.put, List.setIfInBounds_toArray, List.set_cons_zero, List.set_cons_succ, i64_w, i32_w]
          rfl
        refine pure_ (i := 5) (N := some 142) (v := ?_) (a' := ?_) #[true, true, false, false, true, true, false, false, false, false] rfl rfl (any_of HT_.out (by kernel_rfl)) (fun _ _ _ h => h) (Or.inl ⟨by rfl, ?_⟩) ?_ ?_
        rotate_left
        · intro w'
          go_simp
          with_reducible rfl
        rotate_left
        · simp only [Act.put, List.setIfInBounds_toArray, List.set_cons_zero, List.set_cons_succ, i64_w, i32_w]
          rfl
        refine take_ (i := 2) (N := some 139) (v := ?_) (a' := ?_) #[true, true, true, false, true, true, false, false, false, false] rfl rfl (take_ofW HT_.out HW_.out (by kernel_rfl)) (fun _ _ _ h => h) (Or.inl ⟨by rfl, ?_⟩) K4.out ?_ ?_
        rotate_left
        · intro w' hW
          obtain ⟨e0, e1, e2, e3, e4, e5, fr⟩ := cells6 hW
          go_simp
          with_reducible rfl
        rotate_left
        · simp only [Act.put, List.setIfInBounds_toArray, List.set_cons_zero, List.set_cons_succ, i64_w, i32_w]
          rfl
        refine take_ (i := 6) (N := some 143) (v := ?_) (a' := ?_) #[true, true, true, false, true, true, true, false, false, false] rfl rfl (take_ofW HT_.out HW_.out (by kernel_rfl)) (fun _ _ _ h => h) (Or.inl ⟨by rfl, ?_⟩) K4.out ?_ ?_
        rotate_left
        · intro w' hW
          obtain ⟨e0, e1, e2, e3, e4, e5, fr⟩ := cells6 hW
          go_simp
          with_reducible rfl
        rotate_left
        · simp only [Act.put, List.setIfInBounds_toArray, List.set_cons_zero, List.set_cons_succ, i64_w, i32_w]
          rfl
        refine one_ (i := 3) (N := some 140) #[true, true, true, true, true, true, true, false, false, false] rfl rfl (one_of HT_.out (by kernel_rfl)) (by decide) (fun K hK => ?_)
        refine goes_ Try.func14 (by kernel_rfl) rfl #[.pointer (some ⟨d, 0, none⟩), .string x2] (by rfl) rfl rfl (by (try simp only [List.map_toArray, List.map_cons, List.map_nil]); first | done | rfl) ?_
        refine (disk_Remove.calls w4 TD d st hD.out x2 y2).mono ?_
        rintro e w5 ⟨rfl, hD5, fD⟩
        refine ⟨_, rfl, ?_⟩
        have K5 := Aside0.mk (fD.keeps K4.out hbD)
        have hR5 := Aside0.mk (hR.out.frm fD (fun k _ h1 h2 => hdis k h2 h1))
        have hD5 := Aside0.mk hD5
        have fD := Aside0.mk fD
        clear K4
        refine hK.out _ _ K5.out (fun _ => ?_)
        clear hK K
        refine norm_ (a' := ?_) ?_ ?_
        rotate_left
        · show Act.put _ (some 140) _ = _
          simp only [Act.put, List.setIfInBounds_toArray, List.set_cons_zero, List.set_cons_succ, i64_w, i32_w]
          rfl
        refine one_ (i := 7) (N := some 144) #[true, true, true, true, true, true, true, true, false, false] rfl rfl (one_of HT_.out (by kernel_rfl)) (by decide) (fun K hK => ?_)
        refine goes_ Try.func22 (by kernel_rfl) rfl #[.pointer (some ⟨r, 0, none⟩), .string x2] (by rfl) rfl rfl (by (try simp only [List.map_toArray, List.map_cons, List.map_nil]); first | done | rfl) ?_
        refine (ref_Remove.calls w5 TR r st hR5.out HI.out.fuse NDP.out (Nat.le_trans HI.out.len (by omega)) x2).mono ?_
        rintro e w6 ⟨rfl, hR6, fR⟩
        refine ⟨_, rfl, ?_⟩
        have K6 := Aside0.mk (fR.keeps K5.out hbR)
        have T6 := Aside0.mk (Two.close hdis hTD hTR hO hD5.out fD.out hR6 fR)
        have F6 := Frm.two fD.out fR
        have B6 := Aside0.mk (B4.out.trans (F6.below B4.out.size (fun i _ hi => hlo i hi)))
        have AB6 := Aside0.mk (F6.keeps AB4.out (fun x => x.elim haD haR))
        clear K5 hR6 fR F6 hD5 hR5 fD hD hR B4 AB4 hO hdis hTD hTR hbD hbR haD haR hlo
        refine hK.out _ _ K6.out (fun _ => ?_)
        clear hK K
        refine norm_ (a' := ?_) ?_ ?_
        rotate_left
        · show Act.put _ (some 144) _ = _
          simp only [Act.put, List.setIfInBounds_toArray, List.set_cons_zero, List.set_cons_succ, i64_w, i32_w]
          rfl
        refine pure_ (i := 8) (N := some 145) (v := ?_) (a' := ?_) #[true, true, true, true, true, true, true, true, true, false] rfl rfl (any_of HT_.out (by kernel_rfl)) (fun _ _ _ h => h) (Or.inl ⟨by rfl, ?_⟩) ?_ ?_
        rotate_left
        · intro w'
          go_simp
          with_reducible rfl
        rotate_left
        · simp only [Act.put, List.setIfInBounds_toArray, List.set_cons_zero, List.set_cons_succ, i64_w, i32_w]
          rfl
        refine pure_ (i := 9) (N := some 14) (v := ?_) (a' := ?_) #[true, true, true, true, true, true, true, true, true, true] rfl rfl (any_of HT_.out (by kernel_rfl)) (fun _ _ _ h => h) (Or.inl ⟨by rfl, ?_⟩) ?_ ?_
        rotate_left
        · intro w'
          go_simp
          with_reducible rfl
        rotate_left
        · simp only [Act.put, List.setIfInBounds_toArray, List.set_cons_zero, List.set_cons_succ, i64_w, i32_w]
          rfl
        refine done_ (done_of HT_.out (by kernel_rfl)) ?_
        have I6 := Aside0.mk (HI.out.remove NDP.out x2)
        generalize (st.remove x2).1 = st' at I6 T6
        go_wp2_with fail
        go_meet
        case rel => exact ⟨by first | rfl | simp, ⟨st', T6.out, I6.out, B6.out, AB6.out, K6.out⟩⟩
      rcases Bool.eq_false_or_eq_true (x0 == 6) with z6 | z6
      · as_aux_lemma =>
        go_wp2_with fail
        refine region_draw (n := 14) (S := fun W => W.heap[wr.heap.size]? = some (.cells #[.int .i64 x0, .int .i64 x1, .string x2, .string x3, .string x4, .slice A5 kept.length c5] 37)) (ds := []) #[false, false, false, false, false, false, false, false, false, false, false, false, false, false] (by kernel_rfl) rfl rfl (fun W => W.heap[wr.heap.size]? = some (.cells #[.int .i64 x0, .int .i64 x1, .string x2, .string x3, .string x4, .slice A5 kept.length c5] 37) ∧ Two W d r st (fun i => i < w.heap.size + 1 ∨ i = wr.heap.size) ∧ Below w.heap.size w W ∧ W.heap[w.heap.size]? = some (.cells #[.int .i64 a0, .int .i64 a1] 44)) ⟨blk_drew (blk_new _ _), (HT.out.fresh _).drew, (HB.out.alloc HB.out.size _).drew, blk_drew (blk_alloc HAB.out _)⟩ (fun W h => h.1) ?_
        rintro w4 ⟨k4, T4, b4, ab4⟩
        refine with_tabW plays27tab plays27bits (fun HT_ HW_ => ?_)
        clear q0 q1 q2 q3 q4 q5
        obtain ⟨TD, TR, hD, hR, hdis, hTD, hTR⟩ := T4
        have K4 := Aside0.mk k4
        have hbD : ¬ TD wr.heap.size := fun x => (hTD _ x).2 (Or.inr rfl)
        have hbR : ¬ TR wr.heap.size := fun x => (hTR _ x).2 (Or.inr rfl)
        have haD : ¬ TD w.heap.size := fun x => (hTD _ x).2 (Or.inl (Nat.lt_succ_self _))
        have haR : ¬ TR w.heap.size := fun x => (hTR _ x).2 (Or.inl (Nat.lt_succ_self _))
        have hO : ∀ i, i < w.heap.size + 1 ∨ i = wr.heap.size → i < w4.heap.size := fun i hi => by
          have h1 := blk_lt k4
          have h2 := blk_lt ab4
          omega
        have hlo : ∀ i, TD i ∨ TR i → w.heap.size ≤ i := fun i hi => by
          rcases hi with hi | hi
          · have := (hTD i hi).2; omega
          · have := (hTR i hi).2; omega
        have NDP := Aside0.mk hD.nodup
        have hD := Aside0.mk hD
        have hR := Aside0.mk hR
        have B4 := Aside0.mk b4
        have AB4 := Aside0.mk ab4
        clear k4 b4 ab4
        refine pure_ (i := 0) (N := some 148) (v := ?_) (a' := ?_) #[true, false, false, false, false, false, false, false, false, false, false, false, false, false] rfl rfl (any_of HT_.out (by kernel_rfl)) (fun _ _ _ h => h) (Or.inl ⟨by rfl, ?_⟩) ?_ ?_
        rotate_left
        · intro w'
          go_simp
          with_reducible rfl
        rotate_left
        · simp only [Act.put, List.setIfInBounds_toArray, List.set_cons_zero, List.set_cons_succ, i64_w, i32_w]
          rfl
        refine pure_ (i := 1) (N := some 149) (v := ?_) (a' := ?_) #[true, true, false, false, false, false, false, false, false, false, false, false, false, false] rfl rfl (any_of HT_.out (by kernel_rfl)) (fun _ _ _ h => h) (Or.inl ⟨by rfl, ?_⟩) ?_ ?_
        rotate_left
        · intro w'
          go_simp
          with_reducible rfl
        rotate_left
        · simp only [Act.put, List.setIfInBounds_toArray, List.set_cons_zero, List.set_cons_succ, i64_w, i32_w]
          rfl
        refine pure_ (i := 3) (N := some 151) (v := ?_) (a' := ?_) #[true, true, false, true, false, false, false, false, false, false, false, false, false, false] rfl rfl (any_of HT_.out (by kernel_rfl)) (fun _ _ _ h => h) (Or.inl ⟨by rfl, ?_⟩) ?_ ?_
        rotate_left
        · intro w'
          go_simp
          with_reducible rfl
        rotate_left
        · simp only [Act.put, List.setIfInBounds_toArray, List.set_cons_zero, List.set_cons_succ, i64_w, i32_w]
          rfl
        refine pure_ (i := 6) (N := some 154) (v := ?_) (a' := ?_) #[true, true, false, true, false, false, true, false, false, false, false, false, false, false] rfl rfl (any_of HT_.out (by kernel_rfl)) (fun _ _ _ h => h) (Or.inl ⟨by rfl, ?_⟩) ?_ ?_
        rotate_left
        · intro w'
          go_simp
          with_reducible rfl
        rotate_left
        · simp only [Act.put, List.setIfInBounds_toArray, List.set_cons_zero, List.set_cons_succ, i64_w, i32_w]
          rfl
        refine pure_ (i := 7) (N := some 155) (v := ?_) (a' := ?_) #[true, true, false, true, false, false, true, true, false, false, false, false, false, false] rfl rfl (any_of HT_.out (by kernel_rfl)) (fun _ _ _ h => h) (Or.inl ⟨by rfl, ?_⟩) ?_ ?_
        rotate_left
        · intro w'
          go_simp
          with_reducible rfl
        rotate_left
        · simp only [Act.put, List.setIfInBounds_toArray, List.set_cons_zero, List.set_cons_succ, i64_w, i32_w]
          rfl
        refine pure_ (i := 9) (N := some 157) (v := ?_) (a' := ?_) #[true, true, false, true, false, false, true, true, false, true, false, false, false, false] rfl rfl (any_of HT_.out (by kernel_rfl)) (fun _ _ _ h => h) (Or.inl ⟨by rfl, ?_⟩) ?_ ?_
        rotate_left
        · intro w'
          go_simp
          with_reducible rfl
        rotate_left
        · simp only [Act.put, List.setIfInBounds_toArray, List.set_cons_zero, List.set_cons_succ, i64_w, i32_w]
          rfl
        refine take_ (i := 2) (N := some 150) (v := ?_) (a' := ?_) #[true, true, true, true, false, false, true, true, false, true, false, false, false, false] rfl rfl (take_ofW HT_.out HW_.out (by kernel_rfl)) (fun _ _ _ h => h) (Or.inl ⟨by rfl, ?_⟩) K4.out ?_ ?_
        rotate_left
        · intro w' hW
          obtain ⟨e0, e1, e2, e3, e4, e5, fr⟩ := cells6 hW
          go_simp
          with_reducible rfl
        rotate_left
        · simp only [Act.put, List.setIfInBounds_toArray, List.set_cons_zero, List.set_cons_succ, i64_w, i32_w]
          rfl
        refine take_ (i := 4) (N := some 152) (v := ?_) (a' := ?_) #[true, true, true, true, true, false, true, true, false, true, false, false, false, false] rfl rfl (take_ofW HT_.out HW_.out (by kernel_rfl)) (fun _ _ _ h => h) (Or.inl ⟨by rfl, ?_⟩) K4.out ?_ ?_
        rotate_left
        · intro w' hW
          obtain ⟨e0, e1, e2, e3, e4, e5, fr⟩ := cells6 hW
          go_simp
          with_reducible rfl
        rotate_left
        · simp only [Act.put, List.setIfInBounds_toArray, List.set_cons_zero, List.set_cons_succ, i64_w, i32_w]
          rfl
        refine take_ (i := 8) (N := some 156) (v := ?_) (a' := ?_) #[true, true, true, true, true, false, true, true, true, true, false, false, false, false] rfl rfl (take_ofW HT_.out HW_.out (by kernel_rfl)) (fun _ _ _ h => h) (Or.inl ⟨by rfl, ?_⟩) K4.out ?_ ?_
        rotate_left
        · intro w' hW
          obtain ⟨e0, e1, e2, e3, e4, e5, fr⟩ := cells6 hW
          go_simp
          with_reducible rfl
        rotate_left
        · simp only [Act.put, List.setIfInBounds_toArray, List.set_cons_zero, List.set_cons_succ, i64_w, i32_w]
          rfl
        refine take_ (i := 10) (N := some 158) (v := ?_) (a' := ?_) #[true, true, true, true, true, false, true, true, true, true, true, false, false, false] rfl rfl (take_ofW HT_.out HW_.out (by kernel_rfl)) (fun _ _ _ h => h) (Or.inl ⟨by rfl, ?_⟩) K4.out ?_ ?_
        rotate_left
        · intro w' hW
          obtain ⟨e0, e1, e2, e3, e4, e5, fr⟩ := cells6 hW
          go_simp
          with_reducible rfl
        rotate_left
        · simp only [Act.put, List.setIfInBounds_toArray, List.set_cons_zero, List.set_cons_succ, i64_w, i32_w]
          rfl
        refine one_ (i := 5) (N := some 153) #[true, true, true, true, true, true, true, true, true, true, true, false, false, false] rfl rfl (one_of HT_.out (by kernel_rfl)) (by decide) (fun K hK => ?_)
        refine goes_ Try.func15 (by kernel_rfl) rfl #[.pointer (some ⟨d, 0, none⟩), .string x2, .int .i64 x1] (by rfl) rfl rfl (by (try simp only [List.map_toArray, List.map_cons, List.map_nil]); first | done | rfl) ?_
        refine (disk_Cut.calls w4 TD d st hD.out x2 y2 x1 (fun f hf => (HI.out.good _ (look_mem hf)).2.2)).mono ?_
        rintro e w5 ⟨rfl, hD5, fD⟩
        refine ⟨_, rfl, ?_⟩
        have K5 := Aside0.mk (fD.keeps K4.out hbD)
        have hR5 := Aside0.mk (hR.out.frm fD (fun k _ h1 h2 => hdis k h2 h1))
        have hD5 := Aside0.mk hD5
        have fD := Aside0.mk fD
        clear K4
        refine hK.out _ _ K5.out (fun _ => ?_)
        clear hK K
        refine norm_ (a' := ?_) ?_ ?_
        rotate_left
        · show Act.put _ (some 153) _ = _
          simp only [Act.put, List.setIfInBounds_toArray, List.set_cons_zero, List.set_cons_succ, i64_w, i32_w]
          rfl
        refine one_ (i := 11) (N := some 159) #[true, true, true, true, true, true, true, true, true, true, true, true, false, false] rfl rfl (one_of HT_.out (by kernel_rfl)) (by decide) (fun K hK => ?_)
        refine goes_ Try.func23 (by kernel_rfl) rfl #[.pointer (some ⟨r, 0, none⟩), .string x2, .int .i64 x1] (by rfl) rfl rfl (by (try simp only [List.map_toArray, List.map_cons, List.map_nil]); first | done | rfl) ?_
        refine (ref_Cut.calls w5 TR r st hR5.out HI.out.fuse NDP.out (Nat.le_trans HI.out.len (by omega)) (fun p hp => (HI.out.good p hp).2.2) x2 x1).mono ?_
        rintro e w6 ⟨rfl, hR6, fR⟩
        refine ⟨_, rfl, ?_⟩
        have K6 := Aside0.mk (fR.keeps K5.out hbR)
        have T6 := Aside0.mk (Two.close hdis hTD hTR hO hD5.out fD.out hR6 fR)
        have F6 := Frm.two fD.out fR
        have B6 := Aside0.mk (B4.out.trans (F6.below B4.out.size (fun i _ hi => hlo i hi)))
        have AB6 := Aside0.mk (F6.keeps AB4.out (fun x => x.elim haD haR))
        clear K5 hR6 fR F6 hD5 hR5 fD hD hR B4 AB4 hO hdis hTD hTR hbD hbR haD haR hlo
        refine hK.out _ _ K6.out (fun _ => ?_)
        clear hK K
        refine norm_ (a' := ?_) ?_ ?_
        rotate_left
        · show Act.put _ (some 159) _ = _
          simp only [Act.put, List.setIfInBounds_toArray, List.set_cons_zero, List.set_cons_succ, i64_w, i32_w]
          rfl
        refine pure_ (i := 12) (N := some 160) (v := ?_) (a' := ?_) #[true, true, true, true, true, true, true, true, true, true, true, true, true, false] rfl rfl (any_of HT_.out (by kernel_rfl)) (fun _ _ _ h => h) (Or.inl ⟨by rfl, ?_⟩) ?_ ?_
        rotate_left
        · intro w'
          go_simp
          with_reducible rfl
        rotate_left
        · simp only [Act.put, List.setIfInBounds_toArray, List.set_cons_zero, List.set_cons_succ, i64_w, i32_w]
          rfl
        refine pure_ (i := 13) (N := some 14) (v := ?_) (a' := ?_) #[true, true, true, true, true, true, true, true, true, true, true, true, true, true] rfl rfl (any_of HT_.out (by kernel_rfl)) (fun _ _ _ h => h) (Or.inl ⟨by rfl, ?_⟩) ?_ ?_
        rotate_left
        · intro w'
          go_simp
          with_reducible rfl
        rotate_left
        · simp only [Act.put, List.setIfInBounds_toArray, List.set_cons_zero, List.set_cons_succ, i64_w, i32_w]
          rfl
        refine done_ (done_of HT_.out (by kernel_rfl)) ?_
        have I6 := Aside0.mk (HI.out.cut NDP.out x2 x1)
        generalize (st.cut x2 x1).1 = st' at I6 T6
        go_wp2_with fail
        go_meet
        case rel => exact ⟨by first | rfl | simp, ⟨st', T6.out, I6.out, B6.out, AB6.out, K6.out⟩⟩
      rcases Bool.eq_false_or_eq_true (x0 == 7) with z7 | z7
      · as_aux_lemma =>
        have T4 := Aside0.mk (HT.out.fresh (.cells #[.int .i64 x0, .int .i64 x1, .string x2, .string x3, .string x4, .slice A5 kept.length c5] 37))
        have AB4 := Aside0.mk (blk_alloc HAB.out (.cells #[.int .i64 x0, .int .i64 x1, .string x2, .string x3, .string x4, .slice A5 kept.length c5] 37))
        have B4 := Aside0.mk (HB.out.alloc HB.out.size (.cells #[.int .i64 x0, .int .i64 x1, .string x2, .string x3, .string x4, .slice A5 kept.length c5] 37))
        have K4 := Aside0.mk (blk_new wr (.cells #[.int .i64 x0, .int .i64 x1, .string x2, .string x3, .string x4, .slice A5 kept.length c5] 37))
        clear q0 q1 q2 q3 q4 q5
        go_wp2_with fail
        have NDP := Aside0.mk T4.out.nodup
        obtain ⟨TD, TR, hD, hR, hdis, hTD, hTR⟩ := T4.out
        have hO : ∀ i, i < w.heap.size + 1 ∨ i = wr.heap.size → i < (wr.alloc (.cells #[.int .i64 x0, .int .i64 x1, .string x2, .string x3, .string x4, .slice A5 kept.length c5] 37)).heap.size := fun i hi => by
          have h1 := blk_lt K4.out
          have h2 := blk_lt AB4.out
          omega
        have hbD : ¬ TD wr.heap.size := fun x => (hTD _ x).2 (Or.inr rfl)
        have hbR : ¬ TR wr.heap.size := fun x => (hTR _ x).2 (Or.inr rfl)
        have haD : ¬ TD w.heap.size := fun x => (hTD _ x).2 (Or.inl (Nat.lt_succ_self _))
        have haR : ¬ TR w.heap.size := fun x => (hTR _ x).2 (Or.inl (Nat.lt_succ_self _))
        have hlo : ∀ i, TD i ∨ TR i → w.heap.size ≤ i := fun i hi => by
          rcases hi with hi | hi
          · have := (hTD i hi).2; omega
          · have := (hTR i hi).2; omega
        have hD := Aside0.mk hD
        have hR := Aside0.mk hR
        have hO := Aside0.mk hO
        have hdis := Aside0.mk hdis
        have hTD := Aside0.mk hTD
        have hTR := Aside0.mk hTR
        have hlo := Aside0.mk hlo
        refine (disk_Fuse.calls _ TD d st hD.out x1).mono ?_
        rintro e w5 ⟨rfl, hD5, fD⟩
        have K5 := Aside0.mk (fD.keeps K4.out hbD)
        have hR5 := Aside0.mk (hR.out.frm fD (fun k _ h1 h2 => hdis.out k h2 h1))
        have hD5 := Aside0.mk hD5
        have fD := Aside0.mk fD
        obtain ⟨e0, e1, e2, e3, e4, e5, fr⟩ := cells6 K5.out
        go_wp2_with fail
        refine (ref_Fuse.calls w5 TR r st hR5.out x1).mono ?_
        rintro e w6 ⟨rfl, hR6, fR⟩
        have K6 := Aside0.mk (fR.keeps K5.out hbR)
        have T6 := Aside0.mk (Two.close hdis.out hTD.out hTR.out hO.out (hD5.out.mono fun k _ hk => Or.inl hk) fD.out (hR6.mono fun k _ hk => Or.inl hk) fR)
        have F6 := Frm.two fD.out fR
        have B6 := Aside0.mk (B4.out.trans (F6.below B4.out.size (fun i _ hi => hlo.out i hi)))
        have AB6 := Aside0.mk (F6.keeps AB4.out (fun x => x.elim haD haR))
        have I6 := Aside0.mk (HI.out.setFuse y1)
        clear K5 hR6 fR F6 hD5 hR5 fD hD hR B4 AB4 hO hdis hTD hTR hbD hbR haD haR hlo K4 T4 e0 e1 e2 e3 e4 e5 fr
        obtain ⟨st', hst⟩ : ∃ st', ({ st with fuse := mx x1 (-1) } : Dsk) = st' := ⟨_, rfl⟩
        rw [hst] at I6 T6
        clear hst
        go_wp2_with fail
        go_meet
        case rel => exact ⟨by first | rfl | simp, ⟨st', T6.out, I6.out, B6.out, AB6.out, K6.out⟩⟩
      as_aux_lemma =>
      have T4 := Aside0.mk (HT.out.fresh (.cells #[.int .i64 x0, .int .i64 x1, .string x2, .string x3, .string x4, .slice A5 kept.length c5] 37))
      have AB4 := Aside0.mk (blk_alloc HAB.out (.cells #[.int .i64 x0, .int .i64 x1, .string x2, .string x3, .string x4, .slice A5 kept.length c5] 37))
      have B4 := Aside0.mk (HB.out.alloc HB.out.size (.cells #[.int .i64 x0, .int .i64 x1, .string x2, .string x3, .string x4, .slice A5 kept.length c5] 37))
      have K4 := Aside0.mk (blk_new wr (.cells #[.int .i64 x0, .int .i64 x1, .string x2, .string x3, .string x4, .slice A5 kept.length c5] 37))
      clear q0 q1 q2 q3 q4 q5
      go_wp2_with fail
      have NDP := Aside0.mk T4.out.nodup
      obtain ⟨TD, TR, hD, hR, hdis, hTD, hTR⟩ := T4.out
      have hO : ∀ i, i < w.heap.size + 1 ∨ i = wr.heap.size → i < (wr.alloc (.cells #[.int .i64 x0, .int .i64 x1, .string x2, .string x3, .string x4, .slice A5 kept.length c5] 37)).heap.size := fun i hi => by
        have h1 := blk_lt K4.out
        have h2 := blk_lt AB4.out
        omega
      have hbD : ¬ TD wr.heap.size := fun x => (hTD _ x).2 (Or.inr rfl)
      have hbR : ¬ TR wr.heap.size := fun x => (hTR _ x).2 (Or.inr rfl)
      have haD : ¬ TD w.heap.size := fun x => (hTD _ x).2 (Or.inl (Nat.lt_succ_self _))
      have haR : ¬ TR w.heap.size := fun x => (hTR _ x).2 (Or.inl (Nat.lt_succ_self _))
      have hlo : ∀ i, TD i ∨ TR i → w.heap.size ≤ i := fun i hi => by
        rcases hi with hi | hi
        · have := (hTD i hi).2; omega
        · have := (hTR i hi).2; omega
      have hD := Aside0.mk hD
      have hR := Aside0.mk hR
      have hO := Aside0.mk hO
      have hdis := Aside0.mk hdis
      have hTD := Aside0.mk hTD
      have hTR := Aside0.mk hTR
      have hlo := Aside0.mk hlo
      refine (disk_Crash.calls _ TD d st hD.out (fun i hi => (hTD.out i hi).1) (Nat.le_trans HI.out.len (by omega)) HI.out.good (fun s hs => HI.out.nameSz hs) A5 c5 kept (fun W hf => kept_frm HC5.out B4.out hf (fun i hi => hlo.out i (Or.inl hi))) hc5).mono ?_
      rintro e w5 ⟨rfl, hD5, fD⟩
      have K5 := Aside0.mk (fD.keeps K4.out hbD)
      have hR5 := Aside0.mk (hR.out.frm fD (fun k _ h1 h2 => hdis.out k h2 h1))
      have hD5 := Aside0.mk hD5
      have fD := Aside0.mk fD
      obtain ⟨e0, e1, e2, e3, e4, e5, fr⟩ := cells6 K5.out
      go_wp2_with fail
      refine (ref_Crash.calls w5 TR r st hR5.out NDP.out (Nat.le_trans HI.out.len (by omega)) HI.out.good A5 c5 kept (kept_frm HC5.out B4.out fD.out (fun i hi => hlo.out i (Or.inl hi))) hc5).mono ?_
      rintro e w6 ⟨rfl, hR6, fR⟩
      have K6 := Aside0.mk (fR.keeps K5.out hbR)
      have T6 := Aside0.mk (Two.close hdis.out hTD.out hTR.out hO.out (hD5.out.mono fun k _ hk => Or.inl hk) fD.out hR6 fR)
      have F6 := Frm.two fD.out fR
      have B6 := Aside0.mk (B4.out.trans (F6.below B4.out.size (fun i _ hi => hlo.out i hi)))
      have AB6 := Aside0.mk (F6.keeps AB4.out (fun x => x.elim haD haR))
      have I6 := Aside0.mk (HI.out.crash NDP.out kept)
      clear K5 hR6 fR F6 hD5 hR5 fD hD hR B4 AB4 hO hdis hTD hTR hbD hbR haD haR hlo K4 T4 e0 e1 e2 e3 e4 e5 fr
      obtain ⟨st', hst⟩ : ∃ st', st.crash kept = st' := ⟨_, rfl⟩
      rw [hst] at I6 T6
      clear hst
      go_wp2_with fail
      go_meet
      case rel => exact ⟨by first | rfl | simp, ⟨st', T6.out, I6.out, B6.out, AB6.out, K6.out⟩⟩
    case rest =>
     as_aux_lemma =>
      obtain ⟨rfl, HP⟩ := hcut
      obtain ⟨st', hT, hI, hB6, hAB6, hK6⟩ := HP.out
      clear HP
      have HT6 := Aside0.mk hT
      have HI6 := Aside0.mk hI
      have HB6 := Aside0.mk hB6
      have HAB6 := Aside0.mk hAB6
      have HK6 := Aside0.mk hK6
      obtain ⟨TD, TR, hD, hR, hdis, hTD, hTR⟩ := hT
      have ND := Aside0.mk hD.nodup
      have HD := Aside0.mk hD
      have HRf := Aside0.mk hR
      have hlen : st'.m.length ≤ 81 := Nat.le_trans hI.len (by omega)
      have hnl : (names st'.m).length ≤ 81 := by rw [names_length]; exact hlen
      have hll : st'.m.length ≤ 1000000 := by omega
      have HROOM := Aside0.mk hI.hroom
      clear hI hB6 hAB6 hK6 hD hR hdis hTD hTR
      go_wp2_with fail
      refine (disk_List.calls wc TD d st' HD.out hll).mono ?_
      rintro e w7 ⟨v7, rfl, hN, b7⟩
      obtain ⟨A7, c7, rfl, hc7, hC7⟩ := Kd.R_reads hN
      have HC7 := Aside0.mk hC7
      have B7 := Aside0.mk b7
      clear hN hC7 b7
      go_wp2_with fail
      refine (ref_List.calls w7 TR r st' (HRf.out.below B7.out) hll).mono ?_
      rintro e w8 ⟨v8, rfl, hN, b8⟩
      obtain ⟨A8, c8, rfl, hc8, hC8⟩ := Kd.R_reads hN
      have HC8 := Aside0.mk hC8
      have B8 := Aside0.mk (B7.out.trans (b8.mono B7.out.size))
      have HC78 := Aside0.mk (Kd.C_below HC7.out b8)
      have B78 := Aside0.mk b8
      clear hN hC8 b8
      go_wp2_with fail
      refine (ref_Strings.calls w8 A7 A8 c7 c8 _ HC78.out hc7 HC8.out hc8 (by omega)).mono ?_
      rintro e w9 ⟨rfl, b9⟩
      have B9 := Aside0.mk (B8.out.trans (b9.mono B8.out.size))
      have HC9 := Aside0.mk (Kd.C_below HC78.out b9)
      clear b9 HC8 HC78 B78
      have hx9 := blk_below HK6.out B9.out
      have ha9 := blk_below HAB6.out B9.out
      obtain ⟨e0, e1, e2, e3, e4, e5, fr⟩ := cells6 hx9
      obtain ⟨a0', a1', ar⟩ := cells2' ha9
      have HX9 := Aside0.mk hx9
      have HA9 := Aside0.mk ha9
      clear hx9 ha9
      go_wp2_with fail
      refine (disk_Read.calls w9 TD d st' (HD.out.below B9.out) x2 y2 a0 a1 (fun f hf => (HI6.out.good _ (look_mem hf)).2.2)).mono ?_
      rintro e w10 ⟨rfl, b10⟩
      have hx10 := blk_below HX9.out b10
      have ha10 := blk_below HA9.out b10
      have B10 := Aside0.mk (B9.out.trans (b10.mono B9.out.size))
      have HC10 := Aside0.mk (Kd.C_below HC9.out b10)
      clear b10 e0 e1 e2 e3 e4 e5 fr a0' a1' ar HX9 HA9 HC9
      obtain ⟨e0, e1, e2, e3, e4, e5, fr⟩ := cells6 hx10
      obtain ⟨a0', a1', ar⟩ := cells2' ha10
      clear hx10 ha10
      go_wp2_with fail
      refine (ref_Read.calls w10 TR r st' (HRf.out.below B10.out) hll ND.out (fun p hp => (HI6.out.good p hp).2.2) x2 a0 a1).mono ?_
      rintro e w11 ⟨rfl, b11⟩
      have B11 := Aside0.mk (B10.out.trans (b11.mono B10.out.size))
      have HC11 := Aside0.mk (Kd.C_below HC10.out b11)
      clear b11 e0 e1 e2 e3 e4 e5 fr a0' a1' ar HC10
      generalize st'.read x2 a0 a1 = rd
      obtain ⟨rd1, rd2⟩ := rd
      simp only
      have hr3 := HR.out
      have hle := HI6.out.left hr3.2
      have hro := HROOM.out
      obtain ⟨lf, hlf⟩ : ∃ lf, st'.left = lf := ⟨_, rfl⟩
      rw [hlf] at hle
      have HLF := Aside0.mk hlf
      have HLE := Aside0.mk (show st'.room - total st'.m = lf by omega)
      have HRR := Aside0.mk (show st'.room ≤ 1048576 by omega)
      have HRT := Aside0.mk (show total st'.m ≤ st'.room by have := HI6.out.tot; omega)
      have HRI := Aside0.mk (show -9223372036854775808 ≤ st'.room ∧ st'.room ≤ 9223372036854775807 by omega)
      clear hlf hle hro hr3
      go_wp2_with fail
      refine (disk_Left.calls w11 TD d st' (HD.out.below B11.out) HRI.out).mono ?_
      rintro e w12 ⟨rfl, b12⟩
      have B12 := Aside0.mk (B11.out.trans (b12.mono B11.out.size))
      have HC12 := Aside0.mk (Kd.C_below HC11.out b12)
      clear b12 HC11
      rw [HLF.out]
      go_wp2_with fail
      refine (ref_Left.calls w12 TR r st' (HRf.out.below B12.out) hll ND.out HRR.out HRT.out).mono ?_
      rintro e w13 ⟨rfl, b13⟩
      have B13 := Aside0.mk (B12.out.trans (b13.mono B12.out.size))
      have HC13 := Aside0.mk (Kd.C_below HC12.out b13)
      clear b13 HC12
      rw [HLE.out]
      go_wp2_with fail
      go_loopw [21] (fun v21 wq => ∃ j : Nat, j ≤ (names st'.m).length ∧ v21 = .int .i64 j ∧ Aside0 (Below w13.heap.size w13 wq)) (fun v21 _ => (names st'.m).length - (intOf v21).toNat)
      case atStart => exact ⟨0, Nat.zero_le _, rfl, ⟨Below.refl _ _⟩⟩
      case round =>
        obtain ⟨j, hj, rfl, HQ⟩ := hrel
        by_cases hjn : j < (names st'.m).length
        · obtain ⟨ad2, rfl, qs⟩ := C_str (Kd.C_below HC13.out HQ.out) hjn
          have hmem : (names st'.m)[j] ∈ names st'.m := List.getElem_mem hjn
          have hsz := size_in ND.out hmem
          have hks : (names st'.m)[j].size ≤ 9223372036854775807 := HI6.out.nameSz hmem
          have hrl : (refL st'.m).length = (names st'.m).length := by simp [refL]
          have hrj := rdR_at (L := refL st'.m) (i := j) (by rw [hrl]; exact hjn)
          have hrv : (refL st'.m)[j]'(by rw [hrl]; exact hjn) = ⟨(names st'.m)[j], (fileIn st'.m (names st'.m)[j]).b, (fileIn st'.m (names st'.m)[j]).sure⟩ := by simp [refL]
          rw [hrv] at hrj
          have BQ := Aside0.mk (B13.out.trans (HQ.out.mono B13.out.size))
          generalize (names st'.m)[j] = s at qs hmem hsz hks hrj
          have HS1 := Aside0.mk hsz
          have HRJ := Aside0.mk hrj
          have HRL := Aside0.mk hrl
          have djn : decide ((j : Int) < ((names st'.m).length : Int)) = true := decide_eq_true (by omega)
          have p0 : 0 ≤ (j : Int) := by omega
          have QS0 := Aside0.mk qs
          clear hsz hrv hrj hrl hmem
          go_wp2_with fail
          refine (disk_Size.calls wr TD d st' (HD.out.below BQ.out) s hks).mono ?_
          rintro e w15 ⟨rfl, b15⟩
          have B15 := Aside0.mk (BQ.out.trans (b15.mono BQ.out.size))
          have Q15 := Aside0.mk (HQ.out.trans (b15.mono HQ.out.size))
          replace qs := pw_cell_below b15 qs
          clear b15
          rw [HS1.out]
          simp only
          go_wp2_with fail
          refine (ref_Size.calls w15 TR r st' (HRf.out.below B15.out) hll ND.out s).mono ?_
          rintro e w16 ⟨rfl, b16⟩
          have B16 := Aside0.mk (B15.out.trans (b16.mono B15.out.size))
          have Q16 := Aside0.mk (Q15.out.trans (b16.mono Q15.out.size))
          replace qs := pw_cell_below b16 qs
          clear b16
          rw [HS1.out]
          simp only
          go_wp2_with fail
          obtain ⟨_, v0, hb2, hR2⟩ := HRf.out.below B16.out
          obtain ⟨A2, c2, rfl, hcc2, hC2⟩ := Kd.R_reads hR2
          obtain ⟨ad3, rfl, g0, g1, g2⟩ := Ref.at_T53 hC2 (j : Int) p0 (by rw [HRL.out]; omega)
          have e3 := HRJ.out
          unfold rdR at e3
          rw [e3] at g1
          simp only [Int.toNat_natCast] at g1
          have QS := Aside0.mk qs
          have G1 := Aside0.mk g1
          have HB2 := Aside0.mk hb2
          have D16 := Aside0.mk (HD.out.below B16.out)
          have p1 : (j : Int) < ((refL st'.m).length : Int) := by rw [HRL.out]; omega
          have p2 : (j : Int) < ((names st'.m).length : Int) := by omega
          clear qs hb2 hR2 hC2 g0 g1 g2 e3 QS0
          refine region_draw (n := 25) (S := fun W => W.cell? (ad2.add j) = some (.string s) ∧ W.heap[r]? = some (.cells #[.int .i64 st'.room, .slice (some ad3) (refL st'.m).length c2, .int .i64 st'.fuse, .bool st'.down] 56) ∧ W.cell? ⟨(ad3.add (j * 3)).block, (ad3.add (j * 3)).off + 1, none⟩ = some (.string (fileIn st'.m s).b)) (ds := []) #[false, false, false, false, false, false, false, false, false, false, false, false, false, false, false, false, false, false, false, false, false, false, false, false, false] (by kernel_rfl) rfl rfl (fun W => (W.cell? (ad2.add j) = some (.string s) ∧ W.heap[r]? = some (.cells #[.int .i64 st'.room, .slice (some ad3) (refL st'.m).length c2, .int .i64 st'.fuse, .bool st'.down] 56) ∧ W.cell? ⟨(ad3.add (j * 3)).block, (ad3.add (j * 3)).off + 1, none⟩ = some (.string (fileIn st'.m s).b)) ∧ DskAt W TD d st' ∧ Below w16.heap.size w16 W) ⟨⟨QS.out, HB2.out, G1.out⟩, D16.out.drew, (Below.refl _ _).drew⟩ (fun W h => h.1) ?_
          rintro w17 ⟨S17, D17, b17⟩
          refine with_tabW plays42tab plays42bits (fun HT_ HW_ => ?_)
          have K17 := Aside0.mk S17
          have D17 := Aside0.mk D17
          have B17 := Aside0.mk b17
          clear S17 b17
          refine pure_ (i := 0) (N := some 246) (v := ?_) (a' := ?_) #[true, false, false, false, false, false, false, false, false, false, false, false, false, false, false, false, false, false, false, false, false, false, false, false, false] rfl rfl (any_of HT_.out (by kernel_rfl)) (fun _ _ _ h => h) (Or.inl ⟨by rfl, ?_⟩) ?_ ?_
          rotate_left
          · intro w'
            go_simp
            with_reducible rfl
          rotate_left
          · simp only [Act.put, List.setIfInBounds_toArray, List.set_cons_zero, List.set_cons_succ, i64_w, i32_w]
            rfl
          refine pure_ (i := 1) (N := some 247) (v := ?_) (a' := ?_) #[true, true, false, false, false, false, false, false, false, false, false, false, false, false, false, false, false, false, false, false, false, false, false, false, false] rfl rfl (any_of HT_.out (by kernel_rfl)) (fun _ _ _ h => h) (Or.inl ⟨by rfl, ?_⟩) ?_ ?_
          rotate_left
          · intro w'
            go_simp
            with_reducible rfl
          rotate_left
          · simp only [Act.put, List.setIfInBounds_toArray, List.set_cons_zero, List.set_cons_succ, i64_w, i32_w]
            rfl
          refine pure_ (i := 2) (N := some 248) (v := ?_) (a' := ?_) #[true, true, true, false, false, false, false, false, false, false, false, false, false, false, false, false, false, false, false, false, false, false, false, false, false] rfl rfl (any_of HT_.out (by kernel_rfl)) (fun _ _ _ h => h) (Or.inl ⟨by rfl, ?_⟩) ?_ ?_
          rotate_left
          · intro w'
            go_simp
            with_reducible rfl
          rotate_left
          · simp only [Act.put, List.setIfInBounds_toArray, List.set_cons_zero, List.set_cons_succ, i64_w, i32_w]
            rfl
          refine pure_ (i := 3) (N := some 249) (v := ?_) (a' := ?_) #[true, true, true, true, false, false, false, false, false, false, false, false, false, false, false, false, false, false, false, false, false, false, false, false, false] rfl rfl (any_of HT_.out (by kernel_rfl)) (fun _ _ _ h => h) (Or.inl ⟨by rfl, ?_⟩) ?_ ?_
          rotate_left
          · intro w'
            go_simp
            with_reducible rfl
          rotate_left
          · simp only [Act.put, List.setIfInBounds_toArray, List.set_cons_zero, List.set_cons_succ, i64_w, i32_w]
            rfl
          refine pure_ (i := 4) (N := some 250) (v := ?_) (a' := ?_) #[true, true, true, true, true, false, false, false, false, false, false, false, false, false, false, false, false, false, false, false, false, false, false, false, false] rfl rfl (any_of HT_.out (by kernel_rfl)) (fun _ _ _ h => h) (Or.inl ⟨by rfl, ?_⟩) ?_ ?_
          rotate_left
          · intro w'
            go_simp
            with_reducible rfl
          rotate_left
          · simp only [Act.put, List.setIfInBounds_toArray, List.set_cons_zero, List.set_cons_succ, i64_w, i32_w]
            rfl
          refine pure_ (i := 5) (N := some 251) (v := ?_) (a' := ?_) #[true, true, true, true, true, true, false, false, false, false, false, false, false, false, false, false, false, false, false, false, false, false, false, false, false] rfl rfl (any_of HT_.out (by kernel_rfl)) (fun _ _ _ h => h) (Or.inl ⟨by rfl, ?_⟩) ?_ ?_
          rotate_left
          · intro w'
            go_simp
            with_reducible rfl
          rotate_left
          · simp only [Act.put, List.setIfInBounds_toArray, List.set_cons_zero, List.set_cons_succ, i64_w, i32_w]
            rfl
          refine pure_ (i := 6) (N := some 252) (v := ?_) (a' := ?_) #[true, true, true, true, true, true, true, false, false, false, false, false, false, false, false, false, false, false, false, false, false, false, false, false, false] rfl rfl (any_of HT_.out (by kernel_rfl)) (fun _ _ _ h => h) (Or.inl ⟨by rfl, ?_⟩) ?_ ?_
          rotate_left
          · intro w'
            go_simp
            with_reducible rfl
          rotate_left
          · simp only [Act.put, List.setIfInBounds_toArray, List.set_cons_zero, List.set_cons_succ, i64_w, i32_w]
            rfl
          refine pure_ (i := 7) (N := some 253) (v := ?_) (a' := ?_) #[true, true, true, true, true, true, true, true, false, false, false, false, false, false, false, false, false, false, false, false, false, false, false, false, false] rfl rfl (any_of HT_.out (by kernel_rfl)) (fun _ _ _ h => h) (Or.inl ⟨by rfl, ?_⟩) ?_ ?_
          rotate_left
          · intro w'
            go_simp
            with_reducible rfl
          rotate_left
          · simp only [Act.put, List.setIfInBounds_toArray, List.set_cons_zero, List.set_cons_succ, i64_w, i32_w]
            rfl
          refine pure_ (i := 8) (N := some 254) (v := ?_) (a' := ?_) #[true, true, true, true, true, true, true, true, true, false, false, false, false, false, false, false, false, false, false, false, false, false, false, false, false] rfl rfl (any_of HT_.out (by kernel_rfl)) (fun _ _ _ h => h) (Or.inl ⟨by rfl, ?_⟩) ?_ ?_
          rotate_left
          · intro w'
            go_simp
            with_reducible rfl
          rotate_left
          · simp only [Act.put, List.setIfInBounds_toArray, List.set_cons_zero, List.set_cons_succ, i64_w, i32_w]
            rfl
          refine pure_ (i := 9) (N := some 255) (v := ?_) (a' := ?_) #[true, true, true, true, true, true, true, true, true, true, false, false, false, false, false, false, false, false, false, false, false, false, false, false, false] rfl rfl (any_of HT_.out (by kernel_rfl)) (fun _ _ _ h => h) (Or.inl ⟨by rfl, ?_⟩) ?_ ?_
          rotate_left
          · intro w'
            go_simp
            with_reducible rfl
          rotate_left
          · simp only [Act.put, List.setIfInBounds_toArray, List.set_cons_zero, List.set_cons_succ, i64_w, i32_w]
            rfl
          refine pure_ (i := 10) (N := some 256) (v := ?_) (a' := ?_) #[true, true, true, true, true, true, true, true, true, true, true, false, false, false, false, false, false, false, false, false, false, false, false, false, false] rfl rfl (any_of HT_.out (by kernel_rfl)) (fun _ _ _ h => h) (Or.inl ⟨by rfl, ?_⟩) ?_ ?_
          rotate_left
          · intro w'
            go_simp
            with_reducible rfl
          rotate_left
          · simp only [Act.put, List.setIfInBounds_toArray, List.set_cons_zero, List.set_cons_succ, i64_w, i32_w]
            rfl
          refine pure_ (i := 11) (N := some 257) (v := ?_) (a' := ?_) #[true, true, true, true, true, true, true, true, true, true, true, true, false, false, false, false, false, false, false, false, false, false, false, false, false] rfl rfl (any_of HT_.out (by kernel_rfl)) (fun _ _ _ h => h) (Or.inl ⟨by rfl, ?_⟩) ?_ ?_
          rotate_left
          · intro w'
            go_simp
            with_reducible rfl
          rotate_left
          · simp only [Act.put, List.setIfInBounds_toArray, List.set_cons_zero, List.set_cons_succ, i64_w, i32_w]
            rfl
          refine pure_ (i := 12) (N := some 258) (v := ?_) (a' := ?_) #[true, true, true, true, true, true, true, true, true, true, true, true, true, false, false, false, false, false, false, false, false, false, false, false, false] rfl rfl (any_of HT_.out (by kernel_rfl)) (fun _ _ _ h => h) (Or.inl ⟨by rfl, ?_⟩) ?_ ?_
          rotate_left
          · intro w'
            go_simp
            with_reducible rfl
          rotate_left
          · simp only [Act.put, List.setIfInBounds_toArray, List.set_cons_zero, List.set_cons_succ, i64_w, i32_w]
            rfl
          refine pure_ (i := 15) (N := some 261) (v := ?_) (a' := ?_) #[true, true, true, true, true, true, true, true, true, true, true, true, true, false, false, true, false, false, false, false, false, false, false, false, false] rfl rfl (any_of HT_.out (by kernel_rfl)) (fun _ _ _ h => h) (Or.inl ⟨by rfl, ?_⟩) ?_ ?_
          rotate_left
          · intro w'
            go_simp
            with_reducible rfl
          rotate_left
          · simp only [Act.put, List.setIfInBounds_toArray, List.set_cons_zero, List.set_cons_succ, i64_w, i32_w]
            rfl
          refine pure_ (i := 16) (N := some 262) (v := ?_) (a' := ?_) #[true, true, true, true, true, true, true, true, true, true, true, true, true, false, false, true, true, false, false, false, false, false, false, false, false] rfl rfl (any_of HT_.out (by kernel_rfl)) (fun _ _ _ h => h) (Or.inl ⟨by rfl, ?_⟩) ?_ ?_
          rotate_left
          · intro w'
            go_simp
            with_reducible rfl
          rotate_left
          · simp only [Act.put, List.setIfInBounds_toArray, List.set_cons_zero, List.set_cons_succ, i64_w, i32_w]
            rfl
          refine pure_ (i := 17) (N := some 263) (v := ?_) (a' := ?_) #[true, true, true, true, true, true, true, true, true, true, true, true, true, false, false, true, true, true, false, false, false, false, false, false, false] rfl rfl (any_of HT_.out (by kernel_rfl)) (fun _ _ _ h => h) (Or.inl ⟨by rfl, ?_⟩) ?_ ?_
          rotate_left
          · intro w'
            go_simp
            with_reducible rfl
          rotate_left
          · simp only [Act.put, List.setIfInBounds_toArray, List.set_cons_zero, List.set_cons_succ, i64_w, i32_w]
            rfl
          refine pure_ (i := 19) (N := some 265) (v := ?_) (a' := ?_) #[true, true, true, true, true, true, true, true, true, true, true, true, true, false, false, true, true, true, false, true, false, false, false, false, false] rfl rfl (any_of HT_.out (by kernel_rfl)) (fun _ _ _ h => h) (Or.inl ⟨by rfl, ?_⟩) ?_ ?_
          rotate_left
          · intro w'
            go_simp
            with_reducible rfl
          rotate_left
          · simp only [Act.put, List.setIfInBounds_toArray, List.set_cons_zero, List.set_cons_succ, i64_w, i32_w]
            rfl
          refine take_ (i := 13) (N := some 259) (v := ?_) (a' := ?_) #[true, true, true, true, true, true, true, true, true, true, true, true, true, true, false, true, true, true, false, true, false, false, false, false, false] rfl rfl (take_ofW HT_.out HW_.out (by kernel_rfl)) (fun _ _ _ h => h) (Or.inl ⟨by rfl, ?_⟩) K17.out ?_ ?_
          rotate_left
          · intro w' hW
            obtain ⟨h1, h2, h3⟩ := hW
            go_simp
            with_reducible rfl
          rotate_left
          · simp only [Act.put, List.setIfInBounds_toArray, List.set_cons_zero, List.set_cons_succ, i64_w, i32_w]
            rfl
          refine take_ (i := 18) (N := some 264) (v := ?_) (a' := ?_) #[true, true, true, true, true, true, true, true, true, true, true, true, true, true, false, true, true, true, true, true, false, false, false, false, false] rfl rfl (take_ofW HT_.out HW_.out (by kernel_rfl)) (fun _ _ _ h => h) (Or.inl ⟨by rfl, ?_⟩) K17.out ?_ ?_
          rotate_left
          · intro w' hW
            obtain ⟨h1, h2, h3⟩ := hW
            obtain ⟨e0, e1, e2, e3, fr⟩ := cells4 h2
            go_simp
            with_reducible rfl
          rotate_left
          · simp only [Act.put, List.setIfInBounds_toArray, List.set_cons_zero, List.set_cons_succ, i64_w, i32_w]
            rfl
          refine pure_ (i := 20) (N := some 266) (v := ?_) (a' := ?_) #[true, true, true, true, true, true, true, true, true, true, true, true, true, true, false, true, true, true, true, true, true, false, false, false, false] rfl rfl (any_of HT_.out (by kernel_rfl)) (fun _ _ _ h => h) (Or.inl ⟨by rfl, ?_⟩) ?_ ?_
          rotate_left
          · intro w'
            go_simp
            with_reducible rfl
          rotate_left
          · simp only [Act.put, List.setIfInBounds_toArray, List.set_cons_zero, List.set_cons_succ, i64_w, i32_w]
            rfl
          refine pure_ (i := 21) (N := some 267) (v := ?_) (a' := ?_) #[true, true, true, true, true, true, true, true, true, true, true, true, true, true, false, true, true, true, true, true, true, true, false, false, false] rfl rfl (any_of HT_.out (by kernel_rfl)) (fun _ _ _ h => h) (Or.inl ⟨by rfl, ?_⟩) ?_ ?_
          rotate_left
          · intro w'
            go_simp
            with_reducible rfl
          rotate_left
          · simp only [Act.put, List.setIfInBounds_toArray, List.set_cons_zero, List.set_cons_succ, i64_w, i32_w]
            rfl
          refine take_ (i := 22) (N := some 268) (v := ?_) (a' := ?_) #[true, true, true, true, true, true, true, true, true, true, true, true, true, true, false, true, true, true, true, true, true, true, true, false, false] rfl rfl (take_ofW HT_.out HW_.out (by kernel_rfl)) (fun _ _ _ h => h) (Or.inl ⟨by rfl, ?_⟩) K17.out ?_ ?_
          rotate_left
          · intro w' hW
            obtain ⟨h1, h2, h3⟩ := hW
            go_simp
            with_reducible rfl
          rotate_left
          · simp only [Act.put, List.setIfInBounds_toArray, List.set_cons_zero, List.set_cons_succ, i64_w, i32_w]
            rfl
          refine one_ (i := 14) (N := some 260) #[true, true, true, true, true, true, true, true, true, true, true, true, true, true, true, true, true, true, true, true, true, true, true, false, false] rfl rfl (one_of HT_.out (by kernel_rfl)) (by decide) (fun K hK => ?_)
          refine goes_ Try.func11 (by kernel_rfl) rfl #[.pointer (some ⟨d, 0, none⟩), .string s] (by rfl) rfl rfl (by (try simp only [List.map_toArray, List.map_cons, List.map_nil]); first | done | rfl) ?_
          refine (all06.calls w17 TD d st' D17.out HI6.out.good s hks).mono ?_
          rintro e w18 ⟨rfl, b18⟩
          refine ⟨_, rfl, ?_⟩
          have B18 := Aside0.mk (B17.out.trans (b18.mono B17.out.size))
          have K18 := Aside0.mk (show w18.cell? (ad2.add j) = some (.string s) ∧ w18.heap[r]? = some (.cells #[.int .i64 st'.room, .slice (some ad3) (refL st'.m).length c2, .int .i64 st'.fuse, .bool st'.down] 56) ∧ w18.cell? ⟨(ad3.add (j * 3)).block, (ad3.add (j * 3)).off + 1, none⟩ = some (.string (fileIn st'.m s).b) from ⟨pw_cell_below b18 K17.out.1, blk_below K17.out.2.1 b18, pw_cell_below b18 K17.out.2.2⟩)
          clear b18
          refine hK.out _ _ K18.out (fun _ => ?_)
          clear hK K
          refine norm_ (a' := ?_) ?_ ?_
          rotate_left
          · show Act.put _ (some 260) _ = _
            simp only [Act.put, List.setIfInBounds_toArray, List.set_cons_zero, List.set_cons_succ, i64_w, i32_w]
            rfl
          refine pure_ (i := 23) (N := some 269) (v := ?_) (a' := ?_) #[true, true, true, true, true, true, true, true, true, true, true, true, true, true, true, true, true, true, true, true, true, true, true, true, false] rfl rfl (any_of HT_.out (by kernel_rfl)) (fun _ _ _ h => h) (Or.inl ⟨by rfl, ?_⟩) ?_ ?_
          rotate_left
          · intro w'
            go_simp
            with_reducible rfl
          rotate_left
          · simp only [Act.put, List.setIfInBounds_toArray, List.set_cons_zero, List.set_cons_succ, i64_w, i32_w]
            rfl
          refine pure_ (i := 24) (N := some 270) (v := ?_) (a' := ?_) #[true, true, true, true, true, true, true, true, true, true, true, true, true, true, true, true, true, true, true, true, true, true, true, true, true] rfl rfl (any_of HT_.out (by kernel_rfl)) (fun _ _ _ h => h) (Or.inl ⟨by rfl, ?_⟩) ?_ ?_
          rotate_left
          · intro w'
            go_simp
            with_reducible rfl
          rotate_left
          · simp only [Act.put, List.setIfInBounds_toArray, List.set_cons_zero, List.set_cons_succ, i64_w, i32_w]
            rfl
          refine done_ (done_of HT_.out (by kernel_rfl)) ?_
          go_wp2_with fail
          go_roundw
          case rel => exact ⟨j + 1, by omega, by go_num, ⟨Q16.out.trans (B18.out.mono Q16.out.size)⟩⟩
          case measure => simp [intOf]; omega
        · have djn : decide ((j : Int) < ((names st'.m).length : Int)) = false := decide_eq_false (by omega)
          have BQ := Aside0.mk (B13.out.trans (HQ.out.mono B13.out.size))
          go_wp2_with fail
          go_roundw
          case rel => exact ⟨k + 1, st', by omega, by omega, by go_num, HI6, ⟨(HT6.out.below BQ.out).mono (fun i _ hi => Or.inl hi)⟩, ⟨HB6.out.trans (BQ.out.mono HB6.out.size)⟩, ⟨blk_below HAB6.out BQ.out⟩⟩
          case measure => simp [intOf]; omega
end Go.Proofs.Ytpmnljdhjgjgfaa.Thw
