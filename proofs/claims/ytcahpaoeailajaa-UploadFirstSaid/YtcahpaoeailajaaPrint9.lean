/- Written by a program of mine (give.py, over the kit's print) out of the translation: contracts of the Go functions. Lean checks it. -/
import Derived.Test.YtcahpaoeailajaaPrint0
import Derived.Test.YtcahpaoeailajaaPrint3
import Derived.Test.YtcahpaoeailajaaPrint5
import Derived.Test.YtcahpaoeailajaaPrint6
namespace Go.Proofs.Ytcahpaoeailajaa.Print
open Go.RowKit Go.Proofs.YtcahpaoeailajaaW.PrintWords Go.Proofs.YtcahpaoeailajaaW.PrintLast Go.Proofs.YtcahpaoeailajaaW.PrintMore
attribute [local go_sem] max2_int min2_int max_two min_two max_three min_three max_four min_four   -- for this text's walks alone
set_option linter.unusedVariables false
set_option linter.unusedSimpArgs false

/-! ### thwartlaw14_UploadBound: function 8 -/
mutual
def thwartlaw14_UploadBound.j0 : Nat → Int → Int → Bool → Bool → Int → Int → Int → Option (Bool)
  | 0, _, _, _, _, _, _, _ => none
  | k + 1, x1, x2, x7, x64, x198000, x198001, x198002 => if x64 = true then (some x7) else ((upload_Ticks.f k x198000 x198001 x198002 x1 x2).bind fun t199 => (thwartlaw14_UploadBound.l0 k x1 x2 x7 t199 x2 0 x198000 x198001 x198002 x198000 x198001 x198002))
def thwartlaw14_UploadBound.l0 : Nat → Int → Int → Bool → Int → Int → Int → Int → Int → Int → Int → Int → Int → Option (Bool)
  | 0, _, _, _, _, _, _, _, _, _, _, _, _ => none
  | k + 1, x1, x2, x7, x8, x9, x11, x198000, x198001, x198002, x201000, x201001, x201002 => if x11 < x8 then (if x201000 = 2 then (some false) else ((upload_Due.f x201000 x201001 x201002 (wrap64 (x1 + x11))).bind fun t201 => ((upload_Step.f x201000 x201001 x201002 (wrap64 (x1 + x11)) (decide (x9 ≤ 0))).bind fun bt202 => (if t201 = true then (thwartlaw14_UploadBound.l0 k x1 x2 x7 x8 (wrap64 (x9 - 1)) (wrap64 (x11 + 1)) x198000 x198001 x198002 bt202.1 bt202.2.1 bt202.2.2) else (thwartlaw14_UploadBound.l0 k x1 x2 x7 x8 x9 (wrap64 (x11 + 1)) x198000 x198001 x198002 bt202.1 bt202.2.1 bt202.2.2))))) else (if x7 = true then (if x201000 = 2 then (some (decide (x8 ≤ (wrap64 ((wrap64 ((mx (wrap64 (x198002 - x1)) 0) + 2)) + (wrap64 (64 * x2))))))) else (some false)) else (some false))
end
def thwartlaw14_UploadBound.f (k : Nat) (a0_0 : Int) (a0_1 : Int) (a0_2 : Int) (a1 : Int) (a2 : Int) : Option (Bool) := (thwartlaw14_awake.f k).bind fun t198 => (if a0_0 < 0 then (thwartlaw14_UploadBound.j0 k a1 a2 t198 true a0_0 a0_1 a0_2) else (if a0_0 > 1 then (thwartlaw14_UploadBound.j0 k a1 a2 t198 true a0_0 a0_1 a0_2) else (if a1 < 0 then (thwartlaw14_UploadBound.j0 k a1 a2 t198 true a0_0 a0_1 a0_2) else (if a1 > 1000000 then (thwartlaw14_UploadBound.j0 k a1 a2 t198 true a0_0 a0_1 a0_2) else (if a0_2 < 0 then (thwartlaw14_UploadBound.j0 k a1 a2 t198 true a0_0 a0_1 a0_2) else (if a0_2 > 1000000 then (thwartlaw14_UploadBound.j0 k a1 a2 t198 true a0_0 a0_1 a0_2) else (if a0_1 < 0 then (thwartlaw14_UploadBound.j0 k a1 a2 t198 true a0_0 a0_1 a0_2) else (if a0_1 > 1000 then (thwartlaw14_UploadBound.j0 k a1 a2 t198 true a0_0 a0_1 a0_2) else (if a2 < 0 then (thwartlaw14_UploadBound.j0 k a1 a2 t198 true a0_0 a0_1 a0_2) else (if a2 > 20 then (thwartlaw14_UploadBound.j0 k a1 a2 t198 true a0_0 a0_1 a0_2) else (thwartlaw14_UploadBound.j0 k a1 a2 t198 (decide ((wrap64 (a0_2 - a1)) > 500)) a0_0 a0_1 a0_2)))))))))))
theorem thwartlaw14_UploadBound.mono_l : ∀ k, (∀ y0 y1 y2 y3 y4 y5 y6, LeO (thwartlaw14_UploadBound.j0 k y0 y1 y2 y3 y4 y5 y6) (thwartlaw14_UploadBound.j0 (k + 1) y0 y1 y2 y3 y4 y5 y6)) ∧ (∀ y0 y1 y2 y3 y4 y5 y6 y7 y8 y9 y10 y11, LeO (thwartlaw14_UploadBound.l0 k y0 y1 y2 y3 y4 y5 y6 y7 y8 y9 y10 y11) (thwartlaw14_UploadBound.l0 (k + 1) y0 y1 y2 y3 y4 y5 y6 y7 y8 y9 y10 y11))
  | 0 => ⟨fun _ _ _ _ _ _ _ r h => by simp [thwartlaw14_UploadBound.j0] at h, fun _ _ _ _ _ _ _ _ _ _ _ _ r h => by simp [thwartlaw14_UploadBound.l0] at h⟩
  | k + 1 => by
    obtain ⟨ih0, ih1⟩ := thwartlaw14_UploadBound.mono_l k
    refine ⟨?_, ?_⟩
    · intro y0 y1 y2 y3 y4 y5 y6
      unfold thwartlaw14_UploadBound.j0
      repeat' first
      | (with_reducible exact ih0 _ _ _ _ _ _ _)
      | (with_reducible exact ih1 _ _ _ _ _ _ _ _ _ _ _ _)
      | (with_reducible exact thwartlaw14_awake.mono _)
      | (with_reducible exact upload_Ticks.mono _ _ _ _ _ _)
      | (with_reducible exact LeO.refl _)
      | (with_reducible exact LeO.none _)
      | (with_reducible refine LeO.ite ?_ ?_)
      | (with_reducible refine LeO.bind ?_ (fun _ => ?_))
      | exact ih0 _ _ _ _ _ _ _
      | exact ih1 _ _ _ _ _ _ _ _ _ _ _ _
      | exact thwartlaw14_awake.mono _
      | exact upload_Ticks.mono _ _ _ _ _ _
      | exact LeO.none _
      | refine LeO.ite ?_ ?_
      | refine LeO.bind ?_ (fun _ => ?_)
    · intro y0 y1 y2 y3 y4 y5 y6 y7 y8 y9 y10 y11
      unfold thwartlaw14_UploadBound.l0
      repeat' first
      | (with_reducible exact ih0 _ _ _ _ _ _ _)
      | (with_reducible exact ih1 _ _ _ _ _ _ _ _ _ _ _ _)
      | (with_reducible exact thwartlaw14_awake.mono _)
      | (with_reducible exact upload_Ticks.mono _ _ _ _ _ _)
      | (with_reducible exact LeO.refl _)
      | (with_reducible exact LeO.none _)
      | (with_reducible refine LeO.ite ?_ ?_)
      | (with_reducible refine LeO.bind ?_ (fun _ => ?_))
      | exact ih0 _ _ _ _ _ _ _
      | exact ih1 _ _ _ _ _ _ _ _ _ _ _ _
      | exact thwartlaw14_awake.mono _
      | exact upload_Ticks.mono _ _ _ _ _ _
      | exact LeO.none _
      | refine LeO.ite ?_ ?_
      | refine LeO.bind ?_ (fun _ => ?_)
theorem thwartlaw14_UploadBound.mono : ∀ a0 a1 a2 a3 a4 k, LeO (thwartlaw14_UploadBound.f k a0 a1 a2 a3 a4) (thwartlaw14_UploadBound.f (k + 1) a0 a1 a2 a3 a4) := by
  intro a0 a1 a2 a3 a4 k
  obtain ⟨ih0, ih1⟩ := thwartlaw14_UploadBound.mono_l k
  unfold thwartlaw14_UploadBound.f
  repeat' first
      | (with_reducible exact ih0 _ _ _ _ _ _ _)
      | (with_reducible exact ih1 _ _ _ _ _ _ _ _ _ _ _ _)
      | (with_reducible exact thwartlaw14_awake.mono _)
      | (with_reducible exact upload_Ticks.mono _ _ _ _ _ _)
      | (with_reducible exact LeO.refl _)
      | (with_reducible exact LeO.none _)
      | (with_reducible refine LeO.ite ?_ ?_)
      | (with_reducible refine LeO.bind ?_ (fun _ => ?_))
      | exact ih0 _ _ _ _ _ _ _
      | exact ih1 _ _ _ _ _ _ _ _ _ _ _ _
      | exact thwartlaw14_awake.mono _
      | exact upload_Ticks.mono _ _ _ _ _ _
      | exact LeO.none _
      | refine LeO.ite ?_ ?_
      | refine LeO.bind ?_ (fun _ => ?_)
set_option maxHeartbeats 8000000 in
set_option maxRecDepth 100000 in
theorem thwartlaw14_UploadBound.calls (k : Nat) (a0_0 : Int) (a0_1 : Int) (a0_2 : Int) (a1 : Int) (a2 : Int) (r : Bool) (w : World) (h : thwartlaw14_UploadBound.f k a0_0 a0_1 a0_2 a1 a2 = some r) :
    Calls Try.prog 8 #[.agg #[.int .i64 a0_0, .int .i64 a0_1, .int .i64 a0_2], .int .i64 a1, .int .i64 a2] w fun e w' => e = .returned (.bool r) ∧ Below w.heap.size w w' := by
  have hu40 := Try.underlying40
  have HB := Aside0.mk (Below.refl w.heap.size w)
  have H : ((thwartlaw14_awake.f k).bind fun t198 => (if a0_0 < 0 then (thwartlaw14_UploadBound.j0 k a1 a2 t198 true a0_0 a0_1 a0_2) else (if a0_0 > 1 then (thwartlaw14_UploadBound.j0 k a1 a2 t198 true a0_0 a0_1 a0_2) else (if a1 < 0 then (thwartlaw14_UploadBound.j0 k a1 a2 t198 true a0_0 a0_1 a0_2) else (if a1 > 1000000 then (thwartlaw14_UploadBound.j0 k a1 a2 t198 true a0_0 a0_1 a0_2) else (if a0_2 < 0 then (thwartlaw14_UploadBound.j0 k a1 a2 t198 true a0_0 a0_1 a0_2) else (if a0_2 > 1000000 then (thwartlaw14_UploadBound.j0 k a1 a2 t198 true a0_0 a0_1 a0_2) else (if a0_1 < 0 then (thwartlaw14_UploadBound.j0 k a1 a2 t198 true a0_0 a0_1 a0_2) else (if a0_1 > 1000 then (thwartlaw14_UploadBound.j0 k a1 a2 t198 true a0_0 a0_1 a0_2) else (if a2 < 0 then (thwartlaw14_UploadBound.j0 k a1 a2 t198 true a0_0 a0_1 a0_2) else (if a2 > 20 then (thwartlaw14_UploadBound.j0 k a1 a2 t198 true a0_0 a0_1 a0_2) else (thwartlaw14_UploadBound.j0 k a1 a2 t198 (decide ((wrap64 (a0_2 - a1)) > 500)) a0_0 a0_1 a0_2)))))))))))) = some r := h
  clear h
  replace H := Option.bind_eq_some_iff.mp H
  obtain ⟨t198, A40, H⟩ := H
  replace H : (if a0_0 < 0 then (thwartlaw14_UploadBound.j0 k a1 a2 t198 true a0_0 a0_1 a0_2) else (if a0_0 > 1 then (thwartlaw14_UploadBound.j0 k a1 a2 t198 true a0_0 a0_1 a0_2) else (if a1 < 0 then (thwartlaw14_UploadBound.j0 k a1 a2 t198 true a0_0 a0_1 a0_2) else (if a1 > 1000000 then (thwartlaw14_UploadBound.j0 k a1 a2 t198 true a0_0 a0_1 a0_2) else (if a0_2 < 0 then (thwartlaw14_UploadBound.j0 k a1 a2 t198 true a0_0 a0_1 a0_2) else (if a0_2 > 1000000 then (thwartlaw14_UploadBound.j0 k a1 a2 t198 true a0_0 a0_1 a0_2) else (if a0_1 < 0 then (thwartlaw14_UploadBound.j0 k a1 a2 t198 true a0_0 a0_1 a0_2) else (if a0_1 > 1000 then (thwartlaw14_UploadBound.j0 k a1 a2 t198 true a0_0 a0_1 a0_2) else (if a2 < 0 then (thwartlaw14_UploadBound.j0 k a1 a2 t198 true a0_0 a0_1 a0_2) else (if a2 > 20 then (thwartlaw14_UploadBound.j0 k a1 a2 t198 true a0_0 a0_1 a0_2) else (thwartlaw14_UploadBound.j0 k a1 a2 t198 (decide ((wrap64 (a0_2 - a1)) > 500)) a0_0 a0_1 a0_2))))))))))) = some r := H
  have A4 := Aside0.mk A40
  clear A40
  have HC5 := Aside0.mk H
  clear H
  go_enter Try.func8, Try.ntmps8
  go_upto_region 2 with (first | ((with_reducible refine gate_dst (N := 3) rfl ?_); (try (refine gate_guard (by rfl) ?_; dsimp only)); refine box_event ?hg (N := 3) ?hd (cs := #[.int .i64 a0_0, .int .i64 a0_1, .int .i64 a0_2]) (t := 40) ?hr ?_; (case hd => rfl); (case hg => rfl); (case hr => first | (go_simp; done) | (go_simp; rfl)); intro gb197 hg w6 hbox hb; have n0_ := Aside0.mk (below_step (by repeat (first | (with_reducible first | exact HB.out | apply below_alloc | apply pw_below_drewN | apply below_drew1) | exact HB.out)) hb); have n1_ := Aside0.mk (hbox); have n2_ := Aside0.mk ((by rw [hg]; exact (below_size (by repeat (first | (with_reducible first | exact HB.out | apply below_alloc | apply pw_below_drewN | apply below_drew1) | exact HB.out))) : w.heap.size ≤ gb197)); have n3_ := Aside0.mk ((by rw [hg]; exact (below_size (by repeat (first | (with_reducible first | exact HB.out | apply below_alloc | apply pw_below_drewN | apply below_drew1) | exact HB.out))) : w.heap.size ≤ gb197)); clear HB; have HB := n0_; have BK197 := n1_; have GW197 := n2_; have GE197 := n3_; clear n0_ n1_ n2_ n3_; clear hb hbox hg) | ((with_reducible refine gate_callee (f := 19) rfl ?_); refine goesL_ (some 13) rfl rfl Try.func19 (by kernel_rfl) rfl #[] rfl (by (try simp only [List.map_toArray, List.map_cons, List.map_nil]); first | done | rfl | (simp only [List.length_drop, List.length_take]; rfl)) ?_; (with_reducible refine (thwartlaw14_awake.calls k  t198 _ A4.out).mono ?_); rintro e w7 ⟨rfl, hb⟩; refine ⟨_, rfl, ?_⟩; have n0_ := Aside0.mk (blk_below (g := gb197) (o := .cells #[.int .i64 a0_0, .int .i64 a0_1, .int .i64 a0_2] 40 (0, 0)) (by (with_reducible repeat (first | refine blk_drewN ?_ _ | refine blk_drew ?_ | refine blk_alloc ?_ _)); exact BK197.out) hb); have n1_ := Aside0.mk (below_step (by repeat (first | (with_reducible first | exact HB.out | apply below_alloc | apply pw_below_drewN | apply below_drew1 | refine below_set ?_ GE197.out) | exact HB.out)) hb); clear BK197; clear HB; have BK197 := n0_; have HB := n1_; clear n0_ n1_; (try clear hb); (try clear hb2); (try clear hk); (try clear hi)))
  (try simp only [Act.put, List.setIfInBounds_toArray, List.set_cons_zero, List.set_cons_succ])
  go_cut [64] (fun v64 wc => ∃ (kq : Nat) (x64_4 : Bool), v64 = .bool x64_4 ∧ Aside0 (thwartlaw14_UploadBound.j0 kq a1 a2 t198 x64_4 a0_0 a0_1 a0_2 = some r) ∧ Aside0 (kq ≤ k) ∧ Aside0 (wc.heap[gb197]? = some (.cells #[.int .i64 a0_0, .int .i64 a0_1, .int .i64 a0_2] 40 (0, 0))) ∧ Aside0 (Below w.heap.size w wc))
  case first =>
    have H := HC5.out
    clear HC5
    by_cases c8 : a0_0 < 0
    · rw [if_pos c8] at H
      have c8b0 : decide (a0_0 < 0) = true := decide_eq_true c8
      clear c8
      (first | rw [c8b0] | (simp only [i64_w, i32_w]; rw [c8b0]) | skip)
      have H' := Aside0.mk H
      clear H
      have hcz9_0 : w7.cell? ⟨gb197, 0, none⟩ = some (.int .i64 a0_0) := (blk_cell BK197.out 0).trans rfl
      have hcz9_1 : w7.cell? ⟨gb197, 1, none⟩ = some (.int .i64 a0_1) := (blk_cell BK197.out 1).trans rfl
      have hcz9_2 : w7.cell? ⟨gb197, 2, none⟩ = some (.int .i64 a0_2) := (blk_cell BK197.out 2).trans rfl
      have hfz9_0 := blk_frozen BK197.out 0
      have hfz9_1 := blk_frozen BK197.out 1
      have hfz9_2 := blk_frozen BK197.out 2
      go_wp2
      go_meet
      case rel => exact ⟨_, (true), (by first | rfl | (simp; done) | (simp [*]; done)), H', ⟨by first | omega | exact Nat.le_refl _⟩, ⟨by (with_reducible repeat (first | refine blk_drewN ?_ _ | refine blk_drew ?_ | refine blk_alloc ?_ _)); exact BK197.out⟩, ⟨by repeat (first | (with_reducible first | exact HB.out | apply below_alloc | apply pw_below_drewN | apply below_drew1 | refine below_set ?_ GE197.out) | exact HB.out)⟩⟩
    · rw [if_neg c8] at H
      have c8b0 : decide (a0_0 < 0) = false := decide_eq_false c8
      clear c8
      (first | rw [c8b0] | (simp only [i64_w, i32_w]; rw [c8b0]) | skip)
      by_cases c10 : a0_0 > 1
      · rw [if_pos c10] at H
        have c10b0 : decide (1 < a0_0) = true := decide_eq_true c10
        clear c10
        have H' := Aside0.mk H
        clear H
        have hcz11_0 : w7.cell? ⟨gb197, 0, none⟩ = some (.int .i64 a0_0) := (blk_cell BK197.out 0).trans rfl
        have hcz11_1 : w7.cell? ⟨gb197, 1, none⟩ = some (.int .i64 a0_1) := (blk_cell BK197.out 1).trans rfl
        have hcz11_2 : w7.cell? ⟨gb197, 2, none⟩ = some (.int .i64 a0_2) := (blk_cell BK197.out 2).trans rfl
        have hfz11_0 := blk_frozen BK197.out 0
        have hfz11_1 := blk_frozen BK197.out 1
        have hfz11_2 := blk_frozen BK197.out 2
        go_wp2
        go_meet
        case rel => exact ⟨_, (true), (by first | rfl | (simp; done) | (simp [*]; done)), H', ⟨by first | omega | exact Nat.le_refl _⟩, ⟨by (with_reducible repeat (first | refine blk_drewN ?_ _ | refine blk_drew ?_ | refine blk_alloc ?_ _)); exact BK197.out⟩, ⟨by repeat (first | (with_reducible first | exact HB.out | apply below_alloc | apply pw_below_drewN | apply below_drew1 | refine below_set ?_ GE197.out) | exact HB.out)⟩⟩
      · rw [if_neg c10] at H
        have c10b0 : decide (1 < a0_0) = false := decide_eq_false c10
        clear c10
        by_cases c12 : a1 < 0
        · rw [if_pos c12] at H
          have c12b0 : decide (a1 < 0) = true := decide_eq_true c12
          clear c12
          have H' := Aside0.mk H
          clear H
          have hcz13_0 : w7.cell? ⟨gb197, 0, none⟩ = some (.int .i64 a0_0) := (blk_cell BK197.out 0).trans rfl
          have hcz13_1 : w7.cell? ⟨gb197, 1, none⟩ = some (.int .i64 a0_1) := (blk_cell BK197.out 1).trans rfl
          have hcz13_2 : w7.cell? ⟨gb197, 2, none⟩ = some (.int .i64 a0_2) := (blk_cell BK197.out 2).trans rfl
          have hfz13_0 := blk_frozen BK197.out 0
          have hfz13_1 := blk_frozen BK197.out 1
          have hfz13_2 := blk_frozen BK197.out 2
          go_wp2
          go_meet
          case rel => exact ⟨_, (true), (by first | rfl | (simp; done) | (simp [*]; done)), H', ⟨by first | omega | exact Nat.le_refl _⟩, ⟨by (with_reducible repeat (first | refine blk_drewN ?_ _ | refine blk_drew ?_ | refine blk_alloc ?_ _)); exact BK197.out⟩, ⟨by repeat (first | (with_reducible first | exact HB.out | apply below_alloc | apply pw_below_drewN | apply below_drew1 | refine below_set ?_ GE197.out) | exact HB.out)⟩⟩
        · rw [if_neg c12] at H
          have c12b0 : decide (a1 < 0) = false := decide_eq_false c12
          clear c12
          by_cases c14 : a1 > 1000000
          · rw [if_pos c14] at H
            have c14b0 : decide (1000000 < a1) = true := decide_eq_true c14
            clear c14
            have H' := Aside0.mk H
            clear H
            have hcz15_0 : w7.cell? ⟨gb197, 0, none⟩ = some (.int .i64 a0_0) := (blk_cell BK197.out 0).trans rfl
            have hcz15_1 : w7.cell? ⟨gb197, 1, none⟩ = some (.int .i64 a0_1) := (blk_cell BK197.out 1).trans rfl
            have hcz15_2 : w7.cell? ⟨gb197, 2, none⟩ = some (.int .i64 a0_2) := (blk_cell BK197.out 2).trans rfl
            have hfz15_0 := blk_frozen BK197.out 0
            have hfz15_1 := blk_frozen BK197.out 1
            have hfz15_2 := blk_frozen BK197.out 2
            go_wp2
            go_meet
            case rel => exact ⟨_, (true), (by first | rfl | (simp; done) | (simp [*]; done)), H', ⟨by first | omega | exact Nat.le_refl _⟩, ⟨by (with_reducible repeat (first | refine blk_drewN ?_ _ | refine blk_drew ?_ | refine blk_alloc ?_ _)); exact BK197.out⟩, ⟨by repeat (first | (with_reducible first | exact HB.out | apply below_alloc | apply pw_below_drewN | apply below_drew1 | refine below_set ?_ GE197.out) | exact HB.out)⟩⟩
          · rw [if_neg c14] at H
            have c14b0 : decide (1000000 < a1) = false := decide_eq_false c14
            clear c14
            by_cases c16 : a0_2 < 0
            · rw [if_pos c16] at H
              have c16b0 : decide (a0_2 < 0) = true := decide_eq_true c16
              clear c16
              have H' := Aside0.mk H
              clear H
              have hcz17_0 : w7.cell? ⟨gb197, 0, none⟩ = some (.int .i64 a0_0) := (blk_cell BK197.out 0).trans rfl
              have hcz17_1 : w7.cell? ⟨gb197, 1, none⟩ = some (.int .i64 a0_1) := (blk_cell BK197.out 1).trans rfl
              have hcz17_2 : w7.cell? ⟨gb197, 2, none⟩ = some (.int .i64 a0_2) := (blk_cell BK197.out 2).trans rfl
              have hfz17_0 := blk_frozen BK197.out 0
              have hfz17_1 := blk_frozen BK197.out 1
              have hfz17_2 := blk_frozen BK197.out 2
              go_wp2
              go_meet
              case rel => exact ⟨_, (true), (by first | rfl | (simp; done) | (simp [*]; done)), H', ⟨by first | omega | exact Nat.le_refl _⟩, ⟨by (with_reducible repeat (first | refine blk_drewN ?_ _ | refine blk_drew ?_ | refine blk_alloc ?_ _)); exact BK197.out⟩, ⟨by repeat (first | (with_reducible first | exact HB.out | apply below_alloc | apply pw_below_drewN | apply below_drew1 | refine below_set ?_ GE197.out) | exact HB.out)⟩⟩
            · rw [if_neg c16] at H
              have c16b0 : decide (a0_2 < 0) = false := decide_eq_false c16
              clear c16
              by_cases c18 : a0_2 > 1000000
              · rw [if_pos c18] at H
                have c18b0 : decide (1000000 < a0_2) = true := decide_eq_true c18
                clear c18
                have H' := Aside0.mk H
                clear H
                have hcz19_0 : w7.cell? ⟨gb197, 0, none⟩ = some (.int .i64 a0_0) := (blk_cell BK197.out 0).trans rfl
                have hcz19_1 : w7.cell? ⟨gb197, 1, none⟩ = some (.int .i64 a0_1) := (blk_cell BK197.out 1).trans rfl
                have hcz19_2 : w7.cell? ⟨gb197, 2, none⟩ = some (.int .i64 a0_2) := (blk_cell BK197.out 2).trans rfl
                have hfz19_0 := blk_frozen BK197.out 0
                have hfz19_1 := blk_frozen BK197.out 1
                have hfz19_2 := blk_frozen BK197.out 2
                go_wp2
                go_meet
                case rel => exact ⟨_, (true), (by first | rfl | (simp; done) | (simp [*]; done)), H', ⟨by first | omega | exact Nat.le_refl _⟩, ⟨by (with_reducible repeat (first | refine blk_drewN ?_ _ | refine blk_drew ?_ | refine blk_alloc ?_ _)); exact BK197.out⟩, ⟨by repeat (first | (with_reducible first | exact HB.out | apply below_alloc | apply pw_below_drewN | apply below_drew1 | refine below_set ?_ GE197.out) | exact HB.out)⟩⟩
              · rw [if_neg c18] at H
                have c18b0 : decide (1000000 < a0_2) = false := decide_eq_false c18
                clear c18
                by_cases c20 : a0_1 < 0
                · rw [if_pos c20] at H
                  have c20b0 : decide (a0_1 < 0) = true := decide_eq_true c20
                  clear c20
                  have H' := Aside0.mk H
                  clear H
                  have hcz21_0 : w7.cell? ⟨gb197, 0, none⟩ = some (.int .i64 a0_0) := (blk_cell BK197.out 0).trans rfl
                  have hcz21_1 : w7.cell? ⟨gb197, 1, none⟩ = some (.int .i64 a0_1) := (blk_cell BK197.out 1).trans rfl
                  have hcz21_2 : w7.cell? ⟨gb197, 2, none⟩ = some (.int .i64 a0_2) := (blk_cell BK197.out 2).trans rfl
                  have hfz21_0 := blk_frozen BK197.out 0
                  have hfz21_1 := blk_frozen BK197.out 1
                  have hfz21_2 := blk_frozen BK197.out 2
                  go_wp2
                  go_meet
                  case rel => exact ⟨_, (true), (by first | rfl | (simp; done) | (simp [*]; done)), H', ⟨by first | omega | exact Nat.le_refl _⟩, ⟨by (with_reducible repeat (first | refine blk_drewN ?_ _ | refine blk_drew ?_ | refine blk_alloc ?_ _)); exact BK197.out⟩, ⟨by repeat (first | (with_reducible first | exact HB.out | apply below_alloc | apply pw_below_drewN | apply below_drew1 | refine below_set ?_ GE197.out) | exact HB.out)⟩⟩
                · rw [if_neg c20] at H
                  have c20b0 : decide (a0_1 < 0) = false := decide_eq_false c20
                  clear c20
                  by_cases c22 : a0_1 > 1000
                  · rw [if_pos c22] at H
                    have c22b0 : decide (1000 < a0_1) = true := decide_eq_true c22
                    clear c22
                    have H' := Aside0.mk H
                    clear H
                    have hcz23_0 : w7.cell? ⟨gb197, 0, none⟩ = some (.int .i64 a0_0) := (blk_cell BK197.out 0).trans rfl
                    have hcz23_1 : w7.cell? ⟨gb197, 1, none⟩ = some (.int .i64 a0_1) := (blk_cell BK197.out 1).trans rfl
                    have hcz23_2 : w7.cell? ⟨gb197, 2, none⟩ = some (.int .i64 a0_2) := (blk_cell BK197.out 2).trans rfl
                    have hfz23_0 := blk_frozen BK197.out 0
                    have hfz23_1 := blk_frozen BK197.out 1
                    have hfz23_2 := blk_frozen BK197.out 2
                    go_wp2
                    go_meet
                    case rel => exact ⟨_, (true), (by first | rfl | (simp; done) | (simp [*]; done)), H', ⟨by first | omega | exact Nat.le_refl _⟩, ⟨by (with_reducible repeat (first | refine blk_drewN ?_ _ | refine blk_drew ?_ | refine blk_alloc ?_ _)); exact BK197.out⟩, ⟨by repeat (first | (with_reducible first | exact HB.out | apply below_alloc | apply pw_below_drewN | apply below_drew1 | refine below_set ?_ GE197.out) | exact HB.out)⟩⟩
                  · rw [if_neg c22] at H
                    have c22b0 : decide (1000 < a0_1) = false := decide_eq_false c22
                    clear c22
                    by_cases c24 : a2 < 0
                    · rw [if_pos c24] at H
                      have c24b0 : decide (a2 < 0) = true := decide_eq_true c24
                      clear c24
                      have H' := Aside0.mk H
                      clear H
                      have hcz25_0 : w7.cell? ⟨gb197, 0, none⟩ = some (.int .i64 a0_0) := (blk_cell BK197.out 0).trans rfl
                      have hcz25_1 : w7.cell? ⟨gb197, 1, none⟩ = some (.int .i64 a0_1) := (blk_cell BK197.out 1).trans rfl
                      have hcz25_2 : w7.cell? ⟨gb197, 2, none⟩ = some (.int .i64 a0_2) := (blk_cell BK197.out 2).trans rfl
                      have hfz25_0 := blk_frozen BK197.out 0
                      have hfz25_1 := blk_frozen BK197.out 1
                      have hfz25_2 := blk_frozen BK197.out 2
                      go_wp2
                      go_meet
                      case rel => exact ⟨_, (true), (by first | rfl | (simp; done) | (simp [*]; done)), H', ⟨by first | omega | exact Nat.le_refl _⟩, ⟨by (with_reducible repeat (first | refine blk_drewN ?_ _ | refine blk_drew ?_ | refine blk_alloc ?_ _)); exact BK197.out⟩, ⟨by repeat (first | (with_reducible first | exact HB.out | apply below_alloc | apply pw_below_drewN | apply below_drew1 | refine below_set ?_ GE197.out) | exact HB.out)⟩⟩
                    · rw [if_neg c24] at H
                      have c24b0 : decide (a2 < 0) = false := decide_eq_false c24
                      clear c24
                      by_cases c26 : a2 > 20
                      · rw [if_pos c26] at H
                        have c26b0 : decide (20 < a2) = true := decide_eq_true c26
                        clear c26
                        have H' := Aside0.mk H
                        clear H
                        have hcz27_0 : w7.cell? ⟨gb197, 0, none⟩ = some (.int .i64 a0_0) := (blk_cell BK197.out 0).trans rfl
                        have hcz27_1 : w7.cell? ⟨gb197, 1, none⟩ = some (.int .i64 a0_1) := (blk_cell BK197.out 1).trans rfl
                        have hcz27_2 : w7.cell? ⟨gb197, 2, none⟩ = some (.int .i64 a0_2) := (blk_cell BK197.out 2).trans rfl
                        have hfz27_0 := blk_frozen BK197.out 0
                        have hfz27_1 := blk_frozen BK197.out 1
                        have hfz27_2 := blk_frozen BK197.out 2
                        go_wp2
                        go_meet
                        case rel => exact ⟨_, (true), (by first | rfl | (simp; done) | (simp [*]; done)), H', ⟨by first | omega | exact Nat.le_refl _⟩, ⟨by (with_reducible repeat (first | refine blk_drewN ?_ _ | refine blk_drew ?_ | refine blk_alloc ?_ _)); exact BK197.out⟩, ⟨by repeat (first | (with_reducible first | exact HB.out | apply below_alloc | apply pw_below_drewN | apply below_drew1 | refine below_set ?_ GE197.out) | exact HB.out)⟩⟩
                      · rw [if_neg c26] at H
                        have c26b0 : decide (20 < a2) = false := decide_eq_false c26
                        clear c26
                        have H' := Aside0.mk H
                        clear H
                        have hcz28_0 : w7.cell? ⟨gb197, 0, none⟩ = some (.int .i64 a0_0) := (blk_cell BK197.out 0).trans rfl
                        have hcz28_1 : w7.cell? ⟨gb197, 1, none⟩ = some (.int .i64 a0_1) := (blk_cell BK197.out 1).trans rfl
                        have hcz28_2 : w7.cell? ⟨gb197, 2, none⟩ = some (.int .i64 a0_2) := (blk_cell BK197.out 2).trans rfl
                        have hfz28_0 := blk_frozen BK197.out 0
                        have hfz28_1 := blk_frozen BK197.out 1
                        have hfz28_2 := blk_frozen BK197.out 2
                        go_wp2
                        go_meet
                        case rel => exact ⟨_, (decide ((wrap64 (a0_2 - a1)) > 500)), (by first | rfl | (simp; done) | (simp [*]; done)), H', ⟨by first | omega | exact Nat.le_refl _⟩, ⟨by (with_reducible repeat (first | refine blk_drewN ?_ _ | refine blk_drew ?_ | refine blk_alloc ?_ _)); exact BK197.out⟩, ⟨by repeat (first | (with_reducible first | exact HB.out | apply below_alloc | apply pw_below_drewN | apply below_drew1 | refine below_set ?_ GE197.out) | exact HB.out)⟩⟩
  case rest =>
    clear HC5
    try clear c1
    try clear c2
    try clear p2
    try clear p6
    try clear c8
    try clear c8b0
    try clear c10
    try clear c10b0
    try clear c12
    try clear c12b0
    try clear c14
    try clear c14b0
    try clear c16
    try clear c16b0
    try clear c18
    try clear c18b0
    try clear c19
    try clear c20
    try clear c20b0
    try clear c22
    try clear c22b0
    try clear c24
    try clear c24b0
    try clear c26
    try clear c26b0
    try clear hcz11_0
    try clear hcz11_1
    try clear hcz11_2
    try clear hcz13_0
    try clear hcz13_1
    try clear hcz13_2
    try clear hcz15_0
    try clear hcz15_1
    try clear hcz15_2
    try clear hcz17_0
    try clear hcz17_1
    try clear hcz17_2
    try clear hcz19_0
    try clear hcz19_1
    try clear hcz19_2
    try clear hcz21_0
    try clear hcz21_1
    try clear hcz21_2
    try clear hcz23_0
    try clear hcz23_1
    try clear hcz23_2
    try clear hcz25_0
    try clear hcz25_1
    try clear hcz25_2
    try clear hcz27_0
    try clear hcz27_1
    try clear hcz27_2
    try clear hcz28_0
    try clear hcz28_1
    try clear hcz28_2
    try clear hcz9_0
    try clear hcz9_1
    try clear hcz9_2
    try clear hfz11_0
    try clear hfz11_1
    try clear hfz11_2
    try clear hfz13_0
    try clear hfz13_1
    try clear hfz13_2
    try clear hfz15_0
    try clear hfz15_1
    try clear hfz15_2
    try clear hfz17_0
    try clear hfz17_1
    try clear hfz17_2
    try clear hfz19_0
    try clear hfz19_1
    try clear hfz19_2
    try clear hfz21_0
    try clear hfz21_1
    try clear hfz21_2
    try clear hfz23_0
    try clear hfz23_1
    try clear hfz23_2
    try clear hfz25_0
    try clear hfz25_1
    try clear hfz25_2
    try clear hfz27_0
    try clear hfz27_1
    try clear hfz27_2
    try clear hfz28_0
    try clear hfz28_1
    try clear hfz28_2
    try clear hfz9_0
    try clear hfz9_1
    try clear hfz9_2
    obtain ⟨kq, x64_4, rfl, HA, HJ4, BK197, HB⟩ := hcut
    cases kq with
    | zero => exact absurd HA.out (by simp [thwartlaw14_UploadBound.j0])
    | succ kj4 =>
      have H := HA.out
      clear HA
      simp only [thwartlaw14_UploadBound.j0] at H
      by_cases c29 : x64_4 = true
      · subst c29
        have H1 : (some t198) = some r := by rw [if_pos rfl] at H; exact H
        clear H
        have H := H1
        clear H1
        obtain rfl := Option.some.inj H
        go_wp2
        go_ret
        exact ⟨by first | rfl | (simp [errW_none, errW_some] <;> rfl) | (simp [*, errW_none, errW_some] <;> rfl), by repeat (first | (with_reducible first | exact HB.out | apply below_alloc | apply pw_below_drewN | apply below_drew1 | refine below_set ?_ GE197.out) | exact HB.out)⟩
      · replace c29 := Bool.eq_false_iff.mpr c29
        subst c29
        have H1 : ((upload_Ticks.f kj4 a0_0 a0_1 a0_2 a1 a2).bind fun t199 => (thwartlaw14_UploadBound.l0 kj4 a1 a2 t198 t199 a2 0 a0_0 a0_1 a0_2 a0_0 a0_1 a0_2)) = some r := by rw [if_neg (show ¬ (false = true) by decide)] at H; exact H
        clear H
        have H := H1
        clear H1
        replace H := Option.bind_eq_some_iff.mp H
        obtain ⟨t199, A300, H⟩ := H
        replace H : (thwartlaw14_UploadBound.l0 kj4 a1 a2 t198 t199 a2 0 a0_0 a0_1 a0_2 a0_0 a0_1 a0_2) = some r := H
        have A30 := Aside0.mk A300
        clear A300
        have H' := Aside0.mk H
        clear H
        have hcz31_0 : wc.cell? ⟨gb197, 0, none⟩ = some (.int .i64 a0_0) := (blk_cell BK197.out 0).trans rfl
        have hcz31_1 : wc.cell? ⟨gb197, 1, none⟩ = some (.int .i64 a0_1) := (blk_cell BK197.out 1).trans rfl
        have hcz31_2 : wc.cell? ⟨gb197, 2, none⟩ = some (.int .i64 a0_2) := (blk_cell BK197.out 2).trans rfl
        have hfz31_0 := blk_frozen BK197.out 0
        have hfz31_1 := blk_frozen BK197.out 1
        have hfz31_2 := blk_frozen BK197.out 2
        go_wp2_with (first | ((with_reducible refine gate_callee (f := 24) rfl ?_); refine goesL_ (some 69) rfl rfl Try.func24 (by kernel_rfl) rfl #[.agg #[.int .i64 a0_0, .int .i64 a0_1, .int .i64 a0_2], .int .i64 a1, .int .i64 a2] rfl (by (try simp only [List.map_toArray, List.map_cons, List.map_nil]); first | done | rfl | (simp only [List.length_drop, List.length_take]; rfl)) ?_; (with_reducible refine (upload_Ticks.calls kj4 a0_0 a0_1 a0_2 a1 a2 t199 _ A30.out).mono ?_); rintro e w32 ⟨rfl, hb⟩; refine ⟨_, rfl, ?_⟩; have n0_ := Aside0.mk (blk_below (g := gb197) (o := .cells #[.int .i64 a0_0, .int .i64 a0_1, .int .i64 a0_2] 40 (0, 0)) (by (with_reducible repeat (first | refine blk_drewN ?_ _ | refine blk_drew ?_ | refine blk_alloc ?_ _)); exact BK197.out) hb); have n1_ := Aside0.mk (below_step (by repeat (first | (with_reducible first | exact HB.out | apply below_alloc | apply pw_below_drewN | apply below_drew1 | refine below_set ?_ GE197.out) | exact HB.out)) hb); clear BK197; clear HB; have BK197 := n0_; have HB := n1_; clear n0_ n1_; (try clear hb); (try clear hb2); (try clear hk); (try clear hi); have hcz33_0 : w32.cell? ⟨gb197, 0, none⟩ = some (.int .i64 a0_0) := (blk_cell BK197.out 0).trans rfl; have hcz33_1 : w32.cell? ⟨gb197, 1, none⟩ = some (.int .i64 a0_1) := (blk_cell BK197.out 1).trans rfl; have hcz33_2 : w32.cell? ⟨gb197, 2, none⟩ = some (.int .i64 a0_2) := (blk_cell BK197.out 2).trans rfl; have hfz33_0 := blk_frozen BK197.out 0; have hfz33_1 := blk_frozen BK197.out 1; have hfz33_2 := blk_frozen BK197.out 2) | ((with_reducible refine gate_dst (N := 10) rfl ?_); (try (refine gate_guard (by rfl) ?_; dsimp only)); refine box_event ?hg (N := 10) ?hd (cs := #[.int .i64 0, .int .i64 0, .int .i64 0]) (t := 40) ?hr ?_; (case hd => rfl); (case hg => rfl); (case hr => first | (go_simp; done) | (go_simp; rfl)); intro gb200 hg w34 hbox hb; have n0_ := Aside0.mk (blk_below (g := gb197) (o := .cells #[.int .i64 a0_0, .int .i64 a0_1, .int .i64 a0_2] 40 (0, 0)) (by (with_reducible repeat (first | refine blk_drewN ?_ _ | refine blk_drew ?_ | refine blk_alloc ?_ _)); exact BK197.out) hb); have n1_ := Aside0.mk (below_step (by repeat (first | (with_reducible first | exact HB.out | apply below_alloc | apply pw_below_drewN | apply below_drew1 | refine below_set ?_ GE197.out) | exact HB.out)) hb); have n2_ := Aside0.mk (hbox); have n3_ := Aside0.mk ((by rw [hg]; exact (below_size (by repeat (first | (with_reducible first | exact HB.out | apply below_alloc | apply pw_below_drewN | apply below_drew1 | refine below_set ?_ GE197.out) | exact HB.out))) : w.heap.size ≤ gb200)); have n4_ := Aside0.mk ((by rw [hg]; exact (below_size (by repeat (first | (with_reducible first | exact HB.out | apply below_alloc | apply pw_below_drewN | apply below_drew1 | refine below_set ?_ GE197.out) | exact HB.out))) : w.heap.size ≤ gb200)); have n5_ := Aside0.mk ((by rw [hg]; exact Nat.ne_of_lt (blk_lt (g := gb197) (o := .cells #[.int .i64 a0_0, .int .i64 a0_1, .int .i64 a0_2] 40 (0, 0)) (by (with_reducible repeat (first | refine blk_drewN ?_ _ | refine blk_drew ?_ | refine blk_alloc ?_ _)); exact BK197.out)) : gb197 ≠ gb200)); have n6_ := Aside0.mk ((by rw [hg]; exact Nat.ne_of_gt (blk_lt (g := gb197) (o := .cells #[.int .i64 a0_0, .int .i64 a0_1, .int .i64 a0_2] 40 (0, 0)) (by (with_reducible repeat (first | refine blk_drewN ?_ _ | refine blk_drew ?_ | refine blk_alloc ?_ _)); exact BK197.out)) : gb200 ≠ gb197)); clear BK197; clear HB; have BK197 := n0_; have HB := n1_; have BK200 := n2_; have GW200 := n3_; have GE200 := n4_; have NB197_200 := n5_; have NB200_197 := n6_; clear n0_ n1_ n2_ n3_ n4_ n5_ n6_; clear hb hbox hg; have hnb35 := NB200_197.out; have hnc35 := NB197_200.out; have hcz36_0 : w34.cell? ⟨gb200, 0, none⟩ = some (.int .i64 0) := (blk_cell BK200.out 0).trans rfl; have hcz36_1 : w34.cell? ⟨gb200, 1, none⟩ = some (.int .i64 0) := (blk_cell BK200.out 1).trans rfl; have hcz36_2 : w34.cell? ⟨gb200, 2, none⟩ = some (.int .i64 0) := (blk_cell BK200.out 2).trans rfl; have hfz36_0 := blk_frozen BK200.out 0; have hfz36_1 := blk_frozen BK200.out 1; have hfz36_2 := blk_frozen BK200.out 2))
        go_loopg [9, 11] kj4 (fun kq v9 v11 w' => ∃ (x9_2 : Int) (x11_2 : Int) (x201000_2 : Int) (x201001_2 : Int) (x201002_2 : Int), v9 = .int .i64 x9_2 ∧ v11 = .int .i64 x11_2 ∧ Aside0 (thwartlaw14_UploadBound.l0 kq a1 a2 t198 t199 x9_2 x11_2 a0_0 a0_1 a0_2 x201000_2 x201001_2 x201002_2 = some r) ∧ Aside0 (kq ≤ kj4) ∧ Aside0 (w'.heap[gb197]? = some (.cells #[.int .i64 a0_0, .int .i64 a0_1, .int .i64 a0_2] 40 (0, 0))) ∧ Aside0 (w'.heap[gb200]? = some (.cells #[.int .i64 x201000_2, .int .i64 x201001_2, .int .i64 x201002_2] 40 (0, 0))) ∧ Aside0 (Below w.heap.size w w'))
        case atStart => exact ⟨(a2), (0), (a0_0), (a0_1), (a0_2), (by first | rfl | (simp; done) | (simp [*]; done)), (by first | rfl | (simp; done) | (simp [*]; done)), H', ⟨Nat.le_refl _⟩, ⟨by (with_reducible repeat (first | refine blk_drewN ?_ _ | refine blk_drew ?_ | refine blk_alloc ?_ _)); refine blk_far ?_ NB197_200.out _; (with_reducible repeat (first | refine blk_drewN ?_ _ | refine blk_drew ?_ | refine blk_alloc ?_ _)); refine blk_far ?_ NB197_200.out _; (with_reducible repeat (first | refine blk_drewN ?_ _ | refine blk_drew ?_ | refine blk_alloc ?_ _)); refine blk_far ?_ NB197_200.out _; (with_reducible repeat (first | refine blk_drewN ?_ _ | refine blk_drew ?_ | refine blk_alloc ?_ _)); exact BK197.out⟩, ⟨by (with_reducible repeat (first | refine blk_drewN ?_ _ | refine blk_drew ?_ | refine blk_alloc ?_ _)); refine blk_put (cs := #[.int .i64 a0_0, .int .i64 a0_1, .int .i64 0]) ?_ 2 _ rfl; (with_reducible repeat (first | refine blk_drewN ?_ _ | refine blk_drew ?_ | refine blk_alloc ?_ _)); refine blk_put (cs := #[.int .i64 a0_0, .int .i64 0, .int .i64 0]) ?_ 1 _ rfl; (with_reducible repeat (first | refine blk_drewN ?_ _ | refine blk_drew ?_ | refine blk_alloc ?_ _)); refine blk_put (cs := #[.int .i64 0, .int .i64 0, .int .i64 0]) ?_ 0 _ rfl; (with_reducible repeat (first | refine blk_drewN ?_ _ | refine blk_drew ?_ | refine blk_alloc ?_ _)); exact BK200.out⟩, ⟨by repeat (first | (with_reducible first | exact HB.out | apply below_alloc | apply pw_below_drewN | apply below_drew1 | refine below_set ?_ GE197.out | refine below_set ?_ GE200.out) | exact HB.out)⟩⟩
        case round =>
          clear H'
          try clear c1
          try clear c2
          try clear p2
          try clear c3
          try clear p6
          try clear c8
          try clear c8b0
          try clear c10
          try clear c10b0
          try clear c12
          try clear c12b0
          try clear c14
          try clear c14b0
          try clear c16
          try clear c16b0
          try clear c18
          try clear c18b0
          try clear c19
          try clear c20
          try clear c20b0
          try clear c22
          try clear c22b0
          try clear c24
          try clear c24b0
          try clear c26
          try clear c26b0
          try clear c29
          try clear c35
          try clear hcz11_0
          try clear hcz11_1
          try clear hcz11_2
          try clear hcz13_0
          try clear hcz13_1
          try clear hcz13_2
          try clear hcz15_0
          try clear hcz15_1
          try clear hcz15_2
          try clear hcz17_0
          try clear hcz17_1
          try clear hcz17_2
          try clear hcz19_0
          try clear hcz19_1
          try clear hcz19_2
          try clear hcz21_0
          try clear hcz21_1
          try clear hcz21_2
          try clear hcz23_0
          try clear hcz23_1
          try clear hcz23_2
          try clear hcz25_0
          try clear hcz25_1
          try clear hcz25_2
          try clear hcz27_0
          try clear hcz27_1
          try clear hcz27_2
          try clear hcz28_0
          try clear hcz28_1
          try clear hcz28_2
          try clear hcz31_0
          try clear hcz31_1
          try clear hcz31_2
          try clear hcz33_0
          try clear hcz33_1
          try clear hcz33_2
          try clear hcz36_0
          try clear hcz36_1
          try clear hcz36_2
          try clear hcz9_0
          try clear hcz9_1
          try clear hcz9_2
          try clear hfz11_0
          try clear hfz11_1
          try clear hfz11_2
          try clear hfz13_0
          try clear hfz13_1
          try clear hfz13_2
          try clear hfz15_0
          try clear hfz15_1
          try clear hfz15_2
          try clear hfz17_0
          try clear hfz17_1
          try clear hfz17_2
          try clear hfz19_0
          try clear hfz19_1
          try clear hfz19_2
          try clear hfz21_0
          try clear hfz21_1
          try clear hfz21_2
          try clear hfz23_0
          try clear hfz23_1
          try clear hfz23_2
          try clear hfz25_0
          try clear hfz25_1
          try clear hfz25_2
          try clear hfz27_0
          try clear hfz27_1
          try clear hfz27_2
          try clear hfz28_0
          try clear hfz28_1
          try clear hfz28_2
          try clear hfz31_0
          try clear hfz31_1
          try clear hfz31_2
          try clear hfz33_0
          try clear hfz33_1
          try clear hfz33_2
          try clear hfz36_0
          try clear hfz36_1
          try clear hfz36_2
          try clear hfz9_0
          try clear hfz9_1
          try clear hfz9_2
          try clear p2
          try clear p6
          obtain ⟨x9_2, x11_2, x201000_2, x201001_2, x201002_2, rfl, rfl, HA, HK2, BK197, BK200, HB⟩ := hrel
          cases gk with
          | zero => exact absurd HA.out (by simp [thwartlaw14_UploadBound.l0])
          | succ k2 =>
            have H := HA.out
            clear HA
            simp only [thwartlaw14_UploadBound.l0] at H
            by_cases c37 : x11_2 < t199
            · rw [if_pos c37] at H
              have c37b0 : decide (x11_2 < t199) = true := decide_eq_true c37
              clear c37
              by_cases c38 : x201000_2 = 2
              · rw [if_pos c38] at H
                have c38b0 : (x201000_2 == 2) = true := beq_iff_eq.mpr c38
                have c38b1 : (x201000_2 != 2) = false := bne_eq_false_iff_eq.mpr c38
                clear c38
                obtain rfl := Option.some.inj H
                have hnb39 := NB200_197.out
                have hnc39 := NB197_200.out
                have hcz40_0 : wr.cell? ⟨gb200, 0, none⟩ = some (.int .i64 x201000_2) := (blk_cell BK200.out 0).trans rfl
                have hcz40_1 : wr.cell? ⟨gb200, 1, none⟩ = some (.int .i64 x201001_2) := (blk_cell BK200.out 1).trans rfl
                have hcz40_2 : wr.cell? ⟨gb200, 2, none⟩ = some (.int .i64 x201002_2) := (blk_cell BK200.out 2).trans rfl
                have hfz40_0 := blk_frozen BK200.out 0
                have hfz40_1 := blk_frozen BK200.out 1
                have hfz40_2 := blk_frozen BK200.out 2
                go_wp2
                go_ret
                exact ⟨by first | rfl | (simp [errW_none, errW_some] <;> rfl) | (simp [*, errW_none, errW_some] <;> rfl), by repeat (first | (with_reducible first | exact HB.out | apply below_alloc | apply pw_below_drewN | apply below_drew1 | refine below_set ?_ GE197.out | refine below_set ?_ GE200.out) | exact HB.out)⟩
              · rw [if_neg c38] at H
                have c38b0 : (x201000_2 == 2) = false := beq_eq_false_iff_ne.mpr c38
                have c38b1 : (x201000_2 != 2) = true := bne_iff_ne.mpr c38
                replace H := Option.bind_eq_some_iff.mp H
                obtain ⟨t201, A410, H⟩ := H
                replace H : ((upload_Step.f x201000_2 x201001_2 x201002_2 (wrap64 (a1 + x11_2)) (decide (x9_2 ≤ 0))).bind fun bt202 => (if t201 = true then (thwartlaw14_UploadBound.l0 k2 a1 a2 t198 t199 (wrap64 (x9_2 - 1)) (wrap64 (x11_2 + 1)) a0_0 a0_1 a0_2 bt202.1 bt202.2.1 bt202.2.2) else (thwartlaw14_UploadBound.l0 k2 a1 a2 t198 t199 x9_2 (wrap64 (x11_2 + 1)) a0_0 a0_1 a0_2 bt202.1 bt202.2.1 bt202.2.2))) = some r := H
                have A41 := Aside0.mk A410
                clear A410
                replace H := Option.bind_eq_some_iff.mp H
                obtain ⟨⟨t202, t203, t204⟩, A420, H⟩ := H
                replace H : (if t201 = true then (thwartlaw14_UploadBound.l0 k2 a1 a2 t198 t199 (wrap64 (x9_2 - 1)) (wrap64 (x11_2 + 1)) a0_0 a0_1 a0_2 t202 t203 t204) else (thwartlaw14_UploadBound.l0 k2 a1 a2 t198 t199 x9_2 (wrap64 (x11_2 + 1)) a0_0 a0_1 a0_2 t202 t203 t204)) = some r := H
                have A42 := Aside0.mk A420
                clear A420
                by_cases c43 : t201 = true
                · subst c43
                  have H1 : (thwartlaw14_UploadBound.l0 k2 a1 a2 t198 t199 (wrap64 (x9_2 - 1)) (wrap64 (x11_2 + 1)) a0_0 a0_1 a0_2 t202 t203 t204) = some r := by rw [if_pos rfl] at H; exact H
                  clear H
                  have H := H1
                  clear H1
                  have H' := Aside0.mk H
                  clear H
                  have hnb44 := NB200_197.out
                  have hnc44 := NB197_200.out
                  have hcz45_0 : wr.cell? ⟨gb200, 0, none⟩ = some (.int .i64 x201000_2) := (blk_cell BK200.out 0).trans rfl
                  have hcz45_1 : wr.cell? ⟨gb200, 1, none⟩ = some (.int .i64 x201001_2) := (blk_cell BK200.out 1).trans rfl
                  have hcz45_2 : wr.cell? ⟨gb200, 2, none⟩ = some (.int .i64 x201002_2) := (blk_cell BK200.out 2).trans rfl
                  have hfz45_0 := blk_frozen BK200.out 0
                  have hfz45_1 := blk_frozen BK200.out 1
                  have hfz45_2 := blk_frozen BK200.out 2
                  go_wp2_with (first | ((with_reducible refine gate_callee (f := 23) rfl ?_); refine goesL_ (some 84) rfl rfl Try.func23 (by kernel_rfl) rfl #[.agg #[.int .i64 x201000_2, .int .i64 x201001_2, .int .i64 x201002_2], .int .i64 (wrap64 (a1 + x11_2))] rfl (by (try simp only [List.map_toArray, List.map_cons, List.map_nil]); first | done | rfl | (simp only [List.length_drop, List.length_take]; rfl)) ?_; (with_reducible refine (upload_Due.calls x201000_2 x201001_2 x201002_2 (wrap64 (a1 + x11_2)) true _ A41.out).mono ?_); rintro e w46 ⟨rfl, hb⟩; refine ⟨_, rfl, ?_⟩; have n0_ := Aside0.mk (blk_below (g := gb197) (o := .cells #[.int .i64 a0_0, .int .i64 a0_1, .int .i64 a0_2] 40 (0, 0)) (by (with_reducible repeat (first | refine blk_drewN ?_ _ | refine blk_drew ?_ | refine blk_alloc ?_ _)); exact BK197.out) hb); have n1_ := Aside0.mk (blk_below (g := gb200) (o := .cells #[.int .i64 x201000_2, .int .i64 x201001_2, .int .i64 x201002_2] 40 (0, 0)) (by (with_reducible repeat (first | refine blk_drewN ?_ _ | refine blk_drew ?_ | refine blk_alloc ?_ _)); exact BK200.out) hb); have n2_ := Aside0.mk (below_step (by repeat (first | (with_reducible first | exact HB.out | apply below_alloc | apply pw_below_drewN | apply below_drew1 | refine below_set ?_ GE197.out | refine below_set ?_ GE200.out) | exact HB.out)) hb); clear BK197; clear BK200; clear HB; have BK197 := n0_; have BK200 := n1_; have HB := n2_; clear n0_ n1_ n2_; (try clear hb); (try clear hb2); (try clear hk); (try clear hi); have hcz47_0 : w46.cell? ⟨gb200, 0, none⟩ = some (.int .i64 x201000_2) := (blk_cell BK200.out 0).trans rfl; have hcz47_1 : w46.cell? ⟨gb200, 1, none⟩ = some (.int .i64 x201001_2) := (blk_cell BK200.out 1).trans rfl; have hcz47_2 : w46.cell? ⟨gb200, 2, none⟩ = some (.int .i64 x201002_2) := (blk_cell BK200.out 2).trans rfl; have hfz47_0 := blk_frozen BK200.out 0; have hfz47_1 := blk_frozen BK200.out 1; have hfz47_2 := blk_frozen BK200.out 2) | ((with_reducible refine gate_callee (f := 25) rfl ?_); refine goesL_ (some 91) rfl rfl Try.func25 (by kernel_rfl) rfl #[.agg #[.int .i64 x201000_2, .int .i64 x201001_2, .int .i64 x201002_2], .int .i64 (wrap64 (a1 + x11_2)), .bool (decide (x9_2 ≤ 0))] rfl (by (try simp only [List.map_toArray, List.map_cons, List.map_nil]); first | done | rfl | (simp only [List.length_drop, List.length_take]; rfl)) ?_; (with_reducible refine (upload_Step.calls x201000_2 x201001_2 x201002_2 (wrap64 (a1 + x11_2)) (decide (x9_2 ≤ 0)) t202 t203 t204 _ A42.out).mono ?_); rintro e w48 ⟨rfl, hb⟩; refine ⟨_, rfl, ?_⟩; have n0_ := Aside0.mk (blk_below (g := gb197) (o := .cells #[.int .i64 a0_0, .int .i64 a0_1, .int .i64 a0_2] 40 (0, 0)) (by (with_reducible repeat (first | refine blk_drewN ?_ _ | refine blk_drew ?_ | refine blk_alloc ?_ _)); exact BK197.out) hb); have n1_ := Aside0.mk (blk_below (g := gb200) (o := .cells #[.int .i64 x201000_2, .int .i64 x201001_2, .int .i64 x201002_2] 40 (0, 0)) (by (with_reducible repeat (first | refine blk_drewN ?_ _ | refine blk_drew ?_ | refine blk_alloc ?_ _)); exact BK200.out) hb); have n2_ := Aside0.mk (below_step (by repeat (first | (with_reducible first | exact HB.out | apply below_alloc | apply pw_below_drewN | apply below_drew1 | refine below_set ?_ GE197.out | refine below_set ?_ GE200.out) | exact HB.out)) hb); clear BK197; clear BK200; clear HB; have BK197 := n0_; have BK200 := n1_; have HB := n2_; clear n0_ n1_ n2_; (try clear hb); (try clear hb2); (try clear hk); (try clear hi); have hcz49_0 : w48.cell? ⟨gb200, 0, none⟩ = some (.int .i64 x201000_2) := (blk_cell BK200.out 0).trans rfl; have hcz49_1 : w48.cell? ⟨gb200, 1, none⟩ = some (.int .i64 x201001_2) := (blk_cell BK200.out 1).trans rfl; have hcz49_2 : w48.cell? ⟨gb200, 2, none⟩ = some (.int .i64 x201002_2) := (blk_cell BK200.out 2).trans rfl; have hfz49_0 := blk_frozen BK200.out 0; have hfz49_1 := blk_frozen BK200.out 1; have hfz49_2 := blk_frozen BK200.out 2))
                  go_roundg k2
                  case measure => have := HJ4.out; have := HK2.out; omega
                  case rel => exact ⟨(wrap64 (x9_2 - 1)), (wrap64 (x11_2 + 1)), (t202), (t203), (t204), (by first | rfl | (simp; done) | (simp [*]; done)), (by first | rfl | (simp; done) | (simp [*]; done)), H', ⟨by have := HJ4.out; have := HK2.out; omega⟩, ⟨by (with_reducible repeat (first | refine blk_drewN ?_ _ | refine blk_drew ?_ | refine blk_alloc ?_ _)); refine blk_far ?_ NB197_200.out _; (with_reducible repeat (first | refine blk_drewN ?_ _ | refine blk_drew ?_ | refine blk_alloc ?_ _)); refine blk_far ?_ NB197_200.out _; (with_reducible repeat (first | refine blk_drewN ?_ _ | refine blk_drew ?_ | refine blk_alloc ?_ _)); refine blk_far ?_ NB197_200.out _; (with_reducible repeat (first | refine blk_drewN ?_ _ | refine blk_drew ?_ | refine blk_alloc ?_ _)); exact BK197.out⟩, ⟨by (with_reducible repeat (first | refine blk_drewN ?_ _ | refine blk_drew ?_ | refine blk_alloc ?_ _)); refine blk_put (cs := #[.int .i64 t202, .int .i64 t203, .int .i64 x201002_2]) ?_ 2 _ rfl; (with_reducible repeat (first | refine blk_drewN ?_ _ | refine blk_drew ?_ | refine blk_alloc ?_ _)); refine blk_put (cs := #[.int .i64 t202, .int .i64 x201001_2, .int .i64 x201002_2]) ?_ 1 _ rfl; (with_reducible repeat (first | refine blk_drewN ?_ _ | refine blk_drew ?_ | refine blk_alloc ?_ _)); refine blk_put (cs := #[.int .i64 x201000_2, .int .i64 x201001_2, .int .i64 x201002_2]) ?_ 0 _ rfl; (with_reducible repeat (first | refine blk_drewN ?_ _ | refine blk_drew ?_ | refine blk_alloc ?_ _)); exact BK200.out⟩, ⟨by repeat (first | (with_reducible first | exact HB.out | apply below_alloc | apply pw_below_drewN | apply below_drew1 | refine below_set ?_ GE197.out | refine below_set ?_ GE200.out) | exact HB.out)⟩⟩
                · replace c43 := Bool.eq_false_iff.mpr c43
                  subst c43
                  have H1 : (thwartlaw14_UploadBound.l0 k2 a1 a2 t198 t199 x9_2 (wrap64 (x11_2 + 1)) a0_0 a0_1 a0_2 t202 t203 t204) = some r := by rw [if_neg (show ¬ (false = true) by decide)] at H; exact H
                  clear H
                  have H := H1
                  clear H1
                  have H' := Aside0.mk H
                  clear H
                  have hnb50 := NB200_197.out
                  have hnc50 := NB197_200.out
                  have hcz51_0 : wr.cell? ⟨gb200, 0, none⟩ = some (.int .i64 x201000_2) := (blk_cell BK200.out 0).trans rfl
                  have hcz51_1 : wr.cell? ⟨gb200, 1, none⟩ = some (.int .i64 x201001_2) := (blk_cell BK200.out 1).trans rfl
                  have hcz51_2 : wr.cell? ⟨gb200, 2, none⟩ = some (.int .i64 x201002_2) := (blk_cell BK200.out 2).trans rfl
                  have hfz51_0 := blk_frozen BK200.out 0
                  have hfz51_1 := blk_frozen BK200.out 1
                  have hfz51_2 := blk_frozen BK200.out 2
                  go_wp2_with (first | ((with_reducible refine gate_callee (f := 23) rfl ?_); refine goesL_ (some 84) rfl rfl Try.func23 (by kernel_rfl) rfl #[.agg #[.int .i64 x201000_2, .int .i64 x201001_2, .int .i64 x201002_2], .int .i64 (wrap64 (a1 + x11_2))] rfl (by (try simp only [List.map_toArray, List.map_cons, List.map_nil]); first | done | rfl | (simp only [List.length_drop, List.length_take]; rfl)) ?_; (with_reducible refine (upload_Due.calls x201000_2 x201001_2 x201002_2 (wrap64 (a1 + x11_2)) false _ A41.out).mono ?_); rintro e w52 ⟨rfl, hb⟩; refine ⟨_, rfl, ?_⟩; have n0_ := Aside0.mk (blk_below (g := gb197) (o := .cells #[.int .i64 a0_0, .int .i64 a0_1, .int .i64 a0_2] 40 (0, 0)) (by (with_reducible repeat (first | refine blk_drewN ?_ _ | refine blk_drew ?_ | refine blk_alloc ?_ _)); exact BK197.out) hb); have n1_ := Aside0.mk (blk_below (g := gb200) (o := .cells #[.int .i64 x201000_2, .int .i64 x201001_2, .int .i64 x201002_2] 40 (0, 0)) (by (with_reducible repeat (first | refine blk_drewN ?_ _ | refine blk_drew ?_ | refine blk_alloc ?_ _)); exact BK200.out) hb); have n2_ := Aside0.mk (below_step (by repeat (first | (with_reducible first | exact HB.out | apply below_alloc | apply pw_below_drewN | apply below_drew1 | refine below_set ?_ GE197.out | refine below_set ?_ GE200.out) | exact HB.out)) hb); clear BK197; clear BK200; clear HB; have BK197 := n0_; have BK200 := n1_; have HB := n2_; clear n0_ n1_ n2_; (try clear hb); (try clear hb2); (try clear hk); (try clear hi); have hcz53_0 : w52.cell? ⟨gb200, 0, none⟩ = some (.int .i64 x201000_2) := (blk_cell BK200.out 0).trans rfl; have hcz53_1 : w52.cell? ⟨gb200, 1, none⟩ = some (.int .i64 x201001_2) := (blk_cell BK200.out 1).trans rfl; have hcz53_2 : w52.cell? ⟨gb200, 2, none⟩ = some (.int .i64 x201002_2) := (blk_cell BK200.out 2).trans rfl; have hfz53_0 := blk_frozen BK200.out 0; have hfz53_1 := blk_frozen BK200.out 1; have hfz53_2 := blk_frozen BK200.out 2) | ((with_reducible refine gate_callee (f := 25) rfl ?_); refine goesL_ (some 91) rfl rfl Try.func25 (by kernel_rfl) rfl #[.agg #[.int .i64 x201000_2, .int .i64 x201001_2, .int .i64 x201002_2], .int .i64 (wrap64 (a1 + x11_2)), .bool (decide (x9_2 ≤ 0))] rfl (by (try simp only [List.map_toArray, List.map_cons, List.map_nil]); first | done | rfl | (simp only [List.length_drop, List.length_take]; rfl)) ?_; (with_reducible refine (upload_Step.calls x201000_2 x201001_2 x201002_2 (wrap64 (a1 + x11_2)) (decide (x9_2 ≤ 0)) t202 t203 t204 _ A42.out).mono ?_); rintro e w54 ⟨rfl, hb⟩; refine ⟨_, rfl, ?_⟩; have n0_ := Aside0.mk (blk_below (g := gb197) (o := .cells #[.int .i64 a0_0, .int .i64 a0_1, .int .i64 a0_2] 40 (0, 0)) (by (with_reducible repeat (first | refine blk_drewN ?_ _ | refine blk_drew ?_ | refine blk_alloc ?_ _)); exact BK197.out) hb); have n1_ := Aside0.mk (blk_below (g := gb200) (o := .cells #[.int .i64 x201000_2, .int .i64 x201001_2, .int .i64 x201002_2] 40 (0, 0)) (by (with_reducible repeat (first | refine blk_drewN ?_ _ | refine blk_drew ?_ | refine blk_alloc ?_ _)); exact BK200.out) hb); have n2_ := Aside0.mk (below_step (by repeat (first | (with_reducible first | exact HB.out | apply below_alloc | apply pw_below_drewN | apply below_drew1 | refine below_set ?_ GE197.out | refine below_set ?_ GE200.out) | exact HB.out)) hb); clear BK197; clear BK200; clear HB; have BK197 := n0_; have BK200 := n1_; have HB := n2_; clear n0_ n1_ n2_; (try clear hb); (try clear hb2); (try clear hk); (try clear hi); have hcz55_0 : w54.cell? ⟨gb200, 0, none⟩ = some (.int .i64 x201000_2) := (blk_cell BK200.out 0).trans rfl; have hcz55_1 : w54.cell? ⟨gb200, 1, none⟩ = some (.int .i64 x201001_2) := (blk_cell BK200.out 1).trans rfl; have hcz55_2 : w54.cell? ⟨gb200, 2, none⟩ = some (.int .i64 x201002_2) := (blk_cell BK200.out 2).trans rfl; have hfz55_0 := blk_frozen BK200.out 0; have hfz55_1 := blk_frozen BK200.out 1; have hfz55_2 := blk_frozen BK200.out 2))
                  go_roundg k2
                  case measure => have := HJ4.out; have := HK2.out; omega
                  case rel => exact ⟨(x9_2), (wrap64 (x11_2 + 1)), (t202), (t203), (t204), (by first | rfl | (simp; done) | (simp [*]; done)), (by first | rfl | (simp; done) | (simp [*]; done)), H', ⟨by have := HJ4.out; have := HK2.out; omega⟩, ⟨by (with_reducible repeat (first | refine blk_drewN ?_ _ | refine blk_drew ?_ | refine blk_alloc ?_ _)); refine blk_far ?_ NB197_200.out _; (with_reducible repeat (first | refine blk_drewN ?_ _ | refine blk_drew ?_ | refine blk_alloc ?_ _)); refine blk_far ?_ NB197_200.out _; (with_reducible repeat (first | refine blk_drewN ?_ _ | refine blk_drew ?_ | refine blk_alloc ?_ _)); refine blk_far ?_ NB197_200.out _; (with_reducible repeat (first | refine blk_drewN ?_ _ | refine blk_drew ?_ | refine blk_alloc ?_ _)); exact BK197.out⟩, ⟨by (with_reducible repeat (first | refine blk_drewN ?_ _ | refine blk_drew ?_ | refine blk_alloc ?_ _)); refine blk_put (cs := #[.int .i64 t202, .int .i64 t203, .int .i64 x201002_2]) ?_ 2 _ rfl; (with_reducible repeat (first | refine blk_drewN ?_ _ | refine blk_drew ?_ | refine blk_alloc ?_ _)); refine blk_put (cs := #[.int .i64 t202, .int .i64 x201001_2, .int .i64 x201002_2]) ?_ 1 _ rfl; (with_reducible repeat (first | refine blk_drewN ?_ _ | refine blk_drew ?_ | refine blk_alloc ?_ _)); refine blk_put (cs := #[.int .i64 x201000_2, .int .i64 x201001_2, .int .i64 x201002_2]) ?_ 0 _ rfl; (with_reducible repeat (first | refine blk_drewN ?_ _ | refine blk_drew ?_ | refine blk_alloc ?_ _)); exact BK200.out⟩, ⟨by repeat (first | (with_reducible first | exact HB.out | apply below_alloc | apply pw_below_drewN | apply below_drew1 | refine below_set ?_ GE197.out | refine below_set ?_ GE200.out) | exact HB.out)⟩⟩
            · rw [if_neg c37] at H
              have c37b0 : decide (x11_2 < t199) = false := decide_eq_false c37
              clear c37
              by_cases c56 : t198 = true
              · subst c56
                have H1 : (if x201000_2 = 2 then (some (decide (t199 ≤ (wrap64 ((wrap64 ((mx (wrap64 (a0_2 - a1)) 0) + 2)) + (wrap64 (64 * a2))))))) else (some false)) = some r := by rw [if_pos rfl] at H; exact H
                clear H
                have H := H1
                clear H1
                by_cases c57 : x201000_2 = 2
                · rw [if_pos c57] at H
                  have c57b0 : (x201000_2 == 2) = true := beq_iff_eq.mpr c57
                  have c57b1 : (x201000_2 != 2) = false := bne_eq_false_iff_eq.mpr c57
                  clear c57
                  obtain ⟨ji58, hji58⟩ : ∃ j_ : Int, (mx (wrap64 (a0_2 - a1)) 0) = j_ := ⟨_, rfl⟩
                  replace H : (some (decide (t199 ≤ (wrap64 ((wrap64 ((ji58) + 2)) + (wrap64 (64 * a2))))))) = some r := by first | (rw [hji58] at H; exact H) | (simp only [hji58] at H ⊢; exact H)
                  have hji58_ : (if (wrap64 (a0_2 - a1)) < 0 then 0 else (wrap64 (a0_2 - a1))) = ji58 := hji58
                  obtain rfl := Option.some.inj H
                  have hnb59 := NB200_197.out
                  have hnc59 := NB197_200.out
                  have hcz60_0 : wr.cell? ⟨gb200, 0, none⟩ = some (.int .i64 x201000_2) := (blk_cell BK200.out 0).trans rfl
                  have hcz60_1 : wr.cell? ⟨gb200, 1, none⟩ = some (.int .i64 x201001_2) := (blk_cell BK200.out 1).trans rfl
                  have hcz60_2 : wr.cell? ⟨gb200, 2, none⟩ = some (.int .i64 x201002_2) := (blk_cell BK200.out 2).trans rfl
                  have hfz60_0 := blk_frozen BK200.out 0
                  have hfz60_1 := blk_frozen BK200.out 1
                  have hfz60_2 := blk_frozen BK200.out 2
                  have hcz61_0 : wr.cell? ⟨gb197, 0, none⟩ = some (.int .i64 a0_0) := (blk_cell BK197.out 0).trans rfl
                  have hcz61_1 : wr.cell? ⟨gb197, 1, none⟩ = some (.int .i64 a0_1) := (blk_cell BK197.out 1).trans rfl
                  have hcz61_2 : wr.cell? ⟨gb197, 2, none⟩ = some (.int .i64 a0_2) := (blk_cell BK197.out 2).trans rfl
                  have hfz61_0 := blk_frozen BK197.out 0
                  have hfz61_1 := blk_frozen BK197.out 1
                  have hfz61_2 := blk_frozen BK197.out 2
                  go_wp2
                  go_ret
                  exact ⟨by first | rfl | (simp [errW_none, errW_some] <;> rfl) | (simp only [← hji58]; first | rfl | (simp [errW_none, errW_some] <;> rfl)) | (simp [*, errW_none, errW_some] <;> rfl), by repeat (first | (with_reducible first | exact HB.out | apply below_alloc | apply pw_below_drewN | apply below_drew1 | refine below_set ?_ GE197.out | refine below_set ?_ GE200.out) | exact HB.out)⟩
                · rw [if_neg c57] at H
                  have c57b0 : (x201000_2 == 2) = false := beq_eq_false_iff_ne.mpr c57
                  have c57b1 : (x201000_2 != 2) = true := bne_iff_ne.mpr c57
                  obtain rfl := Option.some.inj H
                  have hnb62 := NB200_197.out
                  have hnc62 := NB197_200.out
                  have hcz63_0 : wr.cell? ⟨gb200, 0, none⟩ = some (.int .i64 x201000_2) := (blk_cell BK200.out 0).trans rfl
                  have hcz63_1 : wr.cell? ⟨gb200, 1, none⟩ = some (.int .i64 x201001_2) := (blk_cell BK200.out 1).trans rfl
                  have hcz63_2 : wr.cell? ⟨gb200, 2, none⟩ = some (.int .i64 x201002_2) := (blk_cell BK200.out 2).trans rfl
                  have hfz63_0 := blk_frozen BK200.out 0
                  have hfz63_1 := blk_frozen BK200.out 1
                  have hfz63_2 := blk_frozen BK200.out 2
                  go_wp2
                  go_ret
                  exact ⟨by first | rfl | (simp [errW_none, errW_some] <;> rfl) | (simp [*, errW_none, errW_some] <;> rfl), by repeat (first | (with_reducible first | exact HB.out | apply below_alloc | apply pw_below_drewN | apply below_drew1 | refine below_set ?_ GE197.out | refine below_set ?_ GE200.out) | exact HB.out)⟩
              · replace c56 := Bool.eq_false_iff.mpr c56
                subst c56
                have H1 : (some false) = some r := by rw [if_neg (show ¬ (false = true) by decide)] at H; exact H
                clear H
                have H := H1
                clear H1
                obtain rfl := Option.some.inj H
                go_wp2
                go_ret
                exact ⟨by first | rfl | (simp [errW_none, errW_some] <;> rfl) | (simp [*, errW_none, errW_some] <;> rfl), by repeat (first | (with_reducible first | exact HB.out | apply below_alloc | apply pw_below_drewN | apply below_drew1 | refine below_set ?_ GE197.out | refine below_set ?_ GE200.out) | exact HB.out)⟩

/-- THE ONE PURE STATEMENT of thwartlaw14_UploadBound: yours. -/
def thwartlaw14_UploadBound.Pure : Prop := ∀ (a0 : S40) (a1 : Int) (a2 : Int), ((Lit.int .i64 a0.f0).wf = true ∧ (Lit.int .i64 a0.f1).wf = true ∧ (Lit.int .i64 a0.f2).wf = true) → (Lit.int .i64 a1).wf = true → (Lit.int .i64 a2).wf = true → ∃ k, thwartlaw14_UploadBound.f k a0.f0 a0.f1 a0.f2 a1 a2 = some true
theorem thwartlaw14_UploadBound.walk (P : thwartlaw14_UploadBound.Pure) (a0 : S40) (cs0 : Array Value) (a1 : Int) (a2 : Int) (w : World) (K0 : k40.K w a0 cs0.toList) (G0 : ((Lit.int .i64 a0.f0).wf = true ∧ (Lit.int .i64 a0.f1).wf = true ∧ (Lit.int .i64 a0.f2).wf = true)) (w1 : (Lit.int .i64 a1).wf = true) (w2 : (Lit.int .i64 a2).wf = true) :
    Calls Try.prog 8 #[.agg cs0, .int .i64 a1, .int .i64 a2] w fun e w' => e = .returned (.bool true) ∧ Below w.heap.size w w' := by
  have e0 := k40_open K0
  replace e0 := congrArg List.toArray e0
  rw [Array.toArray_toList] at e0
  subst e0
  obtain ⟨k, h⟩ := P a0 a1 a2 G0 w1 w2
  refine (thwartlaw14_UploadBound.calls k a0.f0 a0.f1 a0.f2 a1 a2 true w  h).mono ?_
  rintro e w' ⟨rfl, hd⟩
  exact ⟨rfl, hd⟩

-- NOT PRINTED: function 9 (thwartlaw14_UploadWays)

end Go.Proofs.Ytcahpaoeailajaa.Print
