/- Written by a program of mine (give.py, over the kit's print) out of the translation: contracts of the Go functions. Lean checks it. -/
import Derived.Test.YtnhmhdconmollaaPrint0
import Derived.Test.YtnhmhdconmollaaPrint1
import Derived.Test.YtnhmhdconmollaaPrint2
import Derived.Test.YtnhmhdconmollaaPrint3
import Derived.Test.YtnhmhdconmollaaPrint4
import Derived.Test.YtnhmhdconmollaaPrint7
import Derived.Test.YtnhmhdconmollaaPrint8
namespace Go.Proofs.Ytnhmhdconmollaa.Print
open Go.RowKit Go.Proofs.YtnhmhdconmollaaW.PrintWords Go.Proofs.YtnhmhdconmollaaW.PrintLast Go.Proofs.YtnhmhdconmollaaW.PrintMore
attribute [local go_sem] max2_int min2_int max_two min_two max_three min_three max_four min_four   -- for this text's walks alone
set_option linter.unusedVariables false
set_option linter.unusedSimpArgs false

attribute [local go_sem high] eqA24
/-! ### thwartlaw03_RecordBack: function 6 -/
mutual
def thwartlaw03_RecordBack.j0 : Nat → List (S24) → ByteArray → ByteArray → Bool → Bool → Option (Bool)
  | 0, _, _, _, _, _ => none
  | k + 1, x0, x1, x2, x7, x39 => if x39 = true then (some x7) else ((record_All.f k x0).bind fun bt239 => ((record_List.f k bt239.1).bind fun bt241 => ((thwartref03_Same.f k x0 bt241.1).bind fun t245 => (if bt239.2 = 0 then (if bt241.2 = 0 then (thwartlaw03_RecordBack.j1 k x0 x1 x2 x7 bt239.2 (!t245)) else (thwartlaw03_RecordBack.j1 k x0 x1 x2 x7 bt239.2 true)) else (thwartlaw03_RecordBack.j1 k x0 x1 x2 x7 bt239.2 false)))))
def thwartlaw03_RecordBack.j1 : Nat → List (S24) → ByteArray → ByteArray → Bool → Int → Bool → Option (Bool)
  | 0, _, _, _, _, _, _ => none
  | k + 1, x0, x1, x2, x7, x10, x63 => if x63 = true then (none) else (thwartlaw03_RecordBack.l0 k x0 x1 x2 x7 x10 0)
def thwartlaw03_RecordBack.l0 : Nat → List (S24) → ByteArray → ByteArray → Bool → Int → Int → Option (Bool)
  | 0, _, _, _, _, _, _ => none
  | k + 1, x0, x1, x2, x7, x10, x14 => if x14 < (x0.length : Int) then (thwartlaw03_RecordBack.j3 k x0 x1 x2 x7 x10 x14 (x10 == 0)) else (thwartlaw03_RecordBack.j3 k x0 x1 x2 x7 x10 x14 false)
def thwartlaw03_RecordBack.j3 : Nat → List (S24) → ByteArray → ByteArray → Bool → Int → Int → Bool → Option (Bool)
  | 0, _, _, _, _, _, _, _ => none
  | k + 1, x0, x1, x2, x7, x10, x14, x71 => if x71 = true then (if 0 ≤ x14 then (if x14 < (x0.length : Int) then ((record_Bytes.f k ((rd_T24 x0 x14).f0) ((rd_T24 x0 x14).f1) ((rd_T24 x0 x14).f2) ((rd_T24 x0 x14).f3)).bind fun bt256 => (if bt256.1.size + x2.size ≤ 9223372036854775807 then ((record_Read.f k (bt256.1 ++ x2)).bind fun bt258 => (if bt256.2 = 0 then (if bt258.2.2.2.2.2 = 0 then (if (!(bt258.1 == ((rd_T24 x0 x14).f0)) || (!(bt258.2.1.toList == (((rd_T24 x0 x14).f1).toList)) || (!(bt258.2.2.1.toList == (((rd_T24 x0 x14).f2).toList)) || (!(bt258.2.2.2.1 == ((rd_T24 x0 x14).f3)))))) = true then (none) else (if bt258.2.2.2.2.1.toList = x2.toList then (thwartlaw03_RecordBack.l0 k x0 x1 x2 x7 x10 (wrap64 (x14 + 1))) else (none))) else (none)) else (none))) else (none))) else (none)) else (none)) else ((record_Read.f k x1).bind fun bt246 => ((record_Bytes.f k bt246.1 bt246.2.1 bt246.2.2.1 bt246.2.2.2.1).bind fun bt253 => (if x7 = true then (if bt246.2.2.2.2.2 = 0 then (if bt253.2 = 0 then (if bt253.1.size + bt246.2.2.2.2.1.size ≤ 9223372036854775807 then (some ((bt253.1 ++ bt246.2.2.2.2.1).toList == x1.toList)) else (none)) else (none)) else (some true)) else (none))))
end
def thwartlaw03_RecordBack.f (k : Nat) (l0 : List (S24)) (a1 : ByteArray) (a2 : ByteArray) : Option (Bool) := (thwartlaw03_awake.f k).bind fun t237 => ((thwartref03_Light.f k l0).bind fun t238 => (if t238 = true then (if (a1.size : Int) > 2000 then (thwartlaw03_RecordBack.j0 k l0 a1 a2 t237 true) else (thwartlaw03_RecordBack.j0 k l0 a1 a2 t237 (decide ((a2.size : Int) > 500)))) else (thwartlaw03_RecordBack.j0 k l0 a1 a2 t237 true)))
theorem thwartlaw03_RecordBack.mono_l : ∀ k, (∀ y0 y1 y2 y3 y4, LeO (thwartlaw03_RecordBack.j0 k y0 y1 y2 y3 y4) (thwartlaw03_RecordBack.j0 (k + 1) y0 y1 y2 y3 y4)) ∧ (∀ y0 y1 y2 y3 y4 y5, LeO (thwartlaw03_RecordBack.j1 k y0 y1 y2 y3 y4 y5) (thwartlaw03_RecordBack.j1 (k + 1) y0 y1 y2 y3 y4 y5)) ∧ (∀ y0 y1 y2 y3 y4 y5, LeO (thwartlaw03_RecordBack.l0 k y0 y1 y2 y3 y4 y5) (thwartlaw03_RecordBack.l0 (k + 1) y0 y1 y2 y3 y4 y5)) ∧ (∀ y0 y1 y2 y3 y4 y5 y6, LeO (thwartlaw03_RecordBack.j3 k y0 y1 y2 y3 y4 y5 y6) (thwartlaw03_RecordBack.j3 (k + 1) y0 y1 y2 y3 y4 y5 y6))
  | 0 => ⟨fun _ _ _ _ _ r h => by simp [thwartlaw03_RecordBack.j0] at h, fun _ _ _ _ _ _ r h => by simp [thwartlaw03_RecordBack.j1] at h, fun _ _ _ _ _ _ r h => by simp [thwartlaw03_RecordBack.l0] at h, fun _ _ _ _ _ _ _ r h => by simp [thwartlaw03_RecordBack.j3] at h⟩
  | k + 1 => by
    obtain ⟨ih0, ih1, ih2, ih3⟩ := thwartlaw03_RecordBack.mono_l k
    refine ⟨?_, ?_, ?_, ?_⟩
    · intro y0 y1 y2 y3 y4
      unfold thwartlaw03_RecordBack.j0
      repeat' first
      | (with_reducible exact ih0 _ _ _ _ _)
      | (with_reducible exact ih1 _ _ _ _ _ _)
      | (with_reducible exact ih2 _ _ _ _ _ _)
      | (with_reducible exact ih3 _ _ _ _ _ _ _)
      | (with_reducible exact record_All.mono _ _)
      | (with_reducible exact record_Bytes.mono _ _ _ _ _)
      | (with_reducible exact record_List.mono _ _)
      | (with_reducible exact record_Read.mono _ _)
      | (with_reducible exact thwartlaw03_awake.mono _)
      | (with_reducible exact thwartref03_Light.mono _ _)
      | (with_reducible exact thwartref03_Same.mono _ _ _)
      | (with_reducible exact LeO.refl _)
      | (with_reducible exact LeO.none _)
      | (with_reducible refine LeO.ite ?_ ?_)
      | (with_reducible refine LeO.bind ?_ (fun _ => ?_))
      | exact ih0 _ _ _ _ _
      | exact ih1 _ _ _ _ _ _
      | exact ih2 _ _ _ _ _ _
      | exact ih3 _ _ _ _ _ _ _
      | exact record_All.mono _ _
      | exact record_Bytes.mono _ _ _ _ _
      | exact record_List.mono _ _
      | exact record_Read.mono _ _
      | exact thwartlaw03_awake.mono _
      | exact thwartref03_Light.mono _ _
      | exact thwartref03_Same.mono _ _ _
      | exact LeO.none _
      | refine LeO.ite ?_ ?_
      | refine LeO.bind ?_ (fun _ => ?_)
    · intro y0 y1 y2 y3 y4 y5
      unfold thwartlaw03_RecordBack.j1
      repeat' first
      | (with_reducible exact ih0 _ _ _ _ _)
      | (with_reducible exact ih1 _ _ _ _ _ _)
      | (with_reducible exact ih2 _ _ _ _ _ _)
      | (with_reducible exact ih3 _ _ _ _ _ _ _)
      | (with_reducible exact record_All.mono _ _)
      | (with_reducible exact record_Bytes.mono _ _ _ _ _)
      | (with_reducible exact record_List.mono _ _)
      | (with_reducible exact record_Read.mono _ _)
      | (with_reducible exact thwartlaw03_awake.mono _)
      | (with_reducible exact thwartref03_Light.mono _ _)
      | (with_reducible exact thwartref03_Same.mono _ _ _)
      | (with_reducible exact LeO.refl _)
      | (with_reducible exact LeO.none _)
      | (with_reducible refine LeO.ite ?_ ?_)
      | (with_reducible refine LeO.bind ?_ (fun _ => ?_))
      | exact ih0 _ _ _ _ _
      | exact ih1 _ _ _ _ _ _
      | exact ih2 _ _ _ _ _ _
      | exact ih3 _ _ _ _ _ _ _
      | exact record_All.mono _ _
      | exact record_Bytes.mono _ _ _ _ _
      | exact record_List.mono _ _
      | exact record_Read.mono _ _
      | exact thwartlaw03_awake.mono _
      | exact thwartref03_Light.mono _ _
      | exact thwartref03_Same.mono _ _ _
      | exact LeO.none _
      | refine LeO.ite ?_ ?_
      | refine LeO.bind ?_ (fun _ => ?_)
    · intro y0 y1 y2 y3 y4 y5
      unfold thwartlaw03_RecordBack.l0
      repeat' first
      | (with_reducible exact ih0 _ _ _ _ _)
      | (with_reducible exact ih1 _ _ _ _ _ _)
      | (with_reducible exact ih2 _ _ _ _ _ _)
      | (with_reducible exact ih3 _ _ _ _ _ _ _)
      | (with_reducible exact record_All.mono _ _)
      | (with_reducible exact record_Bytes.mono _ _ _ _ _)
      | (with_reducible exact record_List.mono _ _)
      | (with_reducible exact record_Read.mono _ _)
      | (with_reducible exact thwartlaw03_awake.mono _)
      | (with_reducible exact thwartref03_Light.mono _ _)
      | (with_reducible exact thwartref03_Same.mono _ _ _)
      | (with_reducible exact LeO.refl _)
      | (with_reducible exact LeO.none _)
      | (with_reducible refine LeO.ite ?_ ?_)
      | (with_reducible refine LeO.bind ?_ (fun _ => ?_))
      | exact ih0 _ _ _ _ _
      | exact ih1 _ _ _ _ _ _
      | exact ih2 _ _ _ _ _ _
      | exact ih3 _ _ _ _ _ _ _
      | exact record_All.mono _ _
      | exact record_Bytes.mono _ _ _ _ _
      | exact record_List.mono _ _
      | exact record_Read.mono _ _
      | exact thwartlaw03_awake.mono _
      | exact thwartref03_Light.mono _ _
      | exact thwartref03_Same.mono _ _ _
      | exact LeO.none _
      | refine LeO.ite ?_ ?_
      | refine LeO.bind ?_ (fun _ => ?_)
    · intro y0 y1 y2 y3 y4 y5 y6
      unfold thwartlaw03_RecordBack.j3
      repeat' first
      | (with_reducible exact ih0 _ _ _ _ _)
      | (with_reducible exact ih1 _ _ _ _ _ _)
      | (with_reducible exact ih2 _ _ _ _ _ _)
      | (with_reducible exact ih3 _ _ _ _ _ _ _)
      | (with_reducible exact record_All.mono _ _)
      | (with_reducible exact record_Bytes.mono _ _ _ _ _)
      | (with_reducible exact record_List.mono _ _)
      | (with_reducible exact record_Read.mono _ _)
      | (with_reducible exact thwartlaw03_awake.mono _)
      | (with_reducible exact thwartref03_Light.mono _ _)
      | (with_reducible exact thwartref03_Same.mono _ _ _)
      | (with_reducible exact LeO.refl _)
      | (with_reducible exact LeO.none _)
      | (with_reducible refine LeO.ite ?_ ?_)
      | (with_reducible refine LeO.bind ?_ (fun _ => ?_))
      | exact ih0 _ _ _ _ _
      | exact ih1 _ _ _ _ _ _
      | exact ih2 _ _ _ _ _ _
      | exact ih3 _ _ _ _ _ _ _
      | exact record_All.mono _ _
      | exact record_Bytes.mono _ _ _ _ _
      | exact record_List.mono _ _
      | exact record_Read.mono _ _
      | exact thwartlaw03_awake.mono _
      | exact thwartref03_Light.mono _ _
      | exact thwartref03_Same.mono _ _ _
      | exact LeO.none _
      | refine LeO.ite ?_ ?_
      | refine LeO.bind ?_ (fun _ => ?_)
theorem thwartlaw03_RecordBack.mono : ∀ a0 a1 a2 k, LeO (thwartlaw03_RecordBack.f k a0 a1 a2) (thwartlaw03_RecordBack.f (k + 1) a0 a1 a2) := by
  intro a0 a1 a2 k
  obtain ⟨ih0, ih1, ih2, ih3⟩ := thwartlaw03_RecordBack.mono_l k
  unfold thwartlaw03_RecordBack.f
  repeat' first
      | (with_reducible exact ih0 _ _ _ _ _)
      | (with_reducible exact ih1 _ _ _ _ _ _)
      | (with_reducible exact ih2 _ _ _ _ _ _)
      | (with_reducible exact ih3 _ _ _ _ _ _ _)
      | (with_reducible exact record_All.mono _ _)
      | (with_reducible exact record_Bytes.mono _ _ _ _ _)
      | (with_reducible exact record_List.mono _ _)
      | (with_reducible exact record_Read.mono _ _)
      | (with_reducible exact thwartlaw03_awake.mono _)
      | (with_reducible exact thwartref03_Light.mono _ _)
      | (with_reducible exact thwartref03_Same.mono _ _ _)
      | (with_reducible exact LeO.refl _)
      | (with_reducible exact LeO.none _)
      | (with_reducible refine LeO.ite ?_ ?_)
      | (with_reducible refine LeO.bind ?_ (fun _ => ?_))
      | exact ih0 _ _ _ _ _
      | exact ih1 _ _ _ _ _ _
      | exact ih2 _ _ _ _ _ _
      | exact ih3 _ _ _ _ _ _ _
      | exact record_All.mono _ _
      | exact record_Bytes.mono _ _ _ _ _
      | exact record_List.mono _ _
      | exact record_Read.mono _ _
      | exact thwartlaw03_awake.mono _
      | exact thwartref03_Light.mono _ _
      | exact thwartref03_Same.mono _ _ _
      | exact LeO.none _
      | refine LeO.ite ?_ ?_
      | refine LeO.bind ?_ (fun _ => ?_)
set_option maxHeartbeats 8000000 in
set_option maxRecDepth 100000 in
theorem thwartlaw03_RecordBack.calls (k : Nat) (A0 : Option Addr) (c0 : Nat) (l0 : List (S24)) (a1 : ByteArray) (a2 : ByteArray) (r : Bool) (w : World) (hr0 : Kd.C k24 w A0 l0.length l0) (hc0 : l0.length ≤ c0) (h : thwartlaw03_RecordBack.f k l0 a1 a2 = some r) :
    Calls Try.prog 6 #[.slice A0 l0.length c0, .string a1, .string a2] w fun e w' => e = .returned (.bool r) ∧ Below w.heap.size w w' := by
  have hu24 := Try.underlying24
  have HR0 := Aside0.mk hr0
  have HC0 := Aside0.mk hc0
  clear hr0 hc0
  have HB := Aside0.mk (Below.refl w.heap.size w)
  have H : ((thwartlaw03_awake.f k).bind fun t237 => ((thwartref03_Light.f k l0).bind fun t238 => (if t238 = true then (if (a1.size : Int) > 2000 then (thwartlaw03_RecordBack.j0 k l0 a1 a2 t237 true) else (thwartlaw03_RecordBack.j0 k l0 a1 a2 t237 (decide ((a2.size : Int) > 500)))) else (thwartlaw03_RecordBack.j0 k l0 a1 a2 t237 true)))) = some r := h
  clear h
  replace H := Option.bind_eq_some_iff.mp H
  obtain ⟨t237, A40, H⟩ := H
  replace H : ((thwartref03_Light.f k l0).bind fun t238 => (if t238 = true then (if (a1.size : Int) > 2000 then (thwartlaw03_RecordBack.j0 k l0 a1 a2 t237 true) else (thwartlaw03_RecordBack.j0 k l0 a1 a2 t237 (decide ((a2.size : Int) > 500)))) else (thwartlaw03_RecordBack.j0 k l0 a1 a2 t237 true))) = some r := H
  have A4 := Aside0.mk A40
  clear A40
  replace H := Option.bind_eq_some_iff.mp H
  obtain ⟨t238, A50, H⟩ := H
  replace H : (if t238 = true then (if (a1.size : Int) > 2000 then (thwartlaw03_RecordBack.j0 k l0 a1 a2 t237 true) else (thwartlaw03_RecordBack.j0 k l0 a1 a2 t237 (decide ((a2.size : Int) > 500)))) else (thwartlaw03_RecordBack.j0 k l0 a1 a2 t237 true)) = some r := H
  have A5 := Aside0.mk A50
  clear A50
  have HC6 := Aside0.mk H
  clear H
  go_enter Try.func6, Try.ntmps6
  go_upto_region 3 with (first | (go_at_call 10; (with_reducible refine (thwartlaw03_awake.calls k  t237 _ A4.out).mono ?_); rintro e w7 ⟨rfl, hb⟩; have n0_ := Aside0.mk (below_step (by repeat (first | (with_reducible first | exact HB.out | apply below_alloc | apply pw_below_drewN | apply below_drew1) | exact HB.out)) hb); clear HB; have HB := n0_; clear n0_; (try clear hb); (try clear hb2); (try clear hk); (try clear hi)) | (go_at_call 17; (with_reducible refine (thwartref03_Light.calls k _ _ l0 t238 _ ?side1 ?side2 A5.out).mono ?_); (case side1 => repeat (first | exact (Kd.C_below HR0.out HB.out) | (with_reducible refine Kd.C_alloc ?_ _) | (with_reducible refine Kd.C_drewN ?_ _) | (with_reducible refine Kd.C_drew ?_))); (case side2 => exact HC0.out); rintro e w8 ⟨rfl, hb⟩; have n0_ := Aside0.mk (below_step (by repeat (first | (with_reducible first | exact HB.out | apply below_alloc | apply pw_below_drewN | apply below_drew1) | exact HB.out)) hb); clear HB; have HB := n0_; clear n0_; (try clear hb); (try clear hb2); (try clear hk); (try clear hi)))
  repeat (go_quiet (first | (go_at_call 10; (with_reducible refine (thwartlaw03_awake.calls k  t237 _ A4.out).mono ?_); rintro e w7 ⟨rfl, hb⟩; have n0_ := Aside0.mk (below_step (by repeat (first | (with_reducible first | exact HB.out | apply below_alloc | apply pw_below_drewN | apply below_drew1) | exact HB.out)) hb); clear HB; have HB := n0_; clear n0_; (try clear hb); (try clear hb2); (try clear hk); (try clear hi)) | (go_at_call 17; (with_reducible refine (thwartref03_Light.calls k _ _ l0 t238 _ ?side1 ?side2 A5.out).mono ?_); (case side1 => repeat (first | exact (Kd.C_below HR0.out HB.out) | (with_reducible refine Kd.C_alloc ?_ _) | (with_reducible refine Kd.C_drewN ?_ _) | (with_reducible refine Kd.C_drew ?_))); (case side2 => exact HC0.out); rintro e w8 ⟨rfl, hb⟩; have n0_ := Aside0.mk (below_step (by repeat (first | (with_reducible first | exact HB.out | apply below_alloc | apply pw_below_drewN | apply below_drew1) | exact HB.out)) hb); clear HB; have HB := n0_; clear n0_; (try clear hb); (try clear hb2); (try clear hk); (try clear hi))); go_upto_region 3 with (first | (go_at_call 10; (with_reducible refine (thwartlaw03_awake.calls k  t237 _ A4.out).mono ?_); rintro e w7 ⟨rfl, hb⟩; have n0_ := Aside0.mk (below_step (by repeat (first | (with_reducible first | exact HB.out | apply below_alloc | apply pw_below_drewN | apply below_drew1) | exact HB.out)) hb); clear HB; have HB := n0_; clear n0_; (try clear hb); (try clear hb2); (try clear hk); (try clear hi)) | (go_at_call 17; (with_reducible refine (thwartref03_Light.calls k _ _ l0 t238 _ ?side1 ?side2 A5.out).mono ?_); (case side1 => repeat (first | exact (Kd.C_below HR0.out HB.out) | (with_reducible refine Kd.C_alloc ?_ _) | (with_reducible refine Kd.C_drewN ?_ _) | (with_reducible refine Kd.C_drew ?_))); (case side2 => exact HC0.out); rintro e w8 ⟨rfl, hb⟩; have n0_ := Aside0.mk (below_step (by repeat (first | (with_reducible first | exact HB.out | apply below_alloc | apply pw_below_drewN | apply below_drew1) | exact HB.out)) hb); clear HB; have HB := n0_; clear n0_; (try clear hb); (try clear hb2); (try clear hk); (try clear hi))))
  (try simp only [Act.put, List.setIfInBounds_toArray, List.set_cons_zero, List.set_cons_succ])
  go_cut [39] (fun v39 wc => ∃ (kq : Nat) (x39_5 : Bool), v39 = .bool x39_5 ∧ Aside0 (thwartlaw03_RecordBack.j0 kq l0 a1 a2 t237 x39_5 = some r) ∧ Aside0 (kq ≤ k) ∧ Aside0 (Below w.heap.size w wc))
  case first =>
    have H := HC6.out
    clear HC6
    by_cases c9 : t238 = true
    · subst c9
      have H1 : (if (a1.size : Int) > 2000 then (thwartlaw03_RecordBack.j0 k l0 a1 a2 t237 true) else (thwartlaw03_RecordBack.j0 k l0 a1 a2 t237 (decide ((a2.size : Int) > 500)))) = some r := by rw [if_pos rfl] at H; exact H
      clear H
      have H := H1
      clear H1
      by_cases c10 : (a1.size : Int) > 2000
      · rw [if_pos c10] at H
        have c10b0 : decide (2000 < (a1.size : Int)) = true := decide_eq_true c10
        have c10b1 : decide (2000 < a1.size) = true := decide_eq_true (by omega)
        clear c10
        (first | rw [c10b0] | (simp only [i64_w, i32_w]; rw [c10b0]) | skip)
        have H' := Aside0.mk H
        clear H
        go_wp2
        repeat (go_quiet (fail); try go_wp2)
        go_meet
        case rel => exact ⟨_, (true), (by first | rfl | (simp; done) | (simp [*]; done)), H', ⟨by first | omega | exact Nat.le_refl _⟩, ⟨by repeat (first | (with_reducible first | exact HB.out | apply below_alloc | apply pw_below_drewN | apply below_drew1) | exact HB.out)⟩⟩
      · rw [if_neg c10] at H
        have c10b0 : decide (2000 < (a1.size : Int)) = false := decide_eq_false c10
        have c10b1 : decide (2000 < a1.size) = false := decide_eq_false (by omega)
        clear c10
        (first | rw [c10b0] | (simp only [i64_w, i32_w]; rw [c10b0]) | skip)
        have H' := Aside0.mk H
        clear H
        go_wp2
        repeat (go_quiet (fail); try go_wp2)
        go_meet
        case rel => exact ⟨_, (decide ((a2.size : Int) > 500)), (by first | rfl | (simp; done) | (simp [*]; done)), H', ⟨by first | omega | exact Nat.le_refl _⟩, ⟨by repeat (first | (with_reducible first | exact HB.out | apply below_alloc | apply pw_below_drewN | apply below_drew1) | exact HB.out)⟩⟩
    · replace c9 := Bool.eq_false_iff.mpr c9
      subst c9
      have H1 : (thwartlaw03_RecordBack.j0 k l0 a1 a2 t237 true) = some r := by rw [if_neg (show ¬ (false = true) by decide)] at H; exact H
      clear H
      have H := H1
      clear H1
      have H' := Aside0.mk H
      clear H
      go_wp2
      repeat (go_quiet (fail); try go_wp2)
      go_meet
      case rel => exact ⟨_, (true), (by first | rfl | (simp; done) | (simp [*]; done)), H', ⟨by first | omega | exact Nat.le_refl _⟩, ⟨by repeat (first | (with_reducible first | exact HB.out | apply below_alloc | apply pw_below_drewN | apply below_drew1) | exact HB.out)⟩⟩
  case rest =>
    clear HC6
    try clear c1
    try clear p2
    try clear c6
    try clear c9
    try clear c10
    try clear c10b0
    try clear c10b1
    obtain ⟨kq, x39_5, rfl, HA, HJ5, HB⟩ := hcut
    cases kq with
    | zero => exact absurd HA.out (by simp [thwartlaw03_RecordBack.j0])
    | succ kj5 =>
      have H := HA.out
      clear HA
      simp only [thwartlaw03_RecordBack.j0] at H
      by_cases c11 : x39_5 = true
      · subst c11
        have H1 : (some t237) = some r := by rw [if_pos rfl] at H; exact H
        clear H
        have H := H1
        clear H1
        obtain rfl := Option.some.inj H
        go_wp2
        repeat (go_quiet (fail); try go_wp2)
        go_ret
        exact ⟨by first | rfl | (simp [errW_none, errW_some] <;> rfl) | (simp [*, errW_none, errW_some] <;> rfl) | (simp [errW_none, errW_some]; exact isEmpty_bne _), by repeat (first | (with_reducible first | exact HB.out | apply below_alloc | apply pw_below_drewN | apply below_drew1) | exact HB.out)⟩
      · replace c11 := Bool.eq_false_iff.mpr c11
        subst c11
        have H1 : ((record_All.f kj5 l0).bind fun bt239 => ((record_List.f kj5 bt239.1).bind fun bt241 => ((thwartref03_Same.f kj5 l0 bt241.1).bind fun t245 => (if bt239.2 = 0 then (if bt241.2 = 0 then (thwartlaw03_RecordBack.j1 kj5 l0 a1 a2 t237 bt239.2 (!t245)) else (thwartlaw03_RecordBack.j1 kj5 l0 a1 a2 t237 bt239.2 true)) else (thwartlaw03_RecordBack.j1 kj5 l0 a1 a2 t237 bt239.2 false))))) = some r := by rw [if_neg (show ¬ (false = true) by decide)] at H; exact H
        clear H
        have H := H1
        clear H1
        replace H := Option.bind_eq_some_iff.mp H
        obtain ⟨⟨t239, t240⟩, A120, H⟩ := H
        replace H : ((record_List.f kj5 t239).bind fun bt241 => ((thwartref03_Same.f kj5 l0 bt241.1).bind fun t245 => (if t240 = 0 then (if bt241.2 = 0 then (thwartlaw03_RecordBack.j1 kj5 l0 a1 a2 t237 t240 (!t245)) else (thwartlaw03_RecordBack.j1 kj5 l0 a1 a2 t237 t240 true)) else (thwartlaw03_RecordBack.j1 kj5 l0 a1 a2 t237 t240 false)))) = some r := H
        have A12 := Aside0.mk A120
        clear A120
        replace H := Option.bind_eq_some_iff.mp H
        obtain ⟨⟨t241, t242⟩, A130, H⟩ := H
        replace H : ((thwartref03_Same.f kj5 l0 t241).bind fun t245 => (if t240 = 0 then (if t242 = 0 then (thwartlaw03_RecordBack.j1 kj5 l0 a1 a2 t237 t240 (!t245)) else (thwartlaw03_RecordBack.j1 kj5 l0 a1 a2 t237 t240 true)) else (thwartlaw03_RecordBack.j1 kj5 l0 a1 a2 t237 t240 false))) = some r := H
        have A13 := Aside0.mk A130
        clear A130
        replace H := Option.bind_eq_some_iff.mp H
        obtain ⟨t245, A140, H⟩ := H
        replace H : (if t240 = 0 then (if t242 = 0 then (thwartlaw03_RecordBack.j1 kj5 l0 a1 a2 t237 t240 (!t245)) else (thwartlaw03_RecordBack.j1 kj5 l0 a1 a2 t237 t240 true)) else (thwartlaw03_RecordBack.j1 kj5 l0 a1 a2 t237 t240 false)) = some r := H
        have A14 := Aside0.mk A140
        clear A140
        have HC15 := Aside0.mk H
        clear H
        go_upto_region 8 with (first | (go_at_call 18; (with_reducible refine (record_All.calls kj5 _ _ l0 t239 t240 _ ?side1 ?side2 A12.out).mono ?_); (case side1 => repeat (first | exact (Kd.C_below HR0.out HB.out) | (with_reducible refine Kd.C_alloc ?_ _) | (with_reducible refine Kd.C_drewN ?_ _) | (with_reducible refine Kd.C_drew ?_))); (case side2 => exact HC0.out); rintro e w16 ⟨rfl, hb⟩; have n0_ := Aside0.mk (below_step (by repeat (first | (with_reducible first | exact HB.out | apply below_alloc | apply pw_below_drewN | apply below_drew1) | exact HB.out)) hb); clear HB; have HB := n0_; clear n0_; (try clear hb); (try clear hb2); (try clear hk); (try clear hi)) | (go_at_call 20; (with_reducible refine (record_List.calls kj5 t239 t241 t242 _ A13.out).mono ?_); rintro e w17 ⟨v243, rfl, ho0, hb⟩; have n0_ := Aside0.mk (Kd.R_lower ho0 (below_size (by repeat (first | (with_reducible first | exact HB.out | apply below_alloc | apply pw_below_drewN | apply below_drew1) | exact HB.out)))); have n1_ := Aside0.mk (below_step (by repeat (first | (with_reducible first | exact HB.out | apply below_alloc | apply pw_below_drewN | apply below_drew1) | exact HB.out)) hb); clear HB; have HO244 := n0_; have HB := n1_; clear n0_ n1_; (try clear hb); (try clear hb2); (try clear hk); (try clear hi); (try clear ho0); obtain ⟨Ao18, co18, eo18⟩ := Kd.R_slice HO244.out; subst eo18) | (go_at_call 22; (with_reducible refine (thwartref03_Same.calls kj5 _ _ l0 _ _ t241 t245 _ ?side1 ?side2 ?side3 ?side4 A14.out).mono ?_); (case side1 => repeat (first | exact (Kd.C_below HR0.out HB.out) | (with_reducible refine Kd.C_alloc ?_ _) | (with_reducible refine Kd.C_drewN ?_ _) | (with_reducible refine Kd.C_drew ?_))); (case side2 => exact HC0.out); (case side3 => repeat (first | exact (Kd.R_reads' HO244.out).2.2 | (with_reducible refine Kd.C_alloc ?_ _) | (with_reducible refine Kd.C_drewN ?_ _) | (with_reducible refine Kd.C_drew ?_))); (case side4 => exact (Kd.R_reads' HO244.out).2.1); rintro e w' ⟨rfl, ⟨nd, rfl⟩⟩; (try first | exact ⟨rfl, _, World.drewN_drewN _ _ _⟩ | exact ⟨rfl, _, Eq.trans (World.drewN_drewN _ _ _) (congrArg (World.drewN _) (Nat.add_assoc _ _ _))⟩)))
        repeat (go_quiet (first | (go_at_call 18; (with_reducible refine (record_All.calls kj5 _ _ l0 t239 t240 _ ?side1 ?side2 A12.out).mono ?_); (case side1 => repeat (first | exact (Kd.C_below HR0.out HB.out) | (with_reducible refine Kd.C_alloc ?_ _) | (with_reducible refine Kd.C_drewN ?_ _) | (with_reducible refine Kd.C_drew ?_))); (case side2 => exact HC0.out); rintro e w16 ⟨rfl, hb⟩; have n0_ := Aside0.mk (below_step (by repeat (first | (with_reducible first | exact HB.out | apply below_alloc | apply pw_below_drewN | apply below_drew1) | exact HB.out)) hb); clear HB; have HB := n0_; clear n0_; (try clear hb); (try clear hb2); (try clear hk); (try clear hi)) | (go_at_call 20; (with_reducible refine (record_List.calls kj5 t239 t241 t242 _ A13.out).mono ?_); rintro e w17 ⟨v243, rfl, ho0, hb⟩; have n0_ := Aside0.mk (Kd.R_lower ho0 (below_size (by repeat (first | (with_reducible first | exact HB.out | apply below_alloc | apply pw_below_drewN | apply below_drew1) | exact HB.out)))); have n1_ := Aside0.mk (below_step (by repeat (first | (with_reducible first | exact HB.out | apply below_alloc | apply pw_below_drewN | apply below_drew1) | exact HB.out)) hb); clear HB; have HO244 := n0_; have HB := n1_; clear n0_ n1_; (try clear hb); (try clear hb2); (try clear hk); (try clear hi); (try clear ho0); obtain ⟨Ao18, co18, eo18⟩ := Kd.R_slice HO244.out; subst eo18) | (go_at_call 22; (with_reducible refine (thwartref03_Same.calls kj5 _ _ l0 _ _ t241 t245 _ ?side1 ?side2 ?side3 ?side4 A14.out).mono ?_); (case side1 => repeat (first | exact (Kd.C_below HR0.out HB.out) | (with_reducible refine Kd.C_alloc ?_ _) | (with_reducible refine Kd.C_drewN ?_ _) | (with_reducible refine Kd.C_drew ?_))); (case side2 => exact HC0.out); (case side3 => repeat (first | exact (Kd.R_reads' HO244.out).2.2 | (with_reducible refine Kd.C_alloc ?_ _) | (with_reducible refine Kd.C_drewN ?_ _) | (with_reducible refine Kd.C_drew ?_))); (case side4 => exact (Kd.R_reads' HO244.out).2.1); rintro e w' ⟨rfl, ⟨nd, rfl⟩⟩; (try first | exact ⟨rfl, _, World.drewN_drewN _ _ _⟩ | exact ⟨rfl, _, Eq.trans (World.drewN_drewN _ _ _) (congrArg (World.drewN _) (Nat.add_assoc _ _ _))⟩))); go_upto_region 8 with (first | (go_at_call 18; (with_reducible refine (record_All.calls kj5 _ _ l0 t239 t240 _ ?side1 ?side2 A12.out).mono ?_); (case side1 => repeat (first | exact (Kd.C_below HR0.out HB.out) | (with_reducible refine Kd.C_alloc ?_ _) | (with_reducible refine Kd.C_drewN ?_ _) | (with_reducible refine Kd.C_drew ?_))); (case side2 => exact HC0.out); rintro e w16 ⟨rfl, hb⟩; have n0_ := Aside0.mk (below_step (by repeat (first | (with_reducible first | exact HB.out | apply below_alloc | apply pw_below_drewN | apply below_drew1) | exact HB.out)) hb); clear HB; have HB := n0_; clear n0_; (try clear hb); (try clear hb2); (try clear hk); (try clear hi)) | (go_at_call 20; (with_reducible refine (record_List.calls kj5 t239 t241 t242 _ A13.out).mono ?_); rintro e w17 ⟨v243, rfl, ho0, hb⟩; have n0_ := Aside0.mk (Kd.R_lower ho0 (below_size (by repeat (first | (with_reducible first | exact HB.out | apply below_alloc | apply pw_below_drewN | apply below_drew1) | exact HB.out)))); have n1_ := Aside0.mk (below_step (by repeat (first | (with_reducible first | exact HB.out | apply below_alloc | apply pw_below_drewN | apply below_drew1) | exact HB.out)) hb); clear HB; have HO244 := n0_; have HB := n1_; clear n0_ n1_; (try clear hb); (try clear hb2); (try clear hk); (try clear hi); (try clear ho0); obtain ⟨Ao18, co18, eo18⟩ := Kd.R_slice HO244.out; subst eo18) | (go_at_call 22; (with_reducible refine (thwartref03_Same.calls kj5 _ _ l0 _ _ t241 t245 _ ?side1 ?side2 ?side3 ?side4 A14.out).mono ?_); (case side1 => repeat (first | exact (Kd.C_below HR0.out HB.out) | (with_reducible refine Kd.C_alloc ?_ _) | (with_reducible refine Kd.C_drewN ?_ _) | (with_reducible refine Kd.C_drew ?_))); (case side2 => exact HC0.out); (case side3 => repeat (first | exact (Kd.R_reads' HO244.out).2.2 | (with_reducible refine Kd.C_alloc ?_ _) | (with_reducible refine Kd.C_drewN ?_ _) | (with_reducible refine Kd.C_drew ?_))); (case side4 => exact (Kd.R_reads' HO244.out).2.1); rintro e w' ⟨rfl, ⟨nd, rfl⟩⟩; (try first | exact ⟨rfl, _, World.drewN_drewN _ _ _⟩ | exact ⟨rfl, _, Eq.trans (World.drewN_drewN _ _ _) (congrArg (World.drewN _) (Nat.add_assoc _ _ _))⟩))))
        (try simp only [Act.put, List.setIfInBounds_toArray, List.set_cons_zero, List.set_cons_succ])
        go_cut [63] (fun v63 wc => ∃ (kq : Nat) (x63_14 : Bool), v63 = .bool x63_14 ∧ Aside0 (thwartlaw03_RecordBack.j1 kq l0 a1 a2 t237 t240 x63_14 = some r) ∧ Aside0 (kq ≤ kj5) ∧ Aside0 (Below w.heap.size w wc))
        case first =>
          have H := HC15.out
          clear HC15
          by_cases c19 : t240 = 0
          · rw [if_pos c19] at H
            have c19b0 : (t240 == 0) = true := beq_iff_eq.mpr c19
            have c19b1 : (t240 != 0) = false := bne_eq_false_iff_eq.mpr c19
            clear c19
            (first | rw [c19b0] | (simp only [i64_w, i32_w]; rw [c19b0]) | skip)
            by_cases c20 : t242 = 0
            · rw [if_pos c20] at H
              have c20b0 : (t242 == 0) = true := beq_iff_eq.mpr c20
              have c20b1 : (t242 != 0) = false := bne_eq_false_iff_eq.mpr c20
              clear c20
              have H' := Aside0.mk H
              clear H
              go_wp2
              repeat (go_quiet (fail); try go_wp2)
              go_meet
              case rel => exact ⟨_, (!t245), (by first | rfl | (simp; done) | (simp [*]; done)), H', ⟨by have := HJ5.out; first | omega | exact Nat.le_refl _⟩, ⟨by repeat (first | (with_reducible first | exact HB.out | apply below_alloc | apply pw_below_drewN | apply below_drew1) | exact HB.out)⟩⟩
            · rw [if_neg c20] at H
              have c20b0 : (t242 == 0) = false := beq_eq_false_iff_ne.mpr c20
              have c20b1 : (t242 != 0) = true := bne_iff_ne.mpr c20
              have H' := Aside0.mk H
              clear H
              go_wp2
              repeat (go_quiet (fail); try go_wp2)
              go_meet
              case rel => exact ⟨_, (true), (by first | rfl | (simp; done) | (simp [*]; done)), H', ⟨by have := HJ5.out; first | omega | exact Nat.le_refl _⟩, ⟨by repeat (first | (with_reducible first | exact HB.out | apply below_alloc | apply pw_below_drewN | apply below_drew1) | exact HB.out)⟩⟩
          · rw [if_neg c19] at H
            have c19b0 : (t240 == 0) = false := beq_eq_false_iff_ne.mpr c19
            have c19b1 : (t240 != 0) = true := bne_iff_ne.mpr c19
            (first | rw [c19b0] | (simp only [i64_w, i32_w]; rw [c19b0]) | skip)
            have H' := Aside0.mk H
            clear H
            go_wp2
            repeat (go_quiet (fail); try go_wp2)
            go_meet
            case rel => exact ⟨_, (false), (by first | rfl | (simp; done) | (simp [*]; done)), H', ⟨by have := HJ5.out; first | omega | exact Nat.le_refl _⟩, ⟨by repeat (first | (with_reducible first | exact HB.out | apply below_alloc | apply pw_below_drewN | apply below_drew1) | exact HB.out)⟩⟩
        case rest =>
          clear HC15
          try clear c1
          try clear c2
          try clear p2
          try clear c6
          try clear c9
          try clear c10
          try clear c10b0
          try clear c10b1
          try clear c11
          try clear c19
          try clear c19b0
          try clear c19b1
          try clear c20
          try clear c20b0
          try clear c20b1
          try clear p2
          obtain ⟨kq, x63_14, rfl, HA, HJ14, HB⟩ := hcut
          cases kq with
          | zero => exact absurd HA.out (by simp [thwartlaw03_RecordBack.j1])
          | succ kj14 =>
            have H := HA.out
            clear HA
            simp only [thwartlaw03_RecordBack.j1] at H
            by_cases c21 : x63_14 = true
            · subst c21
              have H1 : (none) = some r := by rw [if_pos rfl] at H; exact H
              clear H
              have H := H1
              clear H1
              exact absurd H (by simp)
            · replace c21 := Bool.eq_false_iff.mpr c21
              subst c21
              have H1 : (thwartlaw03_RecordBack.l0 kj14 l0 a1 a2 t237 t240 0) = some r := by rw [if_neg (show ¬ (false = true) by decide)] at H; exact H
              clear H
              have H := H1
              clear H1
              have H' := Aside0.mk H
              clear H
              go_wp2
              repeat (go_quiet (fail); try go_wp2)
              go_loopg [14] kj14 (fun kq v14 w' => ∃ (x14_3 : Int), v14 = .int .i64 x14_3 ∧ Aside0 (thwartlaw03_RecordBack.l0 kq l0 a1 a2 t237 t240 x14_3 = some r) ∧ Aside0 (kq ≤ kj14) ∧ Aside0 (Below w.heap.size w w'))
              case atStart => exact ⟨(0), (by first | rfl | (simp; done) | (simp [*]; done)), H', ⟨Nat.le_refl _⟩, ⟨by repeat (first | (with_reducible first | exact HB.out | apply below_alloc | apply pw_below_drewN | apply below_drew1) | exact HB.out)⟩⟩
              case round =>
                clear H'
                try clear c1
                try clear c2
                try clear p2
                try clear c6
                try clear c9
                try clear c10
                try clear c10b0
                try clear c10b1
                try clear c11
                try clear c19
                try clear c19b0
                try clear c19b1
                try clear c20
                try clear c20b0
                try clear c20b1
                try clear c21
                try clear p2
                obtain ⟨x14_3, rfl, HA, HK3, HB⟩ := hrel
                cases gk with
                | zero => exact absurd HA.out (by simp [thwartlaw03_RecordBack.l0])
                | succ k3 =>
                  have H := HA.out
                  clear HA
                  simp only [thwartlaw03_RecordBack.l0] at H
                  have HC22 := Aside0.mk H
                  clear H
                  go_upto_region 11 with (fail)
                  repeat (go_quiet (fail); go_upto_region 11 with (fail))
                  go_cut [71] (fun v71 wc => ∃ (kq : Nat) (x71_21 : Bool), v71 = .bool x71_21 ∧ Aside0 (thwartlaw03_RecordBack.j3 kq l0 a1 a2 t237 t240 x14_3 x71_21 = some r) ∧ Aside0 (kq ≤ k3) ∧ Aside0 (Below w.heap.size w wc))
                  case first =>
                    have H := HC22.out
                    clear HC22
                    by_cases c23 : x14_3 < (l0.length : Int)
                    · rw [if_pos c23] at H
                      have c23b0 : decide (x14_3 < (l0.length : Int)) = true := decide_eq_true c23
                      clear c23
                      (first | rw [c23b0] | (simp only [i64_w, i32_w]; rw [c23b0]) | skip)
                      have H' := Aside0.mk H
                      clear H
                      go_wp2
                      repeat (go_quiet (fail); try go_wp2)
                      go_meet
                      case rel => exact ⟨_, ((t240 == 0)), (by first | rfl | (simp; done) | (simp [*]; done)), H', ⟨by have := HJ5.out; have := HJ14.out; have := HK3.out; first | omega | exact Nat.le_refl _⟩, ⟨by repeat (first | (with_reducible first | exact HB.out | apply below_alloc | apply pw_below_drewN | apply below_drew1) | exact HB.out)⟩⟩
                    · rw [if_neg c23] at H
                      have c23b0 : decide (x14_3 < (l0.length : Int)) = false := decide_eq_false c23
                      clear c23
                      (first | rw [c23b0] | (simp only [i64_w, i32_w]; rw [c23b0]) | skip)
                      have H' := Aside0.mk H
                      clear H
                      go_wp2
                      repeat (go_quiet (fail); try go_wp2)
                      go_meet
                      case rel => exact ⟨_, (false), (by first | rfl | (simp; done) | (simp [*]; done)), H', ⟨by have := HJ5.out; have := HJ14.out; have := HK3.out; first | omega | exact Nat.le_refl _⟩, ⟨by repeat (first | (with_reducible first | exact HB.out | apply below_alloc | apply pw_below_drewN | apply below_drew1) | exact HB.out)⟩⟩
                  case rest =>
                    clear HC22
                    try clear c1
                    try clear c2
                    try clear p2
                    try clear c6
                    try clear c9
                    try clear c10
                    try clear c10b0
                    try clear c10b1
                    try clear c11
                    try clear c19
                    try clear c19b0
                    try clear c19b1
                    try clear c20
                    try clear c20b0
                    try clear c20b1
                    try clear c21
                    try clear c23
                    try clear c23b0
                    try clear p2
                    obtain ⟨kq, x71_21, rfl, HA, HJ21, HB⟩ := hcut
                    cases kq with
                    | zero => exact absurd HA.out (by simp [thwartlaw03_RecordBack.j3])
                    | succ kj21 =>
                      have H := HA.out
                      clear HA
                      simp only [thwartlaw03_RecordBack.j3] at H
                      by_cases c24 : x71_21 = true
                      · subst c24
                        have H1 : (if 0 ≤ x14_3 then (if x14_3 < (l0.length : Int) then ((record_Bytes.f kj21 ((rd_T24 l0 x14_3).f0) ((rd_T24 l0 x14_3).f1) ((rd_T24 l0 x14_3).f2) ((rd_T24 l0 x14_3).f3)).bind fun bt256 => (if bt256.1.size + a2.size ≤ 9223372036854775807 then ((record_Read.f kj21 (bt256.1 ++ a2)).bind fun bt258 => (if bt256.2 = 0 then (if bt258.2.2.2.2.2 = 0 then (if (!(bt258.1 == ((rd_T24 l0 x14_3).f0)) || (!(bt258.2.1.toList == (((rd_T24 l0 x14_3).f1).toList)) || (!(bt258.2.2.1.toList == (((rd_T24 l0 x14_3).f2).toList)) || (!(bt258.2.2.2.1 == ((rd_T24 l0 x14_3).f3)))))) = true then (none) else (if bt258.2.2.2.2.1.toList = a2.toList then (thwartlaw03_RecordBack.l0 kj21 l0 a1 a2 t237 t240 (wrap64 (x14_3 + 1))) else (none))) else (none)) else (none))) else (none))) else (none)) else (none)) = some r := by rw [if_pos rfl] at H; exact H
                        clear H
                        have H := H1
                        clear H1
                        by_cases c25 : 0 ≤ x14_3
                        · rw [if_pos c25] at H
                          have c25b0 : decide (0 ≤ x14_3) = true := decide_eq_true c25
                          clear c25
                          by_cases c26 : x14_3 < (l0.length : Int)
                          · rw [if_pos c26] at H
                            have c26b0 : decide (x14_3 < (l0.length : Int)) = true := decide_eq_true c26
                            clear c26
                            replace H := Option.bind_eq_some_iff.mp H
                            obtain ⟨⟨t256, t257⟩, A270, H⟩ := H
                            replace H : (if t256.size + a2.size ≤ 9223372036854775807 then ((record_Read.f kj21 (t256 ++ a2)).bind fun bt258 => (if t257 = 0 then (if bt258.2.2.2.2.2 = 0 then (if (!(bt258.1 == ((rd_T24 l0 x14_3).f0)) || (!(bt258.2.1.toList == (((rd_T24 l0 x14_3).f1).toList)) || (!(bt258.2.2.1.toList == (((rd_T24 l0 x14_3).f2).toList)) || (!(bt258.2.2.2.1 == ((rd_T24 l0 x14_3).f3)))))) = true then (none) else (if bt258.2.2.2.2.1.toList = a2.toList then (thwartlaw03_RecordBack.l0 kj21 l0 a1 a2 t237 t240 (wrap64 (x14_3 + 1))) else (none))) else (none)) else (none))) else (none)) = some r := H
                            have A27 := Aside0.mk A270
                            clear A270
                            by_cases c28 : t256.size + a2.size ≤ 9223372036854775807
                            · rw [if_pos c28] at H
                              have c28b0 := eq_true c28
                              have c28b1 : decide (t256.size + a2.size ≤ 9223372036854775807) = true := decide_eq_true c28
                              try have c28b2 : (9223372036854775807 < t256.size + a2.size) = False := eq_false (Nat.not_lt.2 c28)
                              replace H := Option.bind_eq_some_iff.mp H
                              obtain ⟨⟨t258, t259, t260, t261, t262, t263⟩, A290, H⟩ := H
                              replace H : (if t257 = 0 then (if t263 = 0 then (if (!(t258 == ((rd_T24 l0 x14_3).f0)) || (!(t259.toList == (((rd_T24 l0 x14_3).f1).toList)) || (!(t260.toList == (((rd_T24 l0 x14_3).f2).toList)) || (!(t261 == ((rd_T24 l0 x14_3).f3)))))) = true then (none) else (if t262.toList = a2.toList then (thwartlaw03_RecordBack.l0 kj21 l0 a1 a2 t237 t240 (wrap64 (x14_3 + 1))) else (none))) else (none)) else (none)) = some r := H
                              have A29 := Aside0.mk A290
                              clear A290
                              by_cases c30 : t257 = 0
                              · rw [if_pos c30] at H
                                have c30b0 : (t257 == 0) = true := beq_iff_eq.mpr c30
                                have c30b1 : (t257 != 0) = false := bne_eq_false_iff_eq.mpr c30
                                clear c30
                                by_cases c31 : t263 = 0
                                · rw [if_pos c31] at H
                                  have c31b0 : (t263 == 0) = true := beq_iff_eq.mpr c31
                                  have c31b1 : (t263 != 0) = false := bne_eq_false_iff_eq.mpr c31
                                  clear c31
                                  by_cases c32 : (!(t258 == ((rd_T24 l0 x14_3).f0)) || (!(t259.toList == (((rd_T24 l0 x14_3).f1).toList)) || (!(t260.toList == (((rd_T24 l0 x14_3).f2).toList)) || (!(t261 == ((rd_T24 l0 x14_3).f3)))))) = true
                                  · rw [if_pos c32] at H
                                    exact absurd H (by simp)
                                  · rw [if_neg c32] at H
                                    have c32b0 : (!(t258 == ((rd_T24 l0 x14_3).f0)) || (!(t259.toList == (((rd_T24 l0 x14_3).f1).toList)) || (!(t260.toList == (((rd_T24 l0 x14_3).f2).toList)) || (!(t261 == ((rd_T24 l0 x14_3).f3)))))) = false := by simpa using c32
                                    clear c32
                                    by_cases c33 : t262.toList = a2.toList
                                    · rw [if_pos c33] at H
                                      have c33b0 : (t262.toList == a2.toList) = true := beq_iff_eq.mpr c33
                                      have c33b1 : (t262.toList != a2.toList) = false := bne_eq_false_iff_eq.mpr c33
                                      clear c33
                                      have H' := Aside0.mk H
                                      clear H
                                      have p255 : 0 ≤ (x14_3 : Int) := of_decide_eq_true (by first | (with_reducible assumption) | assumption)
                                      have q255 : x14_3 < (l0.length : Int) := of_decide_eq_true (by first | (with_reducible assumption) | assumption)
                                      obtain ⟨ad255, e255, hx255_0, hx255_1, hx255_2, hx255_3⟩ := at_T24 HR0.out x14_3 p255 q255
                                      cases e255
                                      replace hx255_0 := (HB.out.cell (World.block_lt_of_cell? w _ hx255_0)).trans hx255_0
                                      replace hx255_1 := (HB.out.cell (World.block_lt_of_cell? w _ hx255_1)).trans hx255_1
                                      replace hx255_2 := (HB.out.cell (World.block_lt_of_cell? w _ hx255_2)).trans hx255_2
                                      replace hx255_3 := (HB.out.cell (World.block_lt_of_cell? w _ hx255_3)).trans hx255_3
                                      replace p255 := eq_true p255
                                      replace q255 := eq_true q255
                                      go_wp2_with (first | (go_at_call 11; (with_reducible refine (record_Bytes.calls kj21 ((rd_T24 l0 x14_3).f0) ((rd_T24 l0 x14_3).f1) ((rd_T24 l0 x14_3).f2) ((rd_T24 l0 x14_3).f3) t256 t257 _ A27.out).mono ?_); rintro e w34 ⟨rfl, hb⟩; have n0_ := Aside0.mk (below_step (by repeat (first | (with_reducible first | exact HB.out | apply below_alloc | apply pw_below_drewN | apply below_drew1) | exact HB.out)) hb); clear HB; have HB := n0_; clear n0_; (try clear hb); (try clear hb2); (try clear hk); (try clear hi)) | (go_at_call 13; (with_reducible refine (record_Read.calls kj21 (t256 ++ a2) t258 t259 t260 t261 t262 t263 _ A29.out).mono ?_); rintro e w35 ⟨rfl, hb⟩; have n0_ := Aside0.mk (below_step (by repeat (first | (with_reducible first | exact HB.out | apply below_alloc | apply pw_below_drewN | apply below_drew1) | exact HB.out)) hb); clear HB; have HB := n0_; clear n0_; (try clear hb); (try clear hb2); (try clear hk); (try clear hi)) | ((with_reducible refine gate_dst (N := 17) rfl ?_); (try (refine gate_guard (by rfl) ?_; dsimp only)); refine box_event ?hg (N := 17) ?hd (cs := #[.int .u64 0, .string (⟨#[]⟩ : ByteArray), .string (⟨#[]⟩ : ByteArray), .bool false]) (t := 24) ?hr ?_; (case hd => rfl); (case hg => rfl); (case hr => first | (go_simp; done) | (go_simp; rfl)); intro gb264 hg w36 hbox hb; have n0_ := Aside0.mk (below_step (by repeat (first | (with_reducible first | exact HB.out | apply below_alloc | apply pw_below_drewN | apply below_drew1) | exact HB.out)) hb); have n1_ := Aside0.mk (hbox); have n2_ := Aside0.mk ((by rw [hg]; exact (below_size (by repeat (first | (with_reducible first | exact HB.out | apply below_alloc | apply pw_below_drewN | apply below_drew1) | exact HB.out))) : w.heap.size ≤ gb264)); have n3_ := Aside0.mk ((by rw [hg]; exact (below_size (by repeat (first | (with_reducible first | exact HB.out | apply below_alloc | apply pw_below_drewN | apply below_drew1) | exact HB.out))) : w.heap.size ≤ gb264)); clear HB; have HB := n0_; have BK264 := n1_; have GW264 := n2_; have GE264 := n3_; clear n0_ n1_ n2_ n3_; clear hb hbox hg; have hcz37_0 : w36.cell? ⟨gb264, 0, none⟩ = some (.int .u64 0) := (blk_cell BK264.out 0).trans rfl; have hcz37_1 : w36.cell? ⟨gb264, 1, none⟩ = some (.string (⟨#[]⟩ : ByteArray)) := (blk_cell BK264.out 1).trans rfl; have hcz37_2 : w36.cell? ⟨gb264, 2, none⟩ = some (.string (⟨#[]⟩ : ByteArray)) := (blk_cell BK264.out 2).trans rfl; have hcz37_3 : w36.cell? ⟨gb264, 3, none⟩ = some (.bool false) := (blk_cell BK264.out 3).trans rfl; have hfz37_0 := blk_frozen BK264.out 0; have hfz37_1 := blk_frozen BK264.out 1; have hfz37_2 := blk_frozen BK264.out 2; have hfz37_3 := blk_frozen BK264.out 3; have p265 : 0 ≤ (x14_3 : Int) := of_decide_eq_true (by first | (with_reducible assumption) | assumption); have q265 : x14_3 < (l0.length : Int) := of_decide_eq_true (by first | (with_reducible assumption) | assumption); obtain ⟨ad265, e265, hx265_0, hx265_1, hx265_2, hx265_3⟩ := at_T24 HR0.out x14_3 p265 q265; obtain rfl : ad255 = ad265 := (by injection e265); have hn265_0 : ad255.block ≠ gb264 := Nat.ne_of_lt (Nat.lt_of_lt_of_le (by have := World.block_lt_of_cell? _ _ hx265_0; first | rwa [add_block] at this | exact this) GW264.out); have hn265_1 : ad255.block ≠ gb264 := Nat.ne_of_lt (Nat.lt_of_lt_of_le (by have := World.block_lt_of_cell? _ _ hx265_0; first | rwa [add_block] at this | exact this) GW264.out); have hn265_2 : ad255.block ≠ gb264 := Nat.ne_of_lt (Nat.lt_of_lt_of_le (by have := World.block_lt_of_cell? _ _ hx265_0; first | rwa [add_block] at this | exact this) GW264.out); have hn265_3 : ad255.block ≠ gb264 := Nat.ne_of_lt (Nat.lt_of_lt_of_le (by have := World.block_lt_of_cell? _ _ hx265_0; first | rwa [add_block] at this | exact this) GW264.out); replace hx265_0 := (HB.out.cell (World.block_lt_of_cell? w _ hx265_0)).trans hx265_0; replace hx265_1 := (HB.out.cell (World.block_lt_of_cell? w _ hx265_1)).trans hx265_1; replace hx265_2 := (HB.out.cell (World.block_lt_of_cell? w _ hx265_2)).trans hx265_2; replace hx265_3 := (HB.out.cell (World.block_lt_of_cell? w _ hx265_3)).trans hx265_3; replace hx265_0 := (cell_far (p := ⟨gb264, 0, none⟩) (by first | (rw [add_block]; exact hn265_0) | (show (Addr.add _ _).block ≠ _; rw [add_block]; exact hn265_0) | exact hn265_0) (.int .u64 t258)).trans hx265_0; replace hx265_1 := (cell_far (p := ⟨gb264, 0, none⟩) (by first | (rw [add_block]; exact hn265_0) | (show (Addr.add _ _).block ≠ _; rw [add_block]; exact hn265_0) | exact hn265_0) (.int .u64 t258)).trans hx265_1; replace hx265_2 := (cell_far (p := ⟨gb264, 0, none⟩) (by first | (rw [add_block]; exact hn265_0) | (show (Addr.add _ _).block ≠ _; rw [add_block]; exact hn265_0) | exact hn265_0) (.int .u64 t258)).trans hx265_2; replace hx265_3 := (cell_far (p := ⟨gb264, 0, none⟩) (by first | (rw [add_block]; exact hn265_0) | (show (Addr.add _ _).block ≠ _; rw [add_block]; exact hn265_0) | exact hn265_0) (.int .u64 t258)).trans hx265_3; replace hx265_0 := (cell_far (p := ⟨gb264, 1, none⟩) (by first | (rw [add_block]; exact hn265_1) | (show (Addr.add _ _).block ≠ _; rw [add_block]; exact hn265_1) | exact hn265_1) (.string t259)).trans hx265_0; replace hx265_1 := (cell_far (p := ⟨gb264, 1, none⟩) (by first | (rw [add_block]; exact hn265_1) | (show (Addr.add _ _).block ≠ _; rw [add_block]; exact hn265_1) | exact hn265_1) (.string t259)).trans hx265_1; replace hx265_2 := (cell_far (p := ⟨gb264, 1, none⟩) (by first | (rw [add_block]; exact hn265_1) | (show (Addr.add _ _).block ≠ _; rw [add_block]; exact hn265_1) | exact hn265_1) (.string t259)).trans hx265_2; replace hx265_3 := (cell_far (p := ⟨gb264, 1, none⟩) (by first | (rw [add_block]; exact hn265_1) | (show (Addr.add _ _).block ≠ _; rw [add_block]; exact hn265_1) | exact hn265_1) (.string t259)).trans hx265_3; replace hx265_0 := (cell_far (p := ⟨gb264, 2, none⟩) (by first | (rw [add_block]; exact hn265_2) | (show (Addr.add _ _).block ≠ _; rw [add_block]; exact hn265_2) | exact hn265_2) (.string t260)).trans hx265_0; replace hx265_1 := (cell_far (p := ⟨gb264, 2, none⟩) (by first | (rw [add_block]; exact hn265_2) | (show (Addr.add _ _).block ≠ _; rw [add_block]; exact hn265_2) | exact hn265_2) (.string t260)).trans hx265_1; replace hx265_2 := (cell_far (p := ⟨gb264, 2, none⟩) (by first | (rw [add_block]; exact hn265_2) | (show (Addr.add _ _).block ≠ _; rw [add_block]; exact hn265_2) | exact hn265_2) (.string t260)).trans hx265_2; replace hx265_3 := (cell_far (p := ⟨gb264, 2, none⟩) (by first | (rw [add_block]; exact hn265_2) | (show (Addr.add _ _).block ≠ _; rw [add_block]; exact hn265_2) | exact hn265_2) (.string t260)).trans hx265_3; replace hx265_0 := (cell_far (p := ⟨gb264, 3, none⟩) (by first | (rw [add_block]; exact hn265_3) | (show (Addr.add _ _).block ≠ _; rw [add_block]; exact hn265_3) | exact hn265_3) (.bool t261)).trans hx265_0; replace hx265_1 := (cell_far (p := ⟨gb264, 3, none⟩) (by first | (rw [add_block]; exact hn265_3) | (show (Addr.add _ _).block ≠ _; rw [add_block]; exact hn265_3) | exact hn265_3) (.bool t261)).trans hx265_1; replace hx265_2 := (cell_far (p := ⟨gb264, 3, none⟩) (by first | (rw [add_block]; exact hn265_3) | (show (Addr.add _ _).block ≠ _; rw [add_block]; exact hn265_3) | exact hn265_3) (.bool t261)).trans hx265_2; replace hx265_3 := (cell_far (p := ⟨gb264, 3, none⟩) (by first | (rw [add_block]; exact hn265_3) | (show (Addr.add _ _).block ≠ _; rw [add_block]; exact hn265_3) | exact hn265_3) (.bool t261)).trans hx265_3; (try have hy265_0 := fun (n_ : Nat) => (show ((((((w36.drewN n_).setCell ⟨gb264, 0, none⟩ (.int .u64 t258)).setCell ⟨gb264, 1, none⟩ (.string t259)).setCell ⟨gb264, 2, none⟩ (.string t260)).setCell ⟨gb264, 3, none⟩ (.bool t261))).cell? _ = some _ from hx265_0)); (try have hy265_1 := fun (n_ : Nat) => (show ((((((w36.drewN n_).setCell ⟨gb264, 0, none⟩ (.int .u64 t258)).setCell ⟨gb264, 1, none⟩ (.string t259)).setCell ⟨gb264, 2, none⟩ (.string t260)).setCell ⟨gb264, 3, none⟩ (.bool t261))).cell? _ = some _ from hx265_1)); (try have hy265_2 := fun (n_ : Nat) => (show ((((((w36.drewN n_).setCell ⟨gb264, 0, none⟩ (.int .u64 t258)).setCell ⟨gb264, 1, none⟩ (.string t259)).setCell ⟨gb264, 2, none⟩ (.string t260)).setCell ⟨gb264, 3, none⟩ (.bool t261))).cell? _ = some _ from hx265_2)); (try have hy265_3 := fun (n_ : Nat) => (show ((((((w36.drewN n_).setCell ⟨gb264, 0, none⟩ (.int .u64 t258)).setCell ⟨gb264, 1, none⟩ (.string t259)).setCell ⟨gb264, 2, none⟩ (.string t260)).setCell ⟨gb264, 3, none⟩ (.bool t261))).cell? _ = some _ from hx265_3)); clear hn265_0; clear hn265_1; clear hn265_2; clear hn265_3; replace p265 := eq_true p265; replace q265 := eq_true q265))
                                      repeat (go_quiet (first | (go_at_call 11; (with_reducible refine (record_Bytes.calls kj21 ((rd_T24 l0 x14_3).f0) ((rd_T24 l0 x14_3).f1) ((rd_T24 l0 x14_3).f2) ((rd_T24 l0 x14_3).f3) t256 t257 _ A27.out).mono ?_); rintro e w34 ⟨rfl, hb⟩; have n0_ := Aside0.mk (below_step (by repeat (first | (with_reducible first | exact HB.out | apply below_alloc | apply pw_below_drewN | apply below_drew1) | exact HB.out)) hb); clear HB; have HB := n0_; clear n0_; (try clear hb); (try clear hb2); (try clear hk); (try clear hi)) | (go_at_call 13; (with_reducible refine (record_Read.calls kj21 (t256 ++ a2) t258 t259 t260 t261 t262 t263 _ A29.out).mono ?_); rintro e w35 ⟨rfl, hb⟩; have n0_ := Aside0.mk (below_step (by repeat (first | (with_reducible first | exact HB.out | apply below_alloc | apply pw_below_drewN | apply below_drew1) | exact HB.out)) hb); clear HB; have HB := n0_; clear n0_; (try clear hb); (try clear hb2); (try clear hk); (try clear hi)) | ((with_reducible refine gate_dst (N := 17) rfl ?_); (try (refine gate_guard (by rfl) ?_; dsimp only)); refine box_event ?hg (N := 17) ?hd (cs := #[.int .u64 0, .string (⟨#[]⟩ : ByteArray), .string (⟨#[]⟩ : ByteArray), .bool false]) (t := 24) ?hr ?_; (case hd => rfl); (case hg => rfl); (case hr => first | (go_simp; done) | (go_simp; rfl)); intro gb264 hg w36 hbox hb; have n0_ := Aside0.mk (below_step (by repeat (first | (with_reducible first | exact HB.out | apply below_alloc | apply pw_below_drewN | apply below_drew1) | exact HB.out)) hb); have n1_ := Aside0.mk (hbox); have n2_ := Aside0.mk ((by rw [hg]; exact (below_size (by repeat (first | (with_reducible first | exact HB.out | apply below_alloc | apply pw_below_drewN | apply below_drew1) | exact HB.out))) : w.heap.size ≤ gb264)); have n3_ := Aside0.mk ((by rw [hg]; exact (below_size (by repeat (first | (with_reducible first | exact HB.out | apply below_alloc | apply pw_below_drewN | apply below_drew1) | exact HB.out))) : w.heap.size ≤ gb264)); clear HB; have HB := n0_; have BK264 := n1_; have GW264 := n2_; have GE264 := n3_; clear n0_ n1_ n2_ n3_; clear hb hbox hg; have hcz37_0 : w36.cell? ⟨gb264, 0, none⟩ = some (.int .u64 0) := (blk_cell BK264.out 0).trans rfl; have hcz37_1 : w36.cell? ⟨gb264, 1, none⟩ = some (.string (⟨#[]⟩ : ByteArray)) := (blk_cell BK264.out 1).trans rfl; have hcz37_2 : w36.cell? ⟨gb264, 2, none⟩ = some (.string (⟨#[]⟩ : ByteArray)) := (blk_cell BK264.out 2).trans rfl; have hcz37_3 : w36.cell? ⟨gb264, 3, none⟩ = some (.bool false) := (blk_cell BK264.out 3).trans rfl; have hfz37_0 := blk_frozen BK264.out 0; have hfz37_1 := blk_frozen BK264.out 1; have hfz37_2 := blk_frozen BK264.out 2; have hfz37_3 := blk_frozen BK264.out 3; have p265 : 0 ≤ (x14_3 : Int) := of_decide_eq_true (by first | (with_reducible assumption) | assumption); have q265 : x14_3 < (l0.length : Int) := of_decide_eq_true (by first | (with_reducible assumption) | assumption); obtain ⟨ad265, e265, hx265_0, hx265_1, hx265_2, hx265_3⟩ := at_T24 HR0.out x14_3 p265 q265; obtain rfl : ad255 = ad265 := (by injection e265); have hn265_0 : ad255.block ≠ gb264 := Nat.ne_of_lt (Nat.lt_of_lt_of_le (by have := World.block_lt_of_cell? _ _ hx265_0; first | rwa [add_block] at this | exact this) GW264.out); have hn265_1 : ad255.block ≠ gb264 := Nat.ne_of_lt (Nat.lt_of_lt_of_le (by have := World.block_lt_of_cell? _ _ hx265_0; first | rwa [add_block] at this | exact this) GW264.out); have hn265_2 : ad255.block ≠ gb264 := Nat.ne_of_lt (Nat.lt_of_lt_of_le (by have := World.block_lt_of_cell? _ _ hx265_0; first | rwa [add_block] at this | exact this) GW264.out); have hn265_3 : ad255.block ≠ gb264 := Nat.ne_of_lt (Nat.lt_of_lt_of_le (by have := World.block_lt_of_cell? _ _ hx265_0; first | rwa [add_block] at this | exact this) GW264.out); replace hx265_0 := (HB.out.cell (World.block_lt_of_cell? w _ hx265_0)).trans hx265_0; replace hx265_1 := (HB.out.cell (World.block_lt_of_cell? w _ hx265_1)).trans hx265_1; replace hx265_2 := (HB.out.cell (World.block_lt_of_cell? w _ hx265_2)).trans hx265_2; replace hx265_3 := (HB.out.cell (World.block_lt_of_cell? w _ hx265_3)).trans hx265_3; replace hx265_0 := (cell_far (p := ⟨gb264, 0, none⟩) (by first | (rw [add_block]; exact hn265_0) | (show (Addr.add _ _).block ≠ _; rw [add_block]; exact hn265_0) | exact hn265_0) (.int .u64 t258)).trans hx265_0; replace hx265_1 := (cell_far (p := ⟨gb264, 0, none⟩) (by first | (rw [add_block]; exact hn265_0) | (show (Addr.add _ _).block ≠ _; rw [add_block]; exact hn265_0) | exact hn265_0) (.int .u64 t258)).trans hx265_1; replace hx265_2 := (cell_far (p := ⟨gb264, 0, none⟩) (by first | (rw [add_block]; exact hn265_0) | (show (Addr.add _ _).block ≠ _; rw [add_block]; exact hn265_0) | exact hn265_0) (.int .u64 t258)).trans hx265_2; replace hx265_3 := (cell_far (p := ⟨gb264, 0, none⟩) (by first | (rw [add_block]; exact hn265_0) | (show (Addr.add _ _).block ≠ _; rw [add_block]; exact hn265_0) | exact hn265_0) (.int .u64 t258)).trans hx265_3; replace hx265_0 := (cell_far (p := ⟨gb264, 1, none⟩) (by first | (rw [add_block]; exact hn265_1) | (show (Addr.add _ _).block ≠ _; rw [add_block]; exact hn265_1) | exact hn265_1) (.string t259)).trans hx265_0; replace hx265_1 := (cell_far (p := ⟨gb264, 1, none⟩) (by first | (rw [add_block]; exact hn265_1) | (show (Addr.add _ _).block ≠ _; rw [add_block]; exact hn265_1) | exact hn265_1) (.string t259)).trans hx265_1; replace hx265_2 := (cell_far (p := ⟨gb264, 1, none⟩) (by first | (rw [add_block]; exact hn265_1) | (show (Addr.add _ _).block ≠ _; rw [add_block]; exact hn265_1) | exact hn265_1) (.string t259)).trans hx265_2; replace hx265_3 := (cell_far (p := ⟨gb264, 1, none⟩) (by first | (rw [add_block]; exact hn265_1) | (show (Addr.add _ _).block ≠ _; rw [add_block]; exact hn265_1) | exact hn265_1) (.string t259)).trans hx265_3; replace hx265_0 := (cell_far (p := ⟨gb264, 2, none⟩) (by first | (rw [add_block]; exact hn265_2) | (show (Addr.add _ _).block ≠ _; rw [add_block]; exact hn265_2) | exact hn265_2) (.string t260)).trans hx265_0; replace hx265_1 := (cell_far (p := ⟨gb264, 2, none⟩) (by first | (rw [add_block]; exact hn265_2) | (show (Addr.add _ _).block ≠ _; rw [add_block]; exact hn265_2) | exact hn265_2) (.string t260)).trans hx265_1; replace hx265_2 := (cell_far (p := ⟨gb264, 2, none⟩) (by first | (rw [add_block]; exact hn265_2) | (show (Addr.add _ _).block ≠ _; rw [add_block]; exact hn265_2) | exact hn265_2) (.string t260)).trans hx265_2; replace hx265_3 := (cell_far (p := ⟨gb264, 2, none⟩) (by first | (rw [add_block]; exact hn265_2) | (show (Addr.add _ _).block ≠ _; rw [add_block]; exact hn265_2) | exact hn265_2) (.string t260)).trans hx265_3; replace hx265_0 := (cell_far (p := ⟨gb264, 3, none⟩) (by first | (rw [add_block]; exact hn265_3) | (show (Addr.add _ _).block ≠ _; rw [add_block]; exact hn265_3) | exact hn265_3) (.bool t261)).trans hx265_0; replace hx265_1 := (cell_far (p := ⟨gb264, 3, none⟩) (by first | (rw [add_block]; exact hn265_3) | (show (Addr.add _ _).block ≠ _; rw [add_block]; exact hn265_3) | exact hn265_3) (.bool t261)).trans hx265_1; replace hx265_2 := (cell_far (p := ⟨gb264, 3, none⟩) (by first | (rw [add_block]; exact hn265_3) | (show (Addr.add _ _).block ≠ _; rw [add_block]; exact hn265_3) | exact hn265_3) (.bool t261)).trans hx265_2; replace hx265_3 := (cell_far (p := ⟨gb264, 3, none⟩) (by first | (rw [add_block]; exact hn265_3) | (show (Addr.add _ _).block ≠ _; rw [add_block]; exact hn265_3) | exact hn265_3) (.bool t261)).trans hx265_3; (try have hy265_0 := fun (n_ : Nat) => (show ((((((w36.drewN n_).setCell ⟨gb264, 0, none⟩ (.int .u64 t258)).setCell ⟨gb264, 1, none⟩ (.string t259)).setCell ⟨gb264, 2, none⟩ (.string t260)).setCell ⟨gb264, 3, none⟩ (.bool t261))).cell? _ = some _ from hx265_0)); (try have hy265_1 := fun (n_ : Nat) => (show ((((((w36.drewN n_).setCell ⟨gb264, 0, none⟩ (.int .u64 t258)).setCell ⟨gb264, 1, none⟩ (.string t259)).setCell ⟨gb264, 2, none⟩ (.string t260)).setCell ⟨gb264, 3, none⟩ (.bool t261))).cell? _ = some _ from hx265_1)); (try have hy265_2 := fun (n_ : Nat) => (show ((((((w36.drewN n_).setCell ⟨gb264, 0, none⟩ (.int .u64 t258)).setCell ⟨gb264, 1, none⟩ (.string t259)).setCell ⟨gb264, 2, none⟩ (.string t260)).setCell ⟨gb264, 3, none⟩ (.bool t261))).cell? _ = some _ from hx265_2)); (try have hy265_3 := fun (n_ : Nat) => (show ((((((w36.drewN n_).setCell ⟨gb264, 0, none⟩ (.int .u64 t258)).setCell ⟨gb264, 1, none⟩ (.string t259)).setCell ⟨gb264, 2, none⟩ (.string t260)).setCell ⟨gb264, 3, none⟩ (.bool t261))).cell? _ = some _ from hx265_3)); clear hn265_0; clear hn265_1; clear hn265_2; clear hn265_3; replace p265 := eq_true p265; replace q265 := eq_true q265)); try go_wp2_with (first | (go_at_call 11; (with_reducible refine (record_Bytes.calls kj21 ((rd_T24 l0 x14_3).f0) ((rd_T24 l0 x14_3).f1) ((rd_T24 l0 x14_3).f2) ((rd_T24 l0 x14_3).f3) t256 t257 _ A27.out).mono ?_); rintro e w34 ⟨rfl, hb⟩; have n0_ := Aside0.mk (below_step (by repeat (first | (with_reducible first | exact HB.out | apply below_alloc | apply pw_below_drewN | apply below_drew1) | exact HB.out)) hb); clear HB; have HB := n0_; clear n0_; (try clear hb); (try clear hb2); (try clear hk); (try clear hi)) | (go_at_call 13; (with_reducible refine (record_Read.calls kj21 (t256 ++ a2) t258 t259 t260 t261 t262 t263 _ A29.out).mono ?_); rintro e w35 ⟨rfl, hb⟩; have n0_ := Aside0.mk (below_step (by repeat (first | (with_reducible first | exact HB.out | apply below_alloc | apply pw_below_drewN | apply below_drew1) | exact HB.out)) hb); clear HB; have HB := n0_; clear n0_; (try clear hb); (try clear hb2); (try clear hk); (try clear hi)) | ((with_reducible refine gate_dst (N := 17) rfl ?_); (try (refine gate_guard (by rfl) ?_; dsimp only)); refine box_event ?hg (N := 17) ?hd (cs := #[.int .u64 0, .string (⟨#[]⟩ : ByteArray), .string (⟨#[]⟩ : ByteArray), .bool false]) (t := 24) ?hr ?_; (case hd => rfl); (case hg => rfl); (case hr => first | (go_simp; done) | (go_simp; rfl)); intro gb264 hg w36 hbox hb; have n0_ := Aside0.mk (below_step (by repeat (first | (with_reducible first | exact HB.out | apply below_alloc | apply pw_below_drewN | apply below_drew1) | exact HB.out)) hb); have n1_ := Aside0.mk (hbox); have n2_ := Aside0.mk ((by rw [hg]; exact (below_size (by repeat (first | (with_reducible first | exact HB.out | apply below_alloc | apply pw_below_drewN | apply below_drew1) | exact HB.out))) : w.heap.size ≤ gb264)); have n3_ := Aside0.mk ((by rw [hg]; exact (below_size (by repeat (first | (with_reducible first | exact HB.out | apply below_alloc | apply pw_below_drewN | apply below_drew1) | exact HB.out))) : w.heap.size ≤ gb264)); clear HB; have HB := n0_; have BK264 := n1_; have GW264 := n2_; have GE264 := n3_; clear n0_ n1_ n2_ n3_; clear hb hbox hg; have hcz37_0 : w36.cell? ⟨gb264, 0, none⟩ = some (.int .u64 0) := (blk_cell BK264.out 0).trans rfl; have hcz37_1 : w36.cell? ⟨gb264, 1, none⟩ = some (.string (⟨#[]⟩ : ByteArray)) := (blk_cell BK264.out 1).trans rfl; have hcz37_2 : w36.cell? ⟨gb264, 2, none⟩ = some (.string (⟨#[]⟩ : ByteArray)) := (blk_cell BK264.out 2).trans rfl; have hcz37_3 : w36.cell? ⟨gb264, 3, none⟩ = some (.bool false) := (blk_cell BK264.out 3).trans rfl; have hfz37_0 := blk_frozen BK264.out 0; have hfz37_1 := blk_frozen BK264.out 1; have hfz37_2 := blk_frozen BK264.out 2; have hfz37_3 := blk_frozen BK264.out 3; have p265 : 0 ≤ (x14_3 : Int) := of_decide_eq_true (by first | (with_reducible assumption) | assumption); have q265 : x14_3 < (l0.length : Int) := of_decide_eq_true (by first | (with_reducible assumption) | assumption); obtain ⟨ad265, e265, hx265_0, hx265_1, hx265_2, hx265_3⟩ := at_T24 HR0.out x14_3 p265 q265; obtain rfl : ad255 = ad265 := (by injection e265); have hn265_0 : ad255.block ≠ gb264 := Nat.ne_of_lt (Nat.lt_of_lt_of_le (by have := World.block_lt_of_cell? _ _ hx265_0; first | rwa [add_block] at this | exact this) GW264.out); have hn265_1 : ad255.block ≠ gb264 := Nat.ne_of_lt (Nat.lt_of_lt_of_le (by have := World.block_lt_of_cell? _ _ hx265_0; first | rwa [add_block] at this | exact this) GW264.out); have hn265_2 : ad255.block ≠ gb264 := Nat.ne_of_lt (Nat.lt_of_lt_of_le (by have := World.block_lt_of_cell? _ _ hx265_0; first | rwa [add_block] at this | exact this) GW264.out); have hn265_3 : ad255.block ≠ gb264 := Nat.ne_of_lt (Nat.lt_of_lt_of_le (by have := World.block_lt_of_cell? _ _ hx265_0; first | rwa [add_block] at this | exact this) GW264.out); replace hx265_0 := (HB.out.cell (World.block_lt_of_cell? w _ hx265_0)).trans hx265_0; replace hx265_1 := (HB.out.cell (World.block_lt_of_cell? w _ hx265_1)).trans hx265_1; replace hx265_2 := (HB.out.cell (World.block_lt_of_cell? w _ hx265_2)).trans hx265_2; replace hx265_3 := (HB.out.cell (World.block_lt_of_cell? w _ hx265_3)).trans hx265_3; replace hx265_0 := (cell_far (p := ⟨gb264, 0, none⟩) (by first | (rw [add_block]; exact hn265_0) | (show (Addr.add _ _).block ≠ _; rw [add_block]; exact hn265_0) | exact hn265_0) (.int .u64 t258)).trans hx265_0; replace hx265_1 := (cell_far (p := ⟨gb264, 0, none⟩) (by first | (rw [add_block]; exact hn265_0) | (show (Addr.add _ _).block ≠ _; rw [add_block]; exact hn265_0) | exact hn265_0) (.int .u64 t258)).trans hx265_1; replace hx265_2 := (cell_far (p := ⟨gb264, 0, none⟩) (by first | (rw [add_block]; exact hn265_0) | (show (Addr.add _ _).block ≠ _; rw [add_block]; exact hn265_0) | exact hn265_0) (.int .u64 t258)).trans hx265_2; replace hx265_3 := (cell_far (p := ⟨gb264, 0, none⟩) (by first | (rw [add_block]; exact hn265_0) | (show (Addr.add _ _).block ≠ _; rw [add_block]; exact hn265_0) | exact hn265_0) (.int .u64 t258)).trans hx265_3; replace hx265_0 := (cell_far (p := ⟨gb264, 1, none⟩) (by first | (rw [add_block]; exact hn265_1) | (show (Addr.add _ _).block ≠ _; rw [add_block]; exact hn265_1) | exact hn265_1) (.string t259)).trans hx265_0; replace hx265_1 := (cell_far (p := ⟨gb264, 1, none⟩) (by first | (rw [add_block]; exact hn265_1) | (show (Addr.add _ _).block ≠ _; rw [add_block]; exact hn265_1) | exact hn265_1) (.string t259)).trans hx265_1; replace hx265_2 := (cell_far (p := ⟨gb264, 1, none⟩) (by first | (rw [add_block]; exact hn265_1) | (show (Addr.add _ _).block ≠ _; rw [add_block]; exact hn265_1) | exact hn265_1) (.string t259)).trans hx265_2; replace hx265_3 := (cell_far (p := ⟨gb264, 1, none⟩) (by first | (rw [add_block]; exact hn265_1) | (show (Addr.add _ _).block ≠ _; rw [add_block]; exact hn265_1) | exact hn265_1) (.string t259)).trans hx265_3; replace hx265_0 := (cell_far (p := ⟨gb264, 2, none⟩) (by first | (rw [add_block]; exact hn265_2) | (show (Addr.add _ _).block ≠ _; rw [add_block]; exact hn265_2) | exact hn265_2) (.string t260)).trans hx265_0; replace hx265_1 := (cell_far (p := ⟨gb264, 2, none⟩) (by first | (rw [add_block]; exact hn265_2) | (show (Addr.add _ _).block ≠ _; rw [add_block]; exact hn265_2) | exact hn265_2) (.string t260)).trans hx265_1; replace hx265_2 := (cell_far (p := ⟨gb264, 2, none⟩) (by first | (rw [add_block]; exact hn265_2) | (show (Addr.add _ _).block ≠ _; rw [add_block]; exact hn265_2) | exact hn265_2) (.string t260)).trans hx265_2; replace hx265_3 := (cell_far (p := ⟨gb264, 2, none⟩) (by first | (rw [add_block]; exact hn265_2) | (show (Addr.add _ _).block ≠ _; rw [add_block]; exact hn265_2) | exact hn265_2) (.string t260)).trans hx265_3; replace hx265_0 := (cell_far (p := ⟨gb264, 3, none⟩) (by first | (rw [add_block]; exact hn265_3) | (show (Addr.add _ _).block ≠ _; rw [add_block]; exact hn265_3) | exact hn265_3) (.bool t261)).trans hx265_0; replace hx265_1 := (cell_far (p := ⟨gb264, 3, none⟩) (by first | (rw [add_block]; exact hn265_3) | (show (Addr.add _ _).block ≠ _; rw [add_block]; exact hn265_3) | exact hn265_3) (.bool t261)).trans hx265_1; replace hx265_2 := (cell_far (p := ⟨gb264, 3, none⟩) (by first | (rw [add_block]; exact hn265_3) | (show (Addr.add _ _).block ≠ _; rw [add_block]; exact hn265_3) | exact hn265_3) (.bool t261)).trans hx265_2; replace hx265_3 := (cell_far (p := ⟨gb264, 3, none⟩) (by first | (rw [add_block]; exact hn265_3) | (show (Addr.add _ _).block ≠ _; rw [add_block]; exact hn265_3) | exact hn265_3) (.bool t261)).trans hx265_3; (try have hy265_0 := fun (n_ : Nat) => (show ((((((w36.drewN n_).setCell ⟨gb264, 0, none⟩ (.int .u64 t258)).setCell ⟨gb264, 1, none⟩ (.string t259)).setCell ⟨gb264, 2, none⟩ (.string t260)).setCell ⟨gb264, 3, none⟩ (.bool t261))).cell? _ = some _ from hx265_0)); (try have hy265_1 := fun (n_ : Nat) => (show ((((((w36.drewN n_).setCell ⟨gb264, 0, none⟩ (.int .u64 t258)).setCell ⟨gb264, 1, none⟩ (.string t259)).setCell ⟨gb264, 2, none⟩ (.string t260)).setCell ⟨gb264, 3, none⟩ (.bool t261))).cell? _ = some _ from hx265_1)); (try have hy265_2 := fun (n_ : Nat) => (show ((((((w36.drewN n_).setCell ⟨gb264, 0, none⟩ (.int .u64 t258)).setCell ⟨gb264, 1, none⟩ (.string t259)).setCell ⟨gb264, 2, none⟩ (.string t260)).setCell ⟨gb264, 3, none⟩ (.bool t261))).cell? _ = some _ from hx265_2)); (try have hy265_3 := fun (n_ : Nat) => (show ((((((w36.drewN n_).setCell ⟨gb264, 0, none⟩ (.int .u64 t258)).setCell ⟨gb264, 1, none⟩ (.string t259)).setCell ⟨gb264, 2, none⟩ (.string t260)).setCell ⟨gb264, 3, none⟩ (.bool t261))).cell? _ = some _ from hx265_3)); clear hn265_0; clear hn265_1; clear hn265_2; clear hn265_3; replace p265 := eq_true p265; replace q265 := eq_true q265)))
                                      go_roundg kj21
                                      case measure => have := HJ5.out; have := HJ14.out; have := HK3.out; have := HJ21.out; omega
                                      case rel => exact ⟨(wrap64 (x14_3 + 1)), (by first | rfl | (simp; done) | (simp [*]; done)), H', ⟨by have := HJ5.out; have := HJ14.out; have := HK3.out; have := HJ21.out; omega⟩, ⟨by repeat (first | (with_reducible first | exact HB.out | apply below_alloc | apply pw_below_drewN | apply below_drew1 | refine below_set ?_ GE264.out) | exact HB.out)⟩⟩
                                    · rw [if_neg c33] at H
                                      exact absurd H (by simp)
                                · rw [if_neg c31] at H
                                  exact absurd H (by simp)
                              · rw [if_neg c30] at H
                                exact absurd H (by simp)
                            · rw [if_neg c28] at H
                              exact absurd H (by simp)
                          · rw [if_neg c26] at H
                            exact absurd H (by simp)
                        · rw [if_neg c25] at H
                          exact absurd H (by simp)
                      · replace c24 := Bool.eq_false_iff.mpr c24
                        subst c24
                        have H1 : ((record_Read.f kj21 a1).bind fun bt246 => ((record_Bytes.f kj21 bt246.1 bt246.2.1 bt246.2.2.1 bt246.2.2.2.1).bind fun bt253 => (if t237 = true then (if bt246.2.2.2.2.2 = 0 then (if bt253.2 = 0 then (if bt253.1.size + bt246.2.2.2.2.1.size ≤ 9223372036854775807 then (some ((bt253.1 ++ bt246.2.2.2.2.1).toList == a1.toList)) else (none)) else (none)) else (some true)) else (none)))) = some r := by rw [if_neg (show ¬ (false = true) by decide)] at H; exact H
                        clear H
                        have H := H1
                        clear H1
                        replace H := Option.bind_eq_some_iff.mp H
                        obtain ⟨⟨t246, t247, t248, t249, t250, t251⟩, A380, H⟩ := H
                        replace H : ((record_Bytes.f kj21 t246 t247 t248 t249).bind fun bt253 => (if t237 = true then (if t251 = 0 then (if bt253.2 = 0 then (if bt253.1.size + t250.size ≤ 9223372036854775807 then (some ((bt253.1 ++ t250).toList == a1.toList)) else (none)) else (none)) else (some true)) else (none))) = some r := H
                        have A38 := Aside0.mk A380
                        clear A380
                        replace H := Option.bind_eq_some_iff.mp H
                        obtain ⟨⟨t253, t254⟩, A390, H⟩ := H
                        replace H : (if t237 = true then (if t251 = 0 then (if t254 = 0 then (if t253.size + t250.size ≤ 9223372036854775807 then (some ((t253 ++ t250).toList == a1.toList)) else (none)) else (none)) else (some true)) else (none)) = some r := H
                        have A39 := Aside0.mk A390
                        clear A390
                        by_cases c40 : t237 = true
                        · subst c40
                          have H1 : (if t251 = 0 then (if t254 = 0 then (if t253.size + t250.size ≤ 9223372036854775807 then (some ((t253 ++ t250).toList == a1.toList)) else (none)) else (none)) else (some true)) = some r := by rw [if_pos rfl] at H; exact H
                          clear H
                          have H := H1
                          clear H1
                          by_cases c41 : t251 = 0
                          · rw [if_pos c41] at H
                            have c41b0 : (t251 == 0) = true := beq_iff_eq.mpr c41
                            have c41b1 : (t251 != 0) = false := bne_eq_false_iff_eq.mpr c41
                            clear c41
                            by_cases c42 : t254 = 0
                            · rw [if_pos c42] at H
                              have c42b0 : (t254 == 0) = true := beq_iff_eq.mpr c42
                              have c42b1 : (t254 != 0) = false := bne_eq_false_iff_eq.mpr c42
                              clear c42
                              by_cases c43 : t253.size + t250.size ≤ 9223372036854775807
                              · rw [if_pos c43] at H
                                have c43b0 := eq_true c43
                                have c43b1 : decide (t253.size + t250.size ≤ 9223372036854775807) = true := decide_eq_true c43
                                try have c43b2 : (9223372036854775807 < t253.size + t250.size) = False := eq_false (Nat.not_lt.2 c43)
                                obtain rfl := Option.some.inj H
                                go_wp2_with (first | (go_at_call 13; (with_reducible refine (record_Read.calls kj21 a1 t246 t247 t248 t249 t250 t251 _ A38.out).mono ?_); rintro e w44 ⟨rfl, hb⟩; have n0_ := Aside0.mk (below_step (by repeat (first | (with_reducible first | exact HB.out | apply below_alloc | apply pw_below_drewN | apply below_drew1) | exact HB.out)) hb); clear HB; have HB := n0_; clear n0_; (try clear hb); (try clear hb2); (try clear hk); (try clear hi)) | ((with_reducible refine gate_dst (N := 20) rfl ?_); (try (refine gate_guard (by rfl) ?_; dsimp only)); refine box_event ?hg (N := 20) ?hd (cs := #[.int .u64 0, .string (⟨#[]⟩ : ByteArray), .string (⟨#[]⟩ : ByteArray), .bool false]) (t := 24) ?hr ?_; (case hd => rfl); (case hg => rfl); (case hr => first | (go_simp; done) | (go_simp; rfl)); intro gb252 hg w45 hbox hb; have n0_ := Aside0.mk (below_step (by repeat (first | (with_reducible first | exact HB.out | apply below_alloc | apply pw_below_drewN | apply below_drew1) | exact HB.out)) hb); have n1_ := Aside0.mk (hbox); have n2_ := Aside0.mk ((by rw [hg]; exact (below_size (by repeat (first | (with_reducible first | exact HB.out | apply below_alloc | apply pw_below_drewN | apply below_drew1) | exact HB.out))) : w.heap.size ≤ gb252)); have n3_ := Aside0.mk ((by rw [hg]; exact (below_size (by repeat (first | (with_reducible first | exact HB.out | apply below_alloc | apply pw_below_drewN | apply below_drew1) | exact HB.out))) : w.heap.size ≤ gb252)); clear HB; have HB := n0_; have BK252 := n1_; have GW252 := n2_; have GE252 := n3_; clear n0_ n1_ n2_ n3_; clear hb hbox hg; have hcz46_0 : w45.cell? ⟨gb252, 0, none⟩ = some (.int .u64 0) := (blk_cell BK252.out 0).trans rfl; have hcz46_1 : w45.cell? ⟨gb252, 1, none⟩ = some (.string (⟨#[]⟩ : ByteArray)) := (blk_cell BK252.out 1).trans rfl; have hcz46_2 : w45.cell? ⟨gb252, 2, none⟩ = some (.string (⟨#[]⟩ : ByteArray)) := (blk_cell BK252.out 2).trans rfl; have hcz46_3 : w45.cell? ⟨gb252, 3, none⟩ = some (.bool false) := (blk_cell BK252.out 3).trans rfl; have hfz46_0 := blk_frozen BK252.out 0; have hfz46_1 := blk_frozen BK252.out 1; have hfz46_2 := blk_frozen BK252.out 2; have hfz46_3 := blk_frozen BK252.out 3) | (go_at_call 11; (with_reducible refine (record_Bytes.calls kj21 t246 t247 t248 t249 t253 t254 _ A39.out).mono ?_); rintro e w47 ⟨rfl, hb⟩; have n0_ := Aside0.mk (blk_below (g := gb252) (o := .cells #[.int .u64 t246, .string t247, .string t248, .bool t249] 24 (0, 0)) (by (with_reducible repeat (first | refine blk_drewN ?_ _ | refine blk_drew ?_ | refine blk_alloc ?_ _)); refine blk_put (cs := #[.int .u64 t246, .string t247, .string t248, .bool false]) ?_ 3 _ rfl; (with_reducible repeat (first | refine blk_drewN ?_ _ | refine blk_drew ?_ | refine blk_alloc ?_ _)); refine blk_put (cs := #[.int .u64 t246, .string t247, .string (⟨#[]⟩ : ByteArray), .bool false]) ?_ 2 _ rfl; (with_reducible repeat (first | refine blk_drewN ?_ _ | refine blk_drew ?_ | refine blk_alloc ?_ _)); refine blk_put (cs := #[.int .u64 t246, .string (⟨#[]⟩ : ByteArray), .string (⟨#[]⟩ : ByteArray), .bool false]) ?_ 1 _ rfl; (with_reducible repeat (first | refine blk_drewN ?_ _ | refine blk_drew ?_ | refine blk_alloc ?_ _)); refine blk_put (cs := #[.int .u64 0, .string (⟨#[]⟩ : ByteArray), .string (⟨#[]⟩ : ByteArray), .bool false]) ?_ 0 _ rfl; (with_reducible repeat (first | refine blk_drewN ?_ _ | refine blk_drew ?_ | refine blk_alloc ?_ _)); exact BK252.out) hb); have n1_ := Aside0.mk (below_step (by repeat (first | (with_reducible first | exact HB.out | apply below_alloc | apply pw_below_drewN | apply below_drew1 | refine below_set ?_ GE252.out) | exact HB.out)) hb); clear BK252; clear HB; have BK252 := n0_; have HB := n1_; clear n0_ n1_; (try clear hb); (try clear hb2); (try clear hk); (try clear hi)))
                                repeat (go_quiet (first | (go_at_call 13; (with_reducible refine (record_Read.calls kj21 a1 t246 t247 t248 t249 t250 t251 _ A38.out).mono ?_); rintro e w44 ⟨rfl, hb⟩; have n0_ := Aside0.mk (below_step (by repeat (first | (with_reducible first | exact HB.out | apply below_alloc | apply pw_below_drewN | apply below_drew1) | exact HB.out)) hb); clear HB; have HB := n0_; clear n0_; (try clear hb); (try clear hb2); (try clear hk); (try clear hi)) | ((with_reducible refine gate_dst (N := 20) rfl ?_); (try (refine gate_guard (by rfl) ?_; dsimp only)); refine box_event ?hg (N := 20) ?hd (cs := #[.int .u64 0, .string (⟨#[]⟩ : ByteArray), .string (⟨#[]⟩ : ByteArray), .bool false]) (t := 24) ?hr ?_; (case hd => rfl); (case hg => rfl); (case hr => first | (go_simp; done) | (go_simp; rfl)); intro gb252 hg w45 hbox hb; have n0_ := Aside0.mk (below_step (by repeat (first | (with_reducible first | exact HB.out | apply below_alloc | apply pw_below_drewN | apply below_drew1) | exact HB.out)) hb); have n1_ := Aside0.mk (hbox); have n2_ := Aside0.mk ((by rw [hg]; exact (below_size (by repeat (first | (with_reducible first | exact HB.out | apply below_alloc | apply pw_below_drewN | apply below_drew1) | exact HB.out))) : w.heap.size ≤ gb252)); have n3_ := Aside0.mk ((by rw [hg]; exact (below_size (by repeat (first | (with_reducible first | exact HB.out | apply below_alloc | apply pw_below_drewN | apply below_drew1) | exact HB.out))) : w.heap.size ≤ gb252)); clear HB; have HB := n0_; have BK252 := n1_; have GW252 := n2_; have GE252 := n3_; clear n0_ n1_ n2_ n3_; clear hb hbox hg; have hcz46_0 : w45.cell? ⟨gb252, 0, none⟩ = some (.int .u64 0) := (blk_cell BK252.out 0).trans rfl; have hcz46_1 : w45.cell? ⟨gb252, 1, none⟩ = some (.string (⟨#[]⟩ : ByteArray)) := (blk_cell BK252.out 1).trans rfl; have hcz46_2 : w45.cell? ⟨gb252, 2, none⟩ = some (.string (⟨#[]⟩ : ByteArray)) := (blk_cell BK252.out 2).trans rfl; have hcz46_3 : w45.cell? ⟨gb252, 3, none⟩ = some (.bool false) := (blk_cell BK252.out 3).trans rfl; have hfz46_0 := blk_frozen BK252.out 0; have hfz46_1 := blk_frozen BK252.out 1; have hfz46_2 := blk_frozen BK252.out 2; have hfz46_3 := blk_frozen BK252.out 3) | (go_at_call 11; (with_reducible refine (record_Bytes.calls kj21 t246 t247 t248 t249 t253 t254 _ A39.out).mono ?_); rintro e w47 ⟨rfl, hb⟩; have n0_ := Aside0.mk (blk_below (g := gb252) (o := .cells #[.int .u64 t246, .string t247, .string t248, .bool t249] 24 (0, 0)) (by (with_reducible repeat (first | refine blk_drewN ?_ _ | refine blk_drew ?_ | refine blk_alloc ?_ _)); refine blk_put (cs := #[.int .u64 t246, .string t247, .string t248, .bool false]) ?_ 3 _ rfl; (with_reducible repeat (first | refine blk_drewN ?_ _ | refine blk_drew ?_ | refine blk_alloc ?_ _)); refine blk_put (cs := #[.int .u64 t246, .string t247, .string (⟨#[]⟩ : ByteArray), .bool false]) ?_ 2 _ rfl; (with_reducible repeat (first | refine blk_drewN ?_ _ | refine blk_drew ?_ | refine blk_alloc ?_ _)); refine blk_put (cs := #[.int .u64 t246, .string (⟨#[]⟩ : ByteArray), .string (⟨#[]⟩ : ByteArray), .bool false]) ?_ 1 _ rfl; (with_reducible repeat (first | refine blk_drewN ?_ _ | refine blk_drew ?_ | refine blk_alloc ?_ _)); refine blk_put (cs := #[.int .u64 0, .string (⟨#[]⟩ : ByteArray), .string (⟨#[]⟩ : ByteArray), .bool false]) ?_ 0 _ rfl; (with_reducible repeat (first | refine blk_drewN ?_ _ | refine blk_drew ?_ | refine blk_alloc ?_ _)); exact BK252.out) hb); have n1_ := Aside0.mk (below_step (by repeat (first | (with_reducible first | exact HB.out | apply below_alloc | apply pw_below_drewN | apply below_drew1 | refine below_set ?_ GE252.out) | exact HB.out)) hb); clear BK252; clear HB; have BK252 := n0_; have HB := n1_; clear n0_ n1_; (try clear hb); (try clear hb2); (try clear hk); (try clear hi))); try go_wp2_with (first | (go_at_call 13; (with_reducible refine (record_Read.calls kj21 a1 t246 t247 t248 t249 t250 t251 _ A38.out).mono ?_); rintro e w44 ⟨rfl, hb⟩; have n0_ := Aside0.mk (below_step (by repeat (first | (with_reducible first | exact HB.out | apply below_alloc | apply pw_below_drewN | apply below_drew1) | exact HB.out)) hb); clear HB; have HB := n0_; clear n0_; (try clear hb); (try clear hb2); (try clear hk); (try clear hi)) | ((with_reducible refine gate_dst (N := 20) rfl ?_); (try (refine gate_guard (by rfl) ?_; dsimp only)); refine box_event ?hg (N := 20) ?hd (cs := #[.int .u64 0, .string (⟨#[]⟩ : ByteArray), .string (⟨#[]⟩ : ByteArray), .bool false]) (t := 24) ?hr ?_; (case hd => rfl); (case hg => rfl); (case hr => first | (go_simp; done) | (go_simp; rfl)); intro gb252 hg w45 hbox hb; have n0_ := Aside0.mk (below_step (by repeat (first | (with_reducible first | exact HB.out | apply below_alloc | apply pw_below_drewN | apply below_drew1) | exact HB.out)) hb); have n1_ := Aside0.mk (hbox); have n2_ := Aside0.mk ((by rw [hg]; exact (below_size (by repeat (first | (with_reducible first | exact HB.out | apply below_alloc | apply pw_below_drewN | apply below_drew1) | exact HB.out))) : w.heap.size ≤ gb252)); have n3_ := Aside0.mk ((by rw [hg]; exact (below_size (by repeat (first | (with_reducible first | exact HB.out | apply below_alloc | apply pw_below_drewN | apply below_drew1) | exact HB.out))) : w.heap.size ≤ gb252)); clear HB; have HB := n0_; have BK252 := n1_; have GW252 := n2_; have GE252 := n3_; clear n0_ n1_ n2_ n3_; clear hb hbox hg; have hcz46_0 : w45.cell? ⟨gb252, 0, none⟩ = some (.int .u64 0) := (blk_cell BK252.out 0).trans rfl; have hcz46_1 : w45.cell? ⟨gb252, 1, none⟩ = some (.string (⟨#[]⟩ : ByteArray)) := (blk_cell BK252.out 1).trans rfl; have hcz46_2 : w45.cell? ⟨gb252, 2, none⟩ = some (.string (⟨#[]⟩ : ByteArray)) := (blk_cell BK252.out 2).trans rfl; have hcz46_3 : w45.cell? ⟨gb252, 3, none⟩ = some (.bool false) := (blk_cell BK252.out 3).trans rfl; have hfz46_0 := blk_frozen BK252.out 0; have hfz46_1 := blk_frozen BK252.out 1; have hfz46_2 := blk_frozen BK252.out 2; have hfz46_3 := blk_frozen BK252.out 3) | (go_at_call 11; (with_reducible refine (record_Bytes.calls kj21 t246 t247 t248 t249 t253 t254 _ A39.out).mono ?_); rintro e w47 ⟨rfl, hb⟩; have n0_ := Aside0.mk (blk_below (g := gb252) (o := .cells #[.int .u64 t246, .string t247, .string t248, .bool t249] 24 (0, 0)) (by (with_reducible repeat (first | refine blk_drewN ?_ _ | refine blk_drew ?_ | refine blk_alloc ?_ _)); refine blk_put (cs := #[.int .u64 t246, .string t247, .string t248, .bool false]) ?_ 3 _ rfl; (with_reducible repeat (first | refine blk_drewN ?_ _ | refine blk_drew ?_ | refine blk_alloc ?_ _)); refine blk_put (cs := #[.int .u64 t246, .string t247, .string (⟨#[]⟩ : ByteArray), .bool false]) ?_ 2 _ rfl; (with_reducible repeat (first | refine blk_drewN ?_ _ | refine blk_drew ?_ | refine blk_alloc ?_ _)); refine blk_put (cs := #[.int .u64 t246, .string (⟨#[]⟩ : ByteArray), .string (⟨#[]⟩ : ByteArray), .bool false]) ?_ 1 _ rfl; (with_reducible repeat (first | refine blk_drewN ?_ _ | refine blk_drew ?_ | refine blk_alloc ?_ _)); refine blk_put (cs := #[.int .u64 0, .string (⟨#[]⟩ : ByteArray), .string (⟨#[]⟩ : ByteArray), .bool false]) ?_ 0 _ rfl; (with_reducible repeat (first | refine blk_drewN ?_ _ | refine blk_drew ?_ | refine blk_alloc ?_ _)); exact BK252.out) hb); have n1_ := Aside0.mk (below_step (by repeat (first | (with_reducible first | exact HB.out | apply below_alloc | apply pw_below_drewN | apply below_drew1 | refine below_set ?_ GE252.out) | exact HB.out)) hb); clear BK252; clear HB; have BK252 := n0_; have HB := n1_; clear n0_ n1_; (try clear hb); (try clear hb2); (try clear hk); (try clear hi))))
                                go_ret
                                exact ⟨by first | rfl | (simp [errW_none, errW_some] <;> rfl) | (simp [*, errW_none, errW_some] <;> rfl) | (simp [errW_none, errW_some]; exact isEmpty_bne _), by repeat (first | (with_reducible first | exact HB.out | apply below_alloc | apply pw_below_drewN | apply below_drew1 | refine below_set ?_ GE252.out) | exact HB.out)⟩
                              · rw [if_neg c43] at H
                                exact absurd H (by simp)
                            · rw [if_neg c42] at H
                              exact absurd H (by simp)
                          · rw [if_neg c41] at H
                            have c41b0 : (t251 == 0) = false := beq_eq_false_iff_ne.mpr c41
                            have c41b1 : (t251 != 0) = true := bne_iff_ne.mpr c41
                            obtain rfl := Option.some.inj H
                            go_wp2_with (first | (go_at_call 13; (with_reducible refine (record_Read.calls kj21 a1 t246 t247 t248 t249 t250 t251 _ A38.out).mono ?_); rintro e w48 ⟨rfl, hb⟩; have n0_ := Aside0.mk (below_step (by repeat (first | (with_reducible first | exact HB.out | apply below_alloc | apply pw_below_drewN | apply below_drew1) | exact HB.out)) hb); clear HB; have HB := n0_; clear n0_; (try clear hb); (try clear hb2); (try clear hk); (try clear hi)) | ((with_reducible refine gate_dst (N := 20) rfl ?_); (try (refine gate_guard (by rfl) ?_; dsimp only)); refine box_event ?hg (N := 20) ?hd (cs := #[.int .u64 0, .string (⟨#[]⟩ : ByteArray), .string (⟨#[]⟩ : ByteArray), .bool false]) (t := 24) ?hr ?_; (case hd => rfl); (case hg => rfl); (case hr => first | (go_simp; done) | (go_simp; rfl)); intro gb252 hg w49 hbox hb; have n0_ := Aside0.mk (below_step (by repeat (first | (with_reducible first | exact HB.out | apply below_alloc | apply pw_below_drewN | apply below_drew1) | exact HB.out)) hb); have n1_ := Aside0.mk (hbox); have n2_ := Aside0.mk ((by rw [hg]; exact (below_size (by repeat (first | (with_reducible first | exact HB.out | apply below_alloc | apply pw_below_drewN | apply below_drew1) | exact HB.out))) : w.heap.size ≤ gb252)); have n3_ := Aside0.mk ((by rw [hg]; exact (below_size (by repeat (first | (with_reducible first | exact HB.out | apply below_alloc | apply pw_below_drewN | apply below_drew1) | exact HB.out))) : w.heap.size ≤ gb252)); clear HB; have HB := n0_; have BK252 := n1_; have GW252 := n2_; have GE252 := n3_; clear n0_ n1_ n2_ n3_; clear hb hbox hg; have hcz50_0 : w49.cell? ⟨gb252, 0, none⟩ = some (.int .u64 0) := (blk_cell BK252.out 0).trans rfl; have hcz50_1 : w49.cell? ⟨gb252, 1, none⟩ = some (.string (⟨#[]⟩ : ByteArray)) := (blk_cell BK252.out 1).trans rfl; have hcz50_2 : w49.cell? ⟨gb252, 2, none⟩ = some (.string (⟨#[]⟩ : ByteArray)) := (blk_cell BK252.out 2).trans rfl; have hcz50_3 : w49.cell? ⟨gb252, 3, none⟩ = some (.bool false) := (blk_cell BK252.out 3).trans rfl; have hfz50_0 := blk_frozen BK252.out 0; have hfz50_1 := blk_frozen BK252.out 1; have hfz50_2 := blk_frozen BK252.out 2; have hfz50_3 := blk_frozen BK252.out 3) | (go_at_call 11; (with_reducible refine (record_Bytes.calls kj21 t246 t247 t248 t249 t253 t254 _ A39.out).mono ?_); rintro e w51 ⟨rfl, hb⟩; have n0_ := Aside0.mk (blk_below (g := gb252) (o := .cells #[.int .u64 t246, .string t247, .string t248, .bool t249] 24 (0, 0)) (by (with_reducible repeat (first | refine blk_drewN ?_ _ | refine blk_drew ?_ | refine blk_alloc ?_ _)); refine blk_put (cs := #[.int .u64 t246, .string t247, .string t248, .bool false]) ?_ 3 _ rfl; (with_reducible repeat (first | refine blk_drewN ?_ _ | refine blk_drew ?_ | refine blk_alloc ?_ _)); refine blk_put (cs := #[.int .u64 t246, .string t247, .string (⟨#[]⟩ : ByteArray), .bool false]) ?_ 2 _ rfl; (with_reducible repeat (first | refine blk_drewN ?_ _ | refine blk_drew ?_ | refine blk_alloc ?_ _)); refine blk_put (cs := #[.int .u64 t246, .string (⟨#[]⟩ : ByteArray), .string (⟨#[]⟩ : ByteArray), .bool false]) ?_ 1 _ rfl; (with_reducible repeat (first | refine blk_drewN ?_ _ | refine blk_drew ?_ | refine blk_alloc ?_ _)); refine blk_put (cs := #[.int .u64 0, .string (⟨#[]⟩ : ByteArray), .string (⟨#[]⟩ : ByteArray), .bool false]) ?_ 0 _ rfl; (with_reducible repeat (first | refine blk_drewN ?_ _ | refine blk_drew ?_ | refine blk_alloc ?_ _)); exact BK252.out) hb); have n1_ := Aside0.mk (below_step (by repeat (first | (with_reducible first | exact HB.out | apply below_alloc | apply pw_below_drewN | apply below_drew1 | refine below_set ?_ GE252.out) | exact HB.out)) hb); clear BK252; clear HB; have BK252 := n0_; have HB := n1_; clear n0_ n1_; (try clear hb); (try clear hb2); (try clear hk); (try clear hi)))
                            repeat (go_quiet (first | (go_at_call 13; (with_reducible refine (record_Read.calls kj21 a1 t246 t247 t248 t249 t250 t251 _ A38.out).mono ?_); rintro e w48 ⟨rfl, hb⟩; have n0_ := Aside0.mk (below_step (by repeat (first | (with_reducible first | exact HB.out | apply below_alloc | apply pw_below_drewN | apply below_drew1) | exact HB.out)) hb); clear HB; have HB := n0_; clear n0_; (try clear hb); (try clear hb2); (try clear hk); (try clear hi)) | ((with_reducible refine gate_dst (N := 20) rfl ?_); (try (refine gate_guard (by rfl) ?_; dsimp only)); refine box_event ?hg (N := 20) ?hd (cs := #[.int .u64 0, .string (⟨#[]⟩ : ByteArray), .string (⟨#[]⟩ : ByteArray), .bool false]) (t := 24) ?hr ?_; (case hd => rfl); (case hg => rfl); (case hr => first | (go_simp; done) | (go_simp; rfl)); intro gb252 hg w49 hbox hb; have n0_ := Aside0.mk (below_step (by repeat (first | (with_reducible first | exact HB.out | apply below_alloc | apply pw_below_drewN | apply below_drew1) | exact HB.out)) hb); have n1_ := Aside0.mk (hbox); have n2_ := Aside0.mk ((by rw [hg]; exact (below_size (by repeat (first | (with_reducible first | exact HB.out | apply below_alloc | apply pw_below_drewN | apply below_drew1) | exact HB.out))) : w.heap.size ≤ gb252)); have n3_ := Aside0.mk ((by rw [hg]; exact (below_size (by repeat (first | (with_reducible first | exact HB.out | apply below_alloc | apply pw_below_drewN | apply below_drew1) | exact HB.out))) : w.heap.size ≤ gb252)); clear HB; have HB := n0_; have BK252 := n1_; have GW252 := n2_; have GE252 := n3_; clear n0_ n1_ n2_ n3_; clear hb hbox hg; have hcz50_0 : w49.cell? ⟨gb252, 0, none⟩ = some (.int .u64 0) := (blk_cell BK252.out 0).trans rfl; have hcz50_1 : w49.cell? ⟨gb252, 1, none⟩ = some (.string (⟨#[]⟩ : ByteArray)) := (blk_cell BK252.out 1).trans rfl; have hcz50_2 : w49.cell? ⟨gb252, 2, none⟩ = some (.string (⟨#[]⟩ : ByteArray)) := (blk_cell BK252.out 2).trans rfl; have hcz50_3 : w49.cell? ⟨gb252, 3, none⟩ = some (.bool false) := (blk_cell BK252.out 3).trans rfl; have hfz50_0 := blk_frozen BK252.out 0; have hfz50_1 := blk_frozen BK252.out 1; have hfz50_2 := blk_frozen BK252.out 2; have hfz50_3 := blk_frozen BK252.out 3) | (go_at_call 11; (with_reducible refine (record_Bytes.calls kj21 t246 t247 t248 t249 t253 t254 _ A39.out).mono ?_); rintro e w51 ⟨rfl, hb⟩; have n0_ := Aside0.mk (blk_below (g := gb252) (o := .cells #[.int .u64 t246, .string t247, .string t248, .bool t249] 24 (0, 0)) (by (with_reducible repeat (first | refine blk_drewN ?_ _ | refine blk_drew ?_ | refine blk_alloc ?_ _)); refine blk_put (cs := #[.int .u64 t246, .string t247, .string t248, .bool false]) ?_ 3 _ rfl; (with_reducible repeat (first | refine blk_drewN ?_ _ | refine blk_drew ?_ | refine blk_alloc ?_ _)); refine blk_put (cs := #[.int .u64 t246, .string t247, .string (⟨#[]⟩ : ByteArray), .bool false]) ?_ 2 _ rfl; (with_reducible repeat (first | refine blk_drewN ?_ _ | refine blk_drew ?_ | refine blk_alloc ?_ _)); refine blk_put (cs := #[.int .u64 t246, .string (⟨#[]⟩ : ByteArray), .string (⟨#[]⟩ : ByteArray), .bool false]) ?_ 1 _ rfl; (with_reducible repeat (first | refine blk_drewN ?_ _ | refine blk_drew ?_ | refine blk_alloc ?_ _)); refine blk_put (cs := #[.int .u64 0, .string (⟨#[]⟩ : ByteArray), .string (⟨#[]⟩ : ByteArray), .bool false]) ?_ 0 _ rfl; (with_reducible repeat (first | refine blk_drewN ?_ _ | refine blk_drew ?_ | refine blk_alloc ?_ _)); exact BK252.out) hb); have n1_ := Aside0.mk (below_step (by repeat (first | (with_reducible first | exact HB.out | apply below_alloc | apply pw_below_drewN | apply below_drew1 | refine below_set ?_ GE252.out) | exact HB.out)) hb); clear BK252; clear HB; have BK252 := n0_; have HB := n1_; clear n0_ n1_; (try clear hb); (try clear hb2); (try clear hk); (try clear hi))); try go_wp2_with (first | (go_at_call 13; (with_reducible refine (record_Read.calls kj21 a1 t246 t247 t248 t249 t250 t251 _ A38.out).mono ?_); rintro e w48 ⟨rfl, hb⟩; have n0_ := Aside0.mk (below_step (by repeat (first | (with_reducible first | exact HB.out | apply below_alloc | apply pw_below_drewN | apply below_drew1) | exact HB.out)) hb); clear HB; have HB := n0_; clear n0_; (try clear hb); (try clear hb2); (try clear hk); (try clear hi)) | ((with_reducible refine gate_dst (N := 20) rfl ?_); (try (refine gate_guard (by rfl) ?_; dsimp only)); refine box_event ?hg (N := 20) ?hd (cs := #[.int .u64 0, .string (⟨#[]⟩ : ByteArray), .string (⟨#[]⟩ : ByteArray), .bool false]) (t := 24) ?hr ?_; (case hd => rfl); (case hg => rfl); (case hr => first | (go_simp; done) | (go_simp; rfl)); intro gb252 hg w49 hbox hb; have n0_ := Aside0.mk (below_step (by repeat (first | (with_reducible first | exact HB.out | apply below_alloc | apply pw_below_drewN | apply below_drew1) | exact HB.out)) hb); have n1_ := Aside0.mk (hbox); have n2_ := Aside0.mk ((by rw [hg]; exact (below_size (by repeat (first | (with_reducible first | exact HB.out | apply below_alloc | apply pw_below_drewN | apply below_drew1) | exact HB.out))) : w.heap.size ≤ gb252)); have n3_ := Aside0.mk ((by rw [hg]; exact (below_size (by repeat (first | (with_reducible first | exact HB.out | apply below_alloc | apply pw_below_drewN | apply below_drew1) | exact HB.out))) : w.heap.size ≤ gb252)); clear HB; have HB := n0_; have BK252 := n1_; have GW252 := n2_; have GE252 := n3_; clear n0_ n1_ n2_ n3_; clear hb hbox hg; have hcz50_0 : w49.cell? ⟨gb252, 0, none⟩ = some (.int .u64 0) := (blk_cell BK252.out 0).trans rfl; have hcz50_1 : w49.cell? ⟨gb252, 1, none⟩ = some (.string (⟨#[]⟩ : ByteArray)) := (blk_cell BK252.out 1).trans rfl; have hcz50_2 : w49.cell? ⟨gb252, 2, none⟩ = some (.string (⟨#[]⟩ : ByteArray)) := (blk_cell BK252.out 2).trans rfl; have hcz50_3 : w49.cell? ⟨gb252, 3, none⟩ = some (.bool false) := (blk_cell BK252.out 3).trans rfl; have hfz50_0 := blk_frozen BK252.out 0; have hfz50_1 := blk_frozen BK252.out 1; have hfz50_2 := blk_frozen BK252.out 2; have hfz50_3 := blk_frozen BK252.out 3) | (go_at_call 11; (with_reducible refine (record_Bytes.calls kj21 t246 t247 t248 t249 t253 t254 _ A39.out).mono ?_); rintro e w51 ⟨rfl, hb⟩; have n0_ := Aside0.mk (blk_below (g := gb252) (o := .cells #[.int .u64 t246, .string t247, .string t248, .bool t249] 24 (0, 0)) (by (with_reducible repeat (first | refine blk_drewN ?_ _ | refine blk_drew ?_ | refine blk_alloc ?_ _)); refine blk_put (cs := #[.int .u64 t246, .string t247, .string t248, .bool false]) ?_ 3 _ rfl; (with_reducible repeat (first | refine blk_drewN ?_ _ | refine blk_drew ?_ | refine blk_alloc ?_ _)); refine blk_put (cs := #[.int .u64 t246, .string t247, .string (⟨#[]⟩ : ByteArray), .bool false]) ?_ 2 _ rfl; (with_reducible repeat (first | refine blk_drewN ?_ _ | refine blk_drew ?_ | refine blk_alloc ?_ _)); refine blk_put (cs := #[.int .u64 t246, .string (⟨#[]⟩ : ByteArray), .string (⟨#[]⟩ : ByteArray), .bool false]) ?_ 1 _ rfl; (with_reducible repeat (first | refine blk_drewN ?_ _ | refine blk_drew ?_ | refine blk_alloc ?_ _)); refine blk_put (cs := #[.int .u64 0, .string (⟨#[]⟩ : ByteArray), .string (⟨#[]⟩ : ByteArray), .bool false]) ?_ 0 _ rfl; (with_reducible repeat (first | refine blk_drewN ?_ _ | refine blk_drew ?_ | refine blk_alloc ?_ _)); exact BK252.out) hb); have n1_ := Aside0.mk (below_step (by repeat (first | (with_reducible first | exact HB.out | apply below_alloc | apply pw_below_drewN | apply below_drew1 | refine below_set ?_ GE252.out) | exact HB.out)) hb); clear BK252; clear HB; have BK252 := n0_; have HB := n1_; clear n0_ n1_; (try clear hb); (try clear hb2); (try clear hk); (try clear hi))))
                            go_ret
                            exact ⟨by first | rfl | (simp [errW_none, errW_some] <;> rfl) | (simp [*, errW_none, errW_some] <;> rfl) | (simp [errW_none, errW_some]; exact isEmpty_bne _), by repeat (first | (with_reducible first | exact HB.out | apply below_alloc | apply pw_below_drewN | apply below_drew1 | refine below_set ?_ GE252.out) | exact HB.out)⟩
                        · replace c40 := Bool.eq_false_iff.mpr c40
                          subst c40
                          have H1 : (none) = some r := by rw [if_neg (show ¬ (false = true) by decide)] at H; exact H
                          clear H
                          have H := H1
                          clear H1
                          exact absurd H (by simp)

/-- THE ONE PURE STATEMENT of thwartlaw03_RecordBack: yours. -/
def thwartlaw03_RecordBack.Pure : Prop := ∀ (l0 : List (S24)) (a1 : ByteArray) (a2 : ByteArray), l0.length * 48 ≤ 140737488351232 → (l0.length ≤ 9223372036854775807 ∧ ∀ e266 ∈ l0, ((Lit.int .u64 e266.f0).wf = true ∧ e266.f1.size ≤ 9223372036854775807 ∧ e266.f2.size ≤ 9223372036854775807 ∧ True)) → a1.size ≤ 140737488351232 → a2.size ≤ 140737488351232 → ∃ k, thwartlaw03_RecordBack.f k l0 a1 a2 = some true
theorem thwartlaw03_RecordBack.walk (P : thwartlaw03_RecordBack.Pure) (A0 : Option Addr) (n0 c0 : Nat) (l0 : List (S24)) (a1 : ByteArray) (a2 : ByteArray) (w : World) (K0 : (Kd.slice 24 k24).K w l0 [.slice A0 n0 c0]) (y0 : n0 * 48 ≤ 140737488351232) (G0 : (l0.length ≤ 9223372036854775807 ∧ ∀ e266 ∈ l0, ((Lit.int .u64 e266.f0).wf = true ∧ e266.f1.size ≤ 9223372036854775807 ∧ e266.f2.size ≤ 9223372036854775807 ∧ True))) (w1 : a1.size ≤ 140737488351232) (w2 : a2.size ≤ 140737488351232) :
    Calls Try.prog 6 #[.slice A0 n0 c0, .string a1, .string a2] w fun e w' => e = .returned (.bool true) ∧ Below w.heap.size w w' := by
  obtain ⟨A0_, c0_, e0, hc0, hr0⟩ := K0
  simp only [List.cons.injEq, Value.slice.injEq, and_true] at e0
  obtain ⟨rfl, rfl, rfl⟩ := e0
  obtain ⟨k, h⟩ := P l0 a1 a2 y0 G0 w1 w2
  refine (thwartlaw03_RecordBack.calls k _ _ l0 a1 a2 true w hr0 hc0 h).mono ?_
  rintro e w' ⟨rfl, hd⟩
  exact ⟨rfl, hd⟩

/-! ### frame_fits: function 40 -/
def frame_fits.f (a0 : Int) : Option (Bool) := if a0 ≥ 1 then (some (decide (a0 ≤ 16))) else (some false)
set_option maxHeartbeats 8000000 in
set_option maxRecDepth 100000 in
theorem frame_fits.calls (a0 : Int) (r : Bool) (w : World) (h : frame_fits.f a0 = some r) :
    Calls Try.prog 40 #[.int .i64 a0] w fun e w' => e = .returned (.bool r) ∧ Drawn0 w w' := by
  have H : (if a0 ≥ 1 then (some (decide (a0 ≤ 16))) else (some false)) = some r := h
  clear h
  by_cases c2 : a0 ≥ 1
  · rw [if_pos c2] at H
    have c2b0 : decide (1 ≤ a0) = true := decide_eq_true c2
    clear c2
    obtain rfl := Option.some.inj H
    go_enter Try.func40, Try.ntmps40
    go_wp2
    go_ret
    exact ⟨by first | rfl | (simp; done) | (simp [*]; done), by repeat (first | exact Drawn0.refl _ | apply Drawn0.step)⟩
  · rw [if_neg c2] at H
    have c2b0 : decide (1 ≤ a0) = false := decide_eq_false c2
    clear c2
    obtain rfl := Option.some.inj H
    go_enter Try.func40, Try.ntmps40
    go_wp2
    go_ret
    exact ⟨by first | rfl | (simp; done) | (simp [*]; done), by repeat (first | exact Drawn0.refl _ | apply Drawn0.step)⟩

-- NOT PRINTED: function 49 (crc_table)

/-! ### crc_More: function 47 -/
def zs256 : Array Value := (List.replicate 256 (Value.int .u32 0)).toArray
theorem zs256_zero (w : World) : (zeroValue 71).run Try.prog w = .ok (.agg zs256) w := by kernel_rfl
def crcStep (c : Int) : Int := Go.bits .xor .u32 (c / 2) (Go.bits .and .u32 2197175160 ((-(Go.bits .and .u32 c 1)) % 4294967296))
def iterI (f : Int → Int) : Nat → Int → Int
  | 0, x => x
  | n + 1, x => f (iterI f n x)
def crcOf (i : Nat) : Int := iterI crcStep 8 i
def tabL (k : Nat) : List Int := (List.range k).map crcOf ++ List.replicate (256 - k) 0
def tabA (k : Nat) : Array Value := ((tabL k).map (Value.int .u32)).toArray
theorem tabA_zero : tabA 0 = zs256 := by simp only [tabA, tabL, zs256, List.range_zero, List.map_nil, List.nil_append, Nat.sub_zero, List.map_replicate]
theorem tabA_at (k : Nat) (h : k < 256) : (tabA k)[k]? = some (.int .u32 0) := by
  simp [tabA, tabL, List.getElem?_append, List.getElem?_replicate]
  omega
theorem tabA_size (k : Nat) (h : k ≤ 256) : (tabA k).size = 256 := by simp [tabA, tabL]; omega
theorem tabA_set (k : Nat) (h : k < 256) : (tabA k).setIfInBounds k (.int .u32 (crcOf k)) = tabA (k + 1) := by
  apply Array.ext_getElem?
  intro i
  simp only [tabA, tabL, Array.getElem?_setIfInBounds, List.getElem?_toArray, List.size_toArray, List.length_map, List.length_append, List.length_range, List.length_replicate, List.getElem?_map, List.getElem?_append, List.getElem?_replicate]
  by_cases h1 : k = i
  · subst h1; simp; omega
  · rcases Nat.lt_or_ge i k with h2 | h2
    · simp [h1, h2, show i < k + 1 by omega, List.getElem?_range, show i < k from h2]
    · simp [h1, show ¬ i < k by omega, show ¬ i < k + 1 by omega, List.getElem?_range]
      split <;> split <;> first | rfl | omega
theorem tabA_one (k : Nat) : (tabA k).all (·.oneCell') = true := by
  rw [Array.all_eq_true_iff_forall_mem]
  intro v hv
  simp only [tabA, List.mem_toArray, List.mem_map] at hv
  obtain ⟨x, _, rfl⟩ := hv
  rfl
set_option maxHeartbeats 800000 in
set_option maxRecDepth 100000 in
theorem crc_table.calls (w : World) :
    Calls Try.prog 49 #[] w fun e w' => e = .returned (.agg (tabA 256)) ∧ Below w.heap.size w w' := by
  have hz := zs256_zero
  go_enter Try.func49, Try.ntmps49
  go_wp2
  go_loopw [4] (fun i wr => ∃ k : Nat, k ≤ 256 ∧ i = .int .i64 k ∧ wr = (w.alloc (.cells zs256 71)).alloc (.cells (tabA k) 71)) (fun i _ => 256 - (intOf i).toNat)
  case atStart => exact ⟨0, by omega, rfl, by rw [tabA_zero]⟩
  case round =>
    obtain ⟨k, hk, rfl, rfl⟩ := hrel
    by_cases hlt : k < 256
    · have hck := tabA_at k hlt
      go_wp2
      go_loop [9, 3] (fun j c => ∃ n : Nat, n ≤ 8 ∧ j = .int .i64 n ∧ c = .int .u32 (iterI crcStep n k)) (fun j _ => 8 - (intOf j).toNat)
      case atStart => exact ⟨0, by omega, rfl, rfl⟩
      case round =>
        obtain ⟨n, hn, rfl, rfl⟩ := hrel
        by_cases hlt2 : n < 8
        · go_wp2
          go_round
          case rel => exact ⟨n + 1, by omega, by go_num, rfl⟩
          case measure => simp [intOf]; omega
        · obtain rfl : n = 8 := by omega
          go_wp2
          refine ⟨⟨k + 1, by omega, by go_num, ?_⟩, ?_⟩
          · exact congrArg _ (congrArg (fun c => Obj.cells c 71) (tabA_set k hlt))
          · simp [intOf]; omega
    · obtain rfl : k = 256 := by omega
      have hg1 : ((w.alloc (.cells zs256 71)).alloc (.cells (tabA 256) 71)).heap[w.heap.size + 1]? = some (.cells (tabA 256) 71 (0, 0)) := by have := heap_alloc_new (w.alloc (.cells zs256 71)) (.cells (tabA 256) 71); rwa [World.size_alloc] at this
      have hg2 : ((w.alloc (.cells zs256 71)).alloc (.cells (tabA 256) 71)).heap[w.heap.size]? = some (.cells zs256 71 (0, 0)) := by simp [World.alloc, -World.alloc_eq, Array.getElem?_push]
      have hi : (Try.prog.info? 71).map (·.size) = some (tabA 256).size := by rw [tabA_size 256 (Nat.le_refl _)]; kernel_rfl
      have ho : zs256.size = (tabA 256).size := by rw [tabA_size 256 (Nat.le_refl _)]; rfl
      have h1 : (tabA 256).all (·.oneCell') = true := by
        rw [Array.all_eq_true_iff_forall_mem]
        intro v hv
        simp only [tabA, List.mem_toArray, List.mem_map] at hv
        obtain ⟨x, _, rfl⟩ := hv
        rfl
      have HB := Aside0.mk (below_setRow (B := w.heap.size) (g := w.heap.size) (((Below.refl _ _).alloc (Nat.le_refl _) (.cells zs256 71)).alloc (by simp) (.cells (tabA 256) 71)) (Nat.le_refl _) (tabA 256))
      have HG := Aside0.mk (setRow_heap _ _ _ (tabA 256) _ _ hg2)
      generalize hW : (w.alloc (.cells zs256 71)).alloc (.cells (tabA 256) 71) = W at hg1 hg2 HB HG ⊢
      clear hW
      go_wp2_with (first | (refine wpList_load_row rfl 71 _ rfl (w.heap.size + 1) rfl 71 (tabA 256) (0, 0) _ hg1 Try.underlying71 rfl hi ?_) | (refine wpList_store_row rfl 71 _ _ rfl w.heap.size (tabA 256) rfl rfl 71 zs256 hg2 hi ho h1 ?_))
      exact bodyPost_ret (v := .agg (tabA 256)) (results_cell_row rfl _ _ w.heap.size 71 (tabA 256) (0, 0) _ rfl HG.out Try.underlying71 rfl hi) rfl ⟨rfl, HB.out⟩

theorem xor8_range (a b : Int) (h0 : 0 ≤ a) (h1 : a < 256) (h2 : 0 ≤ b) (h3 : b < 256) : 0 ≤ Go.bits .xor .u8 a b ∧ Go.bits .xor .u8 a b < 256 := by
  rw [u8_xor a b h0 h1 h2 h3]
  have := Nat.xor_lt_two_pow (n := 8) (x := a.toNat) (y := b.toNat) (by omega) (by omega)
  omega
def crcNext (c : Int) (x : Int) : Int := Go.bits .xor .u32 (crcOf (Go.bits .xor .u8 (c % 256) x).toNat) (c / 256)
def moreL (l : List UInt8) (c : Int) : Int := l.foldl (fun c b => crcNext c (b.toNat : Int)) c
theorem below_bytesWorld {B : Nat} {w0 w : World} (h : Below B w0 w) (hB : B ≤ w.heap.size) (e : TypeId) (s : ByteArray) : Below B w0 (Lib.bytesWorld w e s) :=
  h.trans ⟨rfl, rfl, rfl, by rw [Lib.bytesWorld_size]; omega, fun k hk => Lib.bytesWorld_at_old w e s k (by omega)⟩
theorem moreL_take (b : ByteArray) (k : Nat) (h : k < b.size) (c : Int) : moreL (b.data.toList.take (k + 1)) c = crcNext (moreL (b.data.toList.take k) c) ((b.data.toList.getD k 0).toNat : Int) := by
  have hl : k < b.data.toList.length := by rw [← Lib.size_eq]; exact h
  rw [List.take_succ_eq_append_getElem hl, moreL, List.foldl_append, List.getD_eq_getElem?_getD, List.getElem?_eq_getElem hl]
  rfl
set_option maxHeartbeats 800000 in
set_option maxRecDepth 100000 in
theorem crc_More.calls0 (sum : Int) (b : ByteArray) (w : World) (hb : b.size ≤ 4611686018427387904) (r : Int) (hr : Go.bits .xor .u32 IntKind.u32.max (moreL b.data.toList (Go.bits .xor .u32 IntKind.u32.max sum)) = r) :
    Calls Try.prog 47 #[.int .u32 sum, .string b] w fun e w' => e = .returned (.int .u32 r) ∧ Below w.heap.size w w' := by
  have hz := zs256_zero
  have HR := Aside0.mk hr
  clear hr
  have hsg : IntKind.u32.signed = false := rfl
  go_enter Try.func47, Try.ntmps47
  go_wp2_with fail
  refine (crc_table.calls _).mono ?_
  rintro e w1 ⟨rfl, hb1⟩
  have hi : (Try.prog.info? 71).map (·.size) = some (tabA 256).size := by rw [tabA_size 256 (Nat.le_refl _)]; kernel_rfl
  have ho : zs256.size = (tabA 256).size := by rw [tabA_size 256 (Nat.le_refl _)]; rfl
  have h1 := tabA_one 256
  have hcv := fun W => Lib.run_convert_string_bytes (P := Try.prog) W 9 52 5 b Try.underlying9 Try.underlying52 Try.underlying5
  go_wp2_with (refine wpList_store_row rfl 71 _ _ rfl w1.heap.size (tabA 256) rfl rfl 71 zs256 (heap_alloc_new _ _) hi ho h1 ?_; rw [World.setRow_alloc_new]; clear hi ho h1)
  have hT : ∀ j : Nat, j < 256 → (Lib.bytesWorld (w1.alloc (.cells (tabA 256) 71)) 5 b).cell? ⟨w1.heap.size, j, none⟩ = some (.int .u32 (crcOf j)) := by
    intro j hj
    rw [Lib.bytesWorld_old _ _ _ _ (by simp), World.cell?, heap_alloc_new]
    simp [tabA, tabL, List.getElem?_append, hj]
  have hS : ∀ j : Nat, j < b.size → (Lib.bytesWorld (w1.alloc (.cells (tabA 256) 71)) 5 b).cell? ⟨w1.heap.size + 1, j, none⟩ = some (.int .u8 ((b.data.toList.getD j 0).toNat : Int)) := by
    intro j hj
    have := Lib.bytesWorld_cell (w1.alloc (.cells (tabA 256) 71)) 5 b j hj
    rwa [World.size_alloc] at this
  have HB := Aside0.mk (below_bytesWorld (hb1.alloc hb1.size (.cells (tabA 256) 71)) (by have := hb1.size; simp; omega) 5 b)
  generalize Lib.bytesWorld (w1.alloc (.cells (tabA 256) 71)) 5 b = W at hT hS HB ⊢
  generalize grownCap (w1.alloc (.cells (tabA 256) 71)) b.size 0 5 = cap
  have HT := Aside0.mk hT
  have HS := Aside0.mk hS
  clear hT hS hcv hz hb1
  go_loop [15, 6] (fun i c => ∃ k : Nat, k ≤ b.size ∧ i = .int .i64 k ∧ c = .int .u32 (moreL (b.data.toList.take k) (Go.bits .xor .u32 IntKind.u32.max sum))) (fun i _ => b.size - (intOf i).toNat)
  case atStart => exact ⟨0, by omega, rfl, rfl⟩
  case round =>
    obtain ⟨k, hk, rfl, rfl⟩ := hrel
    generalize hc : moreL (b.data.toList.take k) (Go.bits .xor .u32 IntKind.u32.max sum) = c
    have HC := Aside0.mk hc
    clear hc
    by_cases hlt : k < b.size
    · have hx := HS.out k hlt
      generalize hg : (((b.data.toList.getD k 0).toNat : Nat) : Int) = x at hx
      have HG := Aside0.mk hg
      have x0 : 0 ≤ x := by omega
      have x1 : x < 256 := by have := (b.data.toList.getD k 0).toNat_lt; omega
      clear hg
      have hi := xor8_range (c % 256) x (by omega) (by omega) x0 x1
      obtain ⟨i0, i1⟩ := hi
      have ht := HT.out (Go.bits .xor .u8 (c % 256) x).toNat (by omega)
      go_wp2
      go_round
      case rel => exact ⟨k + 1, by omega, by go_num, by rw [moreL_take b k hlt, HC.out, HG.out]; rfl⟩
      case measure => simp [intOf]; omega
    · go_wp2
      go_ret
      exact ⟨by rw [← HR.out, ← HC.out, List.take_of_length_le (by rw [← Lib.size_eq]; omega)]; rfl, HB.out⟩
/-- More, in words: the check is turned round, goes on byte by byte, and is turned round again. -/
def crc_More.f (a0 : Int) (a1 : ByteArray) : Option Int := if a1.size ≤ 4611686018427387904 then some (Go.bits .xor .u32 IntKind.u32.max (moreL a1.data.toList (Go.bits .xor .u32 IntKind.u32.max a0))) else none
theorem crc_More.calls (a0 : Int) (a1 : ByteArray) (r : Int) (w : World) (h : crc_More.f a0 a1 = some r) :
    Calls Try.prog 47 #[.int .u32 a0, .string a1] w fun e w' => e = .returned (.int .u32 r) ∧ Below w.heap.size w w' := by
  unfold crc_More.f at h
  by_cases hz : a1.size ≤ 4611686018427387904
  case neg => rw [if_neg hz] at h; exact absurd h (by simp)
  rw [if_pos hz] at h
  exact crc_More.calls0 a0 a1 w hz r (Option.some.inj h)

/-! ### crc_Sum: function 45 -/
def crc_Sum.f (a0 : ByteArray) : Option (Int) := (crc_More.f 0 a0).bind fun t267 => (some t267)
set_option maxHeartbeats 8000000 in
set_option maxRecDepth 100000 in
theorem crc_Sum.calls (a0 : ByteArray) (r : Int) (w : World) (h : crc_Sum.f a0 = some r) :
    Calls Try.prog 45 #[.string a0] w fun e w' => e = .returned (.int .u32 r) ∧ Below w.heap.size w w' := by
  have HB := Aside0.mk (Below.refl w.heap.size w)
  have H : ((crc_More.f 0 a0).bind fun t267 => (some t267)) = some r := h
  clear h
  replace H := Option.bind_eq_some_iff.mp H
  obtain ⟨t267, A20, H⟩ := H
  replace H : (some t267) = some r := H
  have A2 := Aside0.mk A20
  clear A20
  obtain rfl := Option.some.inj H
  go_enter Try.func45, Try.ntmps45
  go_wp2_with (first | ((with_reducible refine gate_callee (f := 47) rfl ?_); refine goesL_ (some 4) rfl rfl Try.func47 (by kernel_rfl) rfl #[.int .u32 0, .string a0] rfl (by (try simp only [List.map_toArray, List.map_cons, List.map_nil]); first | done | rfl | (simp only [List.length_drop, List.length_take]; rfl)) ?_; (with_reducible refine (crc_More.calls 0 a0 t267 _ A2.out).mono ?_); rintro e w3 ⟨rfl, hb⟩; refine ⟨_, rfl, ?_⟩; have n0_ := Aside0.mk (below_step (by repeat (first | (with_reducible first | exact HB.out | apply below_alloc | apply pw_below_drewN | apply below_drew1) | exact HB.out)) hb); clear HB; have HB := n0_; clear n0_; (try clear hb); (try clear hb2); (try clear hk); (try clear hi)))
  go_ret
  exact ⟨by first | rfl | (simp [errW_none, errW_some] <;> rfl) | (simp [*, errW_none, errW_some] <;> rfl) | (simp [errW_none, errW_some]; exact isEmpty_bne _), by repeat (first | (with_reducible first | exact HB.out | apply below_alloc | apply pw_below_drewN | apply below_drew1) | exact HB.out)⟩

/-! ### crc_Seal: function 41 -/
def seal4 (n : Int) : List Int := [n % 256, n / 256 % 256, n / 65536 % 256, n / 16777216 % 256]
def crc_Seal.f (a0 : ByteArray) : Option ByteArray := (crc_Sum.f a0).bind fun n => if a0.size ≤ 4611686018427387904 then some (strOfNums (seal4 n) ++ a0) else none
set_option maxHeartbeats 800000 in
theorem crc_Seal.calls (a0 : ByteArray) (r : ByteArray) (w : World) (h : crc_Seal.f a0 = some r) :
    Calls Try.prog 41 #[.string a0] w fun e w' => e = .returned (.string r) ∧ Below w.heap.size w w' := by
  obtain ⟨n, h1, h2⟩ := Option.bind_eq_some_iff.mp h
  clear h
  by_cases hz : a0.size ≤ 4611686018427387904
  case neg => rw [if_neg hz] at h2; exact absurd h2 (by simp)
  rw [if_pos hz] at h2
  have HR := Aside0.mk (Option.some.inj h2)
  have H1 := Aside0.mk h1
  have hs : (strOfNums (seal4 n)).size = 4 := by simp [strOfNums, seal4, ByteArray.size]
  have hd : decide ((strOfNums (seal4 n)).size + a0.size ≤ 9223372036854775807) = true := by rw [hs]; simp; omega
  have hs4 : (strOfNums (seal4 n)).size ≤ 4 := by omega
  clear h1 h2 hs
  go_enter Try.func41, Try.ntmps41
  go_wp2_with fail
  refine (crc_Sum.calls a0 n _ H1.out).mono ?_
  rintro e w1 ⟨rfl, hb⟩
  go_wp2
  go_loopw [8] (fun i wr => (i = .int .i64 0 ∧ wr = w1.alloc (.cells #[.int .u8 0, .int .u8 0, .int .u8 0, .int .u8 0] 69)) ∨ (i = .int .i64 1 ∧ wr = w1.alloc (.cells #[.int .u8 (n % 256), .int .u8 0, .int .u8 0, .int .u8 0] 69))
    ∨ (i = .int .i64 2 ∧ wr = w1.alloc (.cells #[.int .u8 (n % 256), .int .u8 (n / 256 % 256), .int .u8 0, .int .u8 0] 69)) ∨ (i = .int .i64 3 ∧ wr = w1.alloc (.cells #[.int .u8 (n % 256), .int .u8 (n / 256 % 256), .int .u8 (n / 65536 % 256), .int .u8 0] 69))
    ∨ (i = .int .i64 4 ∧ wr = w1.alloc (.cells #[.int .u8 (n % 256), .int .u8 (n / 256 % 256), .int .u8 (n / 65536 % 256), .int .u8 (n / 16777216 % 256)] 69))) (fun i _ => 4 - (intOf i).toNat)
  case atStart => exact .inl ⟨rfl, rfl⟩
  case round =>
    rcases hrel with ⟨rfl, rfl⟩ | ⟨rfl, rfl⟩ | ⟨rfl, rfl⟩ | ⟨rfl, rfl⟩ | ⟨rfl, rfl⟩
    · go_wp2
      exact ⟨.inr (.inl ⟨rfl, by first | rfl | trivial⟩), by simp [intOf]⟩
    · go_wp2
      exact ⟨.inr (.inr (.inl ⟨rfl, by first | rfl | trivial⟩)), by simp [intOf]⟩
    · go_wp2
      exact ⟨.inr (.inr (.inr (.inl ⟨rfl, by first | rfl | trivial⟩))), by simp [intOf]⟩
    · go_wp2
      exact ⟨.inr (.inr (.inr (.inr ⟨rfl, by first | rfl | trivial⟩))), by simp [intOf]⟩
    · have hcv := run_convert_bytes_arg (P := Try.prog) (w1.alloc (.cells #[.int .u8 (n % 256), .int .u8 (n / 256 % 256), .int .u8 (n / 65536 % 256), .int .u8 (n / 16777216 % 256)] 69)) 52 5 Try.underlying52 Try.underlying5 w1.heap.size 0 4 4 (seal4 n) rfl
        (fun i hi => by
          rw [World.cell?, heap_alloc_new]
          match i, hi with
          | 0, _ => rfl
          | 1, _ => rfl
          | 2, _ => rfl
          | 3, _ => rfl) 9 Try.underlying9
      go_wp2
      go_ret
      exact ⟨by rw [HR.out]; rfl, hb.alloc hb.size _⟩

end Go.Proofs.Ytnhmhdconmollaa.Print
