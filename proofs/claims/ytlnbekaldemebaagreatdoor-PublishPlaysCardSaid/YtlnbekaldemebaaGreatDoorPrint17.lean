/- Written by a program of mine (give.py, over the kit's print) out of the translation: contracts of the Go functions. Lean checks it. -/
import Derived.Test.YtlnbekaldemebaaGreatDoorPrint0
import Derived.Test.YtlnbekaldemebaaGreatDoorPrint1
import Derived.Test.YtlnbekaldemebaaGreatDoorPrint13
namespace Go.Proofs.YtlnbekaldemebaaGreatDoor.Print
open Go.RowKit Go.Proofs.YtlnbekaldemebaaGreatDoorW.PrintWords Go.Proofs.YtlnbekaldemebaaGreatDoorW.PrintLast Go.Proofs.YtlnbekaldemebaaGreatDoorW.PrintMore
attribute [local go_sem] max2_int min2_int max_two min_two max_three min_three max_four min_four   -- for this text's walks alone
set_option linter.unusedVariables false
set_option linter.unusedSimpArgs false

attribute [local go_sem high] eqA65
/-! ### thwartref12_Same: function 19 -/
mutual
def thwartref12_Same.j0 : Nat → Bool → Int → List (S65) → Int → List (S65) → Option (Bool)
 | 0,_,_,_,_,_ => none
 | k + 1,x19,x418000,x418001,x419000,x419001 => if x19 = true then (some false) else (thwartref12_Same.l0 k 0 x418000 x418001 x419000 x419001)
def thwartref12_Same.l0 : Nat → Int → Int → List (S65) → Int → List (S65) → Option (Bool)
 | 0,_,_,_,_,_ => none
 | k + 1,x5,x418000,x418001,x419000,x419001 => if x5 < (x418001.length : Int) then (if 0 ≤ x5 then (if x5 < (x419001.length : Int) then (if (!(((rd_T65 x418001 x5).f0) == ((rd_T65 x419001 x5).f0)) || (!(((rd_T65 x418001 x5).f1) == ((rd_T65 x419001 x5).f1)) || (!(((rd_T65 x418001 x5).f2) == ((rd_T65 x419001 x5).f2))))) = true then (some false) else (thwartref12_Same.l0 k (wrap64 (x5 + 1)) x418000 x418001 x419000 x419001)) else (none)) else (none)) else (some true)
end
def thwartref12_Same.f (k : Nat) (a0_0 : Int) (l0_1 : List (S65)) (a1_0 : Int) (l1_1 : List (S65)) : Option (Bool):=if a0_0 = a1_0 then (thwartref12_Same.j0 k ((l0_1.length : Int) != (l1_1.length : Int)) a0_0 l0_1 a1_0 l1_1) else (thwartref12_Same.j0 k true a0_0 l0_1 a1_0 l1_1)
theorem thwartref12_Same.mono_l : ∀ k,(∀ y0 y1 y2 y3 y4,LeO (thwartref12_Same.j0 k y0 y1 y2 y3 y4) (thwartref12_Same.j0 (k + 1) y0 y1 y2 y3 y4)) ∧ (∀ y0 y1 y2 y3 y4,LeO (thwartref12_Same.l0 k y0 y1 y2 y3 y4) (thwartref12_Same.l0 (k + 1) y0 y1 y2 y3 y4))
 | 0 => ⟨fun _ _ _ _ _ r h => by simp [thwartref12_Same.j0] at h,fun _ _ _ _ _ r h => by simp [thwartref12_Same.l0] at h⟩
 | k + 1 => by
  obtain ⟨ih0,ih1⟩:=thwartref12_Same.mono_l k
  refine ⟨?_,?_⟩
  ·intro y0 y1 y2 y3 y4
   unfold thwartref12_Same.j0
   repeat' first
   | (with_reducible exact ih0 _ _ _ _ _)
   | (with_reducible exact ih1 _ _ _ _ _)
   | (with_reducible exact LeO.refl _)
   | (with_reducible exact LeO.none _)
   | (with_reducible refine LeO.ite ?_ ?_)
   | (with_reducible refine LeO.bind ?_ (fun _ => ?_))
   | exact ih0 _ _ _ _ _
   | exact ih1 _ _ _ _ _
   | exact LeO.none _
   | refine LeO.ite ?_ ?_
   | refine LeO.bind ?_ (fun _ => ?_)
  ·intro y0 y1 y2 y3 y4
   unfold thwartref12_Same.l0
   repeat' first
   | (with_reducible exact ih0 _ _ _ _ _)
   | (with_reducible exact ih1 _ _ _ _ _)
   | (with_reducible exact LeO.refl _)
   | (with_reducible exact LeO.none _)
   | (with_reducible refine LeO.ite ?_ ?_)
   | (with_reducible refine LeO.bind ?_ (fun _ => ?_))
   | exact ih0 _ _ _ _ _
   | exact ih1 _ _ _ _ _
   | exact LeO.none _
   | refine LeO.ite ?_ ?_
   | refine LeO.bind ?_ (fun _ => ?_)
theorem thwartref12_Same.mono : ∀ a0 a1 a2 a3 k,LeO (thwartref12_Same.f k a0 a1 a2 a3) (thwartref12_Same.f (k + 1) a0 a1 a2 a3):=by
 intro a0 a1 a2 a3 k
 obtain ⟨ih0,ih1⟩:=thwartref12_Same.mono_l k
 unfold thwartref12_Same.f
 repeat' first
   | (with_reducible exact ih0 _ _ _ _ _)
   | (with_reducible exact ih1 _ _ _ _ _)
   | (with_reducible exact LeO.refl _)
   | (with_reducible exact LeO.none _)
   | (with_reducible refine LeO.ite ?_ ?_)
   | (with_reducible refine LeO.bind ?_ (fun _ => ?_))
   | exact ih0 _ _ _ _ _
   | exact ih1 _ _ _ _ _
   | exact LeO.none _
   | refine LeO.ite ?_ ?_
   | refine LeO.bind ?_ (fun _ => ?_)
set_option maxHeartbeats 8000000 in
set_option maxRecDepth 100000 in
theorem thwartref12_Same.calls (k : Nat) (a0_0 : Int) (A0_1 : Option Addr) (c0_1 : Nat) (l0_1 : List (S65)) (a1_0 : Int) (A1_1 : Option Addr) (c1_1 : Nat) (l1_1 : List (S65)) (r : Bool) (w : World) (hr0_1 : Kd.C k65 w A0_1 l0_1.length l0_1) (hc0_1 : l0_1.length ≤ c0_1) (hr1_1 : Kd.C k65 w A1_1 l1_1.length l1_1) (hc1_1 : l1_1.length ≤ c1_1) (h : thwartref12_Same.f k a0_0 l0_1 a1_0 l1_1 = some r) :
  Calls Tryz.prog 19 #[.agg #[.int .i64 a0_0,.slice A0_1 l0_1.length c0_1],.agg #[.int .i64 a1_0,.slice A1_1 l1_1.length c1_1]] w fun e w' => e = .returned (.bool r) ∧ Below w.heap.size w w' := by
 have hu32:=Tryz.underlying32
 have hu65:=Tryz.underlying65
 have HR0_1:=Aside0.mk hr0_1
 have HC0_1:=Aside0.mk hc0_1
 clear hr0_1 hc0_1
 have HR1_1:=Aside0.mk hr1_1
 have HC1_1:=Aside0.mk hc1_1
 clear hr1_1 hc1_1
 have HB:=Aside0.mk (Below.refl w.heap.size w)
 have H : (if a0_0 = a1_0 then (thwartref12_Same.j0 k ((l0_1.length : Int) != (l1_1.length : Int)) a0_0 l0_1 a1_0 l1_1) else (thwartref12_Same.j0 k true a0_0 l0_1 a1_0 l1_1)) = some r:=h
 clear h
 have HC3:=Aside0.mk H
 clear H
 go_enter Tryz.func19,Tryz.ntmps19
 go_upto_region 1 with (first | ((with_reducible refine gate_dst (N:=2) rfl ?_);(try (refine gate_guard (by rfl) ?_;dsimp only));refine box_event ?hg (N:=2) ?hd (cs := #[.int .i64 a0_0,.slice A0_1 l0_1.length c0_1]) (t:=32) ?hr ?_;(case hd => rfl);(case hg => rfl);(case hr => first | (go_simp;done) | (go_simp;rfl));intro gb417 hg w4 hbox hb;have n0_:=Aside0.mk (below_step (by repeat (first | (with_reducible first | exact HB.out | apply below_alloc | apply pw_below_drewN | apply below_drew1) | exact HB.out)) hb);have n1_:=Aside0.mk (hbox);have n2_:=Aside0.mk ((by rw [hg];exact (below_size (by repeat (first | (with_reducible first | exact HB.out | apply below_alloc | apply pw_below_drewN | apply below_drew1) | exact HB.out))) : w.heap.size ≤ gb417));have n3_:=Aside0.mk ((by rw [hg];exact (below_size (by repeat (first | (with_reducible first | exact HB.out | apply below_alloc | apply pw_below_drewN | apply below_drew1) | exact HB.out))) : w.heap.size ≤ gb417));clear HB;have HB:=n0_;have BK417:=n1_;have GW417:=n2_;have GE417:=n3_;clear n0_ n1_ n2_ n3_;clear hb hbox hg) | ((with_reducible refine gate_dst (N:=3) rfl ?_);(try (refine gate_guard (by rfl) ?_;dsimp only));refine box_event ?hg (N:=3) ?hd (cs := #[.int .i64 a1_0,.slice A1_1 l1_1.length c1_1]) (t:=32) ?hr ?_;(case hd => rfl);(case hg => rfl);(case hr => first | (go_simp;done) | (go_simp;rfl));intro gb418 hg w5 hbox hb;have n0_:=Aside0.mk (blk_below (g:=gb417) (o := .cells #[.int .i64 a0_0,.slice A0_1 l0_1.length c0_1] 32 (0,0)) (by (with_reducible repeat (first | refine blk_drewN ?_ _ | refine blk_drew ?_ | refine blk_alloc ?_ _));exact BK417.out) hb);have n1_:=Aside0.mk (below_step (by repeat (first | (with_reducible first | exact HB.out | apply below_alloc | apply pw_below_drewN | apply below_drew1 | refine below_set ?_ GE417.out) | exact HB.out)) hb);have n2_:=Aside0.mk (hbox);have n3_:=Aside0.mk ((by rw [hg];exact (below_size (by repeat (first | (with_reducible first | exact HB.out | apply below_alloc | apply pw_below_drewN | apply below_drew1 | refine below_set ?_ GE417.out) | exact HB.out))) : w.heap.size ≤ gb418));have n4_:=Aside0.mk ((by rw [hg];exact (below_size (by repeat (first | (with_reducible first | exact HB.out | apply below_alloc | apply pw_below_drewN | apply below_drew1 | refine below_set ?_ GE417.out) | exact HB.out))) : w.heap.size ≤ gb418));have n5_:=Aside0.mk ((by rw [hg];exact Nat.ne_of_lt (blk_lt (g:=gb417) (o := .cells #[.int .i64 a0_0,.slice A0_1 l0_1.length c0_1] 32 (0,0)) (by (with_reducible repeat (first | refine blk_drewN ?_ _ | refine blk_drew ?_ | refine blk_alloc ?_ _));exact BK417.out)) : gb417 ≠ gb418));have n6_:=Aside0.mk ((by rw [hg];exact Nat.ne_of_gt (blk_lt (g:=gb417) (o := .cells #[.int .i64 a0_0,.slice A0_1 l0_1.length c0_1] 32 (0,0)) (by (with_reducible repeat (first | refine blk_drewN ?_ _ | refine blk_drew ?_ | refine blk_alloc ?_ _));exact BK417.out)) : gb418 ≠ gb417));clear BK417;clear HB;have BK417:=n0_;have HB:=n1_;have BK418:=n2_;have GW418:=n3_;have GE418:=n4_;have NB417_418:=n5_;have NB418_417:=n6_;clear n0_ n1_ n2_ n3_ n4_ n5_ n6_;clear hb hbox hg))
 repeat (go_quiet (first | ((with_reducible refine gate_dst (N:=2) rfl ?_);(try (refine gate_guard (by rfl) ?_;dsimp only));refine box_event ?hg (N:=2) ?hd (cs := #[.int .i64 a0_0,.slice A0_1 l0_1.length c0_1]) (t:=32) ?hr ?_;(case hd => rfl);(case hg => rfl);(case hr => first | (go_simp;done) | (go_simp;rfl));intro gb417 hg w4 hbox hb;have n0_:=Aside0.mk (below_step (by repeat (first | (with_reducible first | exact HB.out | apply below_alloc | apply pw_below_drewN | apply below_drew1) | exact HB.out)) hb);have n1_:=Aside0.mk (hbox);have n2_:=Aside0.mk ((by rw [hg];exact (below_size (by repeat (first | (with_reducible first | exact HB.out | apply below_alloc | apply pw_below_drewN | apply below_drew1) | exact HB.out))) : w.heap.size ≤ gb417));have n3_:=Aside0.mk ((by rw [hg];exact (below_size (by repeat (first | (with_reducible first | exact HB.out | apply below_alloc | apply pw_below_drewN | apply below_drew1) | exact HB.out))) : w.heap.size ≤ gb417));clear HB;have HB:=n0_;have BK417:=n1_;have GW417:=n2_;have GE417:=n3_;clear n0_ n1_ n2_ n3_;clear hb hbox hg) | ((with_reducible refine gate_dst (N:=3) rfl ?_);(try (refine gate_guard (by rfl) ?_;dsimp only));refine box_event ?hg (N:=3) ?hd (cs := #[.int .i64 a1_0,.slice A1_1 l1_1.length c1_1]) (t:=32) ?hr ?_;(case hd => rfl);(case hg => rfl);(case hr => first | (go_simp;done) | (go_simp;rfl));intro gb418 hg w5 hbox hb;have n0_:=Aside0.mk (blk_below (g:=gb417) (o := .cells #[.int .i64 a0_0,.slice A0_1 l0_1.length c0_1] 32 (0,0)) (by (with_reducible repeat (first | refine blk_drewN ?_ _ | refine blk_drew ?_ | refine blk_alloc ?_ _));exact BK417.out) hb);have n1_:=Aside0.mk (below_step (by repeat (first | (with_reducible first | exact HB.out | apply below_alloc | apply pw_below_drewN | apply below_drew1 | refine below_set ?_ GE417.out) | exact HB.out)) hb);have n2_:=Aside0.mk (hbox);have n3_:=Aside0.mk ((by rw [hg];exact (below_size (by repeat (first | (with_reducible first | exact HB.out | apply below_alloc | apply pw_below_drewN | apply below_drew1 | refine below_set ?_ GE417.out) | exact HB.out))) : w.heap.size ≤ gb418));have n4_:=Aside0.mk ((by rw [hg];exact (below_size (by repeat (first | (with_reducible first | exact HB.out | apply below_alloc | apply pw_below_drewN | apply below_drew1 | refine below_set ?_ GE417.out) | exact HB.out))) : w.heap.size ≤ gb418));have n5_:=Aside0.mk ((by rw [hg];exact Nat.ne_of_lt (blk_lt (g:=gb417) (o := .cells #[.int .i64 a0_0,.slice A0_1 l0_1.length c0_1] 32 (0,0)) (by (with_reducible repeat (first | refine blk_drewN ?_ _ | refine blk_drew ?_ | refine blk_alloc ?_ _));exact BK417.out)) : gb417 ≠ gb418));have n6_:=Aside0.mk ((by rw [hg];exact Nat.ne_of_gt (blk_lt (g:=gb417) (o := .cells #[.int .i64 a0_0,.slice A0_1 l0_1.length c0_1] 32 (0,0)) (by (with_reducible repeat (first | refine blk_drewN ?_ _ | refine blk_drew ?_ | refine blk_alloc ?_ _));exact BK417.out)) : gb418 ≠ gb417));clear BK417;clear HB;have BK417:=n0_;have HB:=n1_;have BK418:=n2_;have GW418:=n3_;have GE418:=n4_;have NB417_418:=n5_;have NB418_417:=n6_;clear n0_ n1_ n2_ n3_ n4_ n5_ n6_;clear hb hbox hg));go_upto_region 1 with (first | ((with_reducible refine gate_dst (N:=2) rfl ?_);(try (refine gate_guard (by rfl) ?_;dsimp only));refine box_event ?hg (N:=2) ?hd (cs := #[.int .i64 a0_0,.slice A0_1 l0_1.length c0_1]) (t:=32) ?hr ?_;(case hd => rfl);(case hg => rfl);(case hr => first | (go_simp;done) | (go_simp;rfl));intro gb417 hg w4 hbox hb;have n0_:=Aside0.mk (below_step (by repeat (first | (with_reducible first | exact HB.out | apply below_alloc | apply pw_below_drewN | apply below_drew1) | exact HB.out)) hb);have n1_:=Aside0.mk (hbox);have n2_:=Aside0.mk ((by rw [hg];exact (below_size (by repeat (first | (with_reducible first | exact HB.out | apply below_alloc | apply pw_below_drewN | apply below_drew1) | exact HB.out))) : w.heap.size ≤ gb417));have n3_:=Aside0.mk ((by rw [hg];exact (below_size (by repeat (first | (with_reducible first | exact HB.out | apply below_alloc | apply pw_below_drewN | apply below_drew1) | exact HB.out))) : w.heap.size ≤ gb417));clear HB;have HB:=n0_;have BK417:=n1_;have GW417:=n2_;have GE417:=n3_;clear n0_ n1_ n2_ n3_;clear hb hbox hg) | ((with_reducible refine gate_dst (N:=3) rfl ?_);(try (refine gate_guard (by rfl) ?_;dsimp only));refine box_event ?hg (N:=3) ?hd (cs := #[.int .i64 a1_0,.slice A1_1 l1_1.length c1_1]) (t:=32) ?hr ?_;(case hd => rfl);(case hg => rfl);(case hr => first | (go_simp;done) | (go_simp;rfl));intro gb418 hg w5 hbox hb;have n0_:=Aside0.mk (blk_below (g:=gb417) (o := .cells #[.int .i64 a0_0,.slice A0_1 l0_1.length c0_1] 32 (0,0)) (by (with_reducible repeat (first | refine blk_drewN ?_ _ | refine blk_drew ?_ | refine blk_alloc ?_ _));exact BK417.out) hb);have n1_:=Aside0.mk (below_step (by repeat (first | (with_reducible first | exact HB.out | apply below_alloc | apply pw_below_drewN | apply below_drew1 | refine below_set ?_ GE417.out) | exact HB.out)) hb);have n2_:=Aside0.mk (hbox);have n3_:=Aside0.mk ((by rw [hg];exact (below_size (by repeat (first | (with_reducible first | exact HB.out | apply below_alloc | apply pw_below_drewN | apply below_drew1 | refine below_set ?_ GE417.out) | exact HB.out))) : w.heap.size ≤ gb418));have n4_:=Aside0.mk ((by rw [hg];exact (below_size (by repeat (first | (with_reducible first | exact HB.out | apply below_alloc | apply pw_below_drewN | apply below_drew1 | refine below_set ?_ GE417.out) | exact HB.out))) : w.heap.size ≤ gb418));have n5_:=Aside0.mk ((by rw [hg];exact Nat.ne_of_lt (blk_lt (g:=gb417) (o := .cells #[.int .i64 a0_0,.slice A0_1 l0_1.length c0_1] 32 (0,0)) (by (with_reducible repeat (first | refine blk_drewN ?_ _ | refine blk_drew ?_ | refine blk_alloc ?_ _));exact BK417.out)) : gb417 ≠ gb418));have n6_:=Aside0.mk ((by rw [hg];exact Nat.ne_of_gt (blk_lt (g:=gb417) (o := .cells #[.int .i64 a0_0,.slice A0_1 l0_1.length c0_1] 32 (0,0)) (by (with_reducible repeat (first | refine blk_drewN ?_ _ | refine blk_drew ?_ | refine blk_alloc ?_ _));exact BK417.out)) : gb418 ≠ gb417));clear BK417;clear HB;have BK417:=n0_;have HB:=n1_;have BK418:=n2_;have GW418:=n3_;have GE418:=n4_;have NB417_418:=n5_;have NB418_417:=n6_;clear n0_ n1_ n2_ n3_ n4_ n5_ n6_;clear hb hbox hg)))
 (try simp only [Act.put,List.setIfInBounds_toArray,List.set_cons_zero,List.set_cons_succ])
 go_cut [19] (fun v19 wc => ∃ (kq : Nat) (x19_2 : Bool),v19 = .bool x19_2 ∧ Aside0 (thwartref12_Same.j0 kq x19_2 a0_0 l0_1 a1_0 l1_1 = some r) ∧ Aside0 (kq ≤ k) ∧ Aside0 (wc.heap[gb417]? = some (.cells #[.int .i64 a0_0,(.slice A0_1 l0_1.length c0_1)] 32 (0,0))) ∧ Aside0 (wc.heap[gb418]? = some (.cells #[.int .i64 a1_0,(.slice A1_1 l1_1.length c1_1)] 32 (0,0))) ∧ Aside0 (Below w.heap.size w wc))
 case first =>
  have H:=HC3.out
  clear HC3
  by_cases c6 : a0_0 = a1_0
  ·rw [if_pos c6] at H
   have c6b0 : (a0_0 == a1_0) = true:=beq_iff_eq.mpr c6
   have c6b1 : (a0_0 != a1_0) = false:=bne_eq_false_iff_eq.mpr c6
   clear c6
   (first | rw [c6b0] | (simp only [i64_w,i32_w];rw [c6b0]) | skip)
   have H' := Aside0.mk H
   clear H
   have hnb7:=NB417_418.out
   have hnc7:=NB418_417.out
   have hcz8_0 : w5.cell? ⟨gb417,0,none⟩ = some (.int .i64 a0_0):=(blk_cell BK417.out 0).trans rfl
   have hcz8_1 : w5.cell? ⟨gb417,1,none⟩ = some (.slice A0_1 l0_1.length c0_1):=(blk_cell BK417.out 1).trans rfl
   have hfz8_0:=blk_frozen BK417.out 0
   have hfz8_1:=blk_frozen BK417.out 1
   have hcz9_0 : w5.cell? ⟨gb418,0,none⟩ = some (.int .i64 a1_0):=(blk_cell BK418.out 0).trans rfl
   have hcz9_1 : w5.cell? ⟨gb418,1,none⟩ = some (.slice A1_1 l1_1.length c1_1):=(blk_cell BK418.out 1).trans rfl
   have hfz9_0:=blk_frozen BK418.out 0
   have hfz9_1:=blk_frozen BK418.out 1
   go_wp2
   repeat (go_quiet (fail);try go_wp2)
   go_meet
   case rel => exact ⟨_,(((l0_1.length : Int) != (l1_1.length : Int))),(by first | rfl | (simp;done) | (simp [*];done)),H',⟨by first | omega | exact Nat.le_refl _⟩,⟨by (with_reducible repeat (first | refine blk_drewN ?_ _ | refine blk_drew ?_ | refine blk_alloc ?_ _));exact BK417.out⟩,⟨by (with_reducible repeat (first | refine blk_drewN ?_ _ | refine blk_drew ?_ | refine blk_alloc ?_ _));exact BK418.out⟩,⟨by repeat (first | (with_reducible first | exact HB.out | apply below_alloc | apply pw_below_drewN | apply below_drew1 | refine below_set ?_ GE417.out | refine below_set ?_ GE418.out) | exact HB.out)⟩⟩
  ·rw [if_neg c6] at H
   have c6b0 : (a0_0 == a1_0) = false:=beq_eq_false_iff_ne.mpr c6
   have c6b1 : (a0_0 != a1_0) = true:=bne_iff_ne.mpr c6
   (first | rw [c6b0] | (simp only [i64_w,i32_w];rw [c6b0]) | skip)
   have H' := Aside0.mk H
   clear H
   have hnb10:=NB417_418.out
   have hnc10:=NB418_417.out
   have hcz11_0 : w5.cell? ⟨gb417,0,none⟩ = some (.int .i64 a0_0):=(blk_cell BK417.out 0).trans rfl
   have hcz11_1 : w5.cell? ⟨gb417,1,none⟩ = some (.slice A0_1 l0_1.length c0_1):=(blk_cell BK417.out 1).trans rfl
   have hfz11_0:=blk_frozen BK417.out 0
   have hfz11_1:=blk_frozen BK417.out 1
   have hcz12_0 : w5.cell? ⟨gb418,0,none⟩ = some (.int .i64 a1_0):=(blk_cell BK418.out 0).trans rfl
   have hcz12_1 : w5.cell? ⟨gb418,1,none⟩ = some (.slice A1_1 l1_1.length c1_1):=(blk_cell BK418.out 1).trans rfl
   have hfz12_0:=blk_frozen BK418.out 0
   have hfz12_1:=blk_frozen BK418.out 1
   go_wp2
   repeat (go_quiet (fail);try go_wp2)
   go_meet
   case rel => exact ⟨_,(true),(by first | rfl | (simp;done) | (simp [*];done)),H',⟨by first | omega | exact Nat.le_refl _⟩,⟨by (with_reducible repeat (first | refine blk_drewN ?_ _ | refine blk_drew ?_ | refine blk_alloc ?_ _));exact BK417.out⟩,⟨by (with_reducible repeat (first | refine blk_drewN ?_ _ | refine blk_drew ?_ | refine blk_alloc ?_ _));exact BK418.out⟩,⟨by repeat (first | (with_reducible first | exact HB.out | apply below_alloc | apply pw_below_drewN | apply below_drew1 | refine below_set ?_ GE417.out | refine below_set ?_ GE418.out) | exact HB.out)⟩⟩
 case rest =>
  clear HC3
  try clear c1
  try clear p2
  try clear c6
  try clear c6b0
  try clear c6b1
  try clear c7
  try clear c10
  try clear hcz11_0
  try clear hcz11_1
  try clear hcz12_0
  try clear hcz12_1
  try clear hcz8_0
  try clear hcz8_1
  try clear hcz9_0
  try clear hcz9_1
  try clear hfz11_0
  try clear hfz11_1
  try clear hfz12_0
  try clear hfz12_1
  try clear hfz8_0
  try clear hfz8_1
  try clear hfz9_0
  try clear hfz9_1
  obtain ⟨kq,x19_2,rfl,HA,HJ2,BK417,BK418,HB⟩:=hcut
  cases kq with
  | zero => exact absurd HA.out (by simp [thwartref12_Same.j0])
  | succ kj2 =>
   have H:=HA.out
   clear HA
   simp only [thwartref12_Same.j0] at H
   by_cases c13 : x19_2 = true
   ·subst c13
    have H1 : (some false) = some r:=by rw [if_pos rfl] at H;exact H
    clear H
    have H:=H1
    clear H1
    obtain rfl:=Option.some.inj H
    go_wp2
    repeat (go_quiet (fail);try go_wp2)
    go_ret
    exact ⟨by first | rfl | (simp [errW_none,errW_some] <;> rfl) | (simp [*,errW_none,errW_some] <;> rfl) | (simp [errW_none,errW_some];exact isEmpty_bne _),by repeat (first | (with_reducible first | exact HB.out | apply below_alloc | apply pw_below_drewN | apply below_drew1 | refine below_set ?_ GE417.out | refine below_set ?_ GE418.out) | exact HB.out)⟩
   ·replace c13:=Bool.eq_false_iff.mpr c13
    subst c13
    have H1 : (thwartref12_Same.l0 kj2 0 a0_0 l0_1 a1_0 l1_1) = some r:=by rw [if_neg (show ¬ (false = true) by decide)] at H;exact H
    clear H
    have H:=H1
    clear H1
    have H' := Aside0.mk H
    clear H
    go_wp2
    repeat (go_quiet (fail);try go_wp2)
    go_loopg [5] kj2 (fun kq v5 w' => ∃ (x5_2 : Int),v5 = .int .i64 x5_2 ∧ Aside0 (thwartref12_Same.l0 kq x5_2 a0_0 l0_1 a1_0 l1_1 = some r) ∧ Aside0 (kq ≤ kj2) ∧ Aside0 (w'.heap[gb417]? = some (.cells #[.int .i64 a0_0,(.slice A0_1 l0_1.length c0_1)] 32 (0,0))) ∧ Aside0 (w'.heap[gb418]? = some (.cells #[.int .i64 a1_0,(.slice A1_1 l1_1.length c1_1)] 32 (0,0))) ∧ Aside0 (Below w.heap.size w w'))
    case atStart => exact ⟨(0),(by first | rfl | (simp;done) | (simp [*];done)),H',⟨Nat.le_refl _⟩,⟨by (with_reducible repeat (first | refine blk_drewN ?_ _ | refine blk_drew ?_ | refine blk_alloc ?_ _));exact BK417.out⟩,⟨by (with_reducible repeat (first | refine blk_drewN ?_ _ | refine blk_drew ?_ | refine blk_alloc ?_ _));exact BK418.out⟩,⟨by repeat (first | (with_reducible first | exact HB.out | apply below_alloc | apply pw_below_drewN | apply below_drew1 | refine below_set ?_ GE417.out | refine below_set ?_ GE418.out) | exact HB.out)⟩⟩
    case round =>
     clear H'
     try clear c1
     try clear p2
     try clear c6
     try clear c6b0
     try clear c6b1
     try clear c7
     try clear c10
     try clear c13
     try clear hcz11_0
     try clear hcz11_1
     try clear hcz12_0
     try clear hcz12_1
     try clear hcz8_0
     try clear hcz8_1
     try clear hcz9_0
     try clear hcz9_1
     try clear hfz11_0
     try clear hfz11_1
     try clear hfz12_0
     try clear hfz12_1
     try clear hfz8_0
     try clear hfz8_1
     try clear hfz9_0
     try clear hfz9_1
     try clear p2
     obtain ⟨x5_2,rfl,HA,HK2,BK417,BK418,HB⟩:=hrel
     cases gk with
     | zero => exact absurd HA.out (by simp [thwartref12_Same.l0])
     | succ k2 =>
      have H:=HA.out
      clear HA
      simp only [thwartref12_Same.l0] at H
      by_cases c14 : x5_2 < (l0_1.length : Int)
      ·rw [if_pos c14] at H
       have c14b0 : decide (x5_2 < (l0_1.length : Int)) = true:=decide_eq_true c14
       clear c14
       by_cases c15 : 0 ≤ x5_2
       ·rw [if_pos c15] at H
        have c15b0 : decide (0 ≤ x5_2) = true:=decide_eq_true c15
        clear c15
        by_cases c16 : x5_2 < (l1_1.length : Int)
        ·rw [if_pos c16] at H
         have c16b0 : decide (x5_2 < (l1_1.length : Int)) = true:=decide_eq_true c16
         clear c16
         by_cases c17 : (!(((rd_T65 l0_1 x5_2).f0) == ((rd_T65 l1_1 x5_2).f0)) || (!(((rd_T65 l0_1 x5_2).f1) == ((rd_T65 l1_1 x5_2).f1)) || (!(((rd_T65 l0_1 x5_2).f2) == ((rd_T65 l1_1 x5_2).f2))))) = true
         ·rw [if_pos c17] at H
          have c17b0 : (!(((rd_T65 l0_1 x5_2).f0) == ((rd_T65 l1_1 x5_2).f0)) || (!(((rd_T65 l0_1 x5_2).f1) == ((rd_T65 l1_1 x5_2).f1)) || (!(((rd_T65 l0_1 x5_2).f2) == ((rd_T65 l1_1 x5_2).f2))))) = true:=c17
          clear c17
          obtain rfl:=Option.some.inj H
          have hnb18:=NB417_418.out
          have hnc18:=NB418_417.out
          have hcz19_0 : wr.cell? ⟨gb417,0,none⟩ = some (.int .i64 a0_0):=(blk_cell BK417.out 0).trans rfl
          have hcz19_1 : wr.cell? ⟨gb417,1,none⟩ = some (.slice A0_1 l0_1.length c0_1):=(blk_cell BK417.out 1).trans rfl
          have hfz19_0:=blk_frozen BK417.out 0
          have hfz19_1:=blk_frozen BK417.out 1
          have p419 : 0 ≤ (x5_2 : Int):=of_decide_eq_true (by first | (with_reducible assumption) | assumption)
          have q419 : x5_2 < (l0_1.length : Int):=of_decide_eq_true (by first | (with_reducible assumption) | assumption)
          obtain ⟨ad419,e419,hx419_0,hx419_1,hx419_2⟩:=at_T65 HR0_1.out x5_2 p419 q419
          cases e419
          replace hx419_0:=(HB.out.cell (World.block_lt_of_cell? w _ hx419_0)).trans hx419_0
          replace hx419_1:=(HB.out.cell (World.block_lt_of_cell? w _ hx419_1)).trans hx419_1
          replace hx419_2:=(HB.out.cell (World.block_lt_of_cell? w _ hx419_2)).trans hx419_2
          replace p419:=eq_true p419
          replace q419:=eq_true q419
          have hcz20_0 : wr.cell? ⟨gb418,0,none⟩ = some (.int .i64 a1_0):=(blk_cell BK418.out 0).trans rfl
          have hcz20_1 : wr.cell? ⟨gb418,1,none⟩ = some (.slice A1_1 l1_1.length c1_1):=(blk_cell BK418.out 1).trans rfl
          have hfz20_0:=blk_frozen BK418.out 0
          have hfz20_1:=blk_frozen BK418.out 1
          have p420 : 0 ≤ (x5_2 : Int):=of_decide_eq_true (by first | (with_reducible assumption) | assumption)
          have q420 : x5_2 < (l1_1.length : Int):=of_decide_eq_true (by first | (with_reducible assumption) | assumption)
          obtain ⟨ad420,e420,hx420_0,hx420_1,hx420_2⟩:=at_T65 HR1_1.out x5_2 p420 q420
          cases e420
          replace hx420_0:=(HB.out.cell (World.block_lt_of_cell? w _ hx420_0)).trans hx420_0
          replace hx420_1:=(HB.out.cell (World.block_lt_of_cell? w _ hx420_1)).trans hx420_1
          replace hx420_2:=(HB.out.cell (World.block_lt_of_cell? w _ hx420_2)).trans hx420_2
          replace p420:=eq_true p420
          replace q420:=eq_true q420
          go_wp2
          repeat (go_quiet (fail);try go_wp2)
          go_ret
          exact ⟨by first | rfl | (simp [errW_none,errW_some] <;> rfl) | (simp [*,errW_none,errW_some] <;> rfl) | (simp [errW_none,errW_some];exact isEmpty_bne _),by repeat (first | (with_reducible first | exact HB.out | apply below_alloc | apply pw_below_drewN | apply below_drew1 | refine below_set ?_ GE417.out | refine below_set ?_ GE418.out) | exact HB.out)⟩
         ·rw [if_neg c17] at H
          have c17b0 : (!(((rd_T65 l0_1 x5_2).f0) == ((rd_T65 l1_1 x5_2).f0)) || (!(((rd_T65 l0_1 x5_2).f1) == ((rd_T65 l1_1 x5_2).f1)) || (!(((rd_T65 l0_1 x5_2).f2) == ((rd_T65 l1_1 x5_2).f2))))) = false:=by simpa using c17
          clear c17
          have H' := Aside0.mk H
          clear H
          have hnb21:=NB417_418.out
          have hnc21:=NB418_417.out
          have hcz22_0 : wr.cell? ⟨gb417,0,none⟩ = some (.int .i64 a0_0):=(blk_cell BK417.out 0).trans rfl
          have hcz22_1 : wr.cell? ⟨gb417,1,none⟩ = some (.slice A0_1 l0_1.length c0_1):=(blk_cell BK417.out 1).trans rfl
          have hfz22_0:=blk_frozen BK417.out 0
          have hfz22_1:=blk_frozen BK417.out 1
          have p419 : 0 ≤ (x5_2 : Int):=of_decide_eq_true (by first | (with_reducible assumption) | assumption)
          have q419 : x5_2 < (l0_1.length : Int):=of_decide_eq_true (by first | (with_reducible assumption) | assumption)
          obtain ⟨ad419,e419,hx419_0,hx419_1,hx419_2⟩:=at_T65 HR0_1.out x5_2 p419 q419
          cases e419
          replace hx419_0:=(HB.out.cell (World.block_lt_of_cell? w _ hx419_0)).trans hx419_0
          replace hx419_1:=(HB.out.cell (World.block_lt_of_cell? w _ hx419_1)).trans hx419_1
          replace hx419_2:=(HB.out.cell (World.block_lt_of_cell? w _ hx419_2)).trans hx419_2
          replace p419:=eq_true p419
          replace q419:=eq_true q419
          have hcz23_0 : wr.cell? ⟨gb418,0,none⟩ = some (.int .i64 a1_0):=(blk_cell BK418.out 0).trans rfl
          have hcz23_1 : wr.cell? ⟨gb418,1,none⟩ = some (.slice A1_1 l1_1.length c1_1):=(blk_cell BK418.out 1).trans rfl
          have hfz23_0:=blk_frozen BK418.out 0
          have hfz23_1:=blk_frozen BK418.out 1
          have p420 : 0 ≤ (x5_2 : Int):=of_decide_eq_true (by first | (with_reducible assumption) | assumption)
          have q420 : x5_2 < (l1_1.length : Int):=of_decide_eq_true (by first | (with_reducible assumption) | assumption)
          obtain ⟨ad420,e420,hx420_0,hx420_1,hx420_2⟩:=at_T65 HR1_1.out x5_2 p420 q420
          cases e420
          replace hx420_0:=(HB.out.cell (World.block_lt_of_cell? w _ hx420_0)).trans hx420_0
          replace hx420_1:=(HB.out.cell (World.block_lt_of_cell? w _ hx420_1)).trans hx420_1
          replace hx420_2:=(HB.out.cell (World.block_lt_of_cell? w _ hx420_2)).trans hx420_2
          replace p420:=eq_true p420
          replace q420:=eq_true q420
          go_wp2
          repeat (go_quiet (fail);try go_wp2)
          go_roundg k2
          case measure => have:=HJ2.out;have:=HK2.out;omega
          case rel => exact ⟨(wrap64 (x5_2 + 1)),(by first | rfl | (simp;done) | (simp [*];done)),H',⟨by have:=HJ2.out;have:=HK2.out;omega⟩,⟨by (with_reducible repeat (first | refine blk_drewN ?_ _ | refine blk_drew ?_ | refine blk_alloc ?_ _));exact BK417.out⟩,⟨by (with_reducible repeat (first | refine blk_drewN ?_ _ | refine blk_drew ?_ | refine blk_alloc ?_ _));exact BK418.out⟩,⟨by repeat (first | (with_reducible first | exact HB.out | apply below_alloc | apply pw_below_drewN | apply below_drew1 | refine below_set ?_ GE417.out | refine below_set ?_ GE418.out) | exact HB.out)⟩⟩
        ·rw [if_neg c16] at H
         exact absurd H (by simp)
       ·rw [if_neg c15] at H
        exact absurd H (by simp)
      ·rw [if_neg c14] at H
       have c14b0 : decide (x5_2 < (l0_1.length : Int)) = false:=decide_eq_false c14
       clear c14
       obtain rfl:=Option.some.inj H
       have hnb24:=NB417_418.out
       have hnc24:=NB418_417.out
       have hcz25_0 : wr.cell? ⟨gb417,0,none⟩ = some (.int .i64 a0_0):=(blk_cell BK417.out 0).trans rfl
       have hcz25_1 : wr.cell? ⟨gb417,1,none⟩ = some (.slice A0_1 l0_1.length c0_1):=(blk_cell BK417.out 1).trans rfl
       have hfz25_0:=blk_frozen BK417.out 0
       have hfz25_1:=blk_frozen BK417.out 1
       go_wp2
       repeat (go_quiet (fail);try go_wp2)
       go_ret
       exact ⟨by first | rfl | (simp [errW_none,errW_some] <;> rfl) | (simp [*,errW_none,errW_some] <;> rfl) | (simp [errW_none,errW_some];exact isEmpty_bne _),by repeat (first | (with_reducible first | exact HB.out | apply below_alloc | apply pw_below_drewN | apply below_drew1 | refine below_set ?_ GE417.out | refine below_set ?_ GE418.out) | exact HB.out)⟩

-- NOT PRINTED: function 65 (thwartref07_Remote_without)

-- NOT PRINTED: function 63 (thwartref07_Remote_lay)

-- NOT PRINTED: function 56 (thwartref07_Remote_PutNew)

-- NOT PRINTED: function 20 (thwartref13_Next)

-- NOT PRINTED: function 25 (thwartref07_Remote_Put)

/-! ### thwartref12_Of: function 59 -/
def thwartref12_Of.f (k : Nat) (a0 : Int) (a1 : ByteArray) : Option (Int × Int × Int):=(thwartref02_Sum.f k a1).bind fun t439 => (some (a0,(a1.size : Int),t439))
theorem thwartref12_Of.mono : ∀ a0 a1 k,LeO (thwartref12_Of.f k a0 a1) (thwartref12_Of.f (k + 1) a0 a1):=by
 intro a0 a1 k
 unfold thwartref12_Of.f
 repeat' first
   | (with_reducible exact thwartref02_Sum.mono _ _)
   | (with_reducible exact LeO.refl _)
   | (with_reducible exact LeO.none _)
   | (with_reducible refine LeO.ite ?_ ?_)
   | (with_reducible refine LeO.bind ?_ (fun _ => ?_))
   | exact thwartref02_Sum.mono _ _
   | exact LeO.none _
   | refine LeO.ite ?_ ?_
   | refine LeO.bind ?_ (fun _ => ?_)
set_option maxHeartbeats 8000000 in
set_option maxRecDepth 100000 in
theorem thwartref12_Of.calls (k : Nat) (a0 : Int) (a1 : ByteArray) (r1 : Int) (r2 : Int) (r3 : Int) (w : World) (h : thwartref12_Of.f k a0 a1 = some (r1,r2,r3)) :
  Calls Tryz.prog 59 #[.int .i64 a0,.string a1] w fun e w' => e = .returned (.agg #[.int .i64 r1,.int .i64 r2,.int .u32 r3]) ∧ Below w.heap.size w w' := by
 have hu65:=Tryz.underlying65
 have HB:=Aside0.mk (Below.refl w.heap.size w)
 have H : ((thwartref02_Sum.f k a1).bind fun t439 => (some (a0,(a1.size : Int),t439))) = some (r1,r2,r3):=h
 clear h
 replace H:=Option.bind_eq_some_iff.mp H
 obtain ⟨t439,A30,H⟩:=H
 replace H : (some (a0,(a1.size : Int),t439)) = some (r1,r2,r3):=H
 have A3:=Aside0.mk A30
 clear A30
 simp only [Option.some.injEq,Prod.mk.injEq] at H
 obtain ⟨rfl,rfl,rfl⟩:=H
 go_enter Tryz.func59,Tryz.ntmps59
 go_wp2_with (first | ((with_reducible refine gate_dst (N:=4) rfl ?_);refine box_event ?hg (N:=4) ?hd (cs := #[.int .i64 0,.int .i64 0,.int .u32 0]) (t:=65) ?hr ?_;(case hd => rfl);(case hg => rfl);(case hr => first | (go_simp;done) | (go_simp;rfl));intro gb438 hg w4 hbox hb;have n0_:=Aside0.mk (below_step (by repeat (first | (with_reducible first | exact HB.out | apply below_alloc | apply pw_below_drewN | apply below_drew1) | exact HB.out)) hb);have n1_:=Aside0.mk (hbox);have n2_:=Aside0.mk ((by rw [hg];exact (below_size (by repeat (first | (with_reducible first | exact HB.out | apply below_alloc | apply pw_below_drewN | apply below_drew1) | exact HB.out))) : w.heap.size ≤ gb438));have n3_:=Aside0.mk ((by rw [hg];exact (below_size (by repeat (first | (with_reducible first | exact HB.out | apply below_alloc | apply pw_below_drewN | apply below_drew1) | exact HB.out))) : w.heap.size ≤ gb438));clear HB;have HB:=n0_;have BK438:=n1_;have GW438:=n2_;have GE438:=n3_;clear n0_ n1_ n2_ n3_;clear hb hbox hg) | ((with_reducible refine gate_callee (f:=94) rfl ?_);refine goesL_ (some 9) rfl rfl Tryz.func94 (by kernel_rfl) rfl #[.string a1] rfl (by (try simp only [List.map_toArray,List.map_cons,List.map_nil]);first | done | rfl | (simp only [List.length_drop,List.length_take];rfl)) ?_;(with_reducible refine (thwartref02_Sum.calls k a1 t439 _ A3.out).mono ?_);rintro e w' ⟨rfl,⟨nd,rfl⟩⟩;refine ⟨_,rfl,?_⟩;(try (rw [drewN_self w4];generalize hq_ : World.drewN w4 _ = w4;have n0_ : Aside0 (w4.heap[gb438]? = some (.cells #[.int .i64 0,.int .i64 0,.int .u32 0] 65 (0,0))):=⟨by rw [← hq_];exact (by (with_reducible repeat (first | refine blk_drewN ?_ _ | refine blk_drew ?_ | refine blk_alloc ?_ _));exact BK438.out)⟩;have n1_ : Aside0 (Below w.heap.size w w4):=⟨by rw [← hq_];exact (by repeat (first | (with_reducible first | exact HB.out | apply below_alloc | apply pw_below_drewN | apply below_drew1 | refine below_set ?_ GE438.out) | exact HB.out))⟩;clear BK438 HB hq_;have BK438:=n0_;have HB:=n1_;clear n0_ n1_));have hcz5_0 : w4.cell? ⟨gb438,0,none⟩ = some (.int .i64 0):=(blk_cell BK438.out 0).trans rfl;have hcz5_1 : w4.cell? ⟨gb438,1,none⟩ = some (.int .i64 0):=(blk_cell BK438.out 1).trans rfl;have hcz5_2 : w4.cell? ⟨gb438,2,none⟩ = some (.int .u32 0):=(blk_cell BK438.out 2).trans rfl;have hfz5_0:=blk_frozen BK438.out 0;have hfz5_1:=blk_frozen BK438.out 1;have hfz5_2:=blk_frozen BK438.out 2))
 refine bodyPost_ret (results_cell_row rfl _ _ gb438 65 #[.int .i64 a0,.int .i64 (a1.size : Int),.int .u32 t439] (0,0) _ rfl (by (with_reducible repeat (first | refine blk_drewN ?_ _ | refine blk_drew ?_ | refine blk_alloc ?_ _));refine blk_put (cs := #[.int .i64 a0,.int .i64 (a1.size : Int),.int .u32 0]) ?_ 2 _ rfl;(with_reducible repeat (first | refine blk_drewN ?_ _ | refine blk_drew ?_ | refine blk_alloc ?_ _));refine blk_put (cs := #[.int .i64 a0,.int .i64 0,.int .u32 0]) ?_ 1 _ rfl;(with_reducible repeat (first | refine blk_drewN ?_ _ | refine blk_drew ?_ | refine blk_alloc ?_ _));refine blk_put (cs := #[.int .i64 0,.int .i64 0,.int .u32 0]) ?_ 0 _ rfl;(with_reducible repeat (first | refine blk_drewN ?_ _ | refine blk_drew ?_ | refine blk_alloc ?_ _));exact BK438.out) Tryz.underlying65 rfl (by kernel_rfl)) rfl ?_
 exact ⟨by first | rfl | (simp [errW_none,errW_some] <;> rfl) | (simp [*,errW_none,errW_some] <;> rfl) | (simp [errW_none,errW_some];exact isEmpty_bne _),by repeat (first | (with_reducible first | exact HB.out | apply below_alloc | apply pw_below_drewN | apply below_drew1 | refine below_set ?_ GE438.out) | exact HB.out)⟩

-- NOT PRINTED: function 22 (thwartref13_Upload)

-- NOT PRINTED: function 23 (thwartref13_Fetch)

-- NOT PRINTED: function 26 (remote_Remote_Delete)

-- NOT PRINTED: function 27 (thwartref07_Remote_Delete)

-- NOT PRINTED: function 28 (remote_Remote_Calls)

-- NOT PRINTED: function 6 (thwartlaw13_PublishPlays)

end Go.Proofs.YtlnbekaldemebaaGreatDoor.Print
