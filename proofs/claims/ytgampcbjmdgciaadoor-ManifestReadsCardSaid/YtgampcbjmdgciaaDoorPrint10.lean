/- Written by a program of mine (give.py, over the kit's print) out of the translation: contracts of the Go functions. Lean checks it. -/
import Derived.Test.YtgampcbjmdgciaaDoorPrint0
import Derived.Test.YtgampcbjmdgciaaDoorPrint1
import Derived.Test.YtgampcbjmdgciaaDoorPrint5
namespace Go.Proofs.YtgampcbjmdgciaaDoor.Print
open Go.RowKit Go.Proofs.YtgampcbjmdgciaaDoorW.PrintWords Go.Proofs.YtgampcbjmdgciaaDoorW.PrintLast Go.Proofs.YtgampcbjmdgciaaDoorW.PrintMore
attribute [local go_sem] max2_int min2_int max_two min_two max_three min_three max_four min_four   -- for this text's walks alone
set_option linter.unusedVariables false
set_option linter.unusedSimpArgs false

attribute [local go_sem high] eqA48
/-! ### thwartref12_Same: function 13 -/
mutual
def thwartref12_Same.j0 : Nat → Bool → Int → List (S48) → Int → List (S48) → Option (Bool)
 | 0,_,_,_,_,_ => none
 | k + 1,x19,x216000,x216001,x217000,x217001 => if x19 = true then (some false) else (thwartref12_Same.l0 k 0 x216000 x216001 x217000 x217001)
def thwartref12_Same.l0 : Nat → Int → Int → List (S48) → Int → List (S48) → Option (Bool)
 | 0,_,_,_,_,_ => none
 | k + 1,x5,x216000,x216001,x217000,x217001 => if x5 < (x216001.length : Int) then (if 0 ≤ x5 then (if x5 < (x217001.length : Int) then (if (!(((rd_T48 x216001 x5).f0) == ((rd_T48 x217001 x5).f0)) || (!(((rd_T48 x216001 x5).f1) == ((rd_T48 x217001 x5).f1)) || (!(((rd_T48 x216001 x5).f2) == ((rd_T48 x217001 x5).f2))))) = true then (some false) else (thwartref12_Same.l0 k (wrap64 (x5 + 1)) x216000 x216001 x217000 x217001)) else (none)) else (none)) else (some true)
end
def thwartref12_Same.f (k : Nat) (a0_0 : Int) (l0_1 : List (S48)) (a1_0 : Int) (l1_1 : List (S48)) : Option (Bool):=if a0_0 = a1_0 then (thwartref12_Same.j0 k ((l0_1.length : Int) != (l1_1.length : Int)) a0_0 l0_1 a1_0 l1_1) else (thwartref12_Same.j0 k true a0_0 l0_1 a1_0 l1_1)
theorem thwartref12_Same.mono_l : ∀ k,(∀ y0 y1 y2 y3 y4,LeO (thwartref12_Same.j0 k y0 y1 y2 y3 y4) (thwartref12_Same.j0 (k + 1) y0 y1 y2 y3 y4)) ∧ (∀ y0 y1 y2 y3 y4,LeO (thwartref12_Same.l0 k y0 y1 y2 y3 y4) (thwartref12_Same.l0 (k + 1) y0 y1 y2 y3 y4))
 | 0 => ⟨fun _ _ _ _ _ r h => by simp [thwartref12_Same.j0] at h,fun _ _ _ _ _ r h => by simp [thwartref12_Same.l0] at h⟩
 | k + 1 => by
  obtain ⟨ih0,ih1⟩:=thwartref12_Same.mono_l k
  refine ⟨?_,?_⟩
  ·intro y0 y1 y2 y3 y4
   unfold thwartref12_Same.j0
   repeat' first
   | (with_reducible exact ih0 _ _ _ _ _)
   | (with_reducible exact ih1 _ _ _ _ _)
   | (with_reducible exact LeO.refl _)
   | (with_reducible exact LeO.none _)
   | (with_reducible refine LeO.ite ?_ ?_)
   | (with_reducible refine LeO.bind ?_ (fun _ => ?_))
   | exact ih0 _ _ _ _ _
   | exact ih1 _ _ _ _ _
   | exact LeO.none _
   | refine LeO.ite ?_ ?_
   | refine LeO.bind ?_ (fun _ => ?_)
  ·intro y0 y1 y2 y3 y4
   unfold thwartref12_Same.l0
   repeat' first
   | (with_reducible exact ih0 _ _ _ _ _)
   | (with_reducible exact ih1 _ _ _ _ _)
   | (with_reducible exact LeO.refl _)
   | (with_reducible exact LeO.none _)
   | (with_reducible refine LeO.ite ?_ ?_)
   | (with_reducible refine LeO.bind ?_ (fun _ => ?_))
   | exact ih0 _ _ _ _ _
   | exact ih1 _ _ _ _ _
   | exact LeO.none _
   | refine LeO.ite ?_ ?_
   | refine LeO.bind ?_ (fun _ => ?_)
theorem thwartref12_Same.mono : ∀ a0 a1 a2 a3 k,LeO (thwartref12_Same.f k a0 a1 a2 a3) (thwartref12_Same.f (k + 1) a0 a1 a2 a3):=by
 intro a0 a1 a2 a3 k
 obtain ⟨ih0,ih1⟩:=thwartref12_Same.mono_l k
 unfold thwartref12_Same.f
 repeat' first
   | (with_reducible exact ih0 _ _ _ _ _)
   | (with_reducible exact ih1 _ _ _ _ _)
   | (with_reducible exact LeO.refl _)
   | (with_reducible exact LeO.none _)
   | (with_reducible refine LeO.ite ?_ ?_)
   | (with_reducible refine LeO.bind ?_ (fun _ => ?_))
   | exact ih0 _ _ _ _ _
   | exact ih1 _ _ _ _ _
   | exact LeO.none _
   | refine LeO.ite ?_ ?_
   | refine LeO.bind ?_ (fun _ => ?_)
set_option maxHeartbeats 8000000 in
set_option maxRecDepth 100000 in
theorem thwartref12_Same.calls (k : Nat) (a0_0 : Int) (A0_1 : Option Addr) (c0_1 : Nat) (l0_1 : List (S48)) (a1_0 : Int) (A1_1 : Option Addr) (c1_1 : Nat) (l1_1 : List (S48)) (r : Bool) (w : World) (hr0_1 : Kd.C k48 w A0_1 l0_1.length l0_1) (hc0_1 : l0_1.length ≤ c0_1) (hr1_1 : Kd.C k48 w A1_1 l1_1.length l1_1) (hc1_1 : l1_1.length ≤ c1_1) (h : thwartref12_Same.f k a0_0 l0_1 a1_0 l1_1 = some r) :
  Calls Tryd.prog 13 #[.agg #[.int .i64 a0_0,.slice A0_1 l0_1.length c0_1],.agg #[.int .i64 a1_0,.slice A1_1 l1_1.length c1_1]] w fun e w' => e = .returned (.bool r) ∧ Below w.heap.size w w' := by
 have hu32:=Tryd.underlying32
 have hu48:=Tryd.underlying48
 have HR0_1:=Aside0.mk hr0_1
 have HC0_1:=Aside0.mk hc0_1
 clear hr0_1 hc0_1
 have HR1_1:=Aside0.mk hr1_1
 have HC1_1:=Aside0.mk hc1_1
 clear hr1_1 hc1_1
 have HB:=Aside0.mk (Below.refl w.heap.size w)
 have H : (if a0_0 = a1_0 then (thwartref12_Same.j0 k ((l0_1.length : Int) != (l1_1.length : Int)) a0_0 l0_1 a1_0 l1_1) else (thwartref12_Same.j0 k true a0_0 l0_1 a1_0 l1_1)) = some r:=h
 clear h
 have HC3:=Aside0.mk H
 clear H
 go_enter Tryd.func13,Tryd.ntmps13
 go_upto_region 1 with (first | ((with_reducible refine gate_dst (N:=2) rfl ?_);(try (refine gate_guard (by rfl) ?_;dsimp only));refine box_event ?hg (N:=2) ?hd (cs := #[.int .i64 a0_0,.slice A0_1 l0_1.length c0_1]) (t:=32) ?hr ?_;(case hd => rfl);(case hg => rfl);(case hr => first | (go_simp;done) | (go_simp;rfl));intro gb215 hg w4 hbox hb;have n0_:=Aside0.mk (below_step (by repeat (first | (with_reducible first | exact HB.out | apply below_alloc | apply pw_below_drewN | apply below_drew1) | exact HB.out)) hb);have n1_:=Aside0.mk (hbox);have n2_:=Aside0.mk ((by rw [hg];exact (below_size (by repeat (first | (with_reducible first | exact HB.out | apply below_alloc | apply pw_below_drewN | apply below_drew1) | exact HB.out))) : w.heap.size ≤ gb215));have n3_:=Aside0.mk ((by rw [hg];exact (below_size (by repeat (first | (with_reducible first | exact HB.out | apply below_alloc | apply pw_below_drewN | apply below_drew1) | exact HB.out))) : w.heap.size ≤ gb215));clear HB;have HB:=n0_;have BK215:=n1_;have GW215:=n2_;have GE215:=n3_;clear n0_ n1_ n2_ n3_;clear hb hbox hg) | ((with_reducible refine gate_dst (N:=3) rfl ?_);(try (refine gate_guard (by rfl) ?_;dsimp only));refine box_event ?hg (N:=3) ?hd (cs := #[.int .i64 a1_0,.slice A1_1 l1_1.length c1_1]) (t:=32) ?hr ?_;(case hd => rfl);(case hg => rfl);(case hr => first | (go_simp;done) | (go_simp;rfl));intro gb216 hg w5 hbox hb;have n0_:=Aside0.mk (blk_below (g:=gb215) (o := .cells #[.int .i64 a0_0,.slice A0_1 l0_1.length c0_1] 32 (0,0)) (by (with_reducible repeat (first | refine blk_drewN ?_ _ | refine blk_drew ?_ | refine blk_alloc ?_ _));exact BK215.out) hb);have n1_:=Aside0.mk (below_step (by repeat (first | (with_reducible first | exact HB.out | apply below_alloc | apply pw_below_drewN | apply below_drew1 | refine below_set ?_ GE215.out) | exact HB.out)) hb);have n2_:=Aside0.mk (hbox);have n3_:=Aside0.mk ((by rw [hg];exact (below_size (by repeat (first | (with_reducible first | exact HB.out | apply below_alloc | apply pw_below_drewN | apply below_drew1 | refine below_set ?_ GE215.out) | exact HB.out))) : w.heap.size ≤ gb216));have n4_:=Aside0.mk ((by rw [hg];exact (below_size (by repeat (first | (with_reducible first | exact HB.out | apply below_alloc | apply pw_below_drewN | apply below_drew1 | refine below_set ?_ GE215.out) | exact HB.out))) : w.heap.size ≤ gb216));have n5_:=Aside0.mk ((by rw [hg];exact Nat.ne_of_lt (blk_lt (g:=gb215) (o := .cells #[.int .i64 a0_0,.slice A0_1 l0_1.length c0_1] 32 (0,0)) (by (with_reducible repeat (first | refine blk_drewN ?_ _ | refine blk_drew ?_ | refine blk_alloc ?_ _));exact BK215.out)) : gb215 ≠ gb216));have n6_:=Aside0.mk ((by rw [hg];exact Nat.ne_of_gt (blk_lt (g:=gb215) (o := .cells #[.int .i64 a0_0,.slice A0_1 l0_1.length c0_1] 32 (0,0)) (by (with_reducible repeat (first | refine blk_drewN ?_ _ | refine blk_drew ?_ | refine blk_alloc ?_ _));exact BK215.out)) : gb216 ≠ gb215));clear BK215;clear HB;have BK215:=n0_;have HB:=n1_;have BK216:=n2_;have GW216:=n3_;have GE216:=n4_;have NB215_216:=n5_;have NB216_215:=n6_;clear n0_ n1_ n2_ n3_ n4_ n5_ n6_;clear hb hbox hg))
 repeat (go_quiet (first | ((with_reducible refine gate_dst (N:=2) rfl ?_);(try (refine gate_guard (by rfl) ?_;dsimp only));refine box_event ?hg (N:=2) ?hd (cs := #[.int .i64 a0_0,.slice A0_1 l0_1.length c0_1]) (t:=32) ?hr ?_;(case hd => rfl);(case hg => rfl);(case hr => first | (go_simp;done) | (go_simp;rfl));intro gb215 hg w4 hbox hb;have n0_:=Aside0.mk (below_step (by repeat (first | (with_reducible first | exact HB.out | apply below_alloc | apply pw_below_drewN | apply below_drew1) | exact HB.out)) hb);have n1_:=Aside0.mk (hbox);have n2_:=Aside0.mk ((by rw [hg];exact (below_size (by repeat (first | (with_reducible first | exact HB.out | apply below_alloc | apply pw_below_drewN | apply below_drew1) | exact HB.out))) : w.heap.size ≤ gb215));have n3_:=Aside0.mk ((by rw [hg];exact (below_size (by repeat (first | (with_reducible first | exact HB.out | apply below_alloc | apply pw_below_drewN | apply below_drew1) | exact HB.out))) : w.heap.size ≤ gb215));clear HB;have HB:=n0_;have BK215:=n1_;have GW215:=n2_;have GE215:=n3_;clear n0_ n1_ n2_ n3_;clear hb hbox hg) | ((with_reducible refine gate_dst (N:=3) rfl ?_);(try (refine gate_guard (by rfl) ?_;dsimp only));refine box_event ?hg (N:=3) ?hd (cs := #[.int .i64 a1_0,.slice A1_1 l1_1.length c1_1]) (t:=32) ?hr ?_;(case hd => rfl);(case hg => rfl);(case hr => first | (go_simp;done) | (go_simp;rfl));intro gb216 hg w5 hbox hb;have n0_:=Aside0.mk (blk_below (g:=gb215) (o := .cells #[.int .i64 a0_0,.slice A0_1 l0_1.length c0_1] 32 (0,0)) (by (with_reducible repeat (first | refine blk_drewN ?_ _ | refine blk_drew ?_ | refine blk_alloc ?_ _));exact BK215.out) hb);have n1_:=Aside0.mk (below_step (by repeat (first | (with_reducible first | exact HB.out | apply below_alloc | apply pw_below_drewN | apply below_drew1 | refine below_set ?_ GE215.out) | exact HB.out)) hb);have n2_:=Aside0.mk (hbox);have n3_:=Aside0.mk ((by rw [hg];exact (below_size (by repeat (first | (with_reducible first | exact HB.out | apply below_alloc | apply pw_below_drewN | apply below_drew1 | refine below_set ?_ GE215.out) | exact HB.out))) : w.heap.size ≤ gb216));have n4_:=Aside0.mk ((by rw [hg];exact (below_size (by repeat (first | (with_reducible first | exact HB.out | apply below_alloc | apply pw_below_drewN | apply below_drew1 | refine below_set ?_ GE215.out) | exact HB.out))) : w.heap.size ≤ gb216));have n5_:=Aside0.mk ((by rw [hg];exact Nat.ne_of_lt (blk_lt (g:=gb215) (o := .cells #[.int .i64 a0_0,.slice A0_1 l0_1.length c0_1] 32 (0,0)) (by (with_reducible repeat (first | refine blk_drewN ?_ _ | refine blk_drew ?_ | refine blk_alloc ?_ _));exact BK215.out)) : gb215 ≠ gb216));have n6_:=Aside0.mk ((by rw [hg];exact Nat.ne_of_gt (blk_lt (g:=gb215) (o := .cells #[.int .i64 a0_0,.slice A0_1 l0_1.length c0_1] 32 (0,0)) (by (with_reducible repeat (first | refine blk_drewN ?_ _ | refine blk_drew ?_ | refine blk_alloc ?_ _));exact BK215.out)) : gb216 ≠ gb215));clear BK215;clear HB;have BK215:=n0_;have HB:=n1_;have BK216:=n2_;have GW216:=n3_;have GE216:=n4_;have NB215_216:=n5_;have NB216_215:=n6_;clear n0_ n1_ n2_ n3_ n4_ n5_ n6_;clear hb hbox hg));go_upto_region 1 with (first | ((with_reducible refine gate_dst (N:=2) rfl ?_);(try (refine gate_guard (by rfl) ?_;dsimp only));refine box_event ?hg (N:=2) ?hd (cs := #[.int .i64 a0_0,.slice A0_1 l0_1.length c0_1]) (t:=32) ?hr ?_;(case hd => rfl);(case hg => rfl);(case hr => first | (go_simp;done) | (go_simp;rfl));intro gb215 hg w4 hbox hb;have n0_:=Aside0.mk (below_step (by repeat (first | (with_reducible first | exact HB.out | apply below_alloc | apply pw_below_drewN | apply below_drew1) | exact HB.out)) hb);have n1_:=Aside0.mk (hbox);have n2_:=Aside0.mk ((by rw [hg];exact (below_size (by repeat (first | (with_reducible first | exact HB.out | apply below_alloc | apply pw_below_drewN | apply below_drew1) | exact HB.out))) : w.heap.size ≤ gb215));have n3_:=Aside0.mk ((by rw [hg];exact (below_size (by repeat (first | (with_reducible first | exact HB.out | apply below_alloc | apply pw_below_drewN | apply below_drew1) | exact HB.out))) : w.heap.size ≤ gb215));clear HB;have HB:=n0_;have BK215:=n1_;have GW215:=n2_;have GE215:=n3_;clear n0_ n1_ n2_ n3_;clear hb hbox hg) | ((with_reducible refine gate_dst (N:=3) rfl ?_);(try (refine gate_guard (by rfl) ?_;dsimp only));refine box_event ?hg (N:=3) ?hd (cs := #[.int .i64 a1_0,.slice A1_1 l1_1.length c1_1]) (t:=32) ?hr ?_;(case hd => rfl);(case hg => rfl);(case hr => first | (go_simp;done) | (go_simp;rfl));intro gb216 hg w5 hbox hb;have n0_:=Aside0.mk (blk_below (g:=gb215) (o := .cells #[.int .i64 a0_0,.slice A0_1 l0_1.length c0_1] 32 (0,0)) (by (with_reducible repeat (first | refine blk_drewN ?_ _ | refine blk_drew ?_ | refine blk_alloc ?_ _));exact BK215.out) hb);have n1_:=Aside0.mk (below_step (by repeat (first | (with_reducible first | exact HB.out | apply below_alloc | apply pw_below_drewN | apply below_drew1 | refine below_set ?_ GE215.out) | exact HB.out)) hb);have n2_:=Aside0.mk (hbox);have n3_:=Aside0.mk ((by rw [hg];exact (below_size (by repeat (first | (with_reducible first | exact HB.out | apply below_alloc | apply pw_below_drewN | apply below_drew1 | refine below_set ?_ GE215.out) | exact HB.out))) : w.heap.size ≤ gb216));have n4_:=Aside0.mk ((by rw [hg];exact (below_size (by repeat (first | (with_reducible first | exact HB.out | apply below_alloc | apply pw_below_drewN | apply below_drew1 | refine below_set ?_ GE215.out) | exact HB.out))) : w.heap.size ≤ gb216));have n5_:=Aside0.mk ((by rw [hg];exact Nat.ne_of_lt (blk_lt (g:=gb215) (o := .cells #[.int .i64 a0_0,.slice A0_1 l0_1.length c0_1] 32 (0,0)) (by (with_reducible repeat (first | refine blk_drewN ?_ _ | refine blk_drew ?_ | refine blk_alloc ?_ _));exact BK215.out)) : gb215 ≠ gb216));have n6_:=Aside0.mk ((by rw [hg];exact Nat.ne_of_gt (blk_lt (g:=gb215) (o := .cells #[.int .i64 a0_0,.slice A0_1 l0_1.length c0_1] 32 (0,0)) (by (with_reducible repeat (first | refine blk_drewN ?_ _ | refine blk_drew ?_ | refine blk_alloc ?_ _));exact BK215.out)) : gb216 ≠ gb215));clear BK215;clear HB;have BK215:=n0_;have HB:=n1_;have BK216:=n2_;have GW216:=n3_;have GE216:=n4_;have NB215_216:=n5_;have NB216_215:=n6_;clear n0_ n1_ n2_ n3_ n4_ n5_ n6_;clear hb hbox hg)))
 (try simp only [Act.put,List.setIfInBounds_toArray,List.set_cons_zero,List.set_cons_succ])
 go_cut [19] (fun v19 wc => ∃ (kq : Nat) (x19_2 : Bool),v19 = .bool x19_2 ∧ Aside0 (thwartref12_Same.j0 kq x19_2 a0_0 l0_1 a1_0 l1_1 = some r) ∧ Aside0 (kq ≤ k) ∧ Aside0 (wc.heap[gb215]? = some (.cells #[.int .i64 a0_0,(.slice A0_1 l0_1.length c0_1)] 32 (0,0))) ∧ Aside0 (wc.heap[gb216]? = some (.cells #[.int .i64 a1_0,(.slice A1_1 l1_1.length c1_1)] 32 (0,0))) ∧ Aside0 (Below w.heap.size w wc))
 case first =>
  have H:=HC3.out
  clear HC3
  by_cases c6 : a0_0 = a1_0
  ·rw [if_pos c6] at H
   have c6b0 : (a0_0 == a1_0) = true:=beq_iff_eq.mpr c6
   have c6b1 : (a0_0 != a1_0) = false:=bne_eq_false_iff_eq.mpr c6
   clear c6
   (first | rw [c6b0] | (simp only [i64_w,i32_w];rw [c6b0]) | skip)
   have H' := Aside0.mk H
   clear H
   have hnb7:=NB215_216.out
   have hnc7:=NB216_215.out
   have hcz8_0 : w5.cell? ⟨gb215,0,none⟩ = some (.int .i64 a0_0):=(blk_cell BK215.out 0).trans rfl
   have hcz8_1 : w5.cell? ⟨gb215,1,none⟩ = some (.slice A0_1 l0_1.length c0_1):=(blk_cell BK215.out 1).trans rfl
   have hfz8_0:=blk_frozen BK215.out 0
   have hfz8_1:=blk_frozen BK215.out 1
   have hcz9_0 : w5.cell? ⟨gb216,0,none⟩ = some (.int .i64 a1_0):=(blk_cell BK216.out 0).trans rfl
   have hcz9_1 : w5.cell? ⟨gb216,1,none⟩ = some (.slice A1_1 l1_1.length c1_1):=(blk_cell BK216.out 1).trans rfl
   have hfz9_0:=blk_frozen BK216.out 0
   have hfz9_1:=blk_frozen BK216.out 1
   go_wp2
   repeat (go_quiet (fail);try go_wp2)
   go_meet
   case rel => exact ⟨_,(((l0_1.length : Int) != (l1_1.length : Int))),(by first | rfl | (simp;done) | (simp [*];done)),H',⟨by first | omega | exact Nat.le_refl _⟩,⟨by (with_reducible repeat (first | refine blk_drewN ?_ _ | refine blk_drew ?_ | refine blk_alloc ?_ _));exact BK215.out⟩,⟨by (with_reducible repeat (first | refine blk_drewN ?_ _ | refine blk_drew ?_ | refine blk_alloc ?_ _));exact BK216.out⟩,⟨by repeat (first | (with_reducible first | exact HB.out | apply below_alloc | apply pw_below_drewN | apply below_drew1 | refine below_set ?_ GE215.out | refine below_set ?_ GE216.out) | exact HB.out)⟩⟩
  ·rw [if_neg c6] at H
   have c6b0 : (a0_0 == a1_0) = false:=beq_eq_false_iff_ne.mpr c6
   have c6b1 : (a0_0 != a1_0) = true:=bne_iff_ne.mpr c6
   (first | rw [c6b0] | (simp only [i64_w,i32_w];rw [c6b0]) | skip)
   have H' := Aside0.mk H
   clear H
   have hnb10:=NB215_216.out
   have hnc10:=NB216_215.out
   have hcz11_0 : w5.cell? ⟨gb215,0,none⟩ = some (.int .i64 a0_0):=(blk_cell BK215.out 0).trans rfl
   have hcz11_1 : w5.cell? ⟨gb215,1,none⟩ = some (.slice A0_1 l0_1.length c0_1):=(blk_cell BK215.out 1).trans rfl
   have hfz11_0:=blk_frozen BK215.out 0
   have hfz11_1:=blk_frozen BK215.out 1
   have hcz12_0 : w5.cell? ⟨gb216,0,none⟩ = some (.int .i64 a1_0):=(blk_cell BK216.out 0).trans rfl
   have hcz12_1 : w5.cell? ⟨gb216,1,none⟩ = some (.slice A1_1 l1_1.length c1_1):=(blk_cell BK216.out 1).trans rfl
   have hfz12_0:=blk_frozen BK216.out 0
   have hfz12_1:=blk_frozen BK216.out 1
   go_wp2
   repeat (go_quiet (fail);try go_wp2)
   go_meet
   case rel => exact ⟨_,(true),(by first | rfl | (simp;done) | (simp [*];done)),H',⟨by first | omega | exact Nat.le_refl _⟩,⟨by (with_reducible repeat (first | refine blk_drewN ?_ _ | refine blk_drew ?_ | refine blk_alloc ?_ _));exact BK215.out⟩,⟨by (with_reducible repeat (first | refine blk_drewN ?_ _ | refine blk_drew ?_ | refine blk_alloc ?_ _));exact BK216.out⟩,⟨by repeat (first | (with_reducible first | exact HB.out | apply below_alloc | apply pw_below_drewN | apply below_drew1 | refine below_set ?_ GE215.out | refine below_set ?_ GE216.out) | exact HB.out)⟩⟩
 case rest =>
  clear HC3
  try clear c1
  try clear p2
  try clear c6
  try clear c6b0
  try clear c6b1
  try clear c7
  try clear c10
  try clear hcz11_0
  try clear hcz11_1
  try clear hcz12_0
  try clear hcz12_1
  try clear hcz8_0
  try clear hcz8_1
  try clear hcz9_0
  try clear hcz9_1
  try clear hfz11_0
  try clear hfz11_1
  try clear hfz12_0
  try clear hfz12_1
  try clear hfz8_0
  try clear hfz8_1
  try clear hfz9_0
  try clear hfz9_1
  obtain ⟨kq,x19_2,rfl,HA,HJ2,BK215,BK216,HB⟩:=hcut
  cases kq with
  | zero => exact absurd HA.out (by simp [thwartref12_Same.j0])
  | succ kj2 =>
   have H:=HA.out
   clear HA
   simp only [thwartref12_Same.j0] at H
   by_cases c13 : x19_2 = true
   ·subst c13
    have H1 : (some false) = some r:=by rw [if_pos rfl] at H;exact H
    clear H
    have H:=H1
    clear H1
    obtain rfl:=Option.some.inj H
    go_wp2
    repeat (go_quiet (fail);try go_wp2)
    go_ret
    exact ⟨by first | rfl | (simp [errW_none,errW_some] <;> rfl) | (simp [*,errW_none,errW_some] <;> rfl) | (simp [errW_none,errW_some];exact isEmpty_bne _),by repeat (first | (with_reducible first | exact HB.out | apply below_alloc | apply pw_below_drewN | apply below_drew1 | refine below_set ?_ GE215.out | refine below_set ?_ GE216.out) | exact HB.out)⟩
   ·replace c13:=Bool.eq_false_iff.mpr c13
    subst c13
    have H1 : (thwartref12_Same.l0 kj2 0 a0_0 l0_1 a1_0 l1_1) = some r:=by rw [if_neg (show ¬ (false = true) by decide)] at H;exact H
    clear H
    have H:=H1
    clear H1
    have H' := Aside0.mk H
    clear H
    go_wp2
    repeat (go_quiet (fail);try go_wp2)
    go_loopg [5] kj2 (fun kq v5 w' => ∃ (x5_2 : Int),v5 = .int .i64 x5_2 ∧ Aside0 (thwartref12_Same.l0 kq x5_2 a0_0 l0_1 a1_0 l1_1 = some r) ∧ Aside0 (kq ≤ kj2) ∧ Aside0 (w'.heap[gb215]? = some (.cells #[.int .i64 a0_0,(.slice A0_1 l0_1.length c0_1)] 32 (0,0))) ∧ Aside0 (w'.heap[gb216]? = some (.cells #[.int .i64 a1_0,(.slice A1_1 l1_1.length c1_1)] 32 (0,0))) ∧ Aside0 (Below w.heap.size w w'))
    case atStart => exact ⟨(0),(by first | rfl | (simp;done) | (simp [*];done)),H',⟨Nat.le_refl _⟩,⟨by (with_reducible repeat (first | refine blk_drewN ?_ _ | refine blk_drew ?_ | refine blk_alloc ?_ _));exact BK215.out⟩,⟨by (with_reducible repeat (first | refine blk_drewN ?_ _ | refine blk_drew ?_ | refine blk_alloc ?_ _));exact BK216.out⟩,⟨by repeat (first | (with_reducible first | exact HB.out | apply below_alloc | apply pw_below_drewN | apply below_drew1 | refine below_set ?_ GE215.out | refine below_set ?_ GE216.out) | exact HB.out)⟩⟩
    case round =>
     clear H'
     try clear c1
     try clear p2
     try clear c6
     try clear c6b0
     try clear c6b1
     try clear c7
     try clear c10
     try clear c13
     try clear hcz11_0
     try clear hcz11_1
     try clear hcz12_0
     try clear hcz12_1
     try clear hcz8_0
     try clear hcz8_1
     try clear hcz9_0
     try clear hcz9_1
     try clear hfz11_0
     try clear hfz11_1
     try clear hfz12_0
     try clear hfz12_1
     try clear hfz8_0
     try clear hfz8_1
     try clear hfz9_0
     try clear hfz9_1
     try clear p2
     obtain ⟨x5_2,rfl,HA,HK2,BK215,BK216,HB⟩:=hrel
     cases gk with
     | zero => exact absurd HA.out (by simp [thwartref12_Same.l0])
     | succ k2 =>
      have H:=HA.out
      clear HA
      simp only [thwartref12_Same.l0] at H
      by_cases c14 : x5_2 < (l0_1.length : Int)
      ·rw [if_pos c14] at H
       have c14b0 : decide (x5_2 < (l0_1.length : Int)) = true:=decide_eq_true c14
       clear c14
       by_cases c15 : 0 ≤ x5_2
       ·rw [if_pos c15] at H
        have c15b0 : decide (0 ≤ x5_2) = true:=decide_eq_true c15
        clear c15
        by_cases c16 : x5_2 < (l1_1.length : Int)
        ·rw [if_pos c16] at H
         have c16b0 : decide (x5_2 < (l1_1.length : Int)) = true:=decide_eq_true c16
         clear c16
         by_cases c17 : (!(((rd_T48 l0_1 x5_2).f0) == ((rd_T48 l1_1 x5_2).f0)) || (!(((rd_T48 l0_1 x5_2).f1) == ((rd_T48 l1_1 x5_2).f1)) || (!(((rd_T48 l0_1 x5_2).f2) == ((rd_T48 l1_1 x5_2).f2))))) = true
         ·rw [if_pos c17] at H
          have c17b0 : (!(((rd_T48 l0_1 x5_2).f0) == ((rd_T48 l1_1 x5_2).f0)) || (!(((rd_T48 l0_1 x5_2).f1) == ((rd_T48 l1_1 x5_2).f1)) || (!(((rd_T48 l0_1 x5_2).f2) == ((rd_T48 l1_1 x5_2).f2))))) = true:=c17
          clear c17
          obtain rfl:=Option.some.inj H
          have hnb18:=NB215_216.out
          have hnc18:=NB216_215.out
          have hcz19_0 : wr.cell? ⟨gb215,0,none⟩ = some (.int .i64 a0_0):=(blk_cell BK215.out 0).trans rfl
          have hcz19_1 : wr.cell? ⟨gb215,1,none⟩ = some (.slice A0_1 l0_1.length c0_1):=(blk_cell BK215.out 1).trans rfl
          have hfz19_0:=blk_frozen BK215.out 0
          have hfz19_1:=blk_frozen BK215.out 1
          have p217 : 0 ≤ (x5_2 : Int):=of_decide_eq_true (by first | (with_reducible assumption) | assumption)
          have q217 : x5_2 < (l0_1.length : Int):=of_decide_eq_true (by first | (with_reducible assumption) | assumption)
          obtain ⟨ad217,e217,hx217_0,hx217_1,hx217_2⟩:=at_T48 HR0_1.out x5_2 p217 q217
          cases e217
          replace hx217_0:=(HB.out.cell (World.block_lt_of_cell? w _ hx217_0)).trans hx217_0
          replace hx217_1:=(HB.out.cell (World.block_lt_of_cell? w _ hx217_1)).trans hx217_1
          replace hx217_2:=(HB.out.cell (World.block_lt_of_cell? w _ hx217_2)).trans hx217_2
          replace p217:=eq_true p217
          replace q217:=eq_true q217
          have hcz20_0 : wr.cell? ⟨gb216,0,none⟩ = some (.int .i64 a1_0):=(blk_cell BK216.out 0).trans rfl
          have hcz20_1 : wr.cell? ⟨gb216,1,none⟩ = some (.slice A1_1 l1_1.length c1_1):=(blk_cell BK216.out 1).trans rfl
          have hfz20_0:=blk_frozen BK216.out 0
          have hfz20_1:=blk_frozen BK216.out 1
          have p218 : 0 ≤ (x5_2 : Int):=of_decide_eq_true (by first | (with_reducible assumption) | assumption)
          have q218 : x5_2 < (l1_1.length : Int):=of_decide_eq_true (by first | (with_reducible assumption) | assumption)
          obtain ⟨ad218,e218,hx218_0,hx218_1,hx218_2⟩:=at_T48 HR1_1.out x5_2 p218 q218
          cases e218
          replace hx218_0:=(HB.out.cell (World.block_lt_of_cell? w _ hx218_0)).trans hx218_0
          replace hx218_1:=(HB.out.cell (World.block_lt_of_cell? w _ hx218_1)).trans hx218_1
          replace hx218_2:=(HB.out.cell (World.block_lt_of_cell? w _ hx218_2)).trans hx218_2
          replace p218:=eq_true p218
          replace q218:=eq_true q218
          go_wp2
          repeat (go_quiet (fail);try go_wp2)
          go_ret
          exact ⟨by first | rfl | (simp [errW_none,errW_some] <;> rfl) | (simp [*,errW_none,errW_some] <;> rfl) | (simp [errW_none,errW_some];exact isEmpty_bne _),by repeat (first | (with_reducible first | exact HB.out | apply below_alloc | apply pw_below_drewN | apply below_drew1 | refine below_set ?_ GE215.out | refine below_set ?_ GE216.out) | exact HB.out)⟩
         ·rw [if_neg c17] at H
          have c17b0 : (!(((rd_T48 l0_1 x5_2).f0) == ((rd_T48 l1_1 x5_2).f0)) || (!(((rd_T48 l0_1 x5_2).f1) == ((rd_T48 l1_1 x5_2).f1)) || (!(((rd_T48 l0_1 x5_2).f2) == ((rd_T48 l1_1 x5_2).f2))))) = false:=by simpa using c17
          clear c17
          have H' := Aside0.mk H
          clear H
          have hnb21:=NB215_216.out
          have hnc21:=NB216_215.out
          have hcz22_0 : wr.cell? ⟨gb215,0,none⟩ = some (.int .i64 a0_0):=(blk_cell BK215.out 0).trans rfl
          have hcz22_1 : wr.cell? ⟨gb215,1,none⟩ = some (.slice A0_1 l0_1.length c0_1):=(blk_cell BK215.out 1).trans rfl
          have hfz22_0:=blk_frozen BK215.out 0
          have hfz22_1:=blk_frozen BK215.out 1
          have p217 : 0 ≤ (x5_2 : Int):=of_decide_eq_true (by first | (with_reducible assumption) | assumption)
          have q217 : x5_2 < (l0_1.length : Int):=of_decide_eq_true (by first | (with_reducible assumption) | assumption)
          obtain ⟨ad217,e217,hx217_0,hx217_1,hx217_2⟩:=at_T48 HR0_1.out x5_2 p217 q217
          cases e217
          replace hx217_0:=(HB.out.cell (World.block_lt_of_cell? w _ hx217_0)).trans hx217_0
          replace hx217_1:=(HB.out.cell (World.block_lt_of_cell? w _ hx217_1)).trans hx217_1
          replace hx217_2:=(HB.out.cell (World.block_lt_of_cell? w _ hx217_2)).trans hx217_2
          replace p217:=eq_true p217
          replace q217:=eq_true q217
          have hcz23_0 : wr.cell? ⟨gb216,0,none⟩ = some (.int .i64 a1_0):=(blk_cell BK216.out 0).trans rfl
          have hcz23_1 : wr.cell? ⟨gb216,1,none⟩ = some (.slice A1_1 l1_1.length c1_1):=(blk_cell BK216.out 1).trans rfl
          have hfz23_0:=blk_frozen BK216.out 0
          have hfz23_1:=blk_frozen BK216.out 1
          have p218 : 0 ≤ (x5_2 : Int):=of_decide_eq_true (by first | (with_reducible assumption) | assumption)
          have q218 : x5_2 < (l1_1.length : Int):=of_decide_eq_true (by first | (with_reducible assumption) | assumption)
          obtain ⟨ad218,e218,hx218_0,hx218_1,hx218_2⟩:=at_T48 HR1_1.out x5_2 p218 q218
          cases e218
          replace hx218_0:=(HB.out.cell (World.block_lt_of_cell? w _ hx218_0)).trans hx218_0
          replace hx218_1:=(HB.out.cell (World.block_lt_of_cell? w _ hx218_1)).trans hx218_1
          replace hx218_2:=(HB.out.cell (World.block_lt_of_cell? w _ hx218_2)).trans hx218_2
          replace p218:=eq_true p218
          replace q218:=eq_true q218
          go_wp2
          repeat (go_quiet (fail);try go_wp2)
          go_roundg k2
          case measure => have:=HJ2.out;have:=HK2.out;omega
          case rel => exact ⟨(wrap64 (x5_2 + 1)),(by first | rfl | (simp;done) | (simp [*];done)),H',⟨by have:=HJ2.out;have:=HK2.out;omega⟩,⟨by (with_reducible repeat (first | refine blk_drewN ?_ _ | refine blk_drew ?_ | refine blk_alloc ?_ _));exact BK215.out⟩,⟨by (with_reducible repeat (first | refine blk_drewN ?_ _ | refine blk_drew ?_ | refine blk_alloc ?_ _));exact BK216.out⟩,⟨by repeat (first | (with_reducible first | exact HB.out | apply below_alloc | apply pw_below_drewN | apply below_drew1 | refine below_set ?_ GE215.out | refine below_set ?_ GE216.out) | exact HB.out)⟩⟩
        ·rw [if_neg c16] at H
         exact absurd H (by simp)
       ·rw [if_neg c15] at H
        exact absurd H (by simp)
      ·rw [if_neg c14] at H
       have c14b0 : decide (x5_2 < (l0_1.length : Int)) = false:=decide_eq_false c14
       clear c14
       obtain rfl:=Option.some.inj H
       have hnb24:=NB215_216.out
       have hnc24:=NB216_215.out
       have hcz25_0 : wr.cell? ⟨gb215,0,none⟩ = some (.int .i64 a0_0):=(blk_cell BK215.out 0).trans rfl
       have hcz25_1 : wr.cell? ⟨gb215,1,none⟩ = some (.slice A0_1 l0_1.length c0_1):=(blk_cell BK215.out 1).trans rfl
       have hfz25_0:=blk_frozen BK215.out 0
       have hfz25_1:=blk_frozen BK215.out 1
       go_wp2
       repeat (go_quiet (fail);try go_wp2)
       go_ret
       exact ⟨by first | rfl | (simp [errW_none,errW_some] <;> rfl) | (simp [*,errW_none,errW_some] <;> rfl) | (simp [errW_none,errW_some];exact isEmpty_bne _),by repeat (first | (with_reducible first | exact HB.out | apply below_alloc | apply pw_below_drewN | apply below_drew1 | refine below_set ?_ GE215.out | refine below_set ?_ GE216.out) | exact HB.out)⟩

-- NOT PRINTED: function 3 (thwartlaw12_ManifestReads)

/-! ### thwartref12_digits: function 39 -/
def thwartref12_digits.l0 : Nat → Int → ByteArray → Int → Option (ByteArray)
 | 0,_,_,_ => none
 | k + 1,x0,x3,x4 => if x4 < 6 then ((some (([(wrap64 (48 + (Int.tmod x0 10))) % 256] : List Int) : List Int)).bind fun y220 => (if (strOfNums y220).size + x3.size ≤ 9223372036854775807 then (thwartref12_digits.l0 k (wrap64 (Int.tdiv x0 10)) ((strOfNums y220) ++ x3) (wrap64 (x4 + 1))) else (none))) else (some x3)
def thwartref12_digits.f (k : Nat) (a0 : Int) : Option (ByteArray):=thwartref12_digits.l0 k a0 (⟨#[]⟩ : ByteArray) 0
theorem thwartref12_digits.mono_l : ∀ k,(∀ y0 y1 y2,LeO (thwartref12_digits.l0 k y0 y1 y2) (thwartref12_digits.l0 (k + 1) y0 y1 y2))
 | 0 => fun _ _ _ r h => by simp [thwartref12_digits.l0] at h
 | k + 1 => by
  have ih0:=thwartref12_digits.mono_l k
  ·intro y0 y1 y2
   unfold thwartref12_digits.l0
   repeat' first
   | (with_reducible exact ih0 _ _ _)
   | (with_reducible exact LeO.refl _)
   | (with_reducible exact LeO.none _)
   | (with_reducible refine LeO.ite ?_ ?_)
   | (with_reducible refine LeO.bind ?_ (fun _ => ?_))
   | exact ih0 _ _ _
   | exact LeO.none _
   | refine LeO.ite ?_ ?_
   | refine LeO.bind ?_ (fun _ => ?_)
theorem thwartref12_digits.mono : ∀ a0 k,LeO (thwartref12_digits.f k a0) (thwartref12_digits.f (k + 1) a0):=by
 intro a0 k
 have ih0:=thwartref12_digits.mono_l k
 unfold thwartref12_digits.f
 repeat' first
   | (with_reducible exact ih0 _ _ _)
   | (with_reducible exact LeO.refl _)
   | (with_reducible exact LeO.none _)
   | (with_reducible refine LeO.ite ?_ ?_)
   | (with_reducible refine LeO.bind ?_ (fun _ => ?_))
   | exact ih0 _ _ _
   | exact LeO.none _
   | refine LeO.ite ?_ ?_
   | refine LeO.bind ?_ (fun _ => ?_)
set_option maxHeartbeats 8000000 in
set_option maxRecDepth 100000 in
theorem thwartref12_digits.calls (k : Nat) (a0 : Int) (r : ByteArray) (w : World) (h : thwartref12_digits.f k a0 = some r) :
  Calls Tryd.prog 39 #[.int .i64 a0] w fun e w' => e = .returned (.string r) ∧ Below w.heap.size w w' := by
 have HB:=Aside0.mk (Below.refl w.heap.size w)
 have H : (thwartref12_digits.l0 k a0 (⟨#[]⟩ : ByteArray) 0) = some r:=h
 clear h
 have H' := Aside0.mk H
 clear H
 go_enter Tryd.func39,Tryd.ntmps39
 go_wp2
 go_loopg [0,3,4] k (fun kq v0 v3 v4 w' => ∃ (x0_1 : Int) (x3_1 : ByteArray) (x4_1 : Int),v0 = .int .i64 x0_1 ∧ v3 = .string x3_1 ∧ v4 = .int .i64 x4_1 ∧ Aside0 (thwartref12_digits.l0 kq x0_1 x3_1 x4_1 = some r) ∧ Aside0 (kq ≤ k) ∧ Aside0 (Below w.heap.size w w'))
 case atStart => exact ⟨(a0),((⟨#[]⟩ : ByteArray)),(0),(by first | rfl | (simp;done) | (simp [*];done)),(by first | rfl | (simp;done) | (simp [*];done)),(by first | rfl | (simp;done) | (simp [*];done)),H',⟨Nat.le_refl _⟩,⟨by repeat (first | (with_reducible first | exact HB.out | apply below_alloc | apply pw_below_drewN | apply below_drew1) | exact HB.out)⟩⟩
 case round =>
  clear H'
  obtain ⟨x0_1,x3_1,x4_1,rfl,rfl,rfl,HA,HK1,HB⟩:=hrel
  cases gk with
  | zero => exact absurd HA.out (by simp [thwartref12_digits.l0])
  | succ k1 =>
   have H:=HA.out
   clear HA
   simp only [thwartref12_digits.l0] at H
   by_cases c2 : x4_1 < 6
   ·rw [if_pos c2] at H
    have c2b0 : decide (x4_1 < 6) = true:=decide_eq_true c2
    clear c2
    obtain ⟨y220,hy220⟩ : ∃ y_ : List Int,y_ = (([(wrap64 (48 + (Int.tmod x0_1 10))) % 256] : List Int)):=⟨_,rfl⟩
    replace H : (if (strOfNums y220).size + x3_1.size ≤ 9223372036854775807 then (thwartref12_digits.l0 k1 (wrap64 (Int.tdiv x0_1 10)) ((strOfNums y220) ++ x3_1) (wrap64 (x4_1 + 1))) else (none)) = some r:=by first | (rw [hy220];with_reducible exact H) | (have H2_:=(Option.bind_some _ _).symm.trans H;rw [hy220];with_reducible exact H2_) | (have H2_:=(Option.bind_some _ _).symm.trans H;with_reducible exact H2_) | with_reducible exact H | (rw [hy220];exact H) | exact H
    have Ny220:=Aside0.mk hy220
    clear hy220
    by_cases c3 : (strOfNums y220).size + x3_1.size ≤ 9223372036854775807
    ·rw [if_pos c3] at H
     have c3b0:=eq_true c3
     have c3b1 : decide ((strOfNums y220).size + x3_1.size ≤ 9223372036854775807) = true:=decide_eq_true c3
     try have c3b2 : (9223372036854775807 < (strOfNums y220).size + x3_1.size) = False:=eq_false (Nat.not_lt.2 c3)
     have H' := Aside0.mk H
     clear H
     go_wp2_with (first | ((with_reducible refine gate_dst (N:=13) rfl ?_);refine Kd.R_lit (Kd.int .u8) _ 5 ?hg (N:=13) ?hd (xs:=([(wrap64 (48 + (Int.tmod x0_1 10))) % 256] : List Int)) (inner:=[.int .u8 ((wrap64 (48 + (Int.tmod x0_1 10))) % 256)]) (ok:=fun _ => True) (okp:=fun _ => True) ?hr ?hp (fun _ hk => hk) trivial (Below.refl _ _) (Nat.le_refl _) (by simp) ?_;(case hd => rfl);(case hg => rfl);(case hr => first | (go_simp;done) | (go_simp;rfl));(case hp => exact (Reps.one (show Kd.M (Kd.int .u8) _ _ _ ((wrap64 (48 + (Int.tmod x0_1 10))) % 256) [.int .u8 ((wrap64 (48 + (Int.tmod x0_1 10))) % 256)] from rfl) (Reps.none _ _)));intro v221 w4 ho5 hb hg_ hnew_;clear hg_ hnew_;(first | rw [← Ny220.out] at ho5 | (simp only [Int.reduceToNat] at ho5;rw [← Ny220.out] at ho5));have n0_:=Aside0.mk (Kd.R_lower ho5 (below_size (by repeat (first | (with_reducible first | exact HB.out | apply below_alloc | apply pw_below_drewN | apply below_drew1) | exact HB.out))));have n1_:=Aside0.mk (below_step (by repeat (first | (with_reducible first | exact HB.out | apply below_alloc | apply pw_below_drewN | apply below_drew1) | exact HB.out)) hb);clear HB;have HO222:=n0_;have HB:=n1_;clear n0_ n1_;clear hb ho5;have hcv6:=own_string (P:=Tryd.prog) Tryd.underlying76 Tryd.underlying5 Tryd.underlying9 (Kd.own_of_R HO222.out)))
     go_roundg k1
     case measure => have:=HK1.out;omega
     case rel => exact ⟨(wrap64 (Int.tdiv x0_1 10)),((strOfNums y220) ++ x3_1),(wrap64 (x4_1 + 1)),(by first | rfl | (simp;done) | (simp [*];done)),(by first | rfl | (simp;done) | (simp [*];done)),(by first | rfl | (simp;done) | (simp [*];done)),H',⟨by have:=HK1.out;omega⟩,⟨by repeat (first | (with_reducible first | exact HB.out | apply below_alloc | apply pw_below_drewN | apply below_drew1) | exact HB.out)⟩⟩
    ·rw [if_neg c3] at H
     exact absurd H (by simp)
   ·rw [if_neg c2] at H
    have c2b0 : decide (x4_1 < 6) = false:=decide_eq_false c2
    clear c2
    obtain rfl:=Option.some.inj H
    go_wp2
    go_ret
    exact ⟨by first | rfl | (simp [errW_none,errW_some] <;> rfl) | (simp [*,errW_none,errW_some] <;> rfl) | (simp [errW_none,errW_some];exact isEmpty_bne _),by repeat (first | (with_reducible first | exact HB.out | apply below_alloc | apply pw_below_drewN | apply below_drew1) | exact HB.out)⟩

/-! ### thwartref12_Name: function 21 -/
def thwartref12_Name.f (k : Nat) (a0 : Int) : Option (ByteArray):=if a0 < 1 then (some (⟨#[]⟩ : ByteArray)) else (if a0 > 999999 then (some (⟨#[]⟩ : ByteArray)) else ((thwartref12_digits.f k a0).bind fun t223 => (if 1 + t223.size ≤ 9223372036854775807 then (some ((⟨#[109]⟩ : ByteArray) ++ t223)) else (none))))
theorem thwartref12_Name.mono : ∀ a0 k,LeO (thwartref12_Name.f k a0) (thwartref12_Name.f (k + 1) a0):=by
 intro a0 k
 unfold thwartref12_Name.f
 repeat' first
   | (with_reducible exact thwartref12_digits.mono _ _)
   | (with_reducible exact LeO.refl _)
   | (with_reducible exact LeO.none _)
   | (with_reducible refine LeO.ite ?_ ?_)
   | (with_reducible refine LeO.bind ?_ (fun _ => ?_))
   | exact thwartref12_digits.mono _ _
   | exact LeO.none _
   | refine LeO.ite ?_ ?_
   | refine LeO.bind ?_ (fun _ => ?_)
set_option maxHeartbeats 8000000 in
set_option maxRecDepth 100000 in
theorem thwartref12_Name.calls (k : Nat) (a0 : Int) (r : ByteArray) (w : World) (h : thwartref12_Name.f k a0 = some r) :
  Calls Tryd.prog 21 #[.int .i64 a0] w fun e w' => e = .returned (.string r) ∧ Below w.heap.size w w' := by
 have HB:=Aside0.mk (Below.refl w.heap.size w)
 have H : (if a0 < 1 then (some (⟨#[]⟩ : ByteArray)) else (if a0 > 999999 then (some (⟨#[]⟩ : ByteArray)) else ((thwartref12_digits.f k a0).bind fun t223 => (if 1 + t223.size ≤ 9223372036854775807 then (some ((⟨#[109]⟩ : ByteArray) ++ t223)) else (none))))) = some r:=h
 clear h
 by_cases c2 : a0 < 1
 ·rw [if_pos c2] at H
  have c2b0 : decide (a0 < 1) = true:=decide_eq_true c2
  clear c2
  obtain rfl:=Option.some.inj H
  go_enter Tryd.func21,Tryd.ntmps21
  go_wp2
  go_ret
  exact ⟨by first | rfl | (simp [errW_none,errW_some] <;> rfl) | (simp [*,errW_none,errW_some] <;> rfl) | (simp [errW_none,errW_some];exact isEmpty_bne _),by repeat (first | (with_reducible first | exact HB.out | apply below_alloc | apply pw_below_drewN | apply below_drew1) | exact HB.out)⟩
 ·rw [if_neg c2] at H
  have c2b0 : decide (a0 < 1) = false:=decide_eq_false c2
  clear c2
  by_cases c3 : a0 > 999999
  ·rw [if_pos c3] at H
   have c3b0 : decide (999999 < a0) = true:=decide_eq_true c3
   clear c3
   obtain rfl:=Option.some.inj H
   go_enter Tryd.func21,Tryd.ntmps21
   go_wp2
   go_ret
   exact ⟨by first | rfl | (simp [errW_none,errW_some] <;> rfl) | (simp [*,errW_none,errW_some] <;> rfl) | (simp [errW_none,errW_some];exact isEmpty_bne _),by repeat (first | (with_reducible first | exact HB.out | apply below_alloc | apply pw_below_drewN | apply below_drew1) | exact HB.out)⟩
  ·rw [if_neg c3] at H
   have c3b0 : decide (999999 < a0) = false:=decide_eq_false c3
   clear c3
   replace H:=Option.bind_eq_some_iff.mp H
   obtain ⟨t223,A40,H⟩:=H
   replace H : (if 1 + t223.size ≤ 9223372036854775807 then (some ((⟨#[109]⟩ : ByteArray) ++ t223)) else (none)) = some r:=H
   have A4:=Aside0.mk A40
   clear A40
   by_cases c5 : 1 + t223.size ≤ 9223372036854775807
   ·rw [if_pos c5] at H
    have c5b0:=eq_true c5
    have c5b1 : decide (1 + t223.size ≤ 9223372036854775807) = true:=decide_eq_true c5
    try have c5b2 : (9223372036854775807 < 1 + t223.size) = False:=eq_false (Nat.not_lt.2 c5)
    obtain rfl:=Option.some.inj H
    go_enter Tryd.func21,Tryd.ntmps21
    go_wp2_with (first | ((with_reducible refine gate_callee (f:=39) rfl ?_);refine goesL_ (some 10) rfl rfl Tryd.func39 (by kernel_rfl) rfl #[.int .i64 a0] rfl (by (try simp only [List.map_toArray,List.map_cons,List.map_nil]);first | done | rfl | (simp only [List.length_drop,List.length_take];rfl)) ?_;(with_reducible refine (thwartref12_digits.calls k a0 t223 _ A4.out).mono ?_);rintro e w6 ⟨rfl,hb⟩;refine ⟨_,rfl,?_⟩;have n0_:=Aside0.mk (below_step (by repeat (first | (with_reducible first | exact HB.out | apply below_alloc | apply pw_below_drewN | apply below_drew1) | exact HB.out)) hb);clear HB;have HB:=n0_;clear n0_;(try clear hb);(try clear hb2);(try clear hk);(try clear hi)))
    go_ret
    exact ⟨by first | rfl | (simp [errW_none,errW_some] <;> rfl) | (simp [*,errW_none,errW_some] <;> rfl) | (simp [errW_none,errW_some];exact isEmpty_bne _),by repeat (first | (with_reducible first | exact HB.out | apply below_alloc | apply pw_below_drewN | apply below_drew1) | exact HB.out)⟩
   ·rw [if_neg c5] at H
    exact absurd H (by simp)

/-! ### thwartref12_Version: function 17 -/
def thwartref12_Version.l0 : Nat → ByteArray → Int → Int → Option (Int × Bool)
 | 0,_,_,_ => none
 | k + 1,x0,x4,x5 => if x5 < (x0.size : Int) then (if x5 < 7 then (if 0 ≤ x5 then (thwartref12_Version.l0 k x0 (wrap64 ((wrap64 ((wrap64 (10 * x4)) + (wrap64 (bt x0 x5)))) - 48)) (wrap64 (x5 + 1))) else (none)) else (if x0.toList = ([] : List UInt8) then (some (0,false)) else ((thwartref12_Name.f k x4).bind fun t224 => (if t224.toList = x0.toList then (some (x4,true)) else (some (0,false)))))) else (if x0.toList = ([] : List UInt8) then (some (0,false)) else ((thwartref12_Name.f k x4).bind fun t225 => (if t225.toList = x0.toList then (some (x4,true)) else (some (0,false)))))
def thwartref12_Version.f (k : Nat) (a0 : ByteArray) : Option (Int × Bool):=thwartref12_Version.l0 k a0 0 1
theorem thwartref12_Version.mono_l : ∀ k,(∀ y0 y1 y2,LeO (thwartref12_Version.l0 k y0 y1 y2) (thwartref12_Version.l0 (k + 1) y0 y1 y2))
 | 0 => fun _ _ _ r h => by simp [thwartref12_Version.l0] at h
 | k + 1 => by
  have ih0:=thwartref12_Version.mono_l k
  ·intro y0 y1 y2
   unfold thwartref12_Version.l0
   repeat' first
   | (with_reducible exact ih0 _ _ _)
   | (with_reducible exact thwartref12_Name.mono _ _)
   | (with_reducible exact LeO.refl _)
   | (with_reducible exact LeO.none _)
   | (with_reducible refine LeO.ite ?_ ?_)
   | (with_reducible refine LeO.bind ?_ (fun _ => ?_))
   | exact ih0 _ _ _
   | exact thwartref12_Name.mono _ _
   | exact LeO.none _
   | refine LeO.ite ?_ ?_
   | refine LeO.bind ?_ (fun _ => ?_)
theorem thwartref12_Version.mono : ∀ a0 k,LeO (thwartref12_Version.f k a0) (thwartref12_Version.f (k + 1) a0):=by
 intro a0 k
 have ih0:=thwartref12_Version.mono_l k
 unfold thwartref12_Version.f
 repeat' first
   | (with_reducible exact ih0 _ _ _)
   | (with_reducible exact thwartref12_Name.mono _ _)
   | (with_reducible exact LeO.refl _)
   | (with_reducible exact LeO.none _)
   | (with_reducible refine LeO.ite ?_ ?_)
   | (with_reducible refine LeO.bind ?_ (fun _ => ?_))
   | exact ih0 _ _ _
   | exact thwartref12_Name.mono _ _
   | exact LeO.none _
   | refine LeO.ite ?_ ?_
   | refine LeO.bind ?_ (fun _ => ?_)
set_option maxHeartbeats 8000000 in
set_option maxRecDepth 100000 in
theorem thwartref12_Version.calls (k : Nat) (a0 : ByteArray) (r1 : Int) (r2 : Bool) (w : World) (h : thwartref12_Version.f k a0 = some (r1,r2)) :
  Calls Tryd.prog 17 #[.string a0] w fun e w' => e = .returned (.tuple #[.int .i64 r1,.bool r2]) ∧ Below w.heap.size w w' := by
 have HB:=Aside0.mk (Below.refl w.heap.size w)
 have H : (thwartref12_Version.l0 k a0 0 1) = some (r1,r2):=h
 clear h
 have H' := Aside0.mk H
 clear H
 go_enter Tryd.func17,Tryd.ntmps17
 go_wp2
 go_loopg [4,5] k (fun kq v4 v5 w' => ∃ (x4_1 : Int) (x5_1 : Int),v4 = .int .i64 x4_1 ∧ v5 = .int .i64 x5_1 ∧ Aside0 (thwartref12_Version.l0 kq a0 x4_1 x5_1 = some (r1,r2)) ∧ Aside0 (kq ≤ k) ∧ Aside0 (Below w.heap.size w w'))
 case atStart => exact ⟨(0),(1),(by first | rfl | (simp;done) | (simp [*];done)),(by first | rfl | (simp;done) | (simp [*];done)),H',⟨Nat.le_refl _⟩,⟨by repeat (first | (with_reducible first | exact HB.out | apply below_alloc | apply pw_below_drewN | apply below_drew1) | exact HB.out)⟩⟩
 case round =>
  clear H'
  try clear c1
  obtain ⟨x4_1,x5_1,rfl,rfl,HA,HK1,HB⟩:=hrel
  cases gk with
  | zero => exact absurd HA.out (by simp [thwartref12_Version.l0])
  | succ k1 =>
   have H:=HA.out
   clear HA
   simp only [thwartref12_Version.l0] at H
   by_cases c2 : x5_1 < (a0.size : Int)
   ·rw [if_pos c2] at H
    have c2b0 : decide (x5_1 < (a0.size : Int)) = true:=decide_eq_true c2
    clear c2
    by_cases c3 : x5_1 < 7
    ·rw [if_pos c3] at H
     have c3b0 : decide (x5_1 < 7) = true:=decide_eq_true c3
     clear c3
     by_cases c4 : 0 ≤ x5_1
     ·rw [if_pos c4] at H
      have c4b0 : decide (0 ≤ x5_1) = true:=decide_eq_true c4
      clear c4
      have H' := Aside0.mk H
      clear H
      have p5 : 0 ≤ (x5_1 : Int):=of_decide_eq_true (by first | (with_reducible assumption) | assumption)
      have q5 : x5_1 < (a0.size : Int):=of_decide_eq_true (by first | (with_reducible assumption) | assumption)
      have hx5:=bt_at a0 x5_1
      replace p5:=eq_true p5
      replace q5:=eq_true q5
      go_wp2
      go_roundg k1
      case measure => have:=HK1.out;omega
      case rel => exact ⟨(wrap64 ((wrap64 ((wrap64 (10 * x4_1)) + (wrap64 (bt a0 x5_1)))) - 48)),(wrap64 (x5_1 + 1)),(by first | rfl | (simp;done) | (simp [*];done)),(by first | rfl | (simp;done) | (simp [*];done)),H',⟨by have:=HK1.out;omega⟩,⟨by repeat (first | (with_reducible first | exact HB.out | apply below_alloc | apply pw_below_drewN | apply below_drew1) | exact HB.out)⟩⟩
     ·rw [if_neg c4] at H
      exact absurd H (by simp)
    ·rw [if_neg c3] at H
     have c3b0 : decide (x5_1 < 7) = false:=decide_eq_false c3
     clear c3
     by_cases c6 : a0.toList = ([] : List UInt8)
     ·rw [if_pos c6] at H
      have c6b0 : (a0.toList == ([] : List UInt8)) = true:=beq_iff_eq.mpr c6
      have c6b1 : (a0.toList != ([] : List UInt8)) = false:=bne_eq_false_iff_eq.mpr c6
      clear c6
      simp only [Option.some.injEq,Prod.mk.injEq] at H
      obtain ⟨rfl,rfl⟩:=H
      go_wp2
      go_ret2
      exact ⟨by first | rfl | (simp [errW_none,errW_some] <;> rfl) | (simp [*,errW_none,errW_some] <;> rfl) | (simp [errW_none,errW_some];exact isEmpty_bne _),by repeat (first | (with_reducible first | exact HB.out | apply below_alloc | apply pw_below_drewN | apply below_drew1) | exact HB.out)⟩
     ·rw [if_neg c6] at H
      have c6b0 : (a0.toList == ([] : List UInt8)) = false:=beq_eq_false_iff_ne.mpr c6
      have c6b1 : (a0.toList != ([] : List UInt8)) = true:=bne_iff_ne.mpr c6
      replace H:=Option.bind_eq_some_iff.mp H
      obtain ⟨t224,A70,H⟩:=H
      replace H : (if t224.toList = a0.toList then (some (x4_1,true)) else (some (0,false))) = some (r1,r2):=H
      have A7:=Aside0.mk A70
      clear A70
      by_cases c8 : t224.toList = a0.toList
      ·rw [if_pos c8] at H
       have c8b0 : (t224.toList == a0.toList) = true:=beq_iff_eq.mpr c8
       have c8b1 : (t224.toList != a0.toList) = false:=bne_eq_false_iff_eq.mpr c8
       clear c8
       simp only [Option.some.injEq,Prod.mk.injEq] at H
       obtain ⟨rfl,rfl⟩:=H
       go_wp2_with (first | (go_at_call 21;(with_reducible refine (thwartref12_Name.calls k1 x4_1 t224 _ A7.out).mono ?_);rintro e w9 ⟨rfl,hb⟩;have n0_:=Aside0.mk (below_step (by repeat (first | (with_reducible first | exact HB.out | apply below_alloc | apply pw_below_drewN | apply below_drew1) | exact HB.out)) hb);clear HB;have HB:=n0_;clear n0_;(try clear hb);(try clear hb2);(try clear hk);(try clear hi)))
       go_ret2
       exact ⟨by first | rfl | (simp [errW_none,errW_some] <;> rfl) | (simp [*,errW_none,errW_some] <;> rfl) | (simp [errW_none,errW_some];exact isEmpty_bne _),by repeat (first | (with_reducible first | exact HB.out | apply below_alloc | apply pw_below_drewN | apply below_drew1) | exact HB.out)⟩
      ·rw [if_neg c8] at H
       have c8b0 : (t224.toList == a0.toList) = false:=beq_eq_false_iff_ne.mpr c8
       have c8b1 : (t224.toList != a0.toList) = true:=bne_iff_ne.mpr c8
       simp only [Option.some.injEq,Prod.mk.injEq] at H
       obtain ⟨rfl,rfl⟩:=H
       go_wp2_with (first | (go_at_call 21;(with_reducible refine (thwartref12_Name.calls k1 x4_1 t224 _ A7.out).mono ?_);rintro e w10 ⟨rfl,hb⟩;have n0_:=Aside0.mk (below_step (by repeat (first | (with_reducible first | exact HB.out | apply below_alloc | apply pw_below_drewN | apply below_drew1) | exact HB.out)) hb);clear HB;have HB:=n0_;clear n0_;(try clear hb);(try clear hb2);(try clear hk);(try clear hi)))
       go_ret2
       exact ⟨by first | rfl | (simp [errW_none,errW_some] <;> rfl) | (simp [*,errW_none,errW_some] <;> rfl) | (simp [errW_none,errW_some];exact isEmpty_bne _),by repeat (first | (with_reducible first | exact HB.out | apply below_alloc | apply pw_below_drewN | apply below_drew1) | exact HB.out)⟩
   ·rw [if_neg c2] at H
    have c2b0 : decide (x5_1 < (a0.size : Int)) = false:=decide_eq_false c2
    clear c2
    by_cases c11 : a0.toList = ([] : List UInt8)
    ·rw [if_pos c11] at H
     have c11b0 : (a0.toList == ([] : List UInt8)) = true:=beq_iff_eq.mpr c11
     have c11b1 : (a0.toList != ([] : List UInt8)) = false:=bne_eq_false_iff_eq.mpr c11
     clear c11
     simp only [Option.some.injEq,Prod.mk.injEq] at H
     obtain ⟨rfl,rfl⟩:=H
     go_wp2
     go_ret2
     exact ⟨by first | rfl | (simp [errW_none,errW_some] <;> rfl) | (simp [*,errW_none,errW_some] <;> rfl) | (simp [errW_none,errW_some];exact isEmpty_bne _),by repeat (first | (with_reducible first | exact HB.out | apply below_alloc | apply pw_below_drewN | apply below_drew1) | exact HB.out)⟩
    ·rw [if_neg c11] at H
     have c11b0 : (a0.toList == ([] : List UInt8)) = false:=beq_eq_false_iff_ne.mpr c11
     have c11b1 : (a0.toList != ([] : List UInt8)) = true:=bne_iff_ne.mpr c11
     replace H:=Option.bind_eq_some_iff.mp H
     obtain ⟨t225,A120,H⟩:=H
     replace H : (if t225.toList = a0.toList then (some (x4_1,true)) else (some (0,false))) = some (r1,r2):=H
     have A12:=Aside0.mk A120
     clear A120
     by_cases c13 : t225.toList = a0.toList
     ·rw [if_pos c13] at H
      have c13b0 : (t225.toList == a0.toList) = true:=beq_iff_eq.mpr c13
      have c13b1 : (t225.toList != a0.toList) = false:=bne_eq_false_iff_eq.mpr c13
      clear c13
      simp only [Option.some.injEq,Prod.mk.injEq] at H
      obtain ⟨rfl,rfl⟩:=H
      go_wp2_with (first | (go_at_call 21;(with_reducible refine (thwartref12_Name.calls k1 x4_1 t225 _ A12.out).mono ?_);rintro e w14 ⟨rfl,hb⟩;have n0_:=Aside0.mk (below_step (by repeat (first | (with_reducible first | exact HB.out | apply below_alloc | apply pw_below_drewN | apply below_drew1) | exact HB.out)) hb);clear HB;have HB:=n0_;clear n0_;(try clear hb);(try clear hb2);(try clear hk);(try clear hi)))
      go_ret2
      exact ⟨by first | rfl | (simp [errW_none,errW_some] <;> rfl) | (simp [*,errW_none,errW_some] <;> rfl) | (simp [errW_none,errW_some];exact isEmpty_bne _),by repeat (first | (with_reducible first | exact HB.out | apply below_alloc | apply pw_below_drewN | apply below_drew1) | exact HB.out)⟩
     ·rw [if_neg c13] at H
      have c13b0 : (t225.toList == a0.toList) = false:=beq_eq_false_iff_ne.mpr c13
      have c13b1 : (t225.toList != a0.toList) = true:=bne_iff_ne.mpr c13
      simp only [Option.some.injEq,Prod.mk.injEq] at H
      obtain ⟨rfl,rfl⟩:=H
      go_wp2_with (first | (go_at_call 21;(with_reducible refine (thwartref12_Name.calls k1 x4_1 t225 _ A12.out).mono ?_);rintro e w15 ⟨rfl,hb⟩;have n0_:=Aside0.mk (below_step (by repeat (first | (with_reducible first | exact HB.out | apply below_alloc | apply pw_below_drewN | apply below_drew1) | exact HB.out)) hb);clear HB;have HB:=n0_;clear n0_;(try clear hb);(try clear hb2);(try clear hk);(try clear hi)))
      go_ret2
      exact ⟨by first | rfl | (simp [errW_none,errW_some] <;> rfl) | (simp [*,errW_none,errW_some] <;> rfl) | (simp [errW_none,errW_some];exact isEmpty_bne _),by repeat (first | (with_reducible first | exact HB.out | apply below_alloc | apply pw_below_drewN | apply below_drew1) | exact HB.out)⟩

/-! ### thwartref12_Of: function 19 -/
def thwartref12_Of.f (k : Nat) (a0 : Int) (a1 : ByteArray) : Option (Int × Int × Int):=(thwartref02_Sum.f k a1).bind fun t227 => (some (a0,(a1.size : Int),t227))
theorem thwartref12_Of.mono : ∀ a0 a1 k,LeO (thwartref12_Of.f k a0 a1) (thwartref12_Of.f (k + 1) a0 a1):=by
 intro a0 a1 k
 unfold thwartref12_Of.f
 repeat' first
   | (with_reducible exact thwartref02_Sum.mono _ _)
   | (with_reducible exact LeO.refl _)
   | (with_reducible exact LeO.none _)
   | (with_reducible refine LeO.ite ?_ ?_)
   | (with_reducible refine LeO.bind ?_ (fun _ => ?_))
   | exact thwartref02_Sum.mono _ _
   | exact LeO.none _
   | refine LeO.ite ?_ ?_
   | refine LeO.bind ?_ (fun _ => ?_)
set_option maxHeartbeats 8000000 in
set_option maxRecDepth 100000 in
theorem thwartref12_Of.calls (k : Nat) (a0 : Int) (a1 : ByteArray) (r1 : Int) (r2 : Int) (r3 : Int) (w : World) (h : thwartref12_Of.f k a0 a1 = some (r1,r2,r3)) :
  Calls Tryd.prog 19 #[.int .i64 a0,.string a1] w fun e w' => e = .returned (.agg #[.int .i64 r1,.int .i64 r2,.int .u32 r3]) ∧ Below w.heap.size w w' := by
 have hu48:=Tryd.underlying48
 have HB:=Aside0.mk (Below.refl w.heap.size w)
 have H : ((thwartref02_Sum.f k a1).bind fun t227 => (some (a0,(a1.size : Int),t227))) = some (r1,r2,r3):=h
 clear h
 replace H:=Option.bind_eq_some_iff.mp H
 obtain ⟨t227,A30,H⟩:=H
 replace H : (some (a0,(a1.size : Int),t227)) = some (r1,r2,r3):=H
 have A3:=Aside0.mk A30
 clear A30
 simp only [Option.some.injEq,Prod.mk.injEq] at H
 obtain ⟨rfl,rfl,rfl⟩:=H
 go_enter Tryd.func19,Tryd.ntmps19
 go_wp2_with (first | ((with_reducible refine gate_dst (N:=4) rfl ?_);refine box_event ?hg (N:=4) ?hd (cs := #[.int .i64 0,.int .i64 0,.int .u32 0]) (t:=48) ?hr ?_;(case hd => rfl);(case hg => rfl);(case hr => first | (go_simp;done) | (go_simp;rfl));intro gb226 hg w4 hbox hb;have n0_:=Aside0.mk (below_step (by repeat (first | (with_reducible first | exact HB.out | apply below_alloc | apply pw_below_drewN | apply below_drew1) | exact HB.out)) hb);have n1_:=Aside0.mk (hbox);have n2_:=Aside0.mk ((by rw [hg];exact (below_size (by repeat (first | (with_reducible first | exact HB.out | apply below_alloc | apply pw_below_drewN | apply below_drew1) | exact HB.out))) : w.heap.size ≤ gb226));have n3_:=Aside0.mk ((by rw [hg];exact (below_size (by repeat (first | (with_reducible first | exact HB.out | apply below_alloc | apply pw_below_drewN | apply below_drew1) | exact HB.out))) : w.heap.size ≤ gb226));clear HB;have HB:=n0_;have BK226:=n1_;have GW226:=n2_;have GE226:=n3_;clear n0_ n1_ n2_ n3_;clear hb hbox hg) | ((with_reducible refine gate_callee (f:=37) rfl ?_);refine goesL_ (some 9) rfl rfl Tryd.func37 (by kernel_rfl) rfl #[.string a1] rfl (by (try simp only [List.map_toArray,List.map_cons,List.map_nil]);first | done | rfl | (simp only [List.length_drop,List.length_take];rfl)) ?_;(with_reducible refine (thwartref02_Sum.calls k a1 t227 _ A3.out).mono ?_);rintro e w' ⟨rfl,⟨nd,rfl⟩⟩;refine ⟨_,rfl,?_⟩;(try (rw [drewN_self w4];generalize hq_ : World.drewN w4 _ = w4;have n0_ : Aside0 (w4.heap[gb226]? = some (.cells #[.int .i64 0,.int .i64 0,.int .u32 0] 48 (0,0))):=⟨by rw [← hq_];exact (by (with_reducible repeat (first | refine blk_drewN ?_ _ | refine blk_drew ?_ | refine blk_alloc ?_ _));exact BK226.out)⟩;have n1_ : Aside0 (Below w.heap.size w w4):=⟨by rw [← hq_];exact (by repeat (first | (with_reducible first | exact HB.out | apply below_alloc | apply pw_below_drewN | apply below_drew1 | refine below_set ?_ GE226.out) | exact HB.out))⟩;clear BK226 HB hq_;have BK226:=n0_;have HB:=n1_;clear n0_ n1_));have hcz5_0 : w4.cell? ⟨gb226,0,none⟩ = some (.int .i64 0):=(blk_cell BK226.out 0).trans rfl;have hcz5_1 : w4.cell? ⟨gb226,1,none⟩ = some (.int .i64 0):=(blk_cell BK226.out 1).trans rfl;have hcz5_2 : w4.cell? ⟨gb226,2,none⟩ = some (.int .u32 0):=(blk_cell BK226.out 2).trans rfl;have hfz5_0:=blk_frozen BK226.out 0;have hfz5_1:=blk_frozen BK226.out 1;have hfz5_2:=blk_frozen BK226.out 2))
 refine bodyPost_ret (results_cell_row rfl _ _ gb226 48 #[.int .i64 a0,.int .i64 (a1.size : Int),.int .u32 t227] (0,0) _ rfl (by (with_reducible repeat (first | refine blk_drewN ?_ _ | refine blk_drew ?_ | refine blk_alloc ?_ _));refine blk_put (cs := #[.int .i64 a0,.int .i64 (a1.size : Int),.int .u32 0]) ?_ 2 _ rfl;(with_reducible repeat (first | refine blk_drewN ?_ _ | refine blk_drew ?_ | refine blk_alloc ?_ _));refine blk_put (cs := #[.int .i64 a0,.int .i64 0,.int .u32 0]) ?_ 1 _ rfl;(with_reducible repeat (first | refine blk_drewN ?_ _ | refine blk_drew ?_ | refine blk_alloc ?_ _));refine blk_put (cs := #[.int .i64 0,.int .i64 0,.int .u32 0]) ?_ 0 _ rfl;(with_reducible repeat (first | refine blk_drewN ?_ _ | refine blk_drew ?_ | refine blk_alloc ?_ _));exact BK226.out) Tryd.underlying48 rfl (by kernel_rfl)) rfl ?_
 exact ⟨by first | rfl | (simp [errW_none,errW_some] <;> rfl) | (simp [*,errW_none,errW_some] <;> rfl) | (simp [errW_none,errW_some];exact isEmpty_bne _),by repeat (first | (with_reducible first | exact HB.out | apply below_alloc | apply pw_below_drewN | apply below_drew1 | refine below_set ?_ GE226.out) | exact HB.out)⟩

/-! ### thwartref12_Object: function 23 -/
def thwartref12_Object.f (k : Nat) (a0 : Int) : Option (ByteArray):=if a0 < 0 then (some (⟨#[]⟩ : ByteArray)) else (if a0 > 999999 then (some (⟨#[]⟩ : ByteArray)) else ((thwartref12_digits.f k a0).bind fun t228 => (if 1 + t228.size ≤ 9223372036854775807 then (some ((⟨#[111]⟩ : ByteArray) ++ t228)) else (none))))
theorem thwartref12_Object.mono : ∀ a0 k,LeO (thwartref12_Object.f k a0) (thwartref12_Object.f (k + 1) a0):=by
 intro a0 k
 unfold thwartref12_Object.f
 repeat' first
   | (with_reducible exact thwartref12_digits.mono _ _)
   | (with_reducible exact LeO.refl _)
   | (with_reducible exact LeO.none _)
   | (with_reducible refine LeO.ite ?_ ?_)
   | (with_reducible refine LeO.bind ?_ (fun _ => ?_))
   | exact thwartref12_digits.mono _ _
   | exact LeO.none _
   | refine LeO.ite ?_ ?_
   | refine LeO.bind ?_ (fun _ => ?_)
set_option maxHeartbeats 8000000 in
set_option maxRecDepth 100000 in
theorem thwartref12_Object.calls (k : Nat) (a0 : Int) (r : ByteArray) (w : World) (h : thwartref12_Object.f k a0 = some r) :
  Calls Tryd.prog 23 #[.int .i64 a0] w fun e w' => e = .returned (.string r) ∧ Below w.heap.size w w' := by
 have HB:=Aside0.mk (Below.refl w.heap.size w)
 have H : (if a0 < 0 then (some (⟨#[]⟩ : ByteArray)) else (if a0 > 999999 then (some (⟨#[]⟩ : ByteArray)) else ((thwartref12_digits.f k a0).bind fun t228 => (if 1 + t228.size ≤ 9223372036854775807 then (some ((⟨#[111]⟩ : ByteArray) ++ t228)) else (none))))) = some r:=h
 clear h
 by_cases c2 : a0 < 0
 ·rw [if_pos c2] at H
  have c2b0 : decide (a0 < 0) = true:=decide_eq_true c2
  clear c2
  obtain rfl:=Option.some.inj H
  go_enter Tryd.func23,Tryd.ntmps23
  go_wp2
  go_ret
  exact ⟨by first | rfl | (simp [errW_none,errW_some] <;> rfl) | (simp [*,errW_none,errW_some] <;> rfl) | (simp [errW_none,errW_some];exact isEmpty_bne _),by repeat (first | (with_reducible first | exact HB.out | apply below_alloc | apply pw_below_drewN | apply below_drew1) | exact HB.out)⟩
 ·rw [if_neg c2] at H
  have c2b0 : decide (a0 < 0) = false:=decide_eq_false c2
  clear c2
  by_cases c3 : a0 > 999999
  ·rw [if_pos c3] at H
   have c3b0 : decide (999999 < a0) = true:=decide_eq_true c3
   clear c3
   obtain rfl:=Option.some.inj H
   go_enter Tryd.func23,Tryd.ntmps23
   go_wp2
   go_ret
   exact ⟨by first | rfl | (simp [errW_none,errW_some] <;> rfl) | (simp [*,errW_none,errW_some] <;> rfl) | (simp [errW_none,errW_some];exact isEmpty_bne _),by repeat (first | (with_reducible first | exact HB.out | apply below_alloc | apply pw_below_drewN | apply below_drew1) | exact HB.out)⟩
  ·rw [if_neg c3] at H
   have c3b0 : decide (999999 < a0) = false:=decide_eq_false c3
   clear c3
   replace H:=Option.bind_eq_some_iff.mp H
   obtain ⟨t228,A40,H⟩:=H
   replace H : (if 1 + t228.size ≤ 9223372036854775807 then (some ((⟨#[111]⟩ : ByteArray) ++ t228)) else (none)) = some r:=H
   have A4:=Aside0.mk A40
   clear A40
   by_cases c5 : 1 + t228.size ≤ 9223372036854775807
   ·rw [if_pos c5] at H
    have c5b0:=eq_true c5
    have c5b1 : decide (1 + t228.size ≤ 9223372036854775807) = true:=decide_eq_true c5
    try have c5b2 : (9223372036854775807 < 1 + t228.size) = False:=eq_false (Nat.not_lt.2 c5)
    obtain rfl:=Option.some.inj H
    go_enter Tryd.func23,Tryd.ntmps23
    go_wp2_with (first | ((with_reducible refine gate_callee (f:=39) rfl ?_);refine goesL_ (some 10) rfl rfl Tryd.func39 (by kernel_rfl) rfl #[.int .i64 a0] rfl (by (try simp only [List.map_toArray,List.map_cons,List.map_nil]);first | done | rfl | (simp only [List.length_drop,List.length_take];rfl)) ?_;(with_reducible refine (thwartref12_digits.calls k a0 t228 _ A4.out).mono ?_);rintro e w6 ⟨rfl,hb⟩;refine ⟨_,rfl,?_⟩;have n0_:=Aside0.mk (below_step (by repeat (first | (with_reducible first | exact HB.out | apply below_alloc | apply pw_below_drewN | apply below_drew1) | exact HB.out)) hb);clear HB;have HB:=n0_;clear n0_;(try clear hb);(try clear hb2);(try clear hk);(try clear hi)))
    go_ret
    exact ⟨by first | rfl | (simp [errW_none,errW_some] <;> rfl) | (simp [*,errW_none,errW_some] <;> rfl) | (simp [errW_none,errW_some];exact isEmpty_bne _),by repeat (first | (with_reducible first | exact HB.out | apply below_alloc | apply pw_below_drewN | apply below_drew1) | exact HB.out)⟩
   ·rw [if_neg c5] at H
    exact absurd H (by simp)

-- NOT PRINTED: function 4 (thwartlaw12_ManifestNames)

-- NOT PRINTED: function 5 (thwartlaw12_ManifestBack)

-- NOT PRINTED: function 6 (thwartlaw12_ManifestOrder)

end Go.Proofs.YtgampcbjmdgciaaDoor.Print
