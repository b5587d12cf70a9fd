/- Written by a program of mine (give.py, over the kit's print) out of the translation: contracts of the Go functions. Lean checks it. -/
import Derived.Test.YtgampcbjmdgciaaDoorPrint0
namespace Go.Proofs.YtgampcbjmdgciaaDoor.Print
open Go.RowKit Go.Proofs.YtgampcbjmdgciaaDoorW.PrintWords Go.Proofs.YtgampcbjmdgciaaDoorW.PrintLast Go.Proofs.YtgampcbjmdgciaaDoorW.PrintMore
attribute [local go_sem] max2_int min2_int max_two min_two max_three min_three max_four min_four   -- for this text's walks alone
set_option linter.unusedVariables false
set_option linter.unusedSimpArgs false

/-! ### thwartref12_Right: function 15 -/
def thwartref12_Right.l0 : Nat → Int → Int → List (S48) → Option (Bool)
 | 0,_,_,_ => none
 | k + 1,x3,x159000,x159001 => if x3 < (x159001.length : Int) then (if 0 ≤ x3 then (if ((rd_T48 x159001 x3).f0) < 0 then (some false) else (if ((rd_T48 x159001 x3).f0) > 999999 then (some false) else (if ((rd_T48 x159001 x3).f1) < 0 then (some false) else (if ((rd_T48 x159001 x3).f1) > 1048576 then (some false) else (if x3 > 0 then (if 0 ≤ (wrap64 (x3 - 1)) then (if (wrap64 (x3 - 1)) < (x159001.length : Int) then (if ((rd_T48 x159001 (wrap64 (x3 - 1))).f0) ≥ ((rd_T48 x159001 x3).f0) then (some false) else (thwartref12_Right.l0 k (wrap64 (x3 + 1)) x159000 x159001)) else (none)) else (none)) else (thwartref12_Right.l0 k (wrap64 (x3 + 1)) x159000 x159001)))))) else (none)) else (if x159000 ≥ 1 then (if x159000 ≤ 999999 then (some (decide ((x159001.length : Int) ≤ 200))) else (some false)) else (some false))
def thwartref12_Right.f (k : Nat) (a0_0 : Int) (l0_1 : List (S48)) : Option (Bool):=thwartref12_Right.l0 k 0 a0_0 l0_1
theorem thwartref12_Right.mono_l : ∀ k,(∀ y0 y1 y2,LeO (thwartref12_Right.l0 k y0 y1 y2) (thwartref12_Right.l0 (k + 1) y0 y1 y2))
 | 0 => fun _ _ _ r h => by simp [thwartref12_Right.l0] at h
 | k + 1 => by
  have ih0:=thwartref12_Right.mono_l k
  ·intro y0 y1 y2
   unfold thwartref12_Right.l0
   repeat' first
   | (with_reducible exact ih0 _ _ _)
   | (with_reducible exact LeO.refl _)
   | (with_reducible exact LeO.none _)
   | (with_reducible refine LeO.ite ?_ ?_)
   | (with_reducible refine LeO.bind ?_ (fun _ => ?_))
   | exact ih0 _ _ _
   | exact LeO.none _
   | refine LeO.ite ?_ ?_
   | refine LeO.bind ?_ (fun _ => ?_)
theorem thwartref12_Right.mono : ∀ a0 a1 k,LeO (thwartref12_Right.f k a0 a1) (thwartref12_Right.f (k + 1) a0 a1):=by
 intro a0 a1 k
 have ih0:=thwartref12_Right.mono_l k
 unfold thwartref12_Right.f
 repeat' first
   | (with_reducible exact ih0 _ _ _)
   | (with_reducible exact LeO.refl _)
   | (with_reducible exact LeO.none _)
   | (with_reducible refine LeO.ite ?_ ?_)
   | (with_reducible refine LeO.bind ?_ (fun _ => ?_))
   | exact ih0 _ _ _
   | exact LeO.none _
   | refine LeO.ite ?_ ?_
   | refine LeO.bind ?_ (fun _ => ?_)
set_option maxHeartbeats 8000000 in
set_option maxRecDepth 100000 in
theorem thwartref12_Right.calls (k : Nat) (a0_0 : Int) (A0_1 : Option Addr) (c0_1 : Nat) (l0_1 : List (S48)) (r : Bool) (w : World) (hr0_1 : Kd.C k48 w A0_1 l0_1.length l0_1) (hc0_1 : l0_1.length ≤ c0_1) (h : thwartref12_Right.f k a0_0 l0_1 = some r) :
  Calls Tryd.prog 15 #[.agg #[.int .i64 a0_0,.slice A0_1 l0_1.length c0_1]] w fun e w' => e = .returned (.bool r) ∧ Below w.heap.size w w' := by
 have hu32:=Tryd.underlying32
 have hu48:=Tryd.underlying48
 have HR0_1:=Aside0.mk hr0_1
 have HC0_1:=Aside0.mk hc0_1
 clear hr0_1 hc0_1
 have HB:=Aside0.mk (Below.refl w.heap.size w)
 have H : (thwartref12_Right.l0 k 0 a0_0 l0_1) = some r:=h
 clear h
 have H' := Aside0.mk H
 clear H
 go_enter Tryd.func15,Tryd.ntmps15
 go_wp2_with (first | ((with_reducible refine gate_dst (N:=1) rfl ?_);(try (refine gate_guard (by rfl) ?_;dsimp only));refine box_event ?hg (N:=1) ?hd (cs := #[.int .i64 a0_0,.slice A0_1 l0_1.length c0_1]) (t:=32) ?hr ?_;(case hd => rfl);(case hg => rfl);(case hr => first | (go_simp;done) | (go_simp;rfl));intro gb158 hg w2 hbox hb;have n0_:=Aside0.mk (below_step (by repeat (first | (with_reducible first | exact HB.out | apply below_alloc | apply pw_below_drewN | apply below_drew1) | exact HB.out)) hb);have n1_:=Aside0.mk (hbox);have n2_:=Aside0.mk ((by rw [hg];exact (below_size (by repeat (first | (with_reducible first | exact HB.out | apply below_alloc | apply pw_below_drewN | apply below_drew1) | exact HB.out))) : w.heap.size ≤ gb158));have n3_:=Aside0.mk ((by rw [hg];exact (below_size (by repeat (first | (with_reducible first | exact HB.out | apply below_alloc | apply pw_below_drewN | apply below_drew1) | exact HB.out))) : w.heap.size ≤ gb158));clear HB;have HB:=n0_;have BK158:=n1_;have GW158:=n2_;have GE158:=n3_;clear n0_ n1_ n2_ n3_;clear hb hbox hg))
 repeat (go_quiet (first | ((with_reducible refine gate_dst (N:=1) rfl ?_);(try (refine gate_guard (by rfl) ?_;dsimp only));refine box_event ?hg (N:=1) ?hd (cs := #[.int .i64 a0_0,.slice A0_1 l0_1.length c0_1]) (t:=32) ?hr ?_;(case hd => rfl);(case hg => rfl);(case hr => first | (go_simp;done) | (go_simp;rfl));intro gb158 hg w2 hbox hb;have n0_:=Aside0.mk (below_step (by repeat (first | (with_reducible first | exact HB.out | apply below_alloc | apply pw_below_drewN | apply below_drew1) | exact HB.out)) hb);have n1_:=Aside0.mk (hbox);have n2_:=Aside0.mk ((by rw [hg];exact (below_size (by repeat (first | (with_reducible first | exact HB.out | apply below_alloc | apply pw_below_drewN | apply below_drew1) | exact HB.out))) : w.heap.size ≤ gb158));have n3_:=Aside0.mk ((by rw [hg];exact (below_size (by repeat (first | (with_reducible first | exact HB.out | apply below_alloc | apply pw_below_drewN | apply below_drew1) | exact HB.out))) : w.heap.size ≤ gb158));clear HB;have HB:=n0_;have BK158:=n1_;have GW158:=n2_;have GE158:=n3_;clear n0_ n1_ n2_ n3_;clear hb hbox hg));try go_wp2_with (first | ((with_reducible refine gate_dst (N:=1) rfl ?_);(try (refine gate_guard (by rfl) ?_;dsimp only));refine box_event ?hg (N:=1) ?hd (cs := #[.int .i64 a0_0,.slice A0_1 l0_1.length c0_1]) (t:=32) ?hr ?_;(case hd => rfl);(case hg => rfl);(case hr => first | (go_simp;done) | (go_simp;rfl));intro gb158 hg w2 hbox hb;have n0_:=Aside0.mk (below_step (by repeat (first | (with_reducible first | exact HB.out | apply below_alloc | apply pw_below_drewN | apply below_drew1) | exact HB.out)) hb);have n1_:=Aside0.mk (hbox);have n2_:=Aside0.mk ((by rw [hg];exact (below_size (by repeat (first | (with_reducible first | exact HB.out | apply below_alloc | apply pw_below_drewN | apply below_drew1) | exact HB.out))) : w.heap.size ≤ gb158));have n3_:=Aside0.mk ((by rw [hg];exact (below_size (by repeat (first | (with_reducible first | exact HB.out | apply below_alloc | apply pw_below_drewN | apply below_drew1) | exact HB.out))) : w.heap.size ≤ gb158));clear HB;have HB:=n0_;have BK158:=n1_;have GW158:=n2_;have GE158:=n3_;clear n0_ n1_ n2_ n3_;clear hb hbox hg)))
 go_loopg [3] k (fun kq v3 w' => ∃ (x3_1 : Int),v3 = .int .i64 x3_1 ∧ Aside0 (thwartref12_Right.l0 kq x3_1 a0_0 l0_1 = some r) ∧ Aside0 (kq ≤ k) ∧ Aside0 (w'.heap[gb158]? = some (.cells #[.int .i64 a0_0,(.slice A0_1 l0_1.length c0_1)] 32 (0,0))) ∧ Aside0 (Below w.heap.size w w'))
 case atStart => exact ⟨(0),(by first | rfl | (simp;done) | (simp [*];done)),H',⟨Nat.le_refl _⟩,⟨by (with_reducible repeat (first | refine blk_drewN ?_ _ | refine blk_drew ?_ | refine blk_alloc ?_ _));exact BK158.out⟩,⟨by repeat (first | (with_reducible first | exact HB.out | apply below_alloc | apply pw_below_drewN | apply below_drew1 | refine below_set ?_ GE158.out) | exact HB.out)⟩⟩
 case round =>
  clear H'
  try clear c1
  try clear p2
  obtain ⟨x3_1,rfl,HA,HK1,BK158,HB⟩:=hrel
  cases gk with
  | zero => exact absurd HA.out (by simp [thwartref12_Right.l0])
  | succ k1 =>
   have H:=HA.out
   clear HA
   simp only [thwartref12_Right.l0] at H
   by_cases c3 : x3_1 < (l0_1.length : Int)
   ·rw [if_pos c3] at H
    have c3b0 : decide (x3_1 < (l0_1.length : Int)) = true:=decide_eq_true c3
    clear c3
    by_cases c4 : 0 ≤ x3_1
    ·rw [if_pos c4] at H
     have c4b0 : decide (0 ≤ x3_1) = true:=decide_eq_true c4
     clear c4
     by_cases c5 : ((rd_T48 l0_1 x3_1).f0) < 0
     ·rw [if_pos c5] at H
      have c5b0 : decide (((rd_T48 l0_1 x3_1).f0) < 0) = true:=decide_eq_true c5
      clear c5
      obtain rfl:=Option.some.inj H
      have hcz6_0 : wr.cell? ⟨gb158,0,none⟩ = some (.int .i64 a0_0):=(blk_cell BK158.out 0).trans rfl
      have hcz6_1 : wr.cell? ⟨gb158,1,none⟩ = some (.slice A0_1 l0_1.length c0_1):=(blk_cell BK158.out 1).trans rfl
      have hfz6_0:=blk_frozen BK158.out 0
      have hfz6_1:=blk_frozen BK158.out 1
      have p159 : 0 ≤ (x3_1 : Int):=of_decide_eq_true (by first | (with_reducible assumption) | assumption)
      have q159 : x3_1 < (l0_1.length : Int):=of_decide_eq_true (by first | (with_reducible assumption) | assumption)
      obtain ⟨ad159,e159,hx159_0,hx159_1,hx159_2⟩:=at_T48 HR0_1.out x3_1 p159 q159
      cases e159
      replace hx159_0:=(HB.out.cell (World.block_lt_of_cell? w _ hx159_0)).trans hx159_0
      replace hx159_1:=(HB.out.cell (World.block_lt_of_cell? w _ hx159_1)).trans hx159_1
      replace hx159_2:=(HB.out.cell (World.block_lt_of_cell? w _ hx159_2)).trans hx159_2
      replace p159:=eq_true p159
      replace q159:=eq_true q159
      go_wp2_with (first | ((with_reducible refine gate_dst (N:=4) rfl ?_);(try (refine gate_guard (by rfl) ?_;dsimp only));refine box_event ?hg (N:=4) ?hd (cs := #[.int .i64 0,.int .i64 0,.int .u32 0]) (t:=48) ?hr ?_;(case hd => rfl);(case hg => rfl);(case hr => first | (go_simp;done) | (go_simp;rfl));intro gb160 hg w7 hbox hb;have n0_:=Aside0.mk (blk_below (g:=gb158) (o := .cells #[.int .i64 a0_0,.slice (some ad159) l0_1.length c0_1] 32 (0,0)) (by (with_reducible repeat (first | refine blk_drewN ?_ _ | refine blk_drew ?_ | refine blk_alloc ?_ _));exact BK158.out) hb);have n1_:=Aside0.mk (below_step (by repeat (first | (with_reducible first | exact HB.out | apply below_alloc | apply pw_below_drewN | apply below_drew1 | refine below_set ?_ GE158.out) | exact HB.out)) hb);have n2_:=Aside0.mk (hbox);have n3_:=Aside0.mk ((by rw [hg];exact (below_size (by repeat (first | (with_reducible first | exact HB.out | apply below_alloc | apply pw_below_drewN | apply below_drew1 | refine below_set ?_ GE158.out) | exact HB.out))) : w.heap.size ≤ gb160));have n4_:=Aside0.mk ((by rw [hg];exact (below_size (by repeat (first | (with_reducible first | exact HB.out | apply below_alloc | apply pw_below_drewN | apply below_drew1 | refine below_set ?_ GE158.out) | exact HB.out))) : w.heap.size ≤ gb160));have n5_:=Aside0.mk ((by rw [hg];exact Nat.ne_of_lt (blk_lt (g:=gb158) (o := .cells #[.int .i64 a0_0,.slice (some ad159) l0_1.length c0_1] 32 (0,0)) (by (with_reducible repeat (first | refine blk_drewN ?_ _ | refine blk_drew ?_ | refine blk_alloc ?_ _));exact BK158.out)) : gb158 ≠ gb160));have n6_:=Aside0.mk ((by rw [hg];exact Nat.ne_of_gt (blk_lt (g:=gb158) (o := .cells #[.int .i64 a0_0,.slice (some ad159) l0_1.length c0_1] 32 (0,0)) (by (with_reducible repeat (first | refine blk_drewN ?_ _ | refine blk_drew ?_ | refine blk_alloc ?_ _));exact BK158.out)) : gb160 ≠ gb158));clear BK158;clear HB;have BK158:=n0_;have HB:=n1_;have BK160:=n2_;have GW160:=n3_;have GE160:=n4_;have NB158_160:=n5_;have NB160_158:=n6_;clear n0_ n1_ n2_ n3_ n4_ n5_ n6_;clear hb hbox hg;have hnb8:=NB160_158.out;have hnc8:=NB158_160.out;have hcz9_0 : w7.cell? ⟨gb160,0,none⟩ = some (.int .i64 0):=(blk_cell BK160.out 0).trans rfl;have hcz9_1 : w7.cell? ⟨gb160,1,none⟩ = some (.int .i64 0):=(blk_cell BK160.out 1).trans rfl;have hcz9_2 : w7.cell? ⟨gb160,2,none⟩ = some (.int .u32 0):=(blk_cell BK160.out 2).trans rfl;have hfz9_0:=blk_frozen BK160.out 0;have hfz9_1:=blk_frozen BK160.out 1;have hfz9_2:=blk_frozen BK160.out 2))
      repeat (go_quiet (first | ((with_reducible refine gate_dst (N:=4) rfl ?_);(try (refine gate_guard (by rfl) ?_;dsimp only));refine box_event ?hg (N:=4) ?hd (cs := #[.int .i64 0,.int .i64 0,.int .u32 0]) (t:=48) ?hr ?_;(case hd => rfl);(case hg => rfl);(case hr => first | (go_simp;done) | (go_simp;rfl));intro gb160 hg w7 hbox hb;have n0_:=Aside0.mk (blk_below (g:=gb158) (o := .cells #[.int .i64 a0_0,.slice (some ad159) l0_1.length c0_1] 32 (0,0)) (by (with_reducible repeat (first | refine blk_drewN ?_ _ | refine blk_drew ?_ | refine blk_alloc ?_ _));exact BK158.out) hb);have n1_:=Aside0.mk (below_step (by repeat (first | (with_reducible first | exact HB.out | apply below_alloc | apply pw_below_drewN | apply below_drew1 | refine below_set ?_ GE158.out) | exact HB.out)) hb);have n2_:=Aside0.mk (hbox);have n3_:=Aside0.mk ((by rw [hg];exact (below_size (by repeat (first | (with_reducible first | exact HB.out | apply below_alloc | apply pw_below_drewN | apply below_drew1 | refine below_set ?_ GE158.out) | exact HB.out))) : w.heap.size ≤ gb160));have n4_:=Aside0.mk ((by rw [hg];exact (below_size (by repeat (first | (with_reducible first | exact HB.out | apply below_alloc | apply pw_below_drewN | apply below_drew1 | refine below_set ?_ GE158.out) | exact HB.out))) : w.heap.size ≤ gb160));have n5_:=Aside0.mk ((by rw [hg];exact Nat.ne_of_lt (blk_lt (g:=gb158) (o := .cells #[.int .i64 a0_0,.slice (some ad159) l0_1.length c0_1] 32 (0,0)) (by (with_reducible repeat (first | refine blk_drewN ?_ _ | refine blk_drew ?_ | refine blk_alloc ?_ _));exact BK158.out)) : gb158 ≠ gb160));have n6_:=Aside0.mk ((by rw [hg];exact Nat.ne_of_gt (blk_lt (g:=gb158) (o := .cells #[.int .i64 a0_0,.slice (some ad159) l0_1.length c0_1] 32 (0,0)) (by (with_reducible repeat (first | refine blk_drewN ?_ _ | refine blk_drew ?_ | refine blk_alloc ?_ _));exact BK158.out)) : gb160 ≠ gb158));clear BK158;clear HB;have BK158:=n0_;have HB:=n1_;have BK160:=n2_;have GW160:=n3_;have GE160:=n4_;have NB158_160:=n5_;have NB160_158:=n6_;clear n0_ n1_ n2_ n3_ n4_ n5_ n6_;clear hb hbox hg;have hnb8:=NB160_158.out;have hnc8:=NB158_160.out;have hcz9_0 : w7.cell? ⟨gb160,0,none⟩ = some (.int .i64 0):=(blk_cell BK160.out 0).trans rfl;have hcz9_1 : w7.cell? ⟨gb160,1,none⟩ = some (.int .i64 0):=(blk_cell BK160.out 1).trans rfl;have hcz9_2 : w7.cell? ⟨gb160,2,none⟩ = some (.int .u32 0):=(blk_cell BK160.out 2).trans rfl;have hfz9_0:=blk_frozen BK160.out 0;have hfz9_1:=blk_frozen BK160.out 1;have hfz9_2:=blk_frozen BK160.out 2));try go_wp2_with (first | ((with_reducible refine gate_dst (N:=4) rfl ?_);(try (refine gate_guard (by rfl) ?_;dsimp only));refine box_event ?hg (N:=4) ?hd (cs := #[.int .i64 0,.int .i64 0,.int .u32 0]) (t:=48) ?hr ?_;(case hd => rfl);(case hg => rfl);(case hr => first | (go_simp;done) | (go_simp;rfl));intro gb160 hg w7 hbox hb;have n0_:=Aside0.mk (blk_below (g:=gb158) (o := .cells #[.int .i64 a0_0,.slice (some ad159) l0_1.length c0_1] 32 (0,0)) (by (with_reducible repeat (first | refine blk_drewN ?_ _ | refine blk_drew ?_ | refine blk_alloc ?_ _));exact BK158.out) hb);have n1_:=Aside0.mk (below_step (by repeat (first | (with_reducible first | exact HB.out | apply below_alloc | apply pw_below_drewN | apply below_drew1 | refine below_set ?_ GE158.out) | exact HB.out)) hb);have n2_:=Aside0.mk (hbox);have n3_:=Aside0.mk ((by rw [hg];exact (below_size (by repeat (first | (with_reducible first | exact HB.out | apply below_alloc | apply pw_below_drewN | apply below_drew1 | refine below_set ?_ GE158.out) | exact HB.out))) : w.heap.size ≤ gb160));have n4_:=Aside0.mk ((by rw [hg];exact (below_size (by repeat (first | (with_reducible first | exact HB.out | apply below_alloc | apply pw_below_drewN | apply below_drew1 | refine below_set ?_ GE158.out) | exact HB.out))) : w.heap.size ≤ gb160));have n5_:=Aside0.mk ((by rw [hg];exact Nat.ne_of_lt (blk_lt (g:=gb158) (o := .cells #[.int .i64 a0_0,.slice (some ad159) l0_1.length c0_1] 32 (0,0)) (by (with_reducible repeat (first | refine blk_drewN ?_ _ | refine blk_drew ?_ | refine blk_alloc ?_ _));exact BK158.out)) : gb158 ≠ gb160));have n6_:=Aside0.mk ((by rw [hg];exact Nat.ne_of_gt (blk_lt (g:=gb158) (o := .cells #[.int .i64 a0_0,.slice (some ad159) l0_1.length c0_1] 32 (0,0)) (by (with_reducible repeat (first | refine blk_drewN ?_ _ | refine blk_drew ?_ | refine blk_alloc ?_ _));exact BK158.out)) : gb160 ≠ gb158));clear BK158;clear HB;have BK158:=n0_;have HB:=n1_;have BK160:=n2_;have GW160:=n3_;have GE160:=n4_;have NB158_160:=n5_;have NB160_158:=n6_;clear n0_ n1_ n2_ n3_ n4_ n5_ n6_;clear hb hbox hg;have hnb8:=NB160_158.out;have hnc8:=NB158_160.out;have hcz9_0 : w7.cell? ⟨gb160,0,none⟩ = some (.int .i64 0):=(blk_cell BK160.out 0).trans rfl;have hcz9_1 : w7.cell? ⟨gb160,1,none⟩ = some (.int .i64 0):=(blk_cell BK160.out 1).trans rfl;have hcz9_2 : w7.cell? ⟨gb160,2,none⟩ = some (.int .u32 0):=(blk_cell BK160.out 2).trans rfl;have hfz9_0:=blk_frozen BK160.out 0;have hfz9_1:=blk_frozen BK160.out 1;have hfz9_2:=blk_frozen BK160.out 2)))
      go_ret
      exact ⟨by first | rfl | (simp [errW_none,errW_some] <;> rfl) | (simp [*,errW_none,errW_some] <;> rfl) | (simp [errW_none,errW_some];exact isEmpty_bne _),by repeat (first | (with_reducible first | exact HB.out | apply below_alloc | apply pw_below_drewN | apply below_drew1 | refine below_set ?_ GE158.out | refine below_set ?_ GE160.out) | exact HB.out)⟩
     ·rw [if_neg c5] at H
      have c5b0 : decide (((rd_T48 l0_1 x3_1).f0) < 0) = false:=decide_eq_false c5
      clear c5
      by_cases c10 : ((rd_T48 l0_1 x3_1).f0) > 999999
      ·rw [if_pos c10] at H
       have c10b0 : decide (999999 < ((rd_T48 l0_1 x3_1).f0)) = true:=decide_eq_true c10
       clear c10
       obtain rfl:=Option.some.inj H
       have hcz11_0 : wr.cell? ⟨gb158,0,none⟩ = some (.int .i64 a0_0):=(blk_cell BK158.out 0).trans rfl
       have hcz11_1 : wr.cell? ⟨gb158,1,none⟩ = some (.slice A0_1 l0_1.length c0_1):=(blk_cell BK158.out 1).trans rfl
       have hfz11_0:=blk_frozen BK158.out 0
       have hfz11_1:=blk_frozen BK158.out 1
       have p159 : 0 ≤ (x3_1 : Int):=of_decide_eq_true (by first | (with_reducible assumption) | assumption)
       have q159 : x3_1 < (l0_1.length : Int):=of_decide_eq_true (by first | (with_reducible assumption) | assumption)
       obtain ⟨ad159,e159,hx159_0,hx159_1,hx159_2⟩:=at_T48 HR0_1.out x3_1 p159 q159
       cases e159
       replace hx159_0:=(HB.out.cell (World.block_lt_of_cell? w _ hx159_0)).trans hx159_0
       replace hx159_1:=(HB.out.cell (World.block_lt_of_cell? w _ hx159_1)).trans hx159_1
       replace hx159_2:=(HB.out.cell (World.block_lt_of_cell? w _ hx159_2)).trans hx159_2
       replace p159:=eq_true p159
       replace q159:=eq_true q159
       go_wp2_with (first | ((with_reducible refine gate_dst (N:=4) rfl ?_);(try (refine gate_guard (by rfl) ?_;dsimp only));refine box_event ?hg (N:=4) ?hd (cs := #[.int .i64 0,.int .i64 0,.int .u32 0]) (t:=48) ?hr ?_;(case hd => rfl);(case hg => rfl);(case hr => first | (go_simp;done) | (go_simp;rfl));intro gb160 hg w12 hbox hb;have n0_:=Aside0.mk (blk_below (g:=gb158) (o := .cells #[.int .i64 a0_0,.slice (some ad159) l0_1.length c0_1] 32 (0,0)) (by (with_reducible repeat (first | refine blk_drewN ?_ _ | refine blk_drew ?_ | refine blk_alloc ?_ _));exact BK158.out) hb);have n1_:=Aside0.mk (below_step (by repeat (first | (with_reducible first | exact HB.out | apply below_alloc | apply pw_below_drewN | apply below_drew1 | refine below_set ?_ GE158.out) | exact HB.out)) hb);have n2_:=Aside0.mk (hbox);have n3_:=Aside0.mk ((by rw [hg];exact (below_size (by repeat (first | (with_reducible first | exact HB.out | apply below_alloc | apply pw_below_drewN | apply below_drew1 | refine below_set ?_ GE158.out) | exact HB.out))) : w.heap.size ≤ gb160));have n4_:=Aside0.mk ((by rw [hg];exact (below_size (by repeat (first | (with_reducible first | exact HB.out | apply below_alloc | apply pw_below_drewN | apply below_drew1 | refine below_set ?_ GE158.out) | exact HB.out))) : w.heap.size ≤ gb160));have n5_:=Aside0.mk ((by rw [hg];exact Nat.ne_of_lt (blk_lt (g:=gb158) (o := .cells #[.int .i64 a0_0,.slice (some ad159) l0_1.length c0_1] 32 (0,0)) (by (with_reducible repeat (first | refine blk_drewN ?_ _ | refine blk_drew ?_ | refine blk_alloc ?_ _));exact BK158.out)) : gb158 ≠ gb160));have n6_:=Aside0.mk ((by rw [hg];exact Nat.ne_of_gt (blk_lt (g:=gb158) (o := .cells #[.int .i64 a0_0,.slice (some ad159) l0_1.length c0_1] 32 (0,0)) (by (with_reducible repeat (first | refine blk_drewN ?_ _ | refine blk_drew ?_ | refine blk_alloc ?_ _));exact BK158.out)) : gb160 ≠ gb158));clear BK158;clear HB;have BK158:=n0_;have HB:=n1_;have BK160:=n2_;have GW160:=n3_;have GE160:=n4_;have NB158_160:=n5_;have NB160_158:=n6_;clear n0_ n1_ n2_ n3_ n4_ n5_ n6_;clear hb hbox hg;have hnb13:=NB160_158.out;have hnc13:=NB158_160.out;have hcz14_0 : w12.cell? ⟨gb160,0,none⟩ = some (.int .i64 0):=(blk_cell BK160.out 0).trans rfl;have hcz14_1 : w12.cell? ⟨gb160,1,none⟩ = some (.int .i64 0):=(blk_cell BK160.out 1).trans rfl;have hcz14_2 : w12.cell? ⟨gb160,2,none⟩ = some (.int .u32 0):=(blk_cell BK160.out 2).trans rfl;have hfz14_0:=blk_frozen BK160.out 0;have hfz14_1:=blk_frozen BK160.out 1;have hfz14_2:=blk_frozen BK160.out 2))
       repeat (go_quiet (first | ((with_reducible refine gate_dst (N:=4) rfl ?_);(try (refine gate_guard (by rfl) ?_;dsimp only));refine box_event ?hg (N:=4) ?hd (cs := #[.int .i64 0,.int .i64 0,.int .u32 0]) (t:=48) ?hr ?_;(case hd => rfl);(case hg => rfl);(case hr => first | (go_simp;done) | (go_simp;rfl));intro gb160 hg w12 hbox hb;have n0_:=Aside0.mk (blk_below (g:=gb158) (o := .cells #[.int .i64 a0_0,.slice (some ad159) l0_1.length c0_1] 32 (0,0)) (by (with_reducible repeat (first | refine blk_drewN ?_ _ | refine blk_drew ?_ | refine blk_alloc ?_ _));exact BK158.out) hb);have n1_:=Aside0.mk (below_step (by repeat (first | (with_reducible first | exact HB.out | apply below_alloc | apply pw_below_drewN | apply below_drew1 | refine below_set ?_ GE158.out) | exact HB.out)) hb);have n2_:=Aside0.mk (hbox);have n3_:=Aside0.mk ((by rw [hg];exact (below_size (by repeat (first | (with_reducible first | exact HB.out | apply below_alloc | apply pw_below_drewN | apply below_drew1 | refine below_set ?_ GE158.out) | exact HB.out))) : w.heap.size ≤ gb160));have n4_:=Aside0.mk ((by rw [hg];exact (below_size (by repeat (first | (with_reducible first | exact HB.out | apply below_alloc | apply pw_below_drewN | apply below_drew1 | refine below_set ?_ GE158.out) | exact HB.out))) : w.heap.size ≤ gb160));have n5_:=Aside0.mk ((by rw [hg];exact Nat.ne_of_lt (blk_lt (g:=gb158) (o := .cells #[.int .i64 a0_0,.slice (some ad159) l0_1.length c0_1] 32 (0,0)) (by (with_reducible repeat (first | refine blk_drewN ?_ _ | refine blk_drew ?_ | refine blk_alloc ?_ _));exact BK158.out)) : gb158 ≠ gb160));have n6_:=Aside0.mk ((by rw [hg];exact Nat.ne_of_gt (blk_lt (g:=gb158) (o := .cells #[.int .i64 a0_0,.slice (some ad159) l0_1.length c0_1] 32 (0,0)) (by (with_reducible repeat (first | refine blk_drewN ?_ _ | refine blk_drew ?_ | refine blk_alloc ?_ _));exact BK158.out)) : gb160 ≠ gb158));clear BK158;clear HB;have BK158:=n0_;have HB:=n1_;have BK160:=n2_;have GW160:=n3_;have GE160:=n4_;have NB158_160:=n5_;have NB160_158:=n6_;clear n0_ n1_ n2_ n3_ n4_ n5_ n6_;clear hb hbox hg;have hnb13:=NB160_158.out;have hnc13:=NB158_160.out;have hcz14_0 : w12.cell? ⟨gb160,0,none⟩ = some (.int .i64 0):=(blk_cell BK160.out 0).trans rfl;have hcz14_1 : w12.cell? ⟨gb160,1,none⟩ = some (.int .i64 0):=(blk_cell BK160.out 1).trans rfl;have hcz14_2 : w12.cell? ⟨gb160,2,none⟩ = some (.int .u32 0):=(blk_cell BK160.out 2).trans rfl;have hfz14_0:=blk_frozen BK160.out 0;have hfz14_1:=blk_frozen BK160.out 1;have hfz14_2:=blk_frozen BK160.out 2));try go_wp2_with (first | ((with_reducible refine gate_dst (N:=4) rfl ?_);(try (refine gate_guard (by rfl) ?_;dsimp only));refine box_event ?hg (N:=4) ?hd (cs := #[.int .i64 0,.int .i64 0,.int .u32 0]) (t:=48) ?hr ?_;(case hd => rfl);(case hg => rfl);(case hr => first | (go_simp;done) | (go_simp;rfl));intro gb160 hg w12 hbox hb;have n0_:=Aside0.mk (blk_below (g:=gb158) (o := .cells #[.int .i64 a0_0,.slice (some ad159) l0_1.length c0_1] 32 (0,0)) (by (with_reducible repeat (first | refine blk_drewN ?_ _ | refine blk_drew ?_ | refine blk_alloc ?_ _));exact BK158.out) hb);have n1_:=Aside0.mk (below_step (by repeat (first | (with_reducible first | exact HB.out | apply below_alloc | apply pw_below_drewN | apply below_drew1 | refine below_set ?_ GE158.out) | exact HB.out)) hb);have n2_:=Aside0.mk (hbox);have n3_:=Aside0.mk ((by rw [hg];exact (below_size (by repeat (first | (with_reducible first | exact HB.out | apply below_alloc | apply pw_below_drewN | apply below_drew1 | refine below_set ?_ GE158.out) | exact HB.out))) : w.heap.size ≤ gb160));have n4_:=Aside0.mk ((by rw [hg];exact (below_size (by repeat (first | (with_reducible first | exact HB.out | apply below_alloc | apply pw_below_drewN | apply below_drew1 | refine below_set ?_ GE158.out) | exact HB.out))) : w.heap.size ≤ gb160));have n5_:=Aside0.mk ((by rw [hg];exact Nat.ne_of_lt (blk_lt (g:=gb158) (o := .cells #[.int .i64 a0_0,.slice (some ad159) l0_1.length c0_1] 32 (0,0)) (by (with_reducible repeat (first | refine blk_drewN ?_ _ | refine blk_drew ?_ | refine blk_alloc ?_ _));exact BK158.out)) : gb158 ≠ gb160));have n6_:=Aside0.mk ((by rw [hg];exact Nat.ne_of_gt (blk_lt (g:=gb158) (o := .cells #[.int .i64 a0_0,.slice (some ad159) l0_1.length c0_1] 32 (0,0)) (by (with_reducible repeat (first | refine blk_drewN ?_ _ | refine blk_drew ?_ | refine blk_alloc ?_ _));exact BK158.out)) : gb160 ≠ gb158));clear BK158;clear HB;have BK158:=n0_;have HB:=n1_;have BK160:=n2_;have GW160:=n3_;have GE160:=n4_;have NB158_160:=n5_;have NB160_158:=n6_;clear n0_ n1_ n2_ n3_ n4_ n5_ n6_;clear hb hbox hg;have hnb13:=NB160_158.out;have hnc13:=NB158_160.out;have hcz14_0 : w12.cell? ⟨gb160,0,none⟩ = some (.int .i64 0):=(blk_cell BK160.out 0).trans rfl;have hcz14_1 : w12.cell? ⟨gb160,1,none⟩ = some (.int .i64 0):=(blk_cell BK160.out 1).trans rfl;have hcz14_2 : w12.cell? ⟨gb160,2,none⟩ = some (.int .u32 0):=(blk_cell BK160.out 2).trans rfl;have hfz14_0:=blk_frozen BK160.out 0;have hfz14_1:=blk_frozen BK160.out 1;have hfz14_2:=blk_frozen BK160.out 2)))
       go_ret
       exact ⟨by first | rfl | (simp [errW_none,errW_some] <;> rfl) | (simp [*,errW_none,errW_some] <;> rfl) | (simp [errW_none,errW_some];exact isEmpty_bne _),by repeat (first | (with_reducible first | exact HB.out | apply below_alloc | apply pw_below_drewN | apply below_drew1 | refine below_set ?_ GE158.out | refine below_set ?_ GE160.out) | exact HB.out)⟩
      ·rw [if_neg c10] at H
       have c10b0 : decide (999999 < ((rd_T48 l0_1 x3_1).f0)) = false:=decide_eq_false c10
       clear c10
       by_cases c15 : ((rd_T48 l0_1 x3_1).f1) < 0
       ·rw [if_pos c15] at H
        have c15b0 : decide (((rd_T48 l0_1 x3_1).f1) < 0) = true:=decide_eq_true c15
        clear c15
        obtain rfl:=Option.some.inj H
        have hcz16_0 : wr.cell? ⟨gb158,0,none⟩ = some (.int .i64 a0_0):=(blk_cell BK158.out 0).trans rfl
        have hcz16_1 : wr.cell? ⟨gb158,1,none⟩ = some (.slice A0_1 l0_1.length c0_1):=(blk_cell BK158.out 1).trans rfl
        have hfz16_0:=blk_frozen BK158.out 0
        have hfz16_1:=blk_frozen BK158.out 1
        have p159 : 0 ≤ (x3_1 : Int):=of_decide_eq_true (by first | (with_reducible assumption) | assumption)
        have q159 : x3_1 < (l0_1.length : Int):=of_decide_eq_true (by first | (with_reducible assumption) | assumption)
        obtain ⟨ad159,e159,hx159_0,hx159_1,hx159_2⟩:=at_T48 HR0_1.out x3_1 p159 q159
        cases e159
        replace hx159_0:=(HB.out.cell (World.block_lt_of_cell? w _ hx159_0)).trans hx159_0
        replace hx159_1:=(HB.out.cell (World.block_lt_of_cell? w _ hx159_1)).trans hx159_1
        replace hx159_2:=(HB.out.cell (World.block_lt_of_cell? w _ hx159_2)).trans hx159_2
        replace p159:=eq_true p159
        replace q159:=eq_true q159
        go_wp2_with (first | ((with_reducible refine gate_dst (N:=4) rfl ?_);(try (refine gate_guard (by rfl) ?_;dsimp only));refine box_event ?hg (N:=4) ?hd (cs := #[.int .i64 0,.int .i64 0,.int .u32 0]) (t:=48) ?hr ?_;(case hd => rfl);(case hg => rfl);(case hr => first | (go_simp;done) | (go_simp;rfl));intro gb160 hg w17 hbox hb;have n0_:=Aside0.mk (blk_below (g:=gb158) (o := .cells #[.int .i64 a0_0,.slice (some ad159) l0_1.length c0_1] 32 (0,0)) (by (with_reducible repeat (first | refine blk_drewN ?_ _ | refine blk_drew ?_ | refine blk_alloc ?_ _));exact BK158.out) hb);have n1_:=Aside0.mk (below_step (by repeat (first | (with_reducible first | exact HB.out | apply below_alloc | apply pw_below_drewN | apply below_drew1 | refine below_set ?_ GE158.out) | exact HB.out)) hb);have n2_:=Aside0.mk (hbox);have n3_:=Aside0.mk ((by rw [hg];exact (below_size (by repeat (first | (with_reducible first | exact HB.out | apply below_alloc | apply pw_below_drewN | apply below_drew1 | refine below_set ?_ GE158.out) | exact HB.out))) : w.heap.size ≤ gb160));have n4_:=Aside0.mk ((by rw [hg];exact (below_size (by repeat (first | (with_reducible first | exact HB.out | apply below_alloc | apply pw_below_drewN | apply below_drew1 | refine below_set ?_ GE158.out) | exact HB.out))) : w.heap.size ≤ gb160));have n5_:=Aside0.mk ((by rw [hg];exact Nat.ne_of_lt (blk_lt (g:=gb158) (o := .cells #[.int .i64 a0_0,.slice (some ad159) l0_1.length c0_1] 32 (0,0)) (by (with_reducible repeat (first | refine blk_drewN ?_ _ | refine blk_drew ?_ | refine blk_alloc ?_ _));exact BK158.out)) : gb158 ≠ gb160));have n6_:=Aside0.mk ((by rw [hg];exact Nat.ne_of_gt (blk_lt (g:=gb158) (o := .cells #[.int .i64 a0_0,.slice (some ad159) l0_1.length c0_1] 32 (0,0)) (by (with_reducible repeat (first | refine blk_drewN ?_ _ | refine blk_drew ?_ | refine blk_alloc ?_ _));exact BK158.out)) : gb160 ≠ gb158));clear BK158;clear HB;have BK158:=n0_;have HB:=n1_;have BK160:=n2_;have GW160:=n3_;have GE160:=n4_;have NB158_160:=n5_;have NB160_158:=n6_;clear n0_ n1_ n2_ n3_ n4_ n5_ n6_;clear hb hbox hg;have hnb18:=NB160_158.out;have hnc18:=NB158_160.out;have hcz19_0 : w17.cell? ⟨gb160,0,none⟩ = some (.int .i64 0):=(blk_cell BK160.out 0).trans rfl;have hcz19_1 : w17.cell? ⟨gb160,1,none⟩ = some (.int .i64 0):=(blk_cell BK160.out 1).trans rfl;have hcz19_2 : w17.cell? ⟨gb160,2,none⟩ = some (.int .u32 0):=(blk_cell BK160.out 2).trans rfl;have hfz19_0:=blk_frozen BK160.out 0;have hfz19_1:=blk_frozen BK160.out 1;have hfz19_2:=blk_frozen BK160.out 2))
        repeat (go_quiet (first | ((with_reducible refine gate_dst (N:=4) rfl ?_);(try (refine gate_guard (by rfl) ?_;dsimp only));refine box_event ?hg (N:=4) ?hd (cs := #[.int .i64 0,.int .i64 0,.int .u32 0]) (t:=48) ?hr ?_;(case hd => rfl);(case hg => rfl);(case hr => first | (go_simp;done) | (go_simp;rfl));intro gb160 hg w17 hbox hb;have n0_:=Aside0.mk (blk_below (g:=gb158) (o := .cells #[.int .i64 a0_0,.slice (some ad159) l0_1.length c0_1] 32 (0,0)) (by (with_reducible repeat (first | refine blk_drewN ?_ _ | refine blk_drew ?_ | refine blk_alloc ?_ _));exact BK158.out) hb);have n1_:=Aside0.mk (below_step (by repeat (first | (with_reducible first | exact HB.out | apply below_alloc | apply pw_below_drewN | apply below_drew1 | refine below_set ?_ GE158.out) | exact HB.out)) hb);have n2_:=Aside0.mk (hbox);have n3_:=Aside0.mk ((by rw [hg];exact (below_size (by repeat (first | (with_reducible first | exact HB.out | apply below_alloc | apply pw_below_drewN | apply below_drew1 | refine below_set ?_ GE158.out) | exact HB.out))) : w.heap.size ≤ gb160));have n4_:=Aside0.mk ((by rw [hg];exact (below_size (by repeat (first | (with_reducible first | exact HB.out | apply below_alloc | apply pw_below_drewN | apply below_drew1 | refine below_set ?_ GE158.out) | exact HB.out))) : w.heap.size ≤ gb160));have n5_:=Aside0.mk ((by rw [hg];exact Nat.ne_of_lt (blk_lt (g:=gb158) (o := .cells #[.int .i64 a0_0,.slice (some ad159) l0_1.length c0_1] 32 (0,0)) (by (with_reducible repeat (first | refine blk_drewN ?_ _ | refine blk_drew ?_ | refine blk_alloc ?_ _));exact BK158.out)) : gb158 ≠ gb160));have n6_:=Aside0.mk ((by rw [hg];exact Nat.ne_of_gt (blk_lt (g:=gb158) (o := .cells #[.int .i64 a0_0,.slice (some ad159) l0_1.length c0_1] 32 (0,0)) (by (with_reducible repeat (first | refine blk_drewN ?_ _ | refine blk_drew ?_ | refine blk_alloc ?_ _));exact BK158.out)) : gb160 ≠ gb158));clear BK158;clear HB;have BK158:=n0_;have HB:=n1_;have BK160:=n2_;have GW160:=n3_;have GE160:=n4_;have NB158_160:=n5_;have NB160_158:=n6_;clear n0_ n1_ n2_ n3_ n4_ n5_ n6_;clear hb hbox hg;have hnb18:=NB160_158.out;have hnc18:=NB158_160.out;have hcz19_0 : w17.cell? ⟨gb160,0,none⟩ = some (.int .i64 0):=(blk_cell BK160.out 0).trans rfl;have hcz19_1 : w17.cell? ⟨gb160,1,none⟩ = some (.int .i64 0):=(blk_cell BK160.out 1).trans rfl;have hcz19_2 : w17.cell? ⟨gb160,2,none⟩ = some (.int .u32 0):=(blk_cell BK160.out 2).trans rfl;have hfz19_0:=blk_frozen BK160.out 0;have hfz19_1:=blk_frozen BK160.out 1;have hfz19_2:=blk_frozen BK160.out 2));try go_wp2_with (first | ((with_reducible refine gate_dst (N:=4) rfl ?_);(try (refine gate_guard (by rfl) ?_;dsimp only));refine box_event ?hg (N:=4) ?hd (cs := #[.int .i64 0,.int .i64 0,.int .u32 0]) (t:=48) ?hr ?_;(case hd => rfl);(case hg => rfl);(case hr => first | (go_simp;done) | (go_simp;rfl));intro gb160 hg w17 hbox hb;have n0_:=Aside0.mk (blk_below (g:=gb158) (o := .cells #[.int .i64 a0_0,.slice (some ad159) l0_1.length c0_1] 32 (0,0)) (by (with_reducible repeat (first | refine blk_drewN ?_ _ | refine blk_drew ?_ | refine blk_alloc ?_ _));exact BK158.out) hb);have n1_:=Aside0.mk (below_step (by repeat (first | (with_reducible first | exact HB.out | apply below_alloc | apply pw_below_drewN | apply below_drew1 | refine below_set ?_ GE158.out) | exact HB.out)) hb);have n2_:=Aside0.mk (hbox);have n3_:=Aside0.mk ((by rw [hg];exact (below_size (by repeat (first | (with_reducible first | exact HB.out | apply below_alloc | apply pw_below_drewN | apply below_drew1 | refine below_set ?_ GE158.out) | exact HB.out))) : w.heap.size ≤ gb160));have n4_:=Aside0.mk ((by rw [hg];exact (below_size (by repeat (first | (with_reducible first | exact HB.out | apply below_alloc | apply pw_below_drewN | apply below_drew1 | refine below_set ?_ GE158.out) | exact HB.out))) : w.heap.size ≤ gb160));have n5_:=Aside0.mk ((by rw [hg];exact Nat.ne_of_lt (blk_lt (g:=gb158) (o := .cells #[.int .i64 a0_0,.slice (some ad159) l0_1.length c0_1] 32 (0,0)) (by (with_reducible repeat (first | refine blk_drewN ?_ _ | refine blk_drew ?_ | refine blk_alloc ?_ _));exact BK158.out)) : gb158 ≠ gb160));have n6_:=Aside0.mk ((by rw [hg];exact Nat.ne_of_gt (blk_lt (g:=gb158) (o := .cells #[.int .i64 a0_0,.slice (some ad159) l0_1.length c0_1] 32 (0,0)) (by (with_reducible repeat (first | refine blk_drewN ?_ _ | refine blk_drew ?_ | refine blk_alloc ?_ _));exact BK158.out)) : gb160 ≠ gb158));clear BK158;clear HB;have BK158:=n0_;have HB:=n1_;have BK160:=n2_;have GW160:=n3_;have GE160:=n4_;have NB158_160:=n5_;have NB160_158:=n6_;clear n0_ n1_ n2_ n3_ n4_ n5_ n6_;clear hb hbox hg;have hnb18:=NB160_158.out;have hnc18:=NB158_160.out;have hcz19_0 : w17.cell? ⟨gb160,0,none⟩ = some (.int .i64 0):=(blk_cell BK160.out 0).trans rfl;have hcz19_1 : w17.cell? ⟨gb160,1,none⟩ = some (.int .i64 0):=(blk_cell BK160.out 1).trans rfl;have hcz19_2 : w17.cell? ⟨gb160,2,none⟩ = some (.int .u32 0):=(blk_cell BK160.out 2).trans rfl;have hfz19_0:=blk_frozen BK160.out 0;have hfz19_1:=blk_frozen BK160.out 1;have hfz19_2:=blk_frozen BK160.out 2)))
        go_ret
        exact ⟨by first | rfl | (simp [errW_none,errW_some] <;> rfl) | (simp [*,errW_none,errW_some] <;> rfl) | (simp [errW_none,errW_some];exact isEmpty_bne _),by repeat (first | (with_reducible first | exact HB.out | apply below_alloc | apply pw_below_drewN | apply below_drew1 | refine below_set ?_ GE158.out | refine below_set ?_ GE160.out) | exact HB.out)⟩
       ·rw [if_neg c15] at H
        have c15b0 : decide (((rd_T48 l0_1 x3_1).f1) < 0) = false:=decide_eq_false c15
        clear c15
        by_cases c20 : ((rd_T48 l0_1 x3_1).f1) > 1048576
        ·rw [if_pos c20] at H
         have c20b0 : decide (1048576 < ((rd_T48 l0_1 x3_1).f1)) = true:=decide_eq_true c20
         clear c20
         obtain rfl:=Option.some.inj H
         have hcz21_0 : wr.cell? ⟨gb158,0,none⟩ = some (.int .i64 a0_0):=(blk_cell BK158.out 0).trans rfl
         have hcz21_1 : wr.cell? ⟨gb158,1,none⟩ = some (.slice A0_1 l0_1.length c0_1):=(blk_cell BK158.out 1).trans rfl
         have hfz21_0:=blk_frozen BK158.out 0
         have hfz21_1:=blk_frozen BK158.out 1
         have p159 : 0 ≤ (x3_1 : Int):=of_decide_eq_true (by first | (with_reducible assumption) | assumption)
         have q159 : x3_1 < (l0_1.length : Int):=of_decide_eq_true (by first | (with_reducible assumption) | assumption)
         obtain ⟨ad159,e159,hx159_0,hx159_1,hx159_2⟩:=at_T48 HR0_1.out x3_1 p159 q159
         cases e159
         replace hx159_0:=(HB.out.cell (World.block_lt_of_cell? w _ hx159_0)).trans hx159_0
         replace hx159_1:=(HB.out.cell (World.block_lt_of_cell? w _ hx159_1)).trans hx159_1
         replace hx159_2:=(HB.out.cell (World.block_lt_of_cell? w _ hx159_2)).trans hx159_2
         replace p159:=eq_true p159
         replace q159:=eq_true q159
         go_wp2_with (first | ((with_reducible refine gate_dst (N:=4) rfl ?_);(try (refine gate_guard (by rfl) ?_;dsimp only));refine box_event ?hg (N:=4) ?hd (cs := #[.int .i64 0,.int .i64 0,.int .u32 0]) (t:=48) ?hr ?_;(case hd => rfl);(case hg => rfl);(case hr => first | (go_simp;done) | (go_simp;rfl));intro gb160 hg w22 hbox hb;have n0_:=Aside0.mk (blk_below (g:=gb158) (o := .cells #[.int .i64 a0_0,.slice (some ad159) l0_1.length c0_1] 32 (0,0)) (by (with_reducible repeat (first | refine blk_drewN ?_ _ | refine blk_drew ?_ | refine blk_alloc ?_ _));exact BK158.out) hb);have n1_:=Aside0.mk (below_step (by repeat (first | (with_reducible first | exact HB.out | apply below_alloc | apply pw_below_drewN | apply below_drew1 | refine below_set ?_ GE158.out) | exact HB.out)) hb);have n2_:=Aside0.mk (hbox);have n3_:=Aside0.mk ((by rw [hg];exact (below_size (by repeat (first | (with_reducible first | exact HB.out | apply below_alloc | apply pw_below_drewN | apply below_drew1 | refine below_set ?_ GE158.out) | exact HB.out))) : w.heap.size ≤ gb160));have n4_:=Aside0.mk ((by rw [hg];exact (below_size (by repeat (first | (with_reducible first | exact HB.out | apply below_alloc | apply pw_below_drewN | apply below_drew1 | refine below_set ?_ GE158.out) | exact HB.out))) : w.heap.size ≤ gb160));have n5_:=Aside0.mk ((by rw [hg];exact Nat.ne_of_lt (blk_lt (g:=gb158) (o := .cells #[.int .i64 a0_0,.slice (some ad159) l0_1.length c0_1] 32 (0,0)) (by (with_reducible repeat (first | refine blk_drewN ?_ _ | refine blk_drew ?_ | refine blk_alloc ?_ _));exact BK158.out)) : gb158 ≠ gb160));have n6_:=Aside0.mk ((by rw [hg];exact Nat.ne_of_gt (blk_lt (g:=gb158) (o := .cells #[.int .i64 a0_0,.slice (some ad159) l0_1.length c0_1] 32 (0,0)) (by (with_reducible repeat (first | refine blk_drewN ?_ _ | refine blk_drew ?_ | refine blk_alloc ?_ _));exact BK158.out)) : gb160 ≠ gb158));clear BK158;clear HB;have BK158:=n0_;have HB:=n1_;have BK160:=n2_;have GW160:=n3_;have GE160:=n4_;have NB158_160:=n5_;have NB160_158:=n6_;clear n0_ n1_ n2_ n3_ n4_ n5_ n6_;clear hb hbox hg;have hnb23:=NB160_158.out;have hnc23:=NB158_160.out;have hcz24_0 : w22.cell? ⟨gb160,0,none⟩ = some (.int .i64 0):=(blk_cell BK160.out 0).trans rfl;have hcz24_1 : w22.cell? ⟨gb160,1,none⟩ = some (.int .i64 0):=(blk_cell BK160.out 1).trans rfl;have hcz24_2 : w22.cell? ⟨gb160,2,none⟩ = some (.int .u32 0):=(blk_cell BK160.out 2).trans rfl;have hfz24_0:=blk_frozen BK160.out 0;have hfz24_1:=blk_frozen BK160.out 1;have hfz24_2:=blk_frozen BK160.out 2))
         repeat (go_quiet (first | ((with_reducible refine gate_dst (N:=4) rfl ?_);(try (refine gate_guard (by rfl) ?_;dsimp only));refine box_event ?hg (N:=4) ?hd (cs := #[.int .i64 0,.int .i64 0,.int .u32 0]) (t:=48) ?hr ?_;(case hd => rfl);(case hg => rfl);(case hr => first | (go_simp;done) | (go_simp;rfl));intro gb160 hg w22 hbox hb;have n0_:=Aside0.mk (blk_below (g:=gb158) (o := .cells #[.int .i64 a0_0,.slice (some ad159) l0_1.length c0_1] 32 (0,0)) (by (with_reducible repeat (first | refine blk_drewN ?_ _ | refine blk_drew ?_ | refine blk_alloc ?_ _));exact BK158.out) hb);have n1_:=Aside0.mk (below_step (by repeat (first | (with_reducible first | exact HB.out | apply below_alloc | apply pw_below_drewN | apply below_drew1 | refine below_set ?_ GE158.out) | exact HB.out)) hb);have n2_:=Aside0.mk (hbox);have n3_:=Aside0.mk ((by rw [hg];exact (below_size (by repeat (first | (with_reducible first | exact HB.out | apply below_alloc | apply pw_below_drewN | apply below_drew1 | refine below_set ?_ GE158.out) | exact HB.out))) : w.heap.size ≤ gb160));have n4_:=Aside0.mk ((by rw [hg];exact (below_size (by repeat (first | (with_reducible first | exact HB.out | apply below_alloc | apply pw_below_drewN | apply below_drew1 | refine below_set ?_ GE158.out) | exact HB.out))) : w.heap.size ≤ gb160));have n5_:=Aside0.mk ((by rw [hg];exact Nat.ne_of_lt (blk_lt (g:=gb158) (o := .cells #[.int .i64 a0_0,.slice (some ad159) l0_1.length c0_1] 32 (0,0)) (by (with_reducible repeat (first | refine blk_drewN ?_ _ | refine blk_drew ?_ | refine blk_alloc ?_ _));exact BK158.out)) : gb158 ≠ gb160));have n6_:=Aside0.mk ((by rw [hg];exact Nat.ne_of_gt (blk_lt (g:=gb158) (o := .cells #[.int .i64 a0_0,.slice (some ad159) l0_1.length c0_1] 32 (0,0)) (by (with_reducible repeat (first | refine blk_drewN ?_ _ | refine blk_drew ?_ | refine blk_alloc ?_ _));exact BK158.out)) : gb160 ≠ gb158));clear BK158;clear HB;have BK158:=n0_;have HB:=n1_;have BK160:=n2_;have GW160:=n3_;have GE160:=n4_;have NB158_160:=n5_;have NB160_158:=n6_;clear n0_ n1_ n2_ n3_ n4_ n5_ n6_;clear hb hbox hg;have hnb23:=NB160_158.out;have hnc23:=NB158_160.out;have hcz24_0 : w22.cell? ⟨gb160,0,none⟩ = some (.int .i64 0):=(blk_cell BK160.out 0).trans rfl;have hcz24_1 : w22.cell? ⟨gb160,1,none⟩ = some (.int .i64 0):=(blk_cell BK160.out 1).trans rfl;have hcz24_2 : w22.cell? ⟨gb160,2,none⟩ = some (.int .u32 0):=(blk_cell BK160.out 2).trans rfl;have hfz24_0:=blk_frozen BK160.out 0;have hfz24_1:=blk_frozen BK160.out 1;have hfz24_2:=blk_frozen BK160.out 2));try go_wp2_with (first | ((with_reducible refine gate_dst (N:=4) rfl ?_);(try (refine gate_guard (by rfl) ?_;dsimp only));refine box_event ?hg (N:=4) ?hd (cs := #[.int .i64 0,.int .i64 0,.int .u32 0]) (t:=48) ?hr ?_;(case hd => rfl);(case hg => rfl);(case hr => first | (go_simp;done) | (go_simp;rfl));intro gb160 hg w22 hbox hb;have n0_:=Aside0.mk (blk_below (g:=gb158) (o := .cells #[.int .i64 a0_0,.slice (some ad159) l0_1.length c0_1] 32 (0,0)) (by (with_reducible repeat (first | refine blk_drewN ?_ _ | refine blk_drew ?_ | refine blk_alloc ?_ _));exact BK158.out) hb);have n1_:=Aside0.mk (below_step (by repeat (first | (with_reducible first | exact HB.out | apply below_alloc | apply pw_below_drewN | apply below_drew1 | refine below_set ?_ GE158.out) | exact HB.out)) hb);have n2_:=Aside0.mk (hbox);have n3_:=Aside0.mk ((by rw [hg];exact (below_size (by repeat (first | (with_reducible first | exact HB.out | apply below_alloc | apply pw_below_drewN | apply below_drew1 | refine below_set ?_ GE158.out) | exact HB.out))) : w.heap.size ≤ gb160));have n4_:=Aside0.mk ((by rw [hg];exact (below_size (by repeat (first | (with_reducible first | exact HB.out | apply below_alloc | apply pw_below_drewN | apply below_drew1 | refine below_set ?_ GE158.out) | exact HB.out))) : w.heap.size ≤ gb160));have n5_:=Aside0.mk ((by rw [hg];exact Nat.ne_of_lt (blk_lt (g:=gb158) (o := .cells #[.int .i64 a0_0,.slice (some ad159) l0_1.length c0_1] 32 (0,0)) (by (with_reducible repeat (first | refine blk_drewN ?_ _ | refine blk_drew ?_ | refine blk_alloc ?_ _));exact BK158.out)) : gb158 ≠ gb160));have n6_:=Aside0.mk ((by rw [hg];exact Nat.ne_of_gt (blk_lt (g:=gb158) (o := .cells #[.int .i64 a0_0,.slice (some ad159) l0_1.length c0_1] 32 (0,0)) (by (with_reducible repeat (first | refine blk_drewN ?_ _ | refine blk_drew ?_ | refine blk_alloc ?_ _));exact BK158.out)) : gb160 ≠ gb158));clear BK158;clear HB;have BK158:=n0_;have HB:=n1_;have BK160:=n2_;have GW160:=n3_;have GE160:=n4_;have NB158_160:=n5_;have NB160_158:=n6_;clear n0_ n1_ n2_ n3_ n4_ n5_ n6_;clear hb hbox hg;have hnb23:=NB160_158.out;have hnc23:=NB158_160.out;have hcz24_0 : w22.cell? ⟨gb160,0,none⟩ = some (.int .i64 0):=(blk_cell BK160.out 0).trans rfl;have hcz24_1 : w22.cell? ⟨gb160,1,none⟩ = some (.int .i64 0):=(blk_cell BK160.out 1).trans rfl;have hcz24_2 : w22.cell? ⟨gb160,2,none⟩ = some (.int .u32 0):=(blk_cell BK160.out 2).trans rfl;have hfz24_0:=blk_frozen BK160.out 0;have hfz24_1:=blk_frozen BK160.out 1;have hfz24_2:=blk_frozen BK160.out 2)))
         go_ret
         exact ⟨by first | rfl | (simp [errW_none,errW_some] <;> rfl) | (simp [*,errW_none,errW_some] <;> rfl) | (simp [errW_none,errW_some];exact isEmpty_bne _),by repeat (first | (with_reducible first | exact HB.out | apply below_alloc | apply pw_below_drewN | apply below_drew1 | refine below_set ?_ GE158.out | refine below_set ?_ GE160.out) | exact HB.out)⟩
        ·rw [if_neg c20] at H
         have c20b0 : decide (1048576 < ((rd_T48 l0_1 x3_1).f1)) = false:=decide_eq_false c20
         clear c20
         by_cases c25 : x3_1 > 0
         ·rw [if_pos c25] at H
          have c25b0 : decide (0 < x3_1) = true:=decide_eq_true c25
          clear c25
          obtain ⟨ji26,hji26⟩ : ∃ j_ : Int,(wrap64 (x3_1 - 1)) = j_:=⟨_,rfl⟩
          replace H : (if 0 ≤ (ji26) then (if (ji26) < (l0_1.length : Int) then (if ((rd_T48 l0_1 (ji26)).f0) ≥ ((rd_T48 l0_1 x3_1).f0) then (some false) else (thwartref12_Right.l0 k1 (wrap64 (x3_1 + 1)) a0_0 l0_1)) else (none)) else (none)) = some r:=by first | (rw [hji26] at H;exact H) | (simp only [hji26] at H ⊢;exact H)
          have hji26w : (IntKind.i64.wrap (x3_1 - 1)) = ji26:=(i64_w _).trans hji26
          by_cases c27 : 0 ≤ (ji26)
          ·rw [if_pos c27] at H
           have c27b0 : decide (0 ≤ (ji26)) = true:=decide_eq_true c27
           clear c27
           by_cases c28 : (ji26) < (l0_1.length : Int)
           ·rw [if_pos c28] at H
            have c28b0 : decide ((ji26) < (l0_1.length : Int)) = true:=decide_eq_true c28
            clear c28
            by_cases c29 : ((rd_T48 l0_1 (ji26)).f0) ≥ ((rd_T48 l0_1 x3_1).f0)
            ·rw [if_pos c29] at H
             have c29b0 : decide (((rd_T48 l0_1 x3_1).f0) ≤ ((rd_T48 l0_1 (ji26)).f0)) = true:=decide_eq_true c29
             clear c29
             obtain rfl:=Option.some.inj H
             have hcz30_0 : wr.cell? ⟨gb158,0,none⟩ = some (.int .i64 a0_0):=(blk_cell BK158.out 0).trans rfl
             have hcz30_1 : wr.cell? ⟨gb158,1,none⟩ = some (.slice A0_1 l0_1.length c0_1):=(blk_cell BK158.out 1).trans rfl
             have hfz30_0:=blk_frozen BK158.out 0
             have hfz30_1:=blk_frozen BK158.out 1
             have p159 : 0 ≤ (x3_1 : Int):=of_decide_eq_true (by first | (with_reducible assumption) | assumption)
             have q159 : x3_1 < (l0_1.length : Int):=of_decide_eq_true (by first | (with_reducible assumption) | assumption)
             obtain ⟨ad159,e159,hx159_0,hx159_1,hx159_2⟩:=at_T48 HR0_1.out x3_1 p159 q159
             cases e159
             replace hx159_0:=(HB.out.cell (World.block_lt_of_cell? w _ hx159_0)).trans hx159_0
             replace hx159_1:=(HB.out.cell (World.block_lt_of_cell? w _ hx159_1)).trans hx159_1
             replace hx159_2:=(HB.out.cell (World.block_lt_of_cell? w _ hx159_2)).trans hx159_2
             replace p159:=eq_true p159
             replace q159:=eq_true q159
             go_wp2_with (first | ((with_reducible refine gate_dst (N:=4) rfl ?_);(try (refine gate_guard (by rfl) ?_;dsimp only));refine box_event ?hg (N:=4) ?hd (cs := #[.int .i64 0,.int .i64 0,.int .u32 0]) (t:=48) ?hr ?_;(case hd => rfl);(case hg => rfl);(case hr => first | (go_simp;done) | (go_simp;rfl));intro gb160 hg w31 hbox hb;have n0_:=Aside0.mk (blk_below (g:=gb158) (o := .cells #[.int .i64 a0_0,.slice (some ad159) l0_1.length c0_1] 32 (0,0)) (by (with_reducible repeat (first | refine blk_drewN ?_ _ | refine blk_drew ?_ | refine blk_alloc ?_ _));exact BK158.out) hb);have n1_:=Aside0.mk (below_step (by repeat (first | (with_reducible first | exact HB.out | apply below_alloc | apply pw_below_drewN | apply below_drew1 | refine below_set ?_ GE158.out) | exact HB.out)) hb);have n2_:=Aside0.mk (hbox);have n3_:=Aside0.mk ((by rw [hg];exact (below_size (by repeat (first | (with_reducible first | exact HB.out | apply below_alloc | apply pw_below_drewN | apply below_drew1 | refine below_set ?_ GE158.out) | exact HB.out))) : w.heap.size ≤ gb160));have n4_:=Aside0.mk ((by rw [hg];exact (below_size (by repeat (first | (with_reducible first | exact HB.out | apply below_alloc | apply pw_below_drewN | apply below_drew1 | refine below_set ?_ GE158.out) | exact HB.out))) : w.heap.size ≤ gb160));have n5_:=Aside0.mk ((by rw [hg];exact Nat.ne_of_lt (blk_lt (g:=gb158) (o := .cells #[.int .i64 a0_0,.slice (some ad159) l0_1.length c0_1] 32 (0,0)) (by (with_reducible repeat (first | refine blk_drewN ?_ _ | refine blk_drew ?_ | refine blk_alloc ?_ _));exact BK158.out)) : gb158 ≠ gb160));have n6_:=Aside0.mk ((by rw [hg];exact Nat.ne_of_gt (blk_lt (g:=gb158) (o := .cells #[.int .i64 a0_0,.slice (some ad159) l0_1.length c0_1] 32 (0,0)) (by (with_reducible repeat (first | refine blk_drewN ?_ _ | refine blk_drew ?_ | refine blk_alloc ?_ _));exact BK158.out)) : gb160 ≠ gb158));clear BK158;clear HB;have BK158:=n0_;have HB:=n1_;have BK160:=n2_;have GW160:=n3_;have GE160:=n4_;have NB158_160:=n5_;have NB160_158:=n6_;clear n0_ n1_ n2_ n3_ n4_ n5_ n6_;clear hb hbox hg;have hnb32:=NB160_158.out;have hnc32:=NB158_160.out;have hcz33_0 : w31.cell? ⟨gb160,0,none⟩ = some (.int .i64 0):=(blk_cell BK160.out 0).trans rfl;have hcz33_1 : w31.cell? ⟨gb160,1,none⟩ = some (.int .i64 0):=(blk_cell BK160.out 1).trans rfl;have hcz33_2 : w31.cell? ⟨gb160,2,none⟩ = some (.int .u32 0):=(blk_cell BK160.out 2).trans rfl;have hfz33_0:=blk_frozen BK160.out 0;have hfz33_1:=blk_frozen BK160.out 1;have hfz33_2:=blk_frozen BK160.out 2;have hcz34_0 : w31.cell? ⟨gb158,0,none⟩ = some (.int .i64 a0_0):=(blk_cell BK158.out 0).trans rfl;have hcz34_1 : w31.cell? ⟨gb158,1,none⟩ = some (.slice (some ad159) l0_1.length c0_1):=(blk_cell BK158.out 1).trans rfl;have hfz34_0:=blk_frozen BK158.out 0;have hfz34_1:=blk_frozen BK158.out 1;have p161 : 0 ≤ ((ji26) : Int):=of_decide_eq_true (by first | (with_reducible assumption) | assumption);have q161 : (ji26) < (l0_1.length : Int):=of_decide_eq_true (by first | (with_reducible assumption) | assumption);obtain ⟨ad161,e161,hx161_0,hx161_1,hx161_2⟩:=at_T48 HR0_1.out (ji26) p161 q161;obtain rfl : ad159 = ad161:=(by injection e161);have hn161_0 : ad159.block ≠ gb160:=Nat.ne_of_lt (Nat.lt_of_lt_of_le (by have:=World.block_lt_of_cell? _ _ hx161_0;first | rwa [add_block] at this | exact this) GW160.out);have hn161_1 : ad159.block ≠ gb160:=Nat.ne_of_lt (Nat.lt_of_lt_of_le (by have:=World.block_lt_of_cell? _ _ hx161_0;first | rwa [add_block] at this | exact this) GW160.out);have hn161_2 : ad159.block ≠ gb160:=Nat.ne_of_lt (Nat.lt_of_lt_of_le (by have:=World.block_lt_of_cell? _ _ hx161_0;first | rwa [add_block] at this | exact this) GW160.out);replace hx161_0:=(HB.out.cell (World.block_lt_of_cell? w _ hx161_0)).trans hx161_0;replace hx161_1:=(HB.out.cell (World.block_lt_of_cell? w _ hx161_1)).trans hx161_1;replace hx161_2:=(HB.out.cell (World.block_lt_of_cell? w _ hx161_2)).trans hx161_2;replace hx161_0:=(cell_far (p:=⟨gb160,0,none⟩) (by first | (rw [add_block];exact hn161_0) | (show (Addr.add _ _).block ≠ _;rw [add_block];exact hn161_0) | exact hn161_0) (.int .i64 ((rd_T48 l0_1 x3_1).f0))).trans hx161_0;replace hx161_1:=(cell_far (p:=⟨gb160,0,none⟩) (by first | (rw [add_block];exact hn161_0) | (show (Addr.add _ _).block ≠ _;rw [add_block];exact hn161_0) | exact hn161_0) (.int .i64 ((rd_T48 l0_1 x3_1).f0))).trans hx161_1;replace hx161_2:=(cell_far (p:=⟨gb160,0,none⟩) (by first | (rw [add_block];exact hn161_0) | (show (Addr.add _ _).block ≠ _;rw [add_block];exact hn161_0) | exact hn161_0) (.int .i64 ((rd_T48 l0_1 x3_1).f0))).trans hx161_2;replace hx161_0:=(cell_far (p:=⟨gb160,1,none⟩) (by first | (rw [add_block];exact hn161_1) | (show (Addr.add _ _).block ≠ _;rw [add_block];exact hn161_1) | exact hn161_1) (.int .i64 ((rd_T48 l0_1 x3_1).f1))).trans hx161_0;replace hx161_1:=(cell_far (p:=⟨gb160,1,none⟩) (by first | (rw [add_block];exact hn161_1) | (show (Addr.add _ _).block ≠ _;rw [add_block];exact hn161_1) | exact hn161_1) (.int .i64 ((rd_T48 l0_1 x3_1).f1))).trans hx161_1;replace hx161_2:=(cell_far (p:=⟨gb160,1,none⟩) (by first | (rw [add_block];exact hn161_1) | (show (Addr.add _ _).block ≠ _;rw [add_block];exact hn161_1) | exact hn161_1) (.int .i64 ((rd_T48 l0_1 x3_1).f1))).trans hx161_2;replace hx161_0:=(cell_far (p:=⟨gb160,2,none⟩) (by first | (rw [add_block];exact hn161_2) | (show (Addr.add _ _).block ≠ _;rw [add_block];exact hn161_2) | exact hn161_2) (.int .u32 ((rd_T48 l0_1 x3_1).f2))).trans hx161_0;replace hx161_1:=(cell_far (p:=⟨gb160,2,none⟩) (by first | (rw [add_block];exact hn161_2) | (show (Addr.add _ _).block ≠ _;rw [add_block];exact hn161_2) | exact hn161_2) (.int .u32 ((rd_T48 l0_1 x3_1).f2))).trans hx161_1;replace hx161_2:=(cell_far (p:=⟨gb160,2,none⟩) (by first | (rw [add_block];exact hn161_2) | (show (Addr.add _ _).block ≠ _;rw [add_block];exact hn161_2) | exact hn161_2) (.int .u32 ((rd_T48 l0_1 x3_1).f2))).trans hx161_2;(try have hy161_0:=fun (n_ : Nat) => (show (((((w31.drewN n_).setCell ⟨gb160,0,none⟩ (.int .i64 ((rd_T48 l0_1 x3_1).f0))).setCell ⟨gb160,1,none⟩ (.int .i64 ((rd_T48 l0_1 x3_1).f1))).setCell ⟨gb160,2,none⟩ (.int .u32 ((rd_T48 l0_1 x3_1).f2)))).cell? _ = some _ from hx161_0));(try have hy161_1:=fun (n_ : Nat) => (show (((((w31.drewN n_).setCell ⟨gb160,0,none⟩ (.int .i64 ((rd_T48 l0_1 x3_1).f0))).setCell ⟨gb160,1,none⟩ (.int .i64 ((rd_T48 l0_1 x3_1).f1))).setCell ⟨gb160,2,none⟩ (.int .u32 ((rd_T48 l0_1 x3_1).f2)))).cell? _ = some _ from hx161_1));(try have hy161_2:=fun (n_ : Nat) => (show (((((w31.drewN n_).setCell ⟨gb160,0,none⟩ (.int .i64 ((rd_T48 l0_1 x3_1).f0))).setCell ⟨gb160,1,none⟩ (.int .i64 ((rd_T48 l0_1 x3_1).f1))).setCell ⟨gb160,2,none⟩ (.int .u32 ((rd_T48 l0_1 x3_1).f2)))).cell? _ = some _ from hx161_2));clear hn161_0;clear hn161_1;clear hn161_2;replace p161:=eq_true p161;replace q161:=eq_true q161))
             repeat (go_quiet (first | ((with_reducible refine gate_dst (N:=4) rfl ?_);(try (refine gate_guard (by rfl) ?_;dsimp only));refine box_event ?hg (N:=4) ?hd (cs := #[.int .i64 0,.int .i64 0,.int .u32 0]) (t:=48) ?hr ?_;(case hd => rfl);(case hg => rfl);(case hr => first | (go_simp;done) | (go_simp;rfl));intro gb160 hg w31 hbox hb;have n0_:=Aside0.mk (blk_below (g:=gb158) (o := .cells #[.int .i64 a0_0,.slice (some ad159) l0_1.length c0_1] 32 (0,0)) (by (with_reducible repeat (first | refine blk_drewN ?_ _ | refine blk_drew ?_ | refine blk_alloc ?_ _));exact BK158.out) hb);have n1_:=Aside0.mk (below_step (by repeat (first | (with_reducible first | exact HB.out | apply below_alloc | apply pw_below_drewN | apply below_drew1 | refine below_set ?_ GE158.out) | exact HB.out)) hb);have n2_:=Aside0.mk (hbox);have n3_:=Aside0.mk ((by rw [hg];exact (below_size (by repeat (first | (with_reducible first | exact HB.out | apply below_alloc | apply pw_below_drewN | apply below_drew1 | refine below_set ?_ GE158.out) | exact HB.out))) : w.heap.size ≤ gb160));have n4_:=Aside0.mk ((by rw [hg];exact (below_size (by repeat (first | (with_reducible first | exact HB.out | apply below_alloc | apply pw_below_drewN | apply below_drew1 | refine below_set ?_ GE158.out) | exact HB.out))) : w.heap.size ≤ gb160));have n5_:=Aside0.mk ((by rw [hg];exact Nat.ne_of_lt (blk_lt (g:=gb158) (o := .cells #[.int .i64 a0_0,.slice (some ad159) l0_1.length c0_1] 32 (0,0)) (by (with_reducible repeat (first | refine blk_drewN ?_ _ | refine blk_drew ?_ | refine blk_alloc ?_ _));exact BK158.out)) : gb158 ≠ gb160));have n6_:=Aside0.mk ((by rw [hg];exact Nat.ne_of_gt (blk_lt (g:=gb158) (o := .cells #[.int .i64 a0_0,.slice (some ad159) l0_1.length c0_1] 32 (0,0)) (by (with_reducible repeat (first | refine blk_drewN ?_ _ | refine blk_drew ?_ | refine blk_alloc ?_ _));exact BK158.out)) : gb160 ≠ gb158));clear BK158;clear HB;have BK158:=n0_;have HB:=n1_;have BK160:=n2_;have GW160:=n3_;have GE160:=n4_;have NB158_160:=n5_;have NB160_158:=n6_;clear n0_ n1_ n2_ n3_ n4_ n5_ n6_;clear hb hbox hg;have hnb32:=NB160_158.out;have hnc32:=NB158_160.out;have hcz33_0 : w31.cell? ⟨gb160,0,none⟩ = some (.int .i64 0):=(blk_cell BK160.out 0).trans rfl;have hcz33_1 : w31.cell? ⟨gb160,1,none⟩ = some (.int .i64 0):=(blk_cell BK160.out 1).trans rfl;have hcz33_2 : w31.cell? ⟨gb160,2,none⟩ = some (.int .u32 0):=(blk_cell BK160.out 2).trans rfl;have hfz33_0:=blk_frozen BK160.out 0;have hfz33_1:=blk_frozen BK160.out 1;have hfz33_2:=blk_frozen BK160.out 2;have hcz34_0 : w31.cell? ⟨gb158,0,none⟩ = some (.int .i64 a0_0):=(blk_cell BK158.out 0).trans rfl;have hcz34_1 : w31.cell? ⟨gb158,1,none⟩ = some (.slice (some ad159) l0_1.length c0_1):=(blk_cell BK158.out 1).trans rfl;have hfz34_0:=blk_frozen BK158.out 0;have hfz34_1:=blk_frozen BK158.out 1;have p161 : 0 ≤ ((ji26) : Int):=of_decide_eq_true (by first | (with_reducible assumption) | assumption);have q161 : (ji26) < (l0_1.length : Int):=of_decide_eq_true (by first | (with_reducible assumption) | assumption);obtain ⟨ad161,e161,hx161_0,hx161_1,hx161_2⟩:=at_T48 HR0_1.out (ji26) p161 q161;obtain rfl : ad159 = ad161:=(by injection e161);have hn161_0 : ad159.block ≠ gb160:=Nat.ne_of_lt (Nat.lt_of_lt_of_le (by have:=World.block_lt_of_cell? _ _ hx161_0;first | rwa [add_block] at this | exact this) GW160.out);have hn161_1 : ad159.block ≠ gb160:=Nat.ne_of_lt (Nat.lt_of_lt_of_le (by have:=World.block_lt_of_cell? _ _ hx161_0;first | rwa [add_block] at this | exact this) GW160.out);have hn161_2 : ad159.block ≠ gb160:=Nat.ne_of_lt (Nat.lt_of_lt_of_le (by have:=World.block_lt_of_cell? _ _ hx161_0;first | rwa [add_block] at this | exact this) GW160.out);replace hx161_0:=(HB.out.cell (World.block_lt_of_cell? w _ hx161_0)).trans hx161_0;replace hx161_1:=(HB.out.cell (World.block_lt_of_cell? w _ hx161_1)).trans hx161_1;replace hx161_2:=(HB.out.cell (World.block_lt_of_cell? w _ hx161_2)).trans hx161_2;replace hx161_0:=(cell_far (p:=⟨gb160,0,none⟩) (by first | (rw [add_block];exact hn161_0) | (show (Addr.add _ _).block ≠ _;rw [add_block];exact hn161_0) | exact hn161_0) (.int .i64 ((rd_T48 l0_1 x3_1).f0))).trans hx161_0;replace hx161_1:=(cell_far (p:=⟨gb160,0,none⟩) (by first | (rw [add_block];exact hn161_0) | (show (Addr.add _ _).block ≠ _;rw [add_block];exact hn161_0) | exact hn161_0) (.int .i64 ((rd_T48 l0_1 x3_1).f0))).trans hx161_1;replace hx161_2:=(cell_far (p:=⟨gb160,0,none⟩) (by first | (rw [add_block];exact hn161_0) | (show (Addr.add _ _).block ≠ _;rw [add_block];exact hn161_0) | exact hn161_0) (.int .i64 ((rd_T48 l0_1 x3_1).f0))).trans hx161_2;replace hx161_0:=(cell_far (p:=⟨gb160,1,none⟩) (by first | (rw [add_block];exact hn161_1) | (show (Addr.add _ _).block ≠ _;rw [add_block];exact hn161_1) | exact hn161_1) (.int .i64 ((rd_T48 l0_1 x3_1).f1))).trans hx161_0;replace hx161_1:=(cell_far (p:=⟨gb160,1,none⟩) (by first | (rw [add_block];exact hn161_1) | (show (Addr.add _ _).block ≠ _;rw [add_block];exact hn161_1) | exact hn161_1) (.int .i64 ((rd_T48 l0_1 x3_1).f1))).trans hx161_1;replace hx161_2:=(cell_far (p:=⟨gb160,1,none⟩) (by first | (rw [add_block];exact hn161_1) | (show (Addr.add _ _).block ≠ _;rw [add_block];exact hn161_1) | exact hn161_1) (.int .i64 ((rd_T48 l0_1 x3_1).f1))).trans hx161_2;replace hx161_0:=(cell_far (p:=⟨gb160,2,none⟩) (by first | (rw [add_block];exact hn161_2) | (show (Addr.add _ _).block ≠ _;rw [add_block];exact hn161_2) | exact hn161_2) (.int .u32 ((rd_T48 l0_1 x3_1).f2))).trans hx161_0;replace hx161_1:=(cell_far (p:=⟨gb160,2,none⟩) (by first | (rw [add_block];exact hn161_2) | (show (Addr.add _ _).block ≠ _;rw [add_block];exact hn161_2) | exact hn161_2) (.int .u32 ((rd_T48 l0_1 x3_1).f2))).trans hx161_1;replace hx161_2:=(cell_far (p:=⟨gb160,2,none⟩) (by first | (rw [add_block];exact hn161_2) | (show (Addr.add _ _).block ≠ _;rw [add_block];exact hn161_2) | exact hn161_2) (.int .u32 ((rd_T48 l0_1 x3_1).f2))).trans hx161_2;(try have hy161_0:=fun (n_ : Nat) => (show (((((w31.drewN n_).setCell ⟨gb160,0,none⟩ (.int .i64 ((rd_T48 l0_1 x3_1).f0))).setCell ⟨gb160,1,none⟩ (.int .i64 ((rd_T48 l0_1 x3_1).f1))).setCell ⟨gb160,2,none⟩ (.int .u32 ((rd_T48 l0_1 x3_1).f2)))).cell? _ = some _ from hx161_0));(try have hy161_1:=fun (n_ : Nat) => (show (((((w31.drewN n_).setCell ⟨gb160,0,none⟩ (.int .i64 ((rd_T48 l0_1 x3_1).f0))).setCell ⟨gb160,1,none⟩ (.int .i64 ((rd_T48 l0_1 x3_1).f1))).setCell ⟨gb160,2,none⟩ (.int .u32 ((rd_T48 l0_1 x3_1).f2)))).cell? _ = some _ from hx161_1));(try have hy161_2:=fun (n_ : Nat) => (show (((((w31.drewN n_).setCell ⟨gb160,0,none⟩ (.int .i64 ((rd_T48 l0_1 x3_1).f0))).setCell ⟨gb160,1,none⟩ (.int .i64 ((rd_T48 l0_1 x3_1).f1))).setCell ⟨gb160,2,none⟩ (.int .u32 ((rd_T48 l0_1 x3_1).f2)))).cell? _ = some _ from hx161_2));clear hn161_0;clear hn161_1;clear hn161_2;replace p161:=eq_true p161;replace q161:=eq_true q161));try go_wp2_with (first | ((with_reducible refine gate_dst (N:=4) rfl ?_);(try (refine gate_guard (by rfl) ?_;dsimp only));refine box_event ?hg (N:=4) ?hd (cs := #[.int .i64 0,.int .i64 0,.int .u32 0]) (t:=48) ?hr ?_;(case hd => rfl);(case hg => rfl);(case hr => first | (go_simp;done) | (go_simp;rfl));intro gb160 hg w31 hbox hb;have n0_:=Aside0.mk (blk_below (g:=gb158) (o := .cells #[.int .i64 a0_0,.slice (some ad159) l0_1.length c0_1] 32 (0,0)) (by (with_reducible repeat (first | refine blk_drewN ?_ _ | refine blk_drew ?_ | refine blk_alloc ?_ _));exact BK158.out) hb);have n1_:=Aside0.mk (below_step (by repeat (first | (with_reducible first | exact HB.out | apply below_alloc | apply pw_below_drewN | apply below_drew1 | refine below_set ?_ GE158.out) | exact HB.out)) hb);have n2_:=Aside0.mk (hbox);have n3_:=Aside0.mk ((by rw [hg];exact (below_size (by repeat (first | (with_reducible first | exact HB.out | apply below_alloc | apply pw_below_drewN | apply below_drew1 | refine below_set ?_ GE158.out) | exact HB.out))) : w.heap.size ≤ gb160));have n4_:=Aside0.mk ((by rw [hg];exact (below_size (by repeat (first | (with_reducible first | exact HB.out | apply below_alloc | apply pw_below_drewN | apply below_drew1 | refine below_set ?_ GE158.out) | exact HB.out))) : w.heap.size ≤ gb160));have n5_:=Aside0.mk ((by rw [hg];exact Nat.ne_of_lt (blk_lt (g:=gb158) (o := .cells #[.int .i64 a0_0,.slice (some ad159) l0_1.length c0_1] 32 (0,0)) (by (with_reducible repeat (first | refine blk_drewN ?_ _ | refine blk_drew ?_ | refine blk_alloc ?_ _));exact BK158.out)) : gb158 ≠ gb160));have n6_:=Aside0.mk ((by rw [hg];exact Nat.ne_of_gt (blk_lt (g:=gb158) (o := .cells #[.int .i64 a0_0,.slice (some ad159) l0_1.length c0_1] 32 (0,0)) (by (with_reducible repeat (first | refine blk_drewN ?_ _ | refine blk_drew ?_ | refine blk_alloc ?_ _));exact BK158.out)) : gb160 ≠ gb158));clear BK158;clear HB;have BK158:=n0_;have HB:=n1_;have BK160:=n2_;have GW160:=n3_;have GE160:=n4_;have NB158_160:=n5_;have NB160_158:=n6_;clear n0_ n1_ n2_ n3_ n4_ n5_ n6_;clear hb hbox hg;have hnb32:=NB160_158.out;have hnc32:=NB158_160.out;have hcz33_0 : w31.cell? ⟨gb160,0,none⟩ = some (.int .i64 0):=(blk_cell BK160.out 0).trans rfl;have hcz33_1 : w31.cell? ⟨gb160,1,none⟩ = some (.int .i64 0):=(blk_cell BK160.out 1).trans rfl;have hcz33_2 : w31.cell? ⟨gb160,2,none⟩ = some (.int .u32 0):=(blk_cell BK160.out 2).trans rfl;have hfz33_0:=blk_frozen BK160.out 0;have hfz33_1:=blk_frozen BK160.out 1;have hfz33_2:=blk_frozen BK160.out 2;have hcz34_0 : w31.cell? ⟨gb158,0,none⟩ = some (.int .i64 a0_0):=(blk_cell BK158.out 0).trans rfl;have hcz34_1 : w31.cell? ⟨gb158,1,none⟩ = some (.slice (some ad159) l0_1.length c0_1):=(blk_cell BK158.out 1).trans rfl;have hfz34_0:=blk_frozen BK158.out 0;have hfz34_1:=blk_frozen BK158.out 1;have p161 : 0 ≤ ((ji26) : Int):=of_decide_eq_true (by first | (with_reducible assumption) | assumption);have q161 : (ji26) < (l0_1.length : Int):=of_decide_eq_true (by first | (with_reducible assumption) | assumption);obtain ⟨ad161,e161,hx161_0,hx161_1,hx161_2⟩:=at_T48 HR0_1.out (ji26) p161 q161;obtain rfl : ad159 = ad161:=(by injection e161);have hn161_0 : ad159.block ≠ gb160:=Nat.ne_of_lt (Nat.lt_of_lt_of_le (by have:=World.block_lt_of_cell? _ _ hx161_0;first | rwa [add_block] at this | exact this) GW160.out);have hn161_1 : ad159.block ≠ gb160:=Nat.ne_of_lt (Nat.lt_of_lt_of_le (by have:=World.block_lt_of_cell? _ _ hx161_0;first | rwa [add_block] at this | exact this) GW160.out);have hn161_2 : ad159.block ≠ gb160:=Nat.ne_of_lt (Nat.lt_of_lt_of_le (by have:=World.block_lt_of_cell? _ _ hx161_0;first | rwa [add_block] at this | exact this) GW160.out);replace hx161_0:=(HB.out.cell (World.block_lt_of_cell? w _ hx161_0)).trans hx161_0;replace hx161_1:=(HB.out.cell (World.block_lt_of_cell? w _ hx161_1)).trans hx161_1;replace hx161_2:=(HB.out.cell (World.block_lt_of_cell? w _ hx161_2)).trans hx161_2;replace hx161_0:=(cell_far (p:=⟨gb160,0,none⟩) (by first | (rw [add_block];exact hn161_0) | (show (Addr.add _ _).block ≠ _;rw [add_block];exact hn161_0) | exact hn161_0) (.int .i64 ((rd_T48 l0_1 x3_1).f0))).trans hx161_0;replace hx161_1:=(cell_far (p:=⟨gb160,0,none⟩) (by first | (rw [add_block];exact hn161_0) | (show (Addr.add _ _).block ≠ _;rw [add_block];exact hn161_0) | exact hn161_0) (.int .i64 ((rd_T48 l0_1 x3_1).f0))).trans hx161_1;replace hx161_2:=(cell_far (p:=⟨gb160,0,none⟩) (by first | (rw [add_block];exact hn161_0) | (show (Addr.add _ _).block ≠ _;rw [add_block];exact hn161_0) | exact hn161_0) (.int .i64 ((rd_T48 l0_1 x3_1).f0))).trans hx161_2;replace hx161_0:=(cell_far (p:=⟨gb160,1,none⟩) (by first | (rw [add_block];exact hn161_1) | (show (Addr.add _ _).block ≠ _;rw [add_block];exact hn161_1) | exact hn161_1) (.int .i64 ((rd_T48 l0_1 x3_1).f1))).trans hx161_0;replace hx161_1:=(cell_far (p:=⟨gb160,1,none⟩) (by first | (rw [add_block];exact hn161_1) | (show (Addr.add _ _).block ≠ _;rw [add_block];exact hn161_1) | exact hn161_1) (.int .i64 ((rd_T48 l0_1 x3_1).f1))).trans hx161_1;replace hx161_2:=(cell_far (p:=⟨gb160,1,none⟩) (by first | (rw [add_block];exact hn161_1) | (show (Addr.add _ _).block ≠ _;rw [add_block];exact hn161_1) | exact hn161_1) (.int .i64 ((rd_T48 l0_1 x3_1).f1))).trans hx161_2;replace hx161_0:=(cell_far (p:=⟨gb160,2,none⟩) (by first | (rw [add_block];exact hn161_2) | (show (Addr.add _ _).block ≠ _;rw [add_block];exact hn161_2) | exact hn161_2) (.int .u32 ((rd_T48 l0_1 x3_1).f2))).trans hx161_0;replace hx161_1:=(cell_far (p:=⟨gb160,2,none⟩) (by first | (rw [add_block];exact hn161_2) | (show (Addr.add _ _).block ≠ _;rw [add_block];exact hn161_2) | exact hn161_2) (.int .u32 ((rd_T48 l0_1 x3_1).f2))).trans hx161_1;replace hx161_2:=(cell_far (p:=⟨gb160,2,none⟩) (by first | (rw [add_block];exact hn161_2) | (show (Addr.add _ _).block ≠ _;rw [add_block];exact hn161_2) | exact hn161_2) (.int .u32 ((rd_T48 l0_1 x3_1).f2))).trans hx161_2;(try have hy161_0:=fun (n_ : Nat) => (show (((((w31.drewN n_).setCell ⟨gb160,0,none⟩ (.int .i64 ((rd_T48 l0_1 x3_1).f0))).setCell ⟨gb160,1,none⟩ (.int .i64 ((rd_T48 l0_1 x3_1).f1))).setCell ⟨gb160,2,none⟩ (.int .u32 ((rd_T48 l0_1 x3_1).f2)))).cell? _ = some _ from hx161_0));(try have hy161_1:=fun (n_ : Nat) => (show (((((w31.drewN n_).setCell ⟨gb160,0,none⟩ (.int .i64 ((rd_T48 l0_1 x3_1).f0))).setCell ⟨gb160,1,none⟩ (.int .i64 ((rd_T48 l0_1 x3_1).f1))).setCell ⟨gb160,2,none⟩ (.int .u32 ((rd_T48 l0_1 x3_1).f2)))).cell? _ = some _ from hx161_1));(try have hy161_2:=fun (n_ : Nat) => (show (((((w31.drewN n_).setCell ⟨gb160,0,none⟩ (.int .i64 ((rd_T48 l0_1 x3_1).f0))).setCell ⟨gb160,1,none⟩ (.int .i64 ((rd_T48 l0_1 x3_1).f1))).setCell ⟨gb160,2,none⟩ (.int .u32 ((rd_T48 l0_1 x3_1).f2)))).cell? _ = some _ from hx161_2));clear hn161_0;clear hn161_1;clear hn161_2;replace p161:=eq_true p161;replace q161:=eq_true q161)))
             go_ret
             exact ⟨by first | rfl | (simp [errW_none,errW_some] <;> rfl) | (simp only [← hji26];first | rfl | (simp [errW_none,errW_some] <;> rfl)) | (simp [*,errW_none,errW_some] <;> rfl) | (simp [errW_none,errW_some];exact isEmpty_bne _),by repeat (first | (with_reducible first | exact HB.out | apply below_alloc | apply pw_below_drewN | apply below_drew1 | refine below_set ?_ GE158.out | refine below_set ?_ GE160.out) | exact HB.out)⟩
            ·rw [if_neg c29] at H
             have c29b0 : decide (((rd_T48 l0_1 x3_1).f0) ≤ ((rd_T48 l0_1 (ji26)).f0)) = false:=decide_eq_false c29
             clear c29
             have H' := Aside0.mk H
             clear H
             have hcz35_0 : wr.cell? ⟨gb158,0,none⟩ = some (.int .i64 a0_0):=(blk_cell BK158.out 0).trans rfl
             have hcz35_1 : wr.cell? ⟨gb158,1,none⟩ = some (.slice A0_1 l0_1.length c0_1):=(blk_cell BK158.out 1).trans rfl
             have hfz35_0:=blk_frozen BK158.out 0
             have hfz35_1:=blk_frozen BK158.out 1
             have p159 : 0 ≤ (x3_1 : Int):=of_decide_eq_true (by first | (with_reducible assumption) | assumption)
             have q159 : x3_1 < (l0_1.length : Int):=of_decide_eq_true (by first | (with_reducible assumption) | assumption)
             obtain ⟨ad159,e159,hx159_0,hx159_1,hx159_2⟩:=at_T48 HR0_1.out x3_1 p159 q159
             cases e159
             replace hx159_0:=(HB.out.cell (World.block_lt_of_cell? w _ hx159_0)).trans hx159_0
             replace hx159_1:=(HB.out.cell (World.block_lt_of_cell? w _ hx159_1)).trans hx159_1
             replace hx159_2:=(HB.out.cell (World.block_lt_of_cell? w _ hx159_2)).trans hx159_2
             replace p159:=eq_true p159
             replace q159:=eq_true q159
             go_wp2_with (first | ((with_reducible refine gate_dst (N:=4) rfl ?_);(try (refine gate_guard (by rfl) ?_;dsimp only));refine box_event ?hg (N:=4) ?hd (cs := #[.int .i64 0,.int .i64 0,.int .u32 0]) (t:=48) ?hr ?_;(case hd => rfl);(case hg => rfl);(case hr => first | (go_simp;done) | (go_simp;rfl));intro gb160 hg w36 hbox hb;have n0_:=Aside0.mk (blk_below (g:=gb158) (o := .cells #[.int .i64 a0_0,.slice (some ad159) l0_1.length c0_1] 32 (0,0)) (by (with_reducible repeat (first | refine blk_drewN ?_ _ | refine blk_drew ?_ | refine blk_alloc ?_ _));exact BK158.out) hb);have n1_:=Aside0.mk (below_step (by repeat (first | (with_reducible first | exact HB.out | apply below_alloc | apply pw_below_drewN | apply below_drew1 | refine below_set ?_ GE158.out) | exact HB.out)) hb);have n2_:=Aside0.mk (hbox);have n3_:=Aside0.mk ((by rw [hg];exact (below_size (by repeat (first | (with_reducible first | exact HB.out | apply below_alloc | apply pw_below_drewN | apply below_drew1 | refine below_set ?_ GE158.out) | exact HB.out))) : w.heap.size ≤ gb160));have n4_:=Aside0.mk ((by rw [hg];exact (below_size (by repeat (first | (with_reducible first | exact HB.out | apply below_alloc | apply pw_below_drewN | apply below_drew1 | refine below_set ?_ GE158.out) | exact HB.out))) : w.heap.size ≤ gb160));have n5_:=Aside0.mk ((by rw [hg];exact Nat.ne_of_lt (blk_lt (g:=gb158) (o := .cells #[.int .i64 a0_0,.slice (some ad159) l0_1.length c0_1] 32 (0,0)) (by (with_reducible repeat (first | refine blk_drewN ?_ _ | refine blk_drew ?_ | refine blk_alloc ?_ _));exact BK158.out)) : gb158 ≠ gb160));have n6_:=Aside0.mk ((by rw [hg];exact Nat.ne_of_gt (blk_lt (g:=gb158) (o := .cells #[.int .i64 a0_0,.slice (some ad159) l0_1.length c0_1] 32 (0,0)) (by (with_reducible repeat (first | refine blk_drewN ?_ _ | refine blk_drew ?_ | refine blk_alloc ?_ _));exact BK158.out)) : gb160 ≠ gb158));clear BK158;clear HB;have BK158:=n0_;have HB:=n1_;have BK160:=n2_;have GW160:=n3_;have GE160:=n4_;have NB158_160:=n5_;have NB160_158:=n6_;clear n0_ n1_ n2_ n3_ n4_ n5_ n6_;clear hb hbox hg;have hnb37:=NB160_158.out;have hnc37:=NB158_160.out;have hcz38_0 : w36.cell? ⟨gb160,0,none⟩ = some (.int .i64 0):=(blk_cell BK160.out 0).trans rfl;have hcz38_1 : w36.cell? ⟨gb160,1,none⟩ = some (.int .i64 0):=(blk_cell BK160.out 1).trans rfl;have hcz38_2 : w36.cell? ⟨gb160,2,none⟩ = some (.int .u32 0):=(blk_cell BK160.out 2).trans rfl;have hfz38_0:=blk_frozen BK160.out 0;have hfz38_1:=blk_frozen BK160.out 1;have hfz38_2:=blk_frozen BK160.out 2;have hcz39_0 : w36.cell? ⟨gb158,0,none⟩ = some (.int .i64 a0_0):=(blk_cell BK158.out 0).trans rfl;have hcz39_1 : w36.cell? ⟨gb158,1,none⟩ = some (.slice (some ad159) l0_1.length c0_1):=(blk_cell BK158.out 1).trans rfl;have hfz39_0:=blk_frozen BK158.out 0;have hfz39_1:=blk_frozen BK158.out 1;have p161 : 0 ≤ ((ji26) : Int):=of_decide_eq_true (by first | (with_reducible assumption) | assumption);have q161 : (ji26) < (l0_1.length : Int):=of_decide_eq_true (by first | (with_reducible assumption) | assumption);obtain ⟨ad161,e161,hx161_0,hx161_1,hx161_2⟩:=at_T48 HR0_1.out (ji26) p161 q161;obtain rfl : ad159 = ad161:=(by injection e161);have hn161_0 : ad159.block ≠ gb160:=Nat.ne_of_lt (Nat.lt_of_lt_of_le (by have:=World.block_lt_of_cell? _ _ hx161_0;first | rwa [add_block] at this | exact this) GW160.out);have hn161_1 : ad159.block ≠ gb160:=Nat.ne_of_lt (Nat.lt_of_lt_of_le (by have:=World.block_lt_of_cell? _ _ hx161_0;first | rwa [add_block] at this | exact this) GW160.out);have hn161_2 : ad159.block ≠ gb160:=Nat.ne_of_lt (Nat.lt_of_lt_of_le (by have:=World.block_lt_of_cell? _ _ hx161_0;first | rwa [add_block] at this | exact this) GW160.out);replace hx161_0:=(HB.out.cell (World.block_lt_of_cell? w _ hx161_0)).trans hx161_0;replace hx161_1:=(HB.out.cell (World.block_lt_of_cell? w _ hx161_1)).trans hx161_1;replace hx161_2:=(HB.out.cell (World.block_lt_of_cell? w _ hx161_2)).trans hx161_2;replace hx161_0:=(cell_far (p:=⟨gb160,0,none⟩) (by first | (rw [add_block];exact hn161_0) | (show (Addr.add _ _).block ≠ _;rw [add_block];exact hn161_0) | exact hn161_0) (.int .i64 ((rd_T48 l0_1 x3_1).f0))).trans hx161_0;replace hx161_1:=(cell_far (p:=⟨gb160,0,none⟩) (by first | (rw [add_block];exact hn161_0) | (show (Addr.add _ _).block ≠ _;rw [add_block];exact hn161_0) | exact hn161_0) (.int .i64 ((rd_T48 l0_1 x3_1).f0))).trans hx161_1;replace hx161_2:=(cell_far (p:=⟨gb160,0,none⟩) (by first | (rw [add_block];exact hn161_0) | (show (Addr.add _ _).block ≠ _;rw [add_block];exact hn161_0) | exact hn161_0) (.int .i64 ((rd_T48 l0_1 x3_1).f0))).trans hx161_2;replace hx161_0:=(cell_far (p:=⟨gb160,1,none⟩) (by first | (rw [add_block];exact hn161_1) | (show (Addr.add _ _).block ≠ _;rw [add_block];exact hn161_1) | exact hn161_1) (.int .i64 ((rd_T48 l0_1 x3_1).f1))).trans hx161_0;replace hx161_1:=(cell_far (p:=⟨gb160,1,none⟩) (by first | (rw [add_block];exact hn161_1) | (show (Addr.add _ _).block ≠ _;rw [add_block];exact hn161_1) | exact hn161_1) (.int .i64 ((rd_T48 l0_1 x3_1).f1))).trans hx161_1;replace hx161_2:=(cell_far (p:=⟨gb160,1,none⟩) (by first | (rw [add_block];exact hn161_1) | (show (Addr.add _ _).block ≠ _;rw [add_block];exact hn161_1) | exact hn161_1) (.int .i64 ((rd_T48 l0_1 x3_1).f1))).trans hx161_2;replace hx161_0:=(cell_far (p:=⟨gb160,2,none⟩) (by first | (rw [add_block];exact hn161_2) | (show (Addr.add _ _).block ≠ _;rw [add_block];exact hn161_2) | exact hn161_2) (.int .u32 ((rd_T48 l0_1 x3_1).f2))).trans hx161_0;replace hx161_1:=(cell_far (p:=⟨gb160,2,none⟩) (by first | (rw [add_block];exact hn161_2) | (show (Addr.add _ _).block ≠ _;rw [add_block];exact hn161_2) | exact hn161_2) (.int .u32 ((rd_T48 l0_1 x3_1).f2))).trans hx161_1;replace hx161_2:=(cell_far (p:=⟨gb160,2,none⟩) (by first | (rw [add_block];exact hn161_2) | (show (Addr.add _ _).block ≠ _;rw [add_block];exact hn161_2) | exact hn161_2) (.int .u32 ((rd_T48 l0_1 x3_1).f2))).trans hx161_2;(try have hy161_0:=fun (n_ : Nat) => (show (((((w36.drewN n_).setCell ⟨gb160,0,none⟩ (.int .i64 ((rd_T48 l0_1 x3_1).f0))).setCell ⟨gb160,1,none⟩ (.int .i64 ((rd_T48 l0_1 x3_1).f1))).setCell ⟨gb160,2,none⟩ (.int .u32 ((rd_T48 l0_1 x3_1).f2)))).cell? _ = some _ from hx161_0));(try have hy161_1:=fun (n_ : Nat) => (show (((((w36.drewN n_).setCell ⟨gb160,0,none⟩ (.int .i64 ((rd_T48 l0_1 x3_1).f0))).setCell ⟨gb160,1,none⟩ (.int .i64 ((rd_T48 l0_1 x3_1).f1))).setCell ⟨gb160,2,none⟩ (.int .u32 ((rd_T48 l0_1 x3_1).f2)))).cell? _ = some _ from hx161_1));(try have hy161_2:=fun (n_ : Nat) => (show (((((w36.drewN n_).setCell ⟨gb160,0,none⟩ (.int .i64 ((rd_T48 l0_1 x3_1).f0))).setCell ⟨gb160,1,none⟩ (.int .i64 ((rd_T48 l0_1 x3_1).f1))).setCell ⟨gb160,2,none⟩ (.int .u32 ((rd_T48 l0_1 x3_1).f2)))).cell? _ = some _ from hx161_2));clear hn161_0;clear hn161_1;clear hn161_2;replace p161:=eq_true p161;replace q161:=eq_true q161))
             repeat (go_quiet (first | ((with_reducible refine gate_dst (N:=4) rfl ?_);(try (refine gate_guard (by rfl) ?_;dsimp only));refine box_event ?hg (N:=4) ?hd (cs := #[.int .i64 0,.int .i64 0,.int .u32 0]) (t:=48) ?hr ?_;(case hd => rfl);(case hg => rfl);(case hr => first | (go_simp;done) | (go_simp;rfl));intro gb160 hg w36 hbox hb;have n0_:=Aside0.mk (blk_below (g:=gb158) (o := .cells #[.int .i64 a0_0,.slice (some ad159) l0_1.length c0_1] 32 (0,0)) (by (with_reducible repeat (first | refine blk_drewN ?_ _ | refine blk_drew ?_ | refine blk_alloc ?_ _));exact BK158.out) hb);have n1_:=Aside0.mk (below_step (by repeat (first | (with_reducible first | exact HB.out | apply below_alloc | apply pw_below_drewN | apply below_drew1 | refine below_set ?_ GE158.out) | exact HB.out)) hb);have n2_:=Aside0.mk (hbox);have n3_:=Aside0.mk ((by rw [hg];exact (below_size (by repeat (first | (with_reducible first | exact HB.out | apply below_alloc | apply pw_below_drewN | apply below_drew1 | refine below_set ?_ GE158.out) | exact HB.out))) : w.heap.size ≤ gb160));have n4_:=Aside0.mk ((by rw [hg];exact (below_size (by repeat (first | (with_reducible first | exact HB.out | apply below_alloc | apply pw_below_drewN | apply below_drew1 | refine below_set ?_ GE158.out) | exact HB.out))) : w.heap.size ≤ gb160));have n5_:=Aside0.mk ((by rw [hg];exact Nat.ne_of_lt (blk_lt (g:=gb158) (o := .cells #[.int .i64 a0_0,.slice (some ad159) l0_1.length c0_1] 32 (0,0)) (by (with_reducible repeat (first | refine blk_drewN ?_ _ | refine blk_drew ?_ | refine blk_alloc ?_ _));exact BK158.out)) : gb158 ≠ gb160));have n6_:=Aside0.mk ((by rw [hg];exact Nat.ne_of_gt (blk_lt (g:=gb158) (o := .cells #[.int .i64 a0_0,.slice (some ad159) l0_1.length c0_1] 32 (0,0)) (by (with_reducible repeat (first | refine blk_drewN ?_ _ | refine blk_drew ?_ | refine blk_alloc ?_ _));exact BK158.out)) : gb160 ≠ gb158));clear BK158;clear HB;have BK158:=n0_;have HB:=n1_;have BK160:=n2_;have GW160:=n3_;have GE160:=n4_;have NB158_160:=n5_;have NB160_158:=n6_;clear n0_ n1_ n2_ n3_ n4_ n5_ n6_;clear hb hbox hg;have hnb37:=NB160_158.out;have hnc37:=NB158_160.out;have hcz38_0 : w36.cell? ⟨gb160,0,none⟩ = some (.int .i64 0):=(blk_cell BK160.out 0).trans rfl;have hcz38_1 : w36.cell? ⟨gb160,1,none⟩ = some (.int .i64 0):=(blk_cell BK160.out 1).trans rfl;have hcz38_2 : w36.cell? ⟨gb160,2,none⟩ = some (.int .u32 0):=(blk_cell BK160.out 2).trans rfl;have hfz38_0:=blk_frozen BK160.out 0;have hfz38_1:=blk_frozen BK160.out 1;have hfz38_2:=blk_frozen BK160.out 2;have hcz39_0 : w36.cell? ⟨gb158,0,none⟩ = some (.int .i64 a0_0):=(blk_cell BK158.out 0).trans rfl;have hcz39_1 : w36.cell? ⟨gb158,1,none⟩ = some (.slice (some ad159) l0_1.length c0_1):=(blk_cell BK158.out 1).trans rfl;have hfz39_0:=blk_frozen BK158.out 0;have hfz39_1:=blk_frozen BK158.out 1;have p161 : 0 ≤ ((ji26) : Int):=of_decide_eq_true (by first | (with_reducible assumption) | assumption);have q161 : (ji26) < (l0_1.length : Int):=of_decide_eq_true (by first | (with_reducible assumption) | assumption);obtain ⟨ad161,e161,hx161_0,hx161_1,hx161_2⟩:=at_T48 HR0_1.out (ji26) p161 q161;obtain rfl : ad159 = ad161:=(by injection e161);have hn161_0 : ad159.block ≠ gb160:=Nat.ne_of_lt (Nat.lt_of_lt_of_le (by have:=World.block_lt_of_cell? _ _ hx161_0;first | rwa [add_block] at this | exact this) GW160.out);have hn161_1 : ad159.block ≠ gb160:=Nat.ne_of_lt (Nat.lt_of_lt_of_le (by have:=World.block_lt_of_cell? _ _ hx161_0;first | rwa [add_block] at this | exact this) GW160.out);have hn161_2 : ad159.block ≠ gb160:=Nat.ne_of_lt (Nat.lt_of_lt_of_le (by have:=World.block_lt_of_cell? _ _ hx161_0;first | rwa [add_block] at this | exact this) GW160.out);replace hx161_0:=(HB.out.cell (World.block_lt_of_cell? w _ hx161_0)).trans hx161_0;replace hx161_1:=(HB.out.cell (World.block_lt_of_cell? w _ hx161_1)).trans hx161_1;replace hx161_2:=(HB.out.cell (World.block_lt_of_cell? w _ hx161_2)).trans hx161_2;replace hx161_0:=(cell_far (p:=⟨gb160,0,none⟩) (by first | (rw [add_block];exact hn161_0) | (show (Addr.add _ _).block ≠ _;rw [add_block];exact hn161_0) | exact hn161_0) (.int .i64 ((rd_T48 l0_1 x3_1).f0))).trans hx161_0;replace hx161_1:=(cell_far (p:=⟨gb160,0,none⟩) (by first | (rw [add_block];exact hn161_0) | (show (Addr.add _ _).block ≠ _;rw [add_block];exact hn161_0) | exact hn161_0) (.int .i64 ((rd_T48 l0_1 x3_1).f0))).trans hx161_1;replace hx161_2:=(cell_far (p:=⟨gb160,0,none⟩) (by first | (rw [add_block];exact hn161_0) | (show (Addr.add _ _).block ≠ _;rw [add_block];exact hn161_0) | exact hn161_0) (.int .i64 ((rd_T48 l0_1 x3_1).f0))).trans hx161_2;replace hx161_0:=(cell_far (p:=⟨gb160,1,none⟩) (by first | (rw [add_block];exact hn161_1) | (show (Addr.add _ _).block ≠ _;rw [add_block];exact hn161_1) | exact hn161_1) (.int .i64 ((rd_T48 l0_1 x3_1).f1))).trans hx161_0;replace hx161_1:=(cell_far (p:=⟨gb160,1,none⟩) (by first | (rw [add_block];exact hn161_1) | (show (Addr.add _ _).block ≠ _;rw [add_block];exact hn161_1) | exact hn161_1) (.int .i64 ((rd_T48 l0_1 x3_1).f1))).trans hx161_1;replace hx161_2:=(cell_far (p:=⟨gb160,1,none⟩) (by first | (rw [add_block];exact hn161_1) | (show (Addr.add _ _).block ≠ _;rw [add_block];exact hn161_1) | exact hn161_1) (.int .i64 ((rd_T48 l0_1 x3_1).f1))).trans hx161_2;replace hx161_0:=(cell_far (p:=⟨gb160,2,none⟩) (by first | (rw [add_block];exact hn161_2) | (show (Addr.add _ _).block ≠ _;rw [add_block];exact hn161_2) | exact hn161_2) (.int .u32 ((rd_T48 l0_1 x3_1).f2))).trans hx161_0;replace hx161_1:=(cell_far (p:=⟨gb160,2,none⟩) (by first | (rw [add_block];exact hn161_2) | (show (Addr.add _ _).block ≠ _;rw [add_block];exact hn161_2) | exact hn161_2) (.int .u32 ((rd_T48 l0_1 x3_1).f2))).trans hx161_1;replace hx161_2:=(cell_far (p:=⟨gb160,2,none⟩) (by first | (rw [add_block];exact hn161_2) | (show (Addr.add _ _).block ≠ _;rw [add_block];exact hn161_2) | exact hn161_2) (.int .u32 ((rd_T48 l0_1 x3_1).f2))).trans hx161_2;(try have hy161_0:=fun (n_ : Nat) => (show (((((w36.drewN n_).setCell ⟨gb160,0,none⟩ (.int .i64 ((rd_T48 l0_1 x3_1).f0))).setCell ⟨gb160,1,none⟩ (.int .i64 ((rd_T48 l0_1 x3_1).f1))).setCell ⟨gb160,2,none⟩ (.int .u32 ((rd_T48 l0_1 x3_1).f2)))).cell? _ = some _ from hx161_0));(try have hy161_1:=fun (n_ : Nat) => (show (((((w36.drewN n_).setCell ⟨gb160,0,none⟩ (.int .i64 ((rd_T48 l0_1 x3_1).f0))).setCell ⟨gb160,1,none⟩ (.int .i64 ((rd_T48 l0_1 x3_1).f1))).setCell ⟨gb160,2,none⟩ (.int .u32 ((rd_T48 l0_1 x3_1).f2)))).cell? _ = some _ from hx161_1));(try have hy161_2:=fun (n_ : Nat) => (show (((((w36.drewN n_).setCell ⟨gb160,0,none⟩ (.int .i64 ((rd_T48 l0_1 x3_1).f0))).setCell ⟨gb160,1,none⟩ (.int .i64 ((rd_T48 l0_1 x3_1).f1))).setCell ⟨gb160,2,none⟩ (.int .u32 ((rd_T48 l0_1 x3_1).f2)))).cell? _ = some _ from hx161_2));clear hn161_0;clear hn161_1;clear hn161_2;replace p161:=eq_true p161;replace q161:=eq_true q161));try go_wp2_with (first | ((with_reducible refine gate_dst (N:=4) rfl ?_);(try (refine gate_guard (by rfl) ?_;dsimp only));refine box_event ?hg (N:=4) ?hd (cs := #[.int .i64 0,.int .i64 0,.int .u32 0]) (t:=48) ?hr ?_;(case hd => rfl);(case hg => rfl);(case hr => first | (go_simp;done) | (go_simp;rfl));intro gb160 hg w36 hbox hb;have n0_:=Aside0.mk (blk_below (g:=gb158) (o := .cells #[.int .i64 a0_0,.slice (some ad159) l0_1.length c0_1] 32 (0,0)) (by (with_reducible repeat (first | refine blk_drewN ?_ _ | refine blk_drew ?_ | refine blk_alloc ?_ _));exact BK158.out) hb);have n1_:=Aside0.mk (below_step (by repeat (first | (with_reducible first | exact HB.out | apply below_alloc | apply pw_below_drewN | apply below_drew1 | refine below_set ?_ GE158.out) | exact HB.out)) hb);have n2_:=Aside0.mk (hbox);have n3_:=Aside0.mk ((by rw [hg];exact (below_size (by repeat (first | (with_reducible first | exact HB.out | apply below_alloc | apply pw_below_drewN | apply below_drew1 | refine below_set ?_ GE158.out) | exact HB.out))) : w.heap.size ≤ gb160));have n4_:=Aside0.mk ((by rw [hg];exact (below_size (by repeat (first | (with_reducible first | exact HB.out | apply below_alloc | apply pw_below_drewN | apply below_drew1 | refine below_set ?_ GE158.out) | exact HB.out))) : w.heap.size ≤ gb160));have n5_:=Aside0.mk ((by rw [hg];exact Nat.ne_of_lt (blk_lt (g:=gb158) (o := .cells #[.int .i64 a0_0,.slice (some ad159) l0_1.length c0_1] 32 (0,0)) (by (with_reducible repeat (first | refine blk_drewN ?_ _ | refine blk_drew ?_ | refine blk_alloc ?_ _));exact BK158.out)) : gb158 ≠ gb160));have n6_:=Aside0.mk ((by rw [hg];exact Nat.ne_of_gt (blk_lt (g:=gb158) (o := .cells #[.int .i64 a0_0,.slice (some ad159) l0_1.length c0_1] 32 (0,0)) (by (with_reducible repeat (first | refine blk_drewN ?_ _ | refine blk_drew ?_ | refine blk_alloc ?_ _));exact BK158.out)) : gb160 ≠ gb158));clear BK158;clear HB;have BK158:=n0_;have HB:=n1_;have BK160:=n2_;have GW160:=n3_;have GE160:=n4_;have NB158_160:=n5_;have NB160_158:=n6_;clear n0_ n1_ n2_ n3_ n4_ n5_ n6_;clear hb hbox hg;have hnb37:=NB160_158.out;have hnc37:=NB158_160.out;have hcz38_0 : w36.cell? ⟨gb160,0,none⟩ = some (.int .i64 0):=(blk_cell BK160.out 0).trans rfl;have hcz38_1 : w36.cell? ⟨gb160,1,none⟩ = some (.int .i64 0):=(blk_cell BK160.out 1).trans rfl;have hcz38_2 : w36.cell? ⟨gb160,2,none⟩ = some (.int .u32 0):=(blk_cell BK160.out 2).trans rfl;have hfz38_0:=blk_frozen BK160.out 0;have hfz38_1:=blk_frozen BK160.out 1;have hfz38_2:=blk_frozen BK160.out 2;have hcz39_0 : w36.cell? ⟨gb158,0,none⟩ = some (.int .i64 a0_0):=(blk_cell BK158.out 0).trans rfl;have hcz39_1 : w36.cell? ⟨gb158,1,none⟩ = some (.slice (some ad159) l0_1.length c0_1):=(blk_cell BK158.out 1).trans rfl;have hfz39_0:=blk_frozen BK158.out 0;have hfz39_1:=blk_frozen BK158.out 1;have p161 : 0 ≤ ((ji26) : Int):=of_decide_eq_true (by first | (with_reducible assumption) | assumption);have q161 : (ji26) < (l0_1.length : Int):=of_decide_eq_true (by first | (with_reducible assumption) | assumption);obtain ⟨ad161,e161,hx161_0,hx161_1,hx161_2⟩:=at_T48 HR0_1.out (ji26) p161 q161;obtain rfl : ad159 = ad161:=(by injection e161);have hn161_0 : ad159.block ≠ gb160:=Nat.ne_of_lt (Nat.lt_of_lt_of_le (by have:=World.block_lt_of_cell? _ _ hx161_0;first | rwa [add_block] at this | exact this) GW160.out);have hn161_1 : ad159.block ≠ gb160:=Nat.ne_of_lt (Nat.lt_of_lt_of_le (by have:=World.block_lt_of_cell? _ _ hx161_0;first | rwa [add_block] at this | exact this) GW160.out);have hn161_2 : ad159.block ≠ gb160:=Nat.ne_of_lt (Nat.lt_of_lt_of_le (by have:=World.block_lt_of_cell? _ _ hx161_0;first | rwa [add_block] at this | exact this) GW160.out);replace hx161_0:=(HB.out.cell (World.block_lt_of_cell? w _ hx161_0)).trans hx161_0;replace hx161_1:=(HB.out.cell (World.block_lt_of_cell? w _ hx161_1)).trans hx161_1;replace hx161_2:=(HB.out.cell (World.block_lt_of_cell? w _ hx161_2)).trans hx161_2;replace hx161_0:=(cell_far (p:=⟨gb160,0,none⟩) (by first | (rw [add_block];exact hn161_0) | (show (Addr.add _ _).block ≠ _;rw [add_block];exact hn161_0) | exact hn161_0) (.int .i64 ((rd_T48 l0_1 x3_1).f0))).trans hx161_0;replace hx161_1:=(cell_far (p:=⟨gb160,0,none⟩) (by first | (rw [add_block];exact hn161_0) | (show (Addr.add _ _).block ≠ _;rw [add_block];exact hn161_0) | exact hn161_0) (.int .i64 ((rd_T48 l0_1 x3_1).f0))).trans hx161_1;replace hx161_2:=(cell_far (p:=⟨gb160,0,none⟩) (by first | (rw [add_block];exact hn161_0) | (show (Addr.add _ _).block ≠ _;rw [add_block];exact hn161_0) | exact hn161_0) (.int .i64 ((rd_T48 l0_1 x3_1).f0))).trans hx161_2;replace hx161_0:=(cell_far (p:=⟨gb160,1,none⟩) (by first | (rw [add_block];exact hn161_1) | (show (Addr.add _ _).block ≠ _;rw [add_block];exact hn161_1) | exact hn161_1) (.int .i64 ((rd_T48 l0_1 x3_1).f1))).trans hx161_0;replace hx161_1:=(cell_far (p:=⟨gb160,1,none⟩) (by first | (rw [add_block];exact hn161_1) | (show (Addr.add _ _).block ≠ _;rw [add_block];exact hn161_1) | exact hn161_1) (.int .i64 ((rd_T48 l0_1 x3_1).f1))).trans hx161_1;replace hx161_2:=(cell_far (p:=⟨gb160,1,none⟩) (by first | (rw [add_block];exact hn161_1) | (show (Addr.add _ _).block ≠ _;rw [add_block];exact hn161_1) | exact hn161_1) (.int .i64 ((rd_T48 l0_1 x3_1).f1))).trans hx161_2;replace hx161_0:=(cell_far (p:=⟨gb160,2,none⟩) (by first | (rw [add_block];exact hn161_2) | (show (Addr.add _ _).block ≠ _;rw [add_block];exact hn161_2) | exact hn161_2) (.int .u32 ((rd_T48 l0_1 x3_1).f2))).trans hx161_0;replace hx161_1:=(cell_far (p:=⟨gb160,2,none⟩) (by first | (rw [add_block];exact hn161_2) | (show (Addr.add _ _).block ≠ _;rw [add_block];exact hn161_2) | exact hn161_2) (.int .u32 ((rd_T48 l0_1 x3_1).f2))).trans hx161_1;replace hx161_2:=(cell_far (p:=⟨gb160,2,none⟩) (by first | (rw [add_block];exact hn161_2) | (show (Addr.add _ _).block ≠ _;rw [add_block];exact hn161_2) | exact hn161_2) (.int .u32 ((rd_T48 l0_1 x3_1).f2))).trans hx161_2;(try have hy161_0:=fun (n_ : Nat) => (show (((((w36.drewN n_).setCell ⟨gb160,0,none⟩ (.int .i64 ((rd_T48 l0_1 x3_1).f0))).setCell ⟨gb160,1,none⟩ (.int .i64 ((rd_T48 l0_1 x3_1).f1))).setCell ⟨gb160,2,none⟩ (.int .u32 ((rd_T48 l0_1 x3_1).f2)))).cell? _ = some _ from hx161_0));(try have hy161_1:=fun (n_ : Nat) => (show (((((w36.drewN n_).setCell ⟨gb160,0,none⟩ (.int .i64 ((rd_T48 l0_1 x3_1).f0))).setCell ⟨gb160,1,none⟩ (.int .i64 ((rd_T48 l0_1 x3_1).f1))).setCell ⟨gb160,2,none⟩ (.int .u32 ((rd_T48 l0_1 x3_1).f2)))).cell? _ = some _ from hx161_1));(try have hy161_2:=fun (n_ : Nat) => (show (((((w36.drewN n_).setCell ⟨gb160,0,none⟩ (.int .i64 ((rd_T48 l0_1 x3_1).f0))).setCell ⟨gb160,1,none⟩ (.int .i64 ((rd_T48 l0_1 x3_1).f1))).setCell ⟨gb160,2,none⟩ (.int .u32 ((rd_T48 l0_1 x3_1).f2)))).cell? _ = some _ from hx161_2));clear hn161_0;clear hn161_1;clear hn161_2;replace p161:=eq_true p161;replace q161:=eq_true q161)))
             go_roundg k1
             case measure => have:=HK1.out;omega
             case rel => exact ⟨(wrap64 (x3_1 + 1)),(by first | rfl | (simp;done) | (simp [*];done)),H',⟨by have:=HK1.out;omega⟩,⟨by (with_reducible repeat (first | refine blk_drewN ?_ _ | refine blk_drew ?_ | refine blk_alloc ?_ _));refine blk_far ?_ NB158_160.out _;(with_reducible repeat (first | refine blk_drewN ?_ _ | refine blk_drew ?_ | refine blk_alloc ?_ _));refine blk_far ?_ NB158_160.out _;(with_reducible repeat (first | refine blk_drewN ?_ _ | refine blk_drew ?_ | refine blk_alloc ?_ _));refine blk_far ?_ NB158_160.out _;(with_reducible repeat (first | refine blk_drewN ?_ _ | refine blk_drew ?_ | refine blk_alloc ?_ _));exact BK158.out⟩,⟨by repeat (first | (with_reducible first | exact HB.out | apply below_alloc | apply pw_below_drewN | apply below_drew1 | refine below_set ?_ GE158.out | refine below_set ?_ GE160.out) | exact HB.out)⟩⟩
           ·rw [if_neg c28] at H
            exact absurd H (by simp)
          ·rw [if_neg c27] at H
           exact absurd H (by simp)
         ·rw [if_neg c25] at H
          have c25b0 : decide (0 < x3_1) = false:=decide_eq_false c25
          clear c25
          have H' := Aside0.mk H
          clear H
          have hcz40_0 : wr.cell? ⟨gb158,0,none⟩ = some (.int .i64 a0_0):=(blk_cell BK158.out 0).trans rfl
          have hcz40_1 : wr.cell? ⟨gb158,1,none⟩ = some (.slice A0_1 l0_1.length c0_1):=(blk_cell BK158.out 1).trans rfl
          have hfz40_0:=blk_frozen BK158.out 0
          have hfz40_1:=blk_frozen BK158.out 1
          have p159 : 0 ≤ (x3_1 : Int):=of_decide_eq_true (by first | (with_reducible assumption) | assumption)
          have q159 : x3_1 < (l0_1.length : Int):=of_decide_eq_true (by first | (with_reducible assumption) | assumption)
          obtain ⟨ad159,e159,hx159_0,hx159_1,hx159_2⟩:=at_T48 HR0_1.out x3_1 p159 q159
          cases e159
          replace hx159_0:=(HB.out.cell (World.block_lt_of_cell? w _ hx159_0)).trans hx159_0
          replace hx159_1:=(HB.out.cell (World.block_lt_of_cell? w _ hx159_1)).trans hx159_1
          replace hx159_2:=(HB.out.cell (World.block_lt_of_cell? w _ hx159_2)).trans hx159_2
          replace p159:=eq_true p159
          replace q159:=eq_true q159
          go_wp2_with (first | ((with_reducible refine gate_dst (N:=4) rfl ?_);(try (refine gate_guard (by rfl) ?_;dsimp only));refine box_event ?hg (N:=4) ?hd (cs := #[.int .i64 0,.int .i64 0,.int .u32 0]) (t:=48) ?hr ?_;(case hd => rfl);(case hg => rfl);(case hr => first | (go_simp;done) | (go_simp;rfl));intro gb160 hg w41 hbox hb;have n0_:=Aside0.mk (blk_below (g:=gb158) (o := .cells #[.int .i64 a0_0,.slice (some ad159) l0_1.length c0_1] 32 (0,0)) (by (with_reducible repeat (first | refine blk_drewN ?_ _ | refine blk_drew ?_ | refine blk_alloc ?_ _));exact BK158.out) hb);have n1_:=Aside0.mk (below_step (by repeat (first | (with_reducible first | exact HB.out | apply below_alloc | apply pw_below_drewN | apply below_drew1 | refine below_set ?_ GE158.out) | exact HB.out)) hb);have n2_:=Aside0.mk (hbox);have n3_:=Aside0.mk ((by rw [hg];exact (below_size (by repeat (first | (with_reducible first | exact HB.out | apply below_alloc | apply pw_below_drewN | apply below_drew1 | refine below_set ?_ GE158.out) | exact HB.out))) : w.heap.size ≤ gb160));have n4_:=Aside0.mk ((by rw [hg];exact (below_size (by repeat (first | (with_reducible first | exact HB.out | apply below_alloc | apply pw_below_drewN | apply below_drew1 | refine below_set ?_ GE158.out) | exact HB.out))) : w.heap.size ≤ gb160));have n5_:=Aside0.mk ((by rw [hg];exact Nat.ne_of_lt (blk_lt (g:=gb158) (o := .cells #[.int .i64 a0_0,.slice (some ad159) l0_1.length c0_1] 32 (0,0)) (by (with_reducible repeat (first | refine blk_drewN ?_ _ | refine blk_drew ?_ | refine blk_alloc ?_ _));exact BK158.out)) : gb158 ≠ gb160));have n6_:=Aside0.mk ((by rw [hg];exact Nat.ne_of_gt (blk_lt (g:=gb158) (o := .cells #[.int .i64 a0_0,.slice (some ad159) l0_1.length c0_1] 32 (0,0)) (by (with_reducible repeat (first | refine blk_drewN ?_ _ | refine blk_drew ?_ | refine blk_alloc ?_ _));exact BK158.out)) : gb160 ≠ gb158));clear BK158;clear HB;have BK158:=n0_;have HB:=n1_;have BK160:=n2_;have GW160:=n3_;have GE160:=n4_;have NB158_160:=n5_;have NB160_158:=n6_;clear n0_ n1_ n2_ n3_ n4_ n5_ n6_;clear hb hbox hg;have hnb42:=NB160_158.out;have hnc42:=NB158_160.out;have hcz43_0 : w41.cell? ⟨gb160,0,none⟩ = some (.int .i64 0):=(blk_cell BK160.out 0).trans rfl;have hcz43_1 : w41.cell? ⟨gb160,1,none⟩ = some (.int .i64 0):=(blk_cell BK160.out 1).trans rfl;have hcz43_2 : w41.cell? ⟨gb160,2,none⟩ = some (.int .u32 0):=(blk_cell BK160.out 2).trans rfl;have hfz43_0:=blk_frozen BK160.out 0;have hfz43_1:=blk_frozen BK160.out 1;have hfz43_2:=blk_frozen BK160.out 2))
          repeat (go_quiet (first | ((with_reducible refine gate_dst (N:=4) rfl ?_);(try (refine gate_guard (by rfl) ?_;dsimp only));refine box_event ?hg (N:=4) ?hd (cs := #[.int .i64 0,.int .i64 0,.int .u32 0]) (t:=48) ?hr ?_;(case hd => rfl);(case hg => rfl);(case hr => first | (go_simp;done) | (go_simp;rfl));intro gb160 hg w41 hbox hb;have n0_:=Aside0.mk (blk_below (g:=gb158) (o := .cells #[.int .i64 a0_0,.slice (some ad159) l0_1.length c0_1] 32 (0,0)) (by (with_reducible repeat (first | refine blk_drewN ?_ _ | refine blk_drew ?_ | refine blk_alloc ?_ _));exact BK158.out) hb);have n1_:=Aside0.mk (below_step (by repeat (first | (with_reducible first | exact HB.out | apply below_alloc | apply pw_below_drewN | apply below_drew1 | refine below_set ?_ GE158.out) | exact HB.out)) hb);have n2_:=Aside0.mk (hbox);have n3_:=Aside0.mk ((by rw [hg];exact (below_size (by repeat (first | (with_reducible first | exact HB.out | apply below_alloc | apply pw_below_drewN | apply below_drew1 | refine below_set ?_ GE158.out) | exact HB.out))) : w.heap.size ≤ gb160));have n4_:=Aside0.mk ((by rw [hg];exact (below_size (by repeat (first | (with_reducible first | exact HB.out | apply below_alloc | apply pw_below_drewN | apply below_drew1 | refine below_set ?_ GE158.out) | exact HB.out))) : w.heap.size ≤ gb160));have n5_:=Aside0.mk ((by rw [hg];exact Nat.ne_of_lt (blk_lt (g:=gb158) (o := .cells #[.int .i64 a0_0,.slice (some ad159) l0_1.length c0_1] 32 (0,0)) (by (with_reducible repeat (first | refine blk_drewN ?_ _ | refine blk_drew ?_ | refine blk_alloc ?_ _));exact BK158.out)) : gb158 ≠ gb160));have n6_:=Aside0.mk ((by rw [hg];exact Nat.ne_of_gt (blk_lt (g:=gb158) (o := .cells #[.int .i64 a0_0,.slice (some ad159) l0_1.length c0_1] 32 (0,0)) (by (with_reducible repeat (first | refine blk_drewN ?_ _ | refine blk_drew ?_ | refine blk_alloc ?_ _));exact BK158.out)) : gb160 ≠ gb158));clear BK158;clear HB;have BK158:=n0_;have HB:=n1_;have BK160:=n2_;have GW160:=n3_;have GE160:=n4_;have NB158_160:=n5_;have NB160_158:=n6_;clear n0_ n1_ n2_ n3_ n4_ n5_ n6_;clear hb hbox hg;have hnb42:=NB160_158.out;have hnc42:=NB158_160.out;have hcz43_0 : w41.cell? ⟨gb160,0,none⟩ = some (.int .i64 0):=(blk_cell BK160.out 0).trans rfl;have hcz43_1 : w41.cell? ⟨gb160,1,none⟩ = some (.int .i64 0):=(blk_cell BK160.out 1).trans rfl;have hcz43_2 : w41.cell? ⟨gb160,2,none⟩ = some (.int .u32 0):=(blk_cell BK160.out 2).trans rfl;have hfz43_0:=blk_frozen BK160.out 0;have hfz43_1:=blk_frozen BK160.out 1;have hfz43_2:=blk_frozen BK160.out 2));try go_wp2_with (first | ((with_reducible refine gate_dst (N:=4) rfl ?_);(try (refine gate_guard (by rfl) ?_;dsimp only));refine box_event ?hg (N:=4) ?hd (cs := #[.int .i64 0,.int .i64 0,.int .u32 0]) (t:=48) ?hr ?_;(case hd => rfl);(case hg => rfl);(case hr => first | (go_simp;done) | (go_simp;rfl));intro gb160 hg w41 hbox hb;have n0_:=Aside0.mk (blk_below (g:=gb158) (o := .cells #[.int .i64 a0_0,.slice (some ad159) l0_1.length c0_1] 32 (0,0)) (by (with_reducible repeat (first | refine blk_drewN ?_ _ | refine blk_drew ?_ | refine blk_alloc ?_ _));exact BK158.out) hb);have n1_:=Aside0.mk (below_step (by repeat (first | (with_reducible first | exact HB.out | apply below_alloc | apply pw_below_drewN | apply below_drew1 | refine below_set ?_ GE158.out) | exact HB.out)) hb);have n2_:=Aside0.mk (hbox);have n3_:=Aside0.mk ((by rw [hg];exact (below_size (by repeat (first | (with_reducible first | exact HB.out | apply below_alloc | apply pw_below_drewN | apply below_drew1 | refine below_set ?_ GE158.out) | exact HB.out))) : w.heap.size ≤ gb160));have n4_:=Aside0.mk ((by rw [hg];exact (below_size (by repeat (first | (with_reducible first | exact HB.out | apply below_alloc | apply pw_below_drewN | apply below_drew1 | refine below_set ?_ GE158.out) | exact HB.out))) : w.heap.size ≤ gb160));have n5_:=Aside0.mk ((by rw [hg];exact Nat.ne_of_lt (blk_lt (g:=gb158) (o := .cells #[.int .i64 a0_0,.slice (some ad159) l0_1.length c0_1] 32 (0,0)) (by (with_reducible repeat (first | refine blk_drewN ?_ _ | refine blk_drew ?_ | refine blk_alloc ?_ _));exact BK158.out)) : gb158 ≠ gb160));have n6_:=Aside0.mk ((by rw [hg];exact Nat.ne_of_gt (blk_lt (g:=gb158) (o := .cells #[.int .i64 a0_0,.slice (some ad159) l0_1.length c0_1] 32 (0,0)) (by (with_reducible repeat (first | refine blk_drewN ?_ _ | refine blk_drew ?_ | refine blk_alloc ?_ _));exact BK158.out)) : gb160 ≠ gb158));clear BK158;clear HB;have BK158:=n0_;have HB:=n1_;have BK160:=n2_;have GW160:=n3_;have GE160:=n4_;have NB158_160:=n5_;have NB160_158:=n6_;clear n0_ n1_ n2_ n3_ n4_ n5_ n6_;clear hb hbox hg;have hnb42:=NB160_158.out;have hnc42:=NB158_160.out;have hcz43_0 : w41.cell? ⟨gb160,0,none⟩ = some (.int .i64 0):=(blk_cell BK160.out 0).trans rfl;have hcz43_1 : w41.cell? ⟨gb160,1,none⟩ = some (.int .i64 0):=(blk_cell BK160.out 1).trans rfl;have hcz43_2 : w41.cell? ⟨gb160,2,none⟩ = some (.int .u32 0):=(blk_cell BK160.out 2).trans rfl;have hfz43_0:=blk_frozen BK160.out 0;have hfz43_1:=blk_frozen BK160.out 1;have hfz43_2:=blk_frozen BK160.out 2)))
          go_roundg k1
          case measure => have:=HK1.out;omega
          case rel => exact ⟨(wrap64 (x3_1 + 1)),(by first | rfl | (simp;done) | (simp [*];done)),H',⟨by have:=HK1.out;omega⟩,⟨by (with_reducible repeat (first | refine blk_drewN ?_ _ | refine blk_drew ?_ | refine blk_alloc ?_ _));refine blk_far ?_ NB158_160.out _;(with_reducible repeat (first | refine blk_drewN ?_ _ | refine blk_drew ?_ | refine blk_alloc ?_ _));refine blk_far ?_ NB158_160.out _;(with_reducible repeat (first | refine blk_drewN ?_ _ | refine blk_drew ?_ | refine blk_alloc ?_ _));refine blk_far ?_ NB158_160.out _;(with_reducible repeat (first | refine blk_drewN ?_ _ | refine blk_drew ?_ | refine blk_alloc ?_ _));exact BK158.out⟩,⟨by repeat (first | (with_reducible first | exact HB.out | apply below_alloc | apply pw_below_drewN | apply below_drew1 | refine below_set ?_ GE158.out | refine below_set ?_ GE160.out) | exact HB.out)⟩⟩
    ·rw [if_neg c4] at H
     exact absurd H (by simp)
   ·rw [if_neg c3] at H
    have c3b0 : decide (x3_1 < (l0_1.length : Int)) = false:=decide_eq_false c3
    clear c3
    by_cases c44 : a0_0 ≥ 1
    ·rw [if_pos c44] at H
     have c44b0 : decide (1 ≤ a0_0) = true:=decide_eq_true c44
     clear c44
     by_cases c45 : a0_0 ≤ 999999
     ·rw [if_pos c45] at H
      have c45b0 : decide (a0_0 ≤ 999999) = true:=decide_eq_true c45
      clear c45
      obtain rfl:=Option.some.inj H
      have hcz46_0 : wr.cell? ⟨gb158,0,none⟩ = some (.int .i64 a0_0):=(blk_cell BK158.out 0).trans rfl
      have hcz46_1 : wr.cell? ⟨gb158,1,none⟩ = some (.slice A0_1 l0_1.length c0_1):=(blk_cell BK158.out 1).trans rfl
      have hfz46_0:=blk_frozen BK158.out 0
      have hfz46_1:=blk_frozen BK158.out 1
      go_wp2
      repeat (go_quiet (fail);try go_wp2)
      go_ret
      exact ⟨by first | rfl | (simp [errW_none,errW_some] <;> rfl) | (simp [*,errW_none,errW_some] <;> rfl) | (simp [errW_none,errW_some];exact isEmpty_bne _),by repeat (first | (with_reducible first | exact HB.out | apply below_alloc | apply pw_below_drewN | apply below_drew1 | refine below_set ?_ GE158.out) | exact HB.out)⟩
     ·rw [if_neg c45] at H
      have c45b0 : decide (a0_0 ≤ 999999) = false:=decide_eq_false c45
      clear c45
      obtain rfl:=Option.some.inj H
      have hcz47_0 : wr.cell? ⟨gb158,0,none⟩ = some (.int .i64 a0_0):=(blk_cell BK158.out 0).trans rfl
      have hcz47_1 : wr.cell? ⟨gb158,1,none⟩ = some (.slice A0_1 l0_1.length c0_1):=(blk_cell BK158.out 1).trans rfl
      have hfz47_0:=blk_frozen BK158.out 0
      have hfz47_1:=blk_frozen BK158.out 1
      go_wp2
      repeat (go_quiet (fail);try go_wp2)
      go_ret
      exact ⟨by first | rfl | (simp [errW_none,errW_some] <;> rfl) | (simp [*,errW_none,errW_some] <;> rfl) | (simp [errW_none,errW_some];exact isEmpty_bne _),by repeat (first | (with_reducible first | exact HB.out | apply below_alloc | apply pw_below_drewN | apply below_drew1 | refine below_set ?_ GE158.out) | exact HB.out)⟩
    ·rw [if_neg c44] at H
     have c44b0 : decide (1 ≤ a0_0) = false:=decide_eq_false c44
     clear c44
     obtain rfl:=Option.some.inj H
     have hcz48_0 : wr.cell? ⟨gb158,0,none⟩ = some (.int .i64 a0_0):=(blk_cell BK158.out 0).trans rfl
     have hcz48_1 : wr.cell? ⟨gb158,1,none⟩ = some (.slice A0_1 l0_1.length c0_1):=(blk_cell BK158.out 1).trans rfl
     have hfz48_0:=blk_frozen BK158.out 0
     have hfz48_1:=blk_frozen BK158.out 1
     go_wp2
     repeat (go_quiet (fail);try go_wp2)
     go_ret
     exact ⟨by first | rfl | (simp [errW_none,errW_some] <;> rfl) | (simp [*,errW_none,errW_some] <;> rfl) | (simp [errW_none,errW_some];exact isEmpty_bne _),by repeat (first | (with_reducible first | exact HB.out | apply below_alloc | apply pw_below_drewN | apply below_drew1 | refine below_set ?_ GE158.out) | exact HB.out)⟩

/-! ### thwartref01_Put: function 26 -/
def thwartref01_Put.f : Nat → Int → Option (ByteArray)
 | 0,_ => none
 | k + 1,a0 => if a0 < 128 then (some (strOfNums (([(a0) % 256] : List Int)))) else ((some (([(IntKind.u64.wrap (128 + (Int.tmod a0 128))) % 256] : List Int) : List Int)).bind fun y165 => ((thwartref01_Put.f k (IntKind.u64.wrap (Int.tdiv a0 128))).bind fun t168 => (if (strOfNums y165).size + t168.size ≤ 9223372036854775807 then (some ((strOfNums y165) ++ t168)) else (none))))
theorem thwartref01_Put.mono_l : ∀ k,(∀ y0,LeO (thwartref01_Put.f k y0) (thwartref01_Put.f (k + 1) y0))
 | 0 => fun _ r h => by simp [thwartref01_Put.f] at h
 | k + 1 => by
  have ih0:=thwartref01_Put.mono_l k
  ·intro y0
   unfold thwartref01_Put.f
   repeat' first
   | (with_reducible exact ih0 _)
   | (with_reducible exact LeO.refl _)
   | (with_reducible exact LeO.none _)
   | (with_reducible refine LeO.ite ?_ ?_)
   | (with_reducible refine LeO.bind ?_ (fun _ => ?_))
   | exact ih0 _
   | exact LeO.none _
   | refine LeO.ite ?_ ?_
   | refine LeO.bind ?_ (fun _ => ?_)
theorem thwartref01_Put.mono : ∀ a0 k,LeO (thwartref01_Put.f k a0) (thwartref01_Put.f (k + 1) a0):=by
 intro a0 k
 have ih0:=thwartref01_Put.mono_l k
 exact ih0 a0
def thwartref01_Put.T3 : Bool × List (List Nat × List Nat):=(true,[([],[]),([0],[0]),([1],[1]),([2],[2]),([3],[3]),([4],[4]),([],[]),([6],[6]),([7],[7]),([5,8],[5,8]),([9,8,0,1,2,3,4,5,6,7,8,9],[9])])
def thwartref01_Put.B3 : List Nat:=[0,1,3,7,15,31,0,64,192,511,1023]
theorem thwartref01_Put.tab3 : rtab .any (opsOf Tryd.f26 3) = thwartref01_Put.T3:=by kernel_rfl
theorem thwartref01_Put.bits3 : waitsOk thwartref01_Put.T3.2 thwartref01_Put.B3 = true:=by kernel_rfl
set_option maxHeartbeats 8000000 in
set_option maxRecDepth 100000 in
theorem thwartref01_Put.calls (k : Nat) : ∀ (a0 : Int) (r : ByteArray) (w : World) (h : thwartref01_Put.f k a0 = some r),
  Calls Tryd.prog 26 #[.int .u64 a0] w fun e w' => e = .returned (.string r) ∧ Below w.heap.size w w' := by
 induction k using Nat.strongRecOn with
 | _ k ih =>
 intro a0 r w h
 cases k with
 | zero => exact absurd h (by simp [thwartref01_Put.f])
 | succ k =>
 simp only [thwartref01_Put.f] at h
 have HB:=Aside0.mk (Below.refl w.heap.size w)
 have H : (if a0 < 128 then (some (strOfNums (([(a0) % 256] : List Int)))) else ((some (([(IntKind.u64.wrap (128 + (Int.tmod a0 128))) % 256] : List Int) : List Int)).bind fun y165 => ((thwartref01_Put.f k (IntKind.u64.wrap (Int.tdiv a0 128))).bind fun t168 => (if (strOfNums y165).size + t168.size ≤ 9223372036854775807 then (some ((strOfNums y165) ++ t168)) else (none))))) = some r:=h
 clear h
 by_cases c2 : a0 < 128
 ·rw [if_pos c2] at H
  have c2b0 : decide (a0 < 128) = true:=decide_eq_true c2
  clear c2
  obtain ⟨y162,hy162⟩ : ∃ y_ : List Int,y_ = (([(a0) % 256] : List Int)):=⟨_,rfl⟩
  replace H : (some (strOfNums y162)) = some r:=by first | (rw [hy162];with_reducible exact H) | (have H2_:=(Option.bind_some _ _).symm.trans H;rw [hy162];with_reducible exact H2_) | (have H2_:=(Option.bind_some _ _).symm.trans H;with_reducible exact H2_) | with_reducible exact H | (rw [hy162];exact H) | exact H
  have Ny162:=Aside0.mk hy162
  clear hy162
  obtain rfl:=Option.some.inj H
  go_enter Tryd.func26,Tryd.ntmps26
  go_wp2_with (first | ((with_reducible refine gate_dst (N:=7) rfl ?_);refine Kd.R_lit (Kd.int .u8) _ 5 ?hg (N:=7) ?hd (xs:=([(a0) % 256] : List Int)) (inner:=[.int .u8 ((a0) % 256)]) (ok:=fun _ => True) (okp:=fun _ => True) ?hr ?hp (fun _ hk => hk) trivial (Below.refl _ _) (Nat.le_refl _) (by simp) ?_;(case hd => rfl);(case hg => rfl);(case hr => first | (go_simp;done) | (go_simp;rfl));(case hp => exact (Reps.one (show Kd.M (Kd.int .u8) _ _ _ ((a0) % 256) [.int .u8 ((a0) % 256)] from rfl) (Reps.none _ _)));intro v163 w3 ho4 hb hg_ hnew_;clear hg_ hnew_;(first | rw [← Ny162.out] at ho4 | (simp only [Int.reduceToNat] at ho4;rw [← Ny162.out] at ho4));have n0_:=Aside0.mk (Kd.R_lower ho4 (below_size (by repeat (first | (with_reducible first | exact HB.out | apply below_alloc | apply pw_below_drewN | apply below_drew1) | exact HB.out))));have n1_:=Aside0.mk (below_step (by repeat (first | (with_reducible first | exact HB.out | apply below_alloc | apply pw_below_drewN | apply below_drew1) | exact HB.out)) hb);clear HB;have HO164:=n0_;have HB:=n1_;clear n0_ n1_;clear hb ho4;have hcv5:=own_string (P:=Tryd.prog) Tryd.underlying76 Tryd.underlying5 Tryd.underlying9 (Kd.own_of_R HO164.out)))
  go_ret
  exact ⟨by first | rfl | (simp [errW_none,errW_some] <;> rfl) | (simp [*,errW_none,errW_some] <;> rfl) | (simp [errW_none,errW_some];exact isEmpty_bne _),by repeat (first | (with_reducible first | exact HB.out | apply below_alloc | apply pw_below_drewN | apply below_drew1) | exact HB.out)⟩
 ·rw [if_neg c2] at H
  have c2b0 : decide (a0 < 128) = false:=decide_eq_false c2
  clear c2
  obtain ⟨y165,hy165⟩ : ∃ y_ : List Int,y_ = (([(IntKind.u64.wrap (128 + (Int.tmod a0 128))) % 256] : List Int)):=⟨_,rfl⟩
  replace H : ((thwartref01_Put.f k (IntKind.u64.wrap (Int.tdiv a0 128))).bind fun t168 => (if (strOfNums y165).size + t168.size ≤ 9223372036854775807 then (some ((strOfNums y165) ++ t168)) else (none))) = some r:=by first | (rw [hy165];with_reducible exact H) | (have H2_:=(Option.bind_some _ _).symm.trans H;rw [hy165];with_reducible exact H2_) | (have H2_:=(Option.bind_some _ _).symm.trans H;with_reducible exact H2_) | with_reducible exact H | (rw [hy165];exact H) | exact H
  have Ny165:=Aside0.mk hy165
  clear hy165
  replace H:=Option.bind_eq_some_iff.mp H
  obtain ⟨t168,A60,H⟩:=H
  replace H : (if (strOfNums y165).size + t168.size ≤ 9223372036854775807 then (some ((strOfNums y165) ++ t168)) else (none)) = some r:=H
  have A6:=Aside0.mk A60
  clear A60
  by_cases c7 : (strOfNums y165).size + t168.size ≤ 9223372036854775807
  ·rw [if_pos c7] at H
   have c7b0:=eq_true c7
   have c7b1 : decide ((strOfNums y165).size + t168.size ≤ 9223372036854775807) = true:=decide_eq_true c7
   try have c7b2 : (9223372036854775807 < (strOfNums y165).size + t168.size) = False:=eq_false (Nat.not_lt.2 c7)
   obtain rfl:=Option.some.inj H
   go_enter Tryd.func26,Tryd.ntmps26
   try go_wp2
   have n0_:=Aside0.mk (below_drew1 HB.out)
   clear HB
   have HB:=n0_
   clear n0_
   refine start_ (n:=11) (S:=fun w' => True) (ds:=[]) #[false,false,false,false,false,false,false,false,false,false,false] (by kernel_rfl) rfl rfl trivial (fun hHeld => ?_);refine with_tabW thwartref01_Put.tab3 thwartref01_Put.bits3 (fun HT_ HW_ => ?_)
   generalize w.drew = w8 at HB hHeld ⊢
   refine pure_ (i:=0) (N:=some 9) (v := ?_) (a' := ?_) #[true,false,false,false,false,false,false,false,false,false,false] rfl rfl (any_of HT_.out (by kernel_rfl)) (fun _ _ _ h => h) (Or.inl ⟨by rfl,?_⟩) ?_ ?_
   rotate_left
   ·intro w'
    go_simp
    with_reducible rfl
   rotate_left
   ·simp only [Act.put,List.setIfInBounds_toArray,List.set_cons_zero,List.set_cons_succ,i64_w,i32_w]
    rfl
   refine pure_ (i:=1) (N:=some 10) (v := ?_) (a' := ?_) #[true,true,false,false,false,false,false,false,false,false,false] rfl rfl (any_of HT_.out (by kernel_rfl)) (fun _ _ _ h => h) (Or.inl ⟨by rfl,?_⟩) ?_ ?_
   rotate_left
   ·intro w'
    go_simp
    with_reducible rfl
   rotate_left
   ·simp only [Act.put,List.setIfInBounds_toArray,List.set_cons_zero,List.set_cons_succ,i64_w,i32_w]
    rfl
   refine pure_ (i:=2) (N:=some 11) (v := ?_) (a' := ?_) #[true,true,true,false,false,false,false,false,false,false,false] rfl rfl (any_of HT_.out (by kernel_rfl)) (fun _ _ _ h => h) (Or.inl ⟨by rfl,?_⟩) ?_ ?_
   rotate_left
   ·intro w'
    go_simp
    with_reducible rfl
   rotate_left
   ·simp only [Act.put,List.setIfInBounds_toArray,List.set_cons_zero,List.set_cons_succ,i64_w,i32_w]
    rfl
   refine pure_ (i:=3) (N:=some 12) (v := ?_) (a' := ?_) #[true,true,true,true,false,false,false,false,false,false,false] rfl rfl (any_of HT_.out (by kernel_rfl)) (fun _ _ _ h => h) (Or.inl ⟨by rfl,?_⟩) ?_ ?_
   rotate_left
   ·intro w'
    go_simp
    with_reducible rfl
   rotate_left
   ·simp only [Act.put,List.setIfInBounds_toArray,List.set_cons_zero,List.set_cons_succ,i64_w,i32_w]
    rfl
   refine pure_ (i:=6) (N:=some 15) (v := ?_) (a' := ?_) #[true,true,true,true,false,false,true,false,false,false,false] rfl rfl (any_of HT_.out (by kernel_rfl)) (fun _ _ _ h => h) (Or.inl ⟨by rfl,?_⟩) ?_ ?_
   rotate_left
   ·intro w'
    go_simp
    with_reducible rfl
   rotate_left
   ·simp only [Act.put,List.setIfInBounds_toArray,List.set_cons_zero,List.set_cons_succ,i64_w,i32_w]
    rfl
   refine pure_ (i:=7) (N:=some 16) (v := ?_) (a' := ?_) #[true,true,true,true,false,false,true,true,false,false,false] rfl rfl (any_of HT_.out (by kernel_rfl)) (fun _ _ _ h => h) (Or.inl ⟨by rfl,?_⟩) ?_ ?_
   rotate_left
   ·intro w'
    go_simp
    with_reducible rfl
   rotate_left
   ·simp only [Act.put,List.setIfInBounds_toArray,List.set_cons_zero,List.set_cons_succ,i64_w,i32_w]
    rfl
   refine join_ (σ:=Value) 2 #[true,true,true,true,true,true,true,true,true,false,false] (fun s_ => [(13,s_),(14,.string (strOfNums y165)),(17,.string t168)]) (fun s_ w' => (Kd.R (Kd.int .u8) 5 w' w.heap.size (fun _ => True) s_ y165) ∧ (Below w.heap.size w w')) ?_ ?_
   rotate_left
   ·intro hCont
    refine two_ (i:=4) (j:=8) (Ni:=some 13) (Nj:=some 17) #[true,true,true,true,true,false,true,true,false,false,false] #[true,true,true,true,false,false,true,true,true,false,false] rfl rfl rfl rfl (two_of HT_.out (by kernel_rfl)) (by decide) (by decide) (fun K hK => ?_) (fun K hK => ?_)
    ·skip
     refine Kd.R_lit_step (Kd.int .u8) _ 5 ?hg (N:=13) ?hd (xs:=([(IntKind.u64.wrap (128 + (Int.tmod a0 128))) % 256] : List Int)) (inner:=[.int .u8 ((IntKind.u64.wrap (128 + (Int.tmod a0 128))) % 256)]) (ok:=fun _ => True) (okp:=fun _ => True) ?hr ?hp (fun _ hk => hk) trivial (Below.refl _ _) (Nat.le_refl _) (by simp) ?_;(case hd => rfl);(case hg => rfl);(case hr => first | (go_simp;done) | (go_simp;rfl));(case hp => exact (Reps.one (show Kd.M (Kd.int .u8) _ _ _ ((IntKind.u64.wrap (128 + (Int.tmod a0 128))) % 256) [.int .u8 ((IntKind.u64.wrap (128 + (Int.tmod a0 128))) % 256)] from rfl) (Reps.none _ _)))
     intro v166 w9 ho10 hb hg_ hnew_
     clear hg_ hnew_
     (first | rw [← Ny165.out] at ho10 | (simp only [Int.reduceToNat] at ho10;rw [← Ny165.out] at ho10))
     have n0_:=Aside0.mk (Kd.R_lower ho10 (below_size (by repeat (first | (with_reducible first | exact HB.out | apply below_alloc | apply pw_below_drewN | apply below_drew1) | exact HB.out))))
     have n1_:=Aside0.mk (below_step (by repeat (first | (with_reducible first | exact HB.out | apply below_alloc | apply pw_below_drewN | apply below_drew1) | exact HB.out)) hb)
     clear HB
     have HO167:=n0_
     have HB:=n1_
     clear n0_ n1_
     clear hb ho10
     refine hK.out _ _ trivial (fun hHeld => ?_)
     clear hK K
     refine norm_ (a' := ?_) ?_ ?_
     rotate_left
     ·show Act.put _ (some 13) _ = _
      simp only [Act.put,List.setIfInBounds_toArray,List.set_cons_zero,List.set_cons_succ,i64_w,i32_w]
      rfl
     refine two_ (i:=5) (j:=8) (Ni:=some 14) (Nj:=some 17) #[true,true,true,true,true,true,true,true,false,false,false] #[true,true,true,true,true,false,true,true,true,false,false] rfl rfl rfl rfl (two_of HT_.out (by kernel_rfl)) (by decide) (by decide) (fun K hK => ?_) (fun K hK => ?_)
     ·skip
      have hcv11:=own_string (P:=Tryd.prog) Tryd.underlying76 Tryd.underlying5 Tryd.underlying9 (Kd.own_of_R HO167.out)
      refine value_ (w1 := ?_) (v := ?_) (by rfl) rfl ?_ ?_
      rotate_left 2
      ·go_simp
       constructor
       ·rfl
       ·rfl
      clear hcv11
      refine hK.out _ _ trivial (fun hHeld => ?_)
      clear hK K
      refine norm_ (a' := ?_) ?_ ?_
      rotate_left
      ·show Act.put _ (some 14) _ = _
       simp only [Act.put,List.setIfInBounds_toArray,List.set_cons_zero,List.set_cons_succ,i64_w,i32_w]
       rfl
      refine one_ (i:=8) (N:=some 17) #[true,true,true,true,true,true,true,true,true,false,false] rfl rfl (one_of HT_.out (by kernel_rfl)) (by decide) (fun K hK => ?_)
      refine goes_ Tryd.func26 (by kernel_rfl) rfl #[.int .u64 (IntKind.u64.wrap (Int.tdiv a0 128))] (by rfl) rfl rfl (by (try simp only [List.map_toArray,List.map_cons,List.map_nil]);first | done | rfl | (simp only [List.length_drop,List.length_take];rfl)) ?_
      with_reducible refine (ih k (by omega) (IntKind.u64.wrap (Int.tdiv a0 128)) t168 _ A6.out).mono ?_
      rintro e w12 ⟨rfl,hb⟩
      refine ⟨_,rfl,?_⟩
      have n0_:=Aside0.mk (Kd.R_below (by (with_reducible repeat (first | apply Kd.R_alloc | apply Kd.R_drewN | apply Kd.R_drew));exact HO167.out) hb)
      have n1_:=Aside0.mk (below_step (by repeat (first | (with_reducible first | exact HB.out | apply below_alloc | apply pw_below_drewN | apply below_drew1) | exact HB.out)) hb)
      clear HO167
      clear HB
      have HO167:=n0_
      have HB:=n1_
      clear n0_ n1_
      (try clear hb)
      (try clear hb2)
      (try clear hk)
      (try clear hi)
      refine hK.out _ _ trivial (fun hHeld => ?_)
      clear hK K
      refine norm_ (a' := ?_) ?_ ?_
      rotate_left
      ·show Act.put _ (some 17) _ = _
       simp only [Act.put,List.setIfInBounds_toArray,List.set_cons_zero,List.set_cons_succ,i64_w,i32_w]
       rfl
      exact norm_ (by simp only [putAll,Act.put,List.setIfInBounds_toArray,List.set_cons_zero,List.set_cons_succ]) (hCont (v166) _ ⟨(by (with_reducible repeat (first | apply Kd.R_alloc | apply Kd.R_drewN | apply Kd.R_drew));exact HO167.out),(by repeat (first | (with_reducible first | exact HB.out | apply below_alloc | apply pw_below_drewN | apply below_drew1) | exact HB.out))⟩)
     ·skip
      refine goes_ Tryd.func26 (by kernel_rfl) rfl #[.int .u64 (IntKind.u64.wrap (Int.tdiv a0 128))] (by rfl) rfl rfl (by (try simp only [List.map_toArray,List.map_cons,List.map_nil]);first | done | rfl | (simp only [List.length_drop,List.length_take];rfl)) ?_
      with_reducible refine (ih k (by omega) (IntKind.u64.wrap (Int.tdiv a0 128)) t168 _ A6.out).mono ?_
      rintro e w11 ⟨rfl,hb⟩
      refine ⟨_,rfl,?_⟩
      have n0_:=Aside0.mk (Kd.R_below (by (with_reducible repeat (first | apply Kd.R_alloc | apply Kd.R_drewN | apply Kd.R_drew));exact HO167.out) hb)
      have n1_:=Aside0.mk (below_step (by repeat (first | (with_reducible first | exact HB.out | apply below_alloc | apply pw_below_drewN | apply below_drew1) | exact HB.out)) hb)
      clear HO167
      clear HB
      have HO167:=n0_
      have HB:=n1_
      clear n0_ n1_
      (try clear hb)
      (try clear hb2)
      (try clear hk)
      (try clear hi)
      refine hK.out _ _ trivial (fun hHeld => ?_)
      clear hK K
      refine norm_ (a' := ?_) ?_ ?_
      rotate_left
      ·show Act.put _ (some 17) _ = _
       simp only [Act.put,List.setIfInBounds_toArray,List.set_cons_zero,List.set_cons_succ,i64_w,i32_w]
       rfl
      refine one_ (i:=5) (N:=some 14) #[true,true,true,true,true,true,true,true,true,false,false] rfl rfl (one_of HT_.out (by kernel_rfl)) (by decide) (fun K hK => ?_)
      have hcv12:=own_string (P:=Tryd.prog) Tryd.underlying76 Tryd.underlying5 Tryd.underlying9 (Kd.own_of_R HO167.out)
      refine value_ (w1 := ?_) (v := ?_) (by rfl) rfl ?_ ?_
      rotate_left 2
      ·go_simp
       constructor
       ·rfl
       ·rfl
      clear hcv12
      refine hK.out _ _ trivial (fun hHeld => ?_)
      clear hK K
      refine norm_ (a' := ?_) ?_ ?_
      rotate_left
      ·show Act.put _ (some 14) _ = _
       simp only [Act.put,List.setIfInBounds_toArray,List.set_cons_zero,List.set_cons_succ,i64_w,i32_w]
       rfl
      exact norm_ (by simp only [putAll,Act.put,List.setIfInBounds_toArray,List.set_cons_zero,List.set_cons_succ]) (hCont (v166) _ ⟨(by (with_reducible repeat (first | apply Kd.R_alloc | apply Kd.R_drewN | apply Kd.R_drew));exact HO167.out),(by repeat (first | (with_reducible first | exact HB.out | apply below_alloc | apply pw_below_drewN | apply below_drew1) | exact HB.out))⟩)
    ·skip
     refine goes_ Tryd.func26 (by kernel_rfl) rfl #[.int .u64 (IntKind.u64.wrap (Int.tdiv a0 128))] (by rfl) rfl rfl (by (try simp only [List.map_toArray,List.map_cons,List.map_nil]);first | done | rfl | (simp only [List.length_drop,List.length_take];rfl)) ?_
     with_reducible refine (ih k (by omega) (IntKind.u64.wrap (Int.tdiv a0 128)) t168 _ A6.out).mono ?_
     rintro e w9 ⟨rfl,hb⟩
     refine ⟨_,rfl,?_⟩
     have n0_:=Aside0.mk (below_step (by repeat (first | (with_reducible first | exact HB.out | apply below_alloc | apply pw_below_drewN | apply below_drew1) | exact HB.out)) hb)
     clear HB
     have HB:=n0_
     clear n0_
     (try clear hb)
     (try clear hb2)
     (try clear hk)
     (try clear hi)
     refine hK.out _ _ trivial (fun hHeld => ?_)
     clear hK K
     refine norm_ (a' := ?_) ?_ ?_
     rotate_left
     ·show Act.put _ (some 17) _ = _
      simp only [Act.put,List.setIfInBounds_toArray,List.set_cons_zero,List.set_cons_succ,i64_w,i32_w]
      rfl
     refine one_ (i:=4) (N:=some 13) #[true,true,true,true,true,false,true,true,true,false,false] rfl rfl (one_of HT_.out (by kernel_rfl)) (by decide) (fun K hK => ?_)
     refine Kd.R_lit_step (Kd.int .u8) _ 5 ?hg (N:=13) ?hd (xs:=([(IntKind.u64.wrap (128 + (Int.tmod a0 128))) % 256] : List Int)) (inner:=[.int .u8 ((IntKind.u64.wrap (128 + (Int.tmod a0 128))) % 256)]) (ok:=fun _ => True) (okp:=fun _ => True) ?hr ?hp (fun _ hk => hk) trivial (Below.refl _ _) (Nat.le_refl _) (by simp) ?_;(case hd => rfl);(case hg => rfl);(case hr => first | (go_simp;done) | (go_simp;rfl));(case hp => exact (Reps.one (show Kd.M (Kd.int .u8) _ _ _ ((IntKind.u64.wrap (128 + (Int.tmod a0 128))) % 256) [.int .u8 ((IntKind.u64.wrap (128 + (Int.tmod a0 128))) % 256)] from rfl) (Reps.none _ _)))
     intro v166 w10 ho11 hb hg_ hnew_
     clear hg_ hnew_
     (first | rw [← Ny165.out] at ho11 | (simp only [Int.reduceToNat] at ho11;rw [← Ny165.out] at ho11))
     have n0_:=Aside0.mk (Kd.R_lower ho11 (below_size (by repeat (first | (with_reducible first | exact HB.out | apply below_alloc | apply pw_below_drewN | apply below_drew1) | exact HB.out))))
     have n1_:=Aside0.mk (below_step (by repeat (first | (with_reducible first | exact HB.out | apply below_alloc | apply pw_below_drewN | apply below_drew1) | exact HB.out)) hb)
     clear HB
     have HO167:=n0_
     have HB:=n1_
     clear n0_ n1_
     clear hb ho11
     refine hK.out _ _ trivial (fun hHeld => ?_)
     clear hK K
     refine norm_ (a' := ?_) ?_ ?_
     rotate_left
     ·show Act.put _ (some 13) _ = _
      simp only [Act.put,List.setIfInBounds_toArray,List.set_cons_zero,List.set_cons_succ,i64_w,i32_w]
      rfl
     refine one_ (i:=5) (N:=some 14) #[true,true,true,true,true,true,true,true,true,false,false] rfl rfl (one_of HT_.out (by kernel_rfl)) (by decide) (fun K hK => ?_)
     have hcv12:=own_string (P:=Tryd.prog) Tryd.underlying76 Tryd.underlying5 Tryd.underlying9 (Kd.own_of_R HO167.out)
     refine value_ (w1 := ?_) (v := ?_) (by rfl) rfl ?_ ?_
     rotate_left 2
     ·go_simp
      constructor
      ·rfl
      ·rfl
     clear hcv12
     refine hK.out _ _ trivial (fun hHeld => ?_)
     clear hK K
     refine norm_ (a' := ?_) ?_ ?_
     rotate_left
     ·show Act.put _ (some 14) _ = _
      simp only [Act.put,List.setIfInBounds_toArray,List.set_cons_zero,List.set_cons_succ,i64_w,i32_w]
      rfl
     exact norm_ (by simp only [putAll,Act.put,List.setIfInBounds_toArray,List.set_cons_zero,List.set_cons_succ]) (hCont (v166) _ ⟨(by (with_reducible repeat (first | apply Kd.R_alloc | apply Kd.R_drewN | apply Kd.R_drew));exact HO167.out),(by repeat (first | (with_reducible first | exact HB.out | apply below_alloc | apply pw_below_drewN | apply below_drew1) | exact HB.out))⟩)
   rintro v166 w13 ⟨h0_,h1_⟩
   have n0_ : Aside0 (Kd.R (Kd.int .u8) 5 w13 w.heap.size (fun _ => True) v166 y165):=⟨h0_⟩
   have n1_ : Aside0 (Below w.heap.size w w13):=⟨h1_⟩
   clear HB
   clear h0_ h1_
   have HO167:=n0_
   have HB:=n1_
   clear n0_ n1_
   have hHeld:=trivial
   refine norm_ (a' := ?_) ?_ ?_
   rotate_left
   ·simp only [putAll,Act.put,List.setIfInBounds_toArray,List.set_cons_zero,List.set_cons_succ]
    rfl
   refine pure_ (i:=9) (N:=some 18) (v := ?_) (a' := ?_) #[true,true,true,true,true,true,true,true,true,true,false] rfl rfl (any_of HT_.out (by kernel_rfl)) (fun _ _ _ h => h) (Or.inl ⟨by rfl,?_⟩) ?_ ?_
   rotate_left
   ·intro w'
    go_simp
    with_reducible rfl
   rotate_left
   ·simp only [Act.put,List.setIfInBounds_toArray,List.set_cons_zero,List.set_cons_succ,i64_w,i32_w]
    rfl
   refine pure_ (i:=10) (N:=some 2) (v := ?_) (a' := ?_) #[true,true,true,true,true,true,true,true,true,true,true] rfl rfl (any_of HT_.out (by kernel_rfl)) (fun _ _ _ h => h) (Or.inl ⟨by rfl,?_⟩) ?_ ?_
   rotate_left
   ·intro w'
    go_simp
    with_reducible rfl
   rotate_left
   ·simp only [Act.put,List.setIfInBounds_toArray,List.set_cons_zero,List.set_cons_succ,i64_w,i32_w]
    rfl
   refine done_ (done_of HT_.out (by kernel_rfl)) ?_
   try go_wp2
   go_ret
   exact ⟨by first | rfl | (simp [errW_none,errW_some] <;> rfl) | (simp [*,errW_none,errW_some] <;> rfl) | (simp [errW_none,errW_some];exact isEmpty_bne _),by repeat (first | (with_reducible first | exact HB.out | apply below_alloc | apply pw_below_drewN | apply below_drew1) | exact HB.out)⟩
  ·rw [if_neg c7] at H
   exact absurd H (by simp)

/-! ### thwartref02_step: function 55 -/
def thwartref02_step.f (a0 : Int) : Option (Int):=if (Int.tmod a0 2) = 1 then (some (Go.bits .xor .u32 ((Int.tdiv a0 2) % 4294967296) 2197175160)) else (some ((Int.tdiv a0 2) % 4294967296))
set_option maxHeartbeats 8000000 in
set_option maxRecDepth 100000 in
theorem thwartref02_step.calls (a0 : Int) (r : Int) (w : World) (h : thwartref02_step.f a0 = some r) :
  Calls Tryd.prog 55 #[.int .u32 a0] w fun e w' => e = .returned (.int .u32 r) ∧ Drawn0 w w' := by
 have H : (if (Int.tmod a0 2) = 1 then (some (Go.bits .xor .u32 ((Int.tdiv a0 2) % 4294967296) 2197175160)) else (some ((Int.tdiv a0 2) % 4294967296))) = some r:=h
 clear h
 by_cases c2 : (Int.tmod a0 2) = 1
 ·rw [if_pos c2] at H
  have c2b0 : ((Int.tmod a0 2) == 1) = true:=beq_iff_eq.mpr c2
  have c2b1 : ((Int.tmod a0 2) != 1) = false:=bne_eq_false_iff_eq.mpr c2
  clear c2
  obtain rfl:=Option.some.inj H
  go_enter Tryd.func55,Tryd.ntmps55
  go_wp2
  go_ret
  exact ⟨by first | rfl | (simp;done) | (simp [*];done),by repeat (first | exact Drawn0.refl _ | apply Drawn0.step)⟩
 ·rw [if_neg c2] at H
  have c2b0 : ((Int.tmod a0 2) == 1) = false:=beq_eq_false_iff_ne.mpr c2
  have c2b1 : ((Int.tmod a0 2) != 1) = true:=bne_iff_ne.mpr c2
  obtain rfl:=Option.some.inj H
  go_enter Tryd.func55,Tryd.ntmps55
  go_wp2
  go_ret
  exact ⟨by first | rfl | (simp;done) | (simp [*];done),by repeat (first | exact Drawn0.refl _ | apply Drawn0.step)⟩

/-! ### thwartref02_More: function 45 -/
mutual
def thwartref02_More.l0 : Nat → ByteArray → Int → Int → Option (Int)
 | 0,_,_,_ => none
 | k + 1,x1,x5,x6 => if x6 < (x1.size : Int) then (if 0 ≤ x6 then (thwartref02_More.l1 k x1 (Go.bits .xor .u32 x5 ((bt x1 x6) % 4294967296)) x6 0) else (none)) else (some (Go.bits .xor .u32 IntKind.u32.max x5))
def thwartref02_More.l1 : Nat → ByteArray → Int → Int → Int → Option (Int)
 | 0,_,_,_,_ => none
 | k + 1,x1,x5,x6,x7 => if x7 < 8 then ((thwartref02_step.f x5).bind fun t169 => (thwartref02_More.l1 k x1 t169 x6 (wrap64 (x7 + 1)))) else (thwartref02_More.l0 k x1 x5 (wrap64 (x6 + 1)))
end
def thwartref02_More.f (k : Nat) (a0 : Int) (a1 : ByteArray) : Option (Int):=thwartref02_More.l0 k a1 (Go.bits .xor .u32 IntKind.u32.max a0) 0
theorem thwartref02_More.mono_l : ∀ k,(∀ y0 y1 y2,LeO (thwartref02_More.l0 k y0 y1 y2) (thwartref02_More.l0 (k + 1) y0 y1 y2)) ∧ (∀ y0 y1 y2 y3,LeO (thwartref02_More.l1 k y0 y1 y2 y3) (thwartref02_More.l1 (k + 1) y0 y1 y2 y3))
 | 0 => ⟨fun _ _ _ r h => by simp [thwartref02_More.l0] at h,fun _ _ _ _ r h => by simp [thwartref02_More.l1] at h⟩
 | k + 1 => by
  obtain ⟨ih0,ih1⟩:=thwartref02_More.mono_l k
  refine ⟨?_,?_⟩
  ·intro y0 y1 y2
   unfold thwartref02_More.l0
   repeat' first
   | (with_reducible exact ih0 _ _ _)
   | (with_reducible exact ih1 _ _ _ _)
   | (with_reducible exact LeO.refl _)
   | (with_reducible exact LeO.none _)
   | (with_reducible refine LeO.ite ?_ ?_)
   | (with_reducible refine LeO.bind ?_ (fun _ => ?_))
   | exact ih0 _ _ _
   | exact ih1 _ _ _ _
   | exact LeO.none _
   | refine LeO.ite ?_ ?_
   | refine LeO.bind ?_ (fun _ => ?_)
  ·intro y0 y1 y2 y3
   unfold thwartref02_More.l1
   repeat' first
   | (with_reducible exact ih0 _ _ _)
   | (with_reducible exact ih1 _ _ _ _)
   | (with_reducible exact LeO.refl _)
   | (with_reducible exact LeO.none _)
   | (with_reducible refine LeO.ite ?_ ?_)
   | (with_reducible refine LeO.bind ?_ (fun _ => ?_))
   | exact ih0 _ _ _
   | exact ih1 _ _ _ _
   | exact LeO.none _
   | refine LeO.ite ?_ ?_
   | refine LeO.bind ?_ (fun _ => ?_)
theorem thwartref02_More.mono : ∀ a0 a1 k,LeO (thwartref02_More.f k a0 a1) (thwartref02_More.f (k + 1) a0 a1):=by
 intro a0 a1 k
 obtain ⟨ih0,ih1⟩:=thwartref02_More.mono_l k
 unfold thwartref02_More.f
 repeat' first
   | (with_reducible exact ih0 _ _ _)
   | (with_reducible exact ih1 _ _ _ _)
   | (with_reducible exact LeO.refl _)
   | (with_reducible exact LeO.none _)
   | (with_reducible refine LeO.ite ?_ ?_)
   | (with_reducible refine LeO.bind ?_ (fun _ => ?_))
   | exact ih0 _ _ _
   | exact ih1 _ _ _ _
   | exact LeO.none _
   | refine LeO.ite ?_ ?_
   | refine LeO.bind ?_ (fun _ => ?_)
set_option maxHeartbeats 8000000 in
set_option maxRecDepth 100000 in
theorem thwartref02_More.calls (k : Nat) (a0 : Int) (a1 : ByteArray) (r : Int) (w : World) (h : thwartref02_More.f k a0 a1 = some r) :
  Calls Tryd.prog 45 #[.int .u32 a0,.string a1] w fun e w' => e = .returned (.int .u32 r) ∧ Drawn0 w w' := by
 have H : (thwartref02_More.l0 k a1 (Go.bits .xor .u32 IntKind.u32.max a0) 0) = some r:=h
 clear h
 have H' := Aside0.mk H
 clear H
 go_enter Tryd.func45,Tryd.ntmps45
 go_wp2
 go_loopg [5,6] k (fun kq v5 v6 w' => ∃ (x5_1 : Int) (x6_1 : Int),v5 = .int .u32 x5_1 ∧ v6 = .int .i64 x6_1 ∧ Aside0 (thwartref02_More.l0 kq a1 x5_1 x6_1 = some r) ∧ Aside0 (kq ≤ k) ∧ Drawn0 w w')
 case atStart => exact ⟨(Go.bits .xor .u32 IntKind.u32.max a0),(0),(by first | rfl | (simp;done) | (simp [*];done)),(by first | rfl | (simp;done) | (simp [*];done)),H',⟨Nat.le_refl _⟩,by repeat (first | exact Drawn0.refl _ | apply Drawn0.step)⟩
 case round =>
  clear H'
  try clear p2
  obtain ⟨x5_1,x6_1,rfl,rfl,HA,HK1,⟨m1,rfl⟩⟩:=hrel
  cases gk with
  | zero => exact absurd HA.out (by simp [thwartref02_More.l0])
  | succ k1 =>
   have H:=HA.out
   clear HA
   simp only [thwartref02_More.l0] at H
   by_cases c3 : x6_1 < (a1.size : Int)
   ·rw [if_pos c3] at H
    have c3b0 : decide (x6_1 < (a1.size : Int)) = true:=decide_eq_true c3
    clear c3
    by_cases c4 : 0 ≤ x6_1
    ·rw [if_pos c4] at H
     have c4b0 : decide (0 ≤ x6_1) = true:=decide_eq_true c4
     clear c4
     have H' := Aside0.mk H
     clear H
     have p5 : 0 ≤ (x6_1 : Int):=of_decide_eq_true (by first | (with_reducible assumption) | assumption)
     have q5 : x6_1 < (a1.size : Int):=of_decide_eq_true (by first | (with_reducible assumption) | assumption)
     have hx5:=bt_at a1 x6_1
     replace p5:=eq_true p5
     replace q5:=eq_true q5
     go_wp2
     go_loopg [5,7] k1 (fun kq v5 v7 w' => ∃ (x5_2 : Int) (x7_2 : Int),v5 = .int .u32 x5_2 ∧ v7 = .int .i64 x7_2 ∧ Aside0 (thwartref02_More.l1 kq a1 x5_2 x6_1 x7_2 = some r) ∧ Aside0 (kq ≤ k1) ∧ Drawn0 w w')
     case atStart => exact ⟨(Go.bits .xor .u32 x5_1 ((bt a1 x6_1) % 4294967296)),(0),(by first | rfl | (simp;done) | (simp [*];done)),(by first | rfl | (simp;done) | (simp [*];done)),H',⟨Nat.le_refl _⟩,by repeat (first | exact Drawn0.refl _ | apply Drawn0.step)⟩
     case round =>
      clear H'
      try clear p2
      try clear c3
      try clear c3b0
      try clear c4
      try clear c4b0
      try clear p5
      try clear q5
      try clear hx5
      try clear p2
      try clear p5
      try clear q5
      obtain ⟨x5_2,x7_2,rfl,rfl,HA,HK2,⟨m2,rfl⟩⟩:=hrel
      cases gk with
      | zero => exact absurd HA.out (by simp [thwartref02_More.l1])
      | succ k2 =>
       have H:=HA.out
       clear HA
       simp only [thwartref02_More.l1] at H
       by_cases c6 : x7_2 < 8
       ·rw [if_pos c6] at H
        have c6b0 : decide (x7_2 < 8) = true:=decide_eq_true c6
        clear c6
        replace H:=Option.bind_eq_some_iff.mp H
        obtain ⟨t169,A70,H⟩:=H
        replace H : (thwartref02_More.l1 k2 a1 t169 x6_1 (wrap64 (x7_2 + 1))) = some r:=H
        have A7:=Aside0.mk A70
        clear A70
        have H' := Aside0.mk H
        clear H
        go_wp2_with (first | ((with_reducible refine gate_callee (f:=55) rfl ?_);refine goesL_ (some 27) rfl rfl Tryd.func55 (by kernel_rfl) rfl #[.int .u32 x5_2] rfl (by (try simp only [List.map_toArray,List.map_cons,List.map_nil]);first | done | rfl | (simp only [List.length_drop,List.length_take];rfl)) ?_;(with_reducible refine (thwartref02_step.calls x5_2 t169 _ A7.out).mono ?_);rintro e w' ⟨rfl,⟨nd,rfl⟩⟩;refine ⟨_,rfl,?_⟩))
        go_roundg k2
        case measure => have:=HK1.out;have:=HK2.out;omega
        case rel => exact ⟨(t169),(wrap64 (x7_2 + 1)),(by first | rfl | (simp;done) | (simp [*];done)),(by first | rfl | (simp;done) | (simp [*];done)),H',⟨by have:=HK1.out;have:=HK2.out;omega⟩,by repeat (first | exact Drawn0.refl _ | apply Drawn0.step)⟩
       ·rw [if_neg c6] at H
        have c6b0 : decide (x7_2 < 8) = false:=decide_eq_false c6
        clear c6
        have H' := Aside0.mk H
        clear H
        go_wp2
        go_roundg k2
        case measure => have:=HK1.out;have:=HK2.out;omega
        case rel => exact ⟨(x5_2),(wrap64 (x6_1 + 1)),(by first | rfl | (simp;done) | (simp [*];done)),(by first | rfl | (simp;done) | (simp [*];done)),H',⟨by have:=HK1.out;have:=HK2.out;omega⟩,by repeat (first | exact Drawn0.refl _ | apply Drawn0.step)⟩
    ·rw [if_neg c4] at H
     exact absurd H (by simp)
   ·rw [if_neg c3] at H
    have c3b0 : decide (x6_1 < (a1.size : Int)) = false:=decide_eq_false c3
    clear c3
    obtain rfl:=Option.some.inj H
    go_wp2
    go_ret
    exact ⟨by first | rfl | (simp;done) | (simp [*];done),by repeat (first | exact Drawn0.refl _ | apply Drawn0.step)⟩

/-! ### thwartref02_Sum: function 37 -/
def thwartref02_Sum.f (k : Nat) (a0 : ByteArray) : Option (Int):=(thwartref02_More.f k 0 a0).bind fun t170 => (some t170)
theorem thwartref02_Sum.mono : ∀ a0 k,LeO (thwartref02_Sum.f k a0) (thwartref02_Sum.f (k + 1) a0):=by
 intro a0 k
 unfold thwartref02_Sum.f
 repeat' first
   | (with_reducible exact thwartref02_More.mono _ _ _)
   | (with_reducible exact LeO.refl _)
   | (with_reducible exact LeO.none _)
   | (with_reducible refine LeO.ite ?_ ?_)
   | (with_reducible refine LeO.bind ?_ (fun _ => ?_))
   | exact thwartref02_More.mono _ _ _
   | exact LeO.none _
   | refine LeO.ite ?_ ?_
   | refine LeO.bind ?_ (fun _ => ?_)
set_option maxHeartbeats 8000000 in
set_option maxRecDepth 100000 in
theorem thwartref02_Sum.calls (k : Nat) (a0 : ByteArray) (r : Int) (w : World) (h : thwartref02_Sum.f k a0 = some r) :
  Calls Tryd.prog 37 #[.string a0] w fun e w' => e = .returned (.int .u32 r) ∧ Drawn0 w w' := by
 have H : ((thwartref02_More.f k 0 a0).bind fun t170 => (some t170)) = some r:=h
 clear h
 replace H:=Option.bind_eq_some_iff.mp H
 obtain ⟨t170,A20,H⟩:=H
 replace H : (some t170) = some r:=H
 have A2:=Aside0.mk A20
 clear A20
 obtain rfl:=Option.some.inj H
 go_enter Tryd.func37,Tryd.ntmps37
 go_wp2_with (first | ((with_reducible refine gate_callee (f:=45) rfl ?_);refine goesL_ (some 4) rfl rfl Tryd.func45 (by kernel_rfl) rfl #[.int .u32 0,.string a0] rfl (by (try simp only [List.map_toArray,List.map_cons,List.map_nil]);first | done | rfl | (simp only [List.length_drop,List.length_take];rfl)) ?_;(with_reducible refine (thwartref02_More.calls k 0 a0 t170 _ A2.out).mono ?_);rintro e w' ⟨rfl,⟨nd,rfl⟩⟩;refine ⟨_,rfl,?_⟩))
 go_ret
 exact ⟨by first | rfl | (simp;done) | (simp [*];done),by repeat (first | exact Drawn0.refl _ | apply Drawn0.step)⟩

/-! ### thwartref02_Seal: function 27 -/
def thwartref02_Seal.f (k : Nat) (a0 : ByteArray) : Option (ByteArray):=(thwartref02_Sum.f k a0).bind fun t171 => ((some (([(t171) % 256,(t171 / 256) % 256,(t171 / 65536) % 256,(t171 / 16777216) % 256] : List Int) : List Int)).bind fun y172 => (if (strOfNums y172).size + a0.size ≤ 9223372036854775807 then (some ((strOfNums y172) ++ a0)) else (none)))
theorem thwartref02_Seal.mono : ∀ a0 k,LeO (thwartref02_Seal.f k a0) (thwartref02_Seal.f (k + 1) a0):=by
 intro a0 k
 unfold thwartref02_Seal.f
 repeat' first
   | (with_reducible exact thwartref02_Sum.mono _ _)
   | (with_reducible exact LeO.refl _)
   | (with_reducible exact LeO.none _)
   | (with_reducible refine LeO.ite ?_ ?_)
   | (with_reducible refine LeO.bind ?_ (fun _ => ?_))
   | exact thwartref02_Sum.mono _ _
   | exact LeO.none _
   | refine LeO.ite ?_ ?_
   | refine LeO.bind ?_ (fun _ => ?_)
set_option maxHeartbeats 8000000 in
set_option maxRecDepth 100000 in
theorem thwartref02_Seal.calls (k : Nat) (a0 : ByteArray) (r : ByteArray) (w : World) (h : thwartref02_Seal.f k a0 = some r) :
  Calls Tryd.prog 27 #[.string a0] w fun e w' => e = .returned (.string r) ∧ Below w.heap.size w w' := by
 have HB:=Aside0.mk (Below.refl w.heap.size w)
 have H : ((thwartref02_Sum.f k a0).bind fun t171 => ((some (([(t171) % 256,(t171 / 256) % 256,(t171 / 65536) % 256,(t171 / 16777216) % 256] : List Int) : List Int)).bind fun y172 => (if (strOfNums y172).size + a0.size ≤ 9223372036854775807 then (some ((strOfNums y172) ++ a0)) else (none)))) = some r:=h
 clear h
 replace H:=Option.bind_eq_some_iff.mp H
 obtain ⟨t171,A20,H⟩:=H
 replace H : ((some (([(t171) % 256,(t171 / 256) % 256,(t171 / 65536) % 256,(t171 / 16777216) % 256] : List Int) : List Int)).bind fun y172 => (if (strOfNums y172).size + a0.size ≤ 9223372036854775807 then (some ((strOfNums y172) ++ a0)) else (none))) = some r:=H
 have A2:=Aside0.mk A20
 clear A20
 obtain ⟨y172,hy172⟩ : ∃ y_ : List Int,y_ = (([(t171) % 256,(t171 / 256) % 256,(t171 / 65536) % 256,(t171 / 16777216) % 256] : List Int)):=⟨_,rfl⟩
 replace H : (if (strOfNums y172).size + a0.size ≤ 9223372036854775807 then (some ((strOfNums y172) ++ a0)) else (none)) = some r:=by first | (rw [hy172];with_reducible exact H) | (have H2_:=(Option.bind_some _ _).symm.trans H;rw [hy172];with_reducible exact H2_) | (have H2_:=(Option.bind_some _ _).symm.trans H;with_reducible exact H2_) | with_reducible exact H | (rw [hy172];exact H) | exact H
 have Ny172:=Aside0.mk hy172
 clear hy172
 by_cases c3 : (strOfNums y172).size + a0.size ≤ 9223372036854775807
 ·rw [if_pos c3] at H
  have c3b0:=eq_true c3
  have c3b1 : decide ((strOfNums y172).size + a0.size ≤ 9223372036854775807) = true:=decide_eq_true c3
  try have c3b2 : (9223372036854775807 < (strOfNums y172).size + a0.size) = False:=eq_false (Nat.not_lt.2 c3)
  obtain rfl:=Option.some.inj H
  go_enter Tryd.func27,Tryd.ntmps27
  go_wp2_with (first | ((with_reducible refine gate_callee (f:=37) rfl ?_);refine goesL_ (some 5) rfl rfl Tryd.func37 (by kernel_rfl) rfl #[.string a0] rfl (by (try simp only [List.map_toArray,List.map_cons,List.map_nil]);first | done | rfl | (simp only [List.length_drop,List.length_take];rfl)) ?_;(with_reducible refine (thwartref02_Sum.calls k a0 t171 _ A2.out).mono ?_);rintro e w' ⟨rfl,⟨nd,rfl⟩⟩;refine ⟨_,rfl,?_⟩) | ((with_reducible refine gate_dst (N:=17) rfl ?_);refine Kd.R_lit (Kd.int .u8) _ 5 ?hg (N:=17) ?hd (xs:=([(t171) % 256,(t171 / 256) % 256,(t171 / 65536) % 256,(t171 / 16777216) % 256] : List Int)) (inner:=[.int .u8 ((t171) % 256),.int .u8 ((t171 / 256) % 256),.int .u8 ((t171 / 65536) % 256),.int .u8 ((t171 / 16777216) % 256)]) (ok:=fun _ => True) (okp:=fun _ => True) ?hr ?hp (fun _ hk => hk) trivial (Below.refl _ _) (Nat.le_refl _) (by simp) ?_;(case hd => rfl);(case hg => rfl);(case hr => first | (go_simp;done) | (go_simp;rfl));(case hp => exact (Reps.one (show Kd.M (Kd.int .u8) _ _ _ ((t171) % 256) [.int .u8 ((t171) % 256)] from rfl) (Reps.one (show Kd.M (Kd.int .u8) _ _ _ ((t171 / 256) % 256) [.int .u8 ((t171 / 256) % 256)] from rfl) (Reps.one (show Kd.M (Kd.int .u8) _ _ _ ((t171 / 65536) % 256) [.int .u8 ((t171 / 65536) % 256)] from rfl) (Reps.one (show Kd.M (Kd.int .u8) _ _ _ ((t171 / 16777216) % 256) [.int .u8 ((t171 / 16777216) % 256)] from rfl) (Reps.none _ _))))));intro v173 w4 ho5 hb hg_ hnew_;clear hg_ hnew_;(first | rw [← Ny172.out] at ho5 | (simp only [Int.reduceToNat] at ho5;rw [← Ny172.out] at ho5));have n0_:=Aside0.mk (Kd.R_lower ho5 (below_size (by repeat (first | (with_reducible first | exact HB.out | apply below_alloc | apply pw_below_drewN | apply below_drew1) | exact HB.out))));have n1_:=Aside0.mk (below_step (by repeat (first | (with_reducible first | exact HB.out | apply below_alloc | apply pw_below_drewN | apply below_drew1) | exact HB.out)) hb);clear HB;have HO174:=n0_;have HB:=n1_;clear n0_ n1_;clear hb ho5;have hcv6:=own_string (P:=Tryd.prog) Tryd.underlying76 Tryd.underlying5 Tryd.underlying9 (Kd.own_of_R HO174.out)))
  go_ret
  exact ⟨by first | rfl | (simp [errW_none,errW_some] <;> rfl) | (simp [*,errW_none,errW_some] <;> rfl) | (simp [errW_none,errW_some];exact isEmpty_bne _),by repeat (first | (with_reducible first | exact HB.out | apply below_alloc | apply pw_below_drewN | apply below_drew1) | exact HB.out)⟩
 ·rw [if_neg c3] at H
  exact absurd H (by simp)

end Go.Proofs.YtgampcbjmdgciaaDoor.Print
