/- Written by a program of mine (give.py, over the kit's print) out of the translation: contracts of the Go functions. Lean checks it. -/
import Derived.Test.YtlnbekaldemebaaGreatDoorPrint0
namespace Go.Proofs.YtlnbekaldemebaaGreatDoor.Print
open Go.RowKit Go.Proofs.YtlnbekaldemebaaGreatDoorW.PrintWords Go.Proofs.YtlnbekaldemebaaGreatDoorW.PrintLast Go.Proofs.YtlnbekaldemebaaGreatDoorW.PrintMore
attribute [local go_sem] max2_int min2_int max_two min_two max_three min_three max_four min_four   -- for this text's walks alone
set_option linter.unusedVariables false
set_option linter.unusedSimpArgs false

-- NOT PRINTED: function 70 (slices_pdqsortOrdered_string)

-- NOT PRINTED: function 36 (slices_Sort_string_string)

-- NOT PRINTED: function 37 (slices_Compact_string_string)

-- NOT PRINTED: function 9 (publish_Waste)

-- NOT PRINTED: function 12 (remote_New)

-- NOT PRINTED: function 42 (manifest_Seg)

/-! ### manifest_Right: function 72 -/
def manifest_Right.l0 : Nat → Int → List (S45) → Int → Int → Int → List (S45) → Option (Bool)
 | 0,_,_,_,_,_,_ => none
 | k + 1,x3,x7,x8,x9,x234000,x234001 => if x9 < x8 then (if 0 ≤ x9 then (if x9 < (x7.length : Int) then (if ((rd_T45 x7 x9).f0) ≤ x3 then (some false) else (if ((rd_T45 x7 x9).f0) > 999999 then (some false) else (if ((rd_T45 x7 x9).f1) < 0 then (some false) else (if ((rd_T45 x7 x9).f1) > 1048576 then (some false) else (manifest_Right.l0 k ((rd_T45 x7 x9).f0) x7 x8 (wrap64 (x9 + 1)) x234000 x234001))))) else (none)) else (none)) else (if x234000 ≥ 1 then (if x234000 ≤ 999999 then (some (decide ((x234001.length : Int) ≤ 200))) else (some false)) else (some false))
def manifest_Right.f (k : Nat) (a0_0 : Int) (l0_1 : List (S45)) : Option (Bool):=manifest_Right.l0 k (-1) l0_1 (l0_1.length : Int) 0 a0_0 l0_1
theorem manifest_Right.mono_l : ∀ k,(∀ y0 y1 y2 y3 y4 y5,LeO (manifest_Right.l0 k y0 y1 y2 y3 y4 y5) (manifest_Right.l0 (k + 1) y0 y1 y2 y3 y4 y5))
 | 0 => fun _ _ _ _ _ _ r h => by simp [manifest_Right.l0] at h
 | k + 1 => by
  have ih0:=manifest_Right.mono_l k
  ·intro y0 y1 y2 y3 y4 y5
   unfold manifest_Right.l0
   repeat' first
   | (with_reducible exact ih0 _ _ _ _ _ _)
   | (with_reducible exact LeO.refl _)
   | (with_reducible exact LeO.none _)
   | (with_reducible refine LeO.ite ?_ ?_)
   | (with_reducible refine LeO.bind ?_ (fun _ => ?_))
   | exact ih0 _ _ _ _ _ _
   | exact LeO.none _
   | refine LeO.ite ?_ ?_
   | refine LeO.bind ?_ (fun _ => ?_)
theorem manifest_Right.mono : ∀ a0 a1 k,LeO (manifest_Right.f k a0 a1) (manifest_Right.f (k + 1) a0 a1):=by
 intro a0 a1 k
 have ih0:=manifest_Right.mono_l k
 unfold manifest_Right.f
 repeat' first
   | (with_reducible exact ih0 _ _ _ _ _ _)
   | (with_reducible exact LeO.refl _)
   | (with_reducible exact LeO.none _)
   | (with_reducible refine LeO.ite ?_ ?_)
   | (with_reducible refine LeO.bind ?_ (fun _ => ?_))
   | exact ih0 _ _ _ _ _ _
   | exact LeO.none _
   | refine LeO.ite ?_ ?_
   | refine LeO.bind ?_ (fun _ => ?_)
set_option maxHeartbeats 8000000 in
set_option maxRecDepth 100000 in
theorem manifest_Right.calls (k : Nat) (a0_0 : Int) (A0_1 : Option Addr) (c0_1 : Nat) (l0_1 : List (S45)) (r : Bool) (w : World) (hr0_1 : Kd.C k45 w A0_1 l0_1.length l0_1) (hc0_1 : l0_1.length ≤ c0_1) (h : manifest_Right.f k a0_0 l0_1 = some r) :
  Calls Tryz.prog 72 #[.agg #[.int .i64 a0_0,.slice A0_1 l0_1.length c0_1]] w fun e w' => e = .returned (.bool r) ∧ Below w.heap.size w w' := by
 have hu25:=Tryz.underlying25
 have hu45:=Tryz.underlying45
 have HR0_1:=Aside0.mk hr0_1
 have HC0_1:=Aside0.mk hc0_1
 clear hr0_1 hc0_1
 have HB:=Aside0.mk (Below.refl w.heap.size w)
 have H : (manifest_Right.l0 k (-1) l0_1 (l0_1.length : Int) 0 a0_0 l0_1) = some r:=h
 clear h
 have H' := Aside0.mk H
 clear H
 go_enter Tryz.func72,Tryz.ntmps72
 go_wp2_with (first | ((with_reducible refine gate_dst (N:=1) rfl ?_);(try (refine gate_guard (by rfl) ?_;dsimp only));refine box_event ?hg (N:=1) ?hd (cs := #[.int .i64 a0_0,.slice A0_1 l0_1.length c0_1]) (t:=25) ?hr ?_;(case hd => rfl);(case hg => rfl);(case hr => first | (go_simp;done) | (go_simp;rfl));intro gb233 hg w2 hbox hb;have n0_:=Aside0.mk (below_step (by repeat (first | (with_reducible first | exact HB.out | apply below_alloc | apply pw_below_drewN | apply below_drew1) | exact HB.out)) hb);have n1_:=Aside0.mk (hbox);have n2_:=Aside0.mk ((by rw [hg];exact (below_size (by repeat (first | (with_reducible first | exact HB.out | apply below_alloc | apply pw_below_drewN | apply below_drew1) | exact HB.out))) : w.heap.size ≤ gb233));have n3_:=Aside0.mk ((by rw [hg];exact (below_size (by repeat (first | (with_reducible first | exact HB.out | apply below_alloc | apply pw_below_drewN | apply below_drew1) | exact HB.out))) : w.heap.size ≤ gb233));clear HB;have HB:=n0_;have BK233:=n1_;have GW233:=n2_;have GE233:=n3_;clear n0_ n1_ n2_ n3_;clear hb hbox hg;have hcz3_0 : w2.cell? ⟨gb233,0,none⟩ = some (.int .i64 a0_0):=(blk_cell BK233.out 0).trans rfl;have hcz3_1 : w2.cell? ⟨gb233,1,none⟩ = some (.slice A0_1 l0_1.length c0_1):=(blk_cell BK233.out 1).trans rfl;have hfz3_0:=blk_frozen BK233.out 0;have hfz3_1:=blk_frozen BK233.out 1))
 go_loopg [3,9] k (fun kq v3 v9 w' => ∃ (x3_1 : Int) (x9_1 : Int),v3 = .int .i64 x3_1 ∧ v9 = .int .i64 x9_1 ∧ Aside0 (manifest_Right.l0 kq x3_1 l0_1 (l0_1.length : Int) x9_1 a0_0 l0_1 = some r) ∧ Aside0 (kq ≤ k) ∧ Aside0 (w'.heap[gb233]? = some (.cells #[.int .i64 a0_0,(.slice A0_1 l0_1.length c0_1)] 25 (0,0))) ∧ Aside0 (Below w.heap.size w w'))
 case atStart => exact ⟨((-1)),(0),(by first | rfl | (simp;done) | (simp [*];done)),(by first | rfl | (simp;done) | (simp [*];done)),H',⟨Nat.le_refl _⟩,⟨by (with_reducible repeat (first | refine blk_drewN ?_ _ | refine blk_drew ?_ | refine blk_alloc ?_ _));exact BK233.out⟩,⟨by repeat (first | (with_reducible first | exact HB.out | apply below_alloc | apply pw_below_drewN | apply below_drew1 | refine below_set ?_ GE233.out) | exact HB.out)⟩⟩
 case round =>
  clear H'
  try clear p2
  try clear hcz3_0
  try clear hcz3_1
  try clear hfz3_0
  try clear hfz3_1
  obtain ⟨x3_1,x9_1,rfl,rfl,HA,HK1,BK233,HB⟩:=hrel
  cases gk with
  | zero => exact absurd HA.out (by simp [manifest_Right.l0])
  | succ k1 =>
   have H:=HA.out
   clear HA
   simp only [manifest_Right.l0] at H
   by_cases c4 : x9_1 < (l0_1.length : Int)
   ·rw [if_pos c4] at H
    have c4b0 : decide (x9_1 < (l0_1.length : Int)) = true:=decide_eq_true c4
    clear c4
    by_cases c5 : 0 ≤ x9_1
    ·rw [if_pos c5] at H
     have c5b0 : decide (0 ≤ x9_1) = true:=decide_eq_true c5
     clear c5
     by_cases c6 : x9_1 < (l0_1.length : Int)
     ·rw [if_pos c6] at H
      have c6b0 : decide (x9_1 < (l0_1.length : Int)) = true:=decide_eq_true c6
      clear c6
      by_cases c7 : ((rd_T45 l0_1 x9_1).f0) ≤ x3_1
      ·rw [if_pos c7] at H
       have c7b0 : decide (((rd_T45 l0_1 x9_1).f0) ≤ x3_1) = true:=decide_eq_true c7
       clear c7
       obtain rfl:=Option.some.inj H
       have p234 : 0 ≤ (x9_1 : Int):=of_decide_eq_true (by first | (with_reducible assumption) | assumption)
       have q234 : x9_1 < (l0_1.length : Int):=of_decide_eq_true (by first | (with_reducible assumption) | assumption)
       obtain ⟨ad234,e234,hx234_0,hx234_1,hx234_2⟩:=at_T45 HR0_1.out x9_1 p234 q234
       cases e234
       replace hx234_0:=(HB.out.cell (World.block_lt_of_cell? w _ hx234_0)).trans hx234_0
       replace hx234_1:=(HB.out.cell (World.block_lt_of_cell? w _ hx234_1)).trans hx234_1
       replace hx234_2:=(HB.out.cell (World.block_lt_of_cell? w _ hx234_2)).trans hx234_2
       replace p234:=eq_true p234
       replace q234:=eq_true q234
       go_wp2_with (first | ((with_reducible refine gate_dst (N:=5) rfl ?_);(try (refine gate_guard (by rfl) ?_;dsimp only));refine box_event ?hg (N:=5) ?hd (cs := #[.int .i64 0,.int .i64 0,.int .u32 0]) (t:=45) ?hr ?_;(case hd => rfl);(case hg => rfl);(case hr => first | (go_simp;done) | (go_simp;rfl));intro gb235 hg w8 hbox hb;have n0_:=Aside0.mk (blk_below (g:=gb233) (o := .cells #[.int .i64 a0_0,.slice (some ad234) l0_1.length c0_1] 25 (0,0)) (by (with_reducible repeat (first | refine blk_drewN ?_ _ | refine blk_drew ?_ | refine blk_alloc ?_ _));exact BK233.out) hb);have n1_:=Aside0.mk (below_step (by repeat (first | (with_reducible first | exact HB.out | apply below_alloc | apply pw_below_drewN | apply below_drew1 | refine below_set ?_ GE233.out) | exact HB.out)) hb);have n2_:=Aside0.mk (hbox);have n3_:=Aside0.mk ((by rw [hg];exact (below_size (by repeat (first | (with_reducible first | exact HB.out | apply below_alloc | apply pw_below_drewN | apply below_drew1 | refine below_set ?_ GE233.out) | exact HB.out))) : w.heap.size ≤ gb235));have n4_:=Aside0.mk ((by rw [hg];exact (below_size (by repeat (first | (with_reducible first | exact HB.out | apply below_alloc | apply pw_below_drewN | apply below_drew1 | refine below_set ?_ GE233.out) | exact HB.out))) : w.heap.size ≤ gb235));have n5_:=Aside0.mk ((by rw [hg];exact Nat.ne_of_lt (blk_lt (g:=gb233) (o := .cells #[.int .i64 a0_0,.slice (some ad234) l0_1.length c0_1] 25 (0,0)) (by (with_reducible repeat (first | refine blk_drewN ?_ _ | refine blk_drew ?_ | refine blk_alloc ?_ _));exact BK233.out)) : gb233 ≠ gb235));have n6_:=Aside0.mk ((by rw [hg];exact Nat.ne_of_gt (blk_lt (g:=gb233) (o := .cells #[.int .i64 a0_0,.slice (some ad234) l0_1.length c0_1] 25 (0,0)) (by (with_reducible repeat (first | refine blk_drewN ?_ _ | refine blk_drew ?_ | refine blk_alloc ?_ _));exact BK233.out)) : gb235 ≠ gb233));clear BK233;clear HB;have BK233:=n0_;have HB:=n1_;have BK235:=n2_;have GW235:=n3_;have GE235:=n4_;have NB233_235:=n5_;have NB235_233:=n6_;clear n0_ n1_ n2_ n3_ n4_ n5_ n6_;clear hb hbox hg;have hnb9:=NB235_233.out;have hnc9:=NB233_235.out;have hcz10_0 : w8.cell? ⟨gb235,0,none⟩ = some (.int .i64 0):=(blk_cell BK235.out 0).trans rfl;have hcz10_1 : w8.cell? ⟨gb235,1,none⟩ = some (.int .i64 0):=(blk_cell BK235.out 1).trans rfl;have hcz10_2 : w8.cell? ⟨gb235,2,none⟩ = some (.int .u32 0):=(blk_cell BK235.out 2).trans rfl;have hfz10_0:=blk_frozen BK235.out 0;have hfz10_1:=blk_frozen BK235.out 1;have hfz10_2:=blk_frozen BK235.out 2))
       go_ret
       exact ⟨by first | rfl | (simp [errW_none,errW_some] <;> rfl) | (simp [*,errW_none,errW_some] <;> rfl) | (simp [errW_none,errW_some];exact isEmpty_bne _),by repeat (first | (with_reducible first | exact HB.out | apply below_alloc | apply pw_below_drewN | apply below_drew1 | refine below_set ?_ GE233.out | refine below_set ?_ GE235.out) | exact HB.out)⟩
      ·rw [if_neg c7] at H
       have c7b0 : decide (((rd_T45 l0_1 x9_1).f0) ≤ x3_1) = false:=decide_eq_false c7
       clear c7
       by_cases c11 : ((rd_T45 l0_1 x9_1).f0) > 999999
       ·rw [if_pos c11] at H
        have c11b0 : decide (999999 < ((rd_T45 l0_1 x9_1).f0)) = true:=decide_eq_true c11
        clear c11
        obtain rfl:=Option.some.inj H
        have p234 : 0 ≤ (x9_1 : Int):=of_decide_eq_true (by first | (with_reducible assumption) | assumption)
        have q234 : x9_1 < (l0_1.length : Int):=of_decide_eq_true (by first | (with_reducible assumption) | assumption)
        obtain ⟨ad234,e234,hx234_0,hx234_1,hx234_2⟩:=at_T45 HR0_1.out x9_1 p234 q234
        cases e234
        replace hx234_0:=(HB.out.cell (World.block_lt_of_cell? w _ hx234_0)).trans hx234_0
        replace hx234_1:=(HB.out.cell (World.block_lt_of_cell? w _ hx234_1)).trans hx234_1
        replace hx234_2:=(HB.out.cell (World.block_lt_of_cell? w _ hx234_2)).trans hx234_2
        replace p234:=eq_true p234
        replace q234:=eq_true q234
        go_wp2_with (first | ((with_reducible refine gate_dst (N:=5) rfl ?_);(try (refine gate_guard (by rfl) ?_;dsimp only));refine box_event ?hg (N:=5) ?hd (cs := #[.int .i64 0,.int .i64 0,.int .u32 0]) (t:=45) ?hr ?_;(case hd => rfl);(case hg => rfl);(case hr => first | (go_simp;done) | (go_simp;rfl));intro gb235 hg w12 hbox hb;have n0_:=Aside0.mk (blk_below (g:=gb233) (o := .cells #[.int .i64 a0_0,.slice (some ad234) l0_1.length c0_1] 25 (0,0)) (by (with_reducible repeat (first | refine blk_drewN ?_ _ | refine blk_drew ?_ | refine blk_alloc ?_ _));exact BK233.out) hb);have n1_:=Aside0.mk (below_step (by repeat (first | (with_reducible first | exact HB.out | apply below_alloc | apply pw_below_drewN | apply below_drew1 | refine below_set ?_ GE233.out) | exact HB.out)) hb);have n2_:=Aside0.mk (hbox);have n3_:=Aside0.mk ((by rw [hg];exact (below_size (by repeat (first | (with_reducible first | exact HB.out | apply below_alloc | apply pw_below_drewN | apply below_drew1 | refine below_set ?_ GE233.out) | exact HB.out))) : w.heap.size ≤ gb235));have n4_:=Aside0.mk ((by rw [hg];exact (below_size (by repeat (first | (with_reducible first | exact HB.out | apply below_alloc | apply pw_below_drewN | apply below_drew1 | refine below_set ?_ GE233.out) | exact HB.out))) : w.heap.size ≤ gb235));have n5_:=Aside0.mk ((by rw [hg];exact Nat.ne_of_lt (blk_lt (g:=gb233) (o := .cells #[.int .i64 a0_0,.slice (some ad234) l0_1.length c0_1] 25 (0,0)) (by (with_reducible repeat (first | refine blk_drewN ?_ _ | refine blk_drew ?_ | refine blk_alloc ?_ _));exact BK233.out)) : gb233 ≠ gb235));have n6_:=Aside0.mk ((by rw [hg];exact Nat.ne_of_gt (blk_lt (g:=gb233) (o := .cells #[.int .i64 a0_0,.slice (some ad234) l0_1.length c0_1] 25 (0,0)) (by (with_reducible repeat (first | refine blk_drewN ?_ _ | refine blk_drew ?_ | refine blk_alloc ?_ _));exact BK233.out)) : gb235 ≠ gb233));clear BK233;clear HB;have BK233:=n0_;have HB:=n1_;have BK235:=n2_;have GW235:=n3_;have GE235:=n4_;have NB233_235:=n5_;have NB235_233:=n6_;clear n0_ n1_ n2_ n3_ n4_ n5_ n6_;clear hb hbox hg;have hnb13:=NB235_233.out;have hnc13:=NB233_235.out;have hcz14_0 : w12.cell? ⟨gb235,0,none⟩ = some (.int .i64 0):=(blk_cell BK235.out 0).trans rfl;have hcz14_1 : w12.cell? ⟨gb235,1,none⟩ = some (.int .i64 0):=(blk_cell BK235.out 1).trans rfl;have hcz14_2 : w12.cell? ⟨gb235,2,none⟩ = some (.int .u32 0):=(blk_cell BK235.out 2).trans rfl;have hfz14_0:=blk_frozen BK235.out 0;have hfz14_1:=blk_frozen BK235.out 1;have hfz14_2:=blk_frozen BK235.out 2))
        go_ret
        exact ⟨by first | rfl | (simp [errW_none,errW_some] <;> rfl) | (simp [*,errW_none,errW_some] <;> rfl) | (simp [errW_none,errW_some];exact isEmpty_bne _),by repeat (first | (with_reducible first | exact HB.out | apply below_alloc | apply pw_below_drewN | apply below_drew1 | refine below_set ?_ GE233.out | refine below_set ?_ GE235.out) | exact HB.out)⟩
       ·rw [if_neg c11] at H
        have c11b0 : decide (999999 < ((rd_T45 l0_1 x9_1).f0)) = false:=decide_eq_false c11
        clear c11
        by_cases c15 : ((rd_T45 l0_1 x9_1).f1) < 0
        ·rw [if_pos c15] at H
         have c15b0 : decide (((rd_T45 l0_1 x9_1).f1) < 0) = true:=decide_eq_true c15
         clear c15
         obtain rfl:=Option.some.inj H
         have p234 : 0 ≤ (x9_1 : Int):=of_decide_eq_true (by first | (with_reducible assumption) | assumption)
         have q234 : x9_1 < (l0_1.length : Int):=of_decide_eq_true (by first | (with_reducible assumption) | assumption)
         obtain ⟨ad234,e234,hx234_0,hx234_1,hx234_2⟩:=at_T45 HR0_1.out x9_1 p234 q234
         cases e234
         replace hx234_0:=(HB.out.cell (World.block_lt_of_cell? w _ hx234_0)).trans hx234_0
         replace hx234_1:=(HB.out.cell (World.block_lt_of_cell? w _ hx234_1)).trans hx234_1
         replace hx234_2:=(HB.out.cell (World.block_lt_of_cell? w _ hx234_2)).trans hx234_2
         replace p234:=eq_true p234
         replace q234:=eq_true q234
         go_wp2_with (first | ((with_reducible refine gate_dst (N:=5) rfl ?_);(try (refine gate_guard (by rfl) ?_;dsimp only));refine box_event ?hg (N:=5) ?hd (cs := #[.int .i64 0,.int .i64 0,.int .u32 0]) (t:=45) ?hr ?_;(case hd => rfl);(case hg => rfl);(case hr => first | (go_simp;done) | (go_simp;rfl));intro gb235 hg w16 hbox hb;have n0_:=Aside0.mk (blk_below (g:=gb233) (o := .cells #[.int .i64 a0_0,.slice (some ad234) l0_1.length c0_1] 25 (0,0)) (by (with_reducible repeat (first | refine blk_drewN ?_ _ | refine blk_drew ?_ | refine blk_alloc ?_ _));exact BK233.out) hb);have n1_:=Aside0.mk (below_step (by repeat (first | (with_reducible first | exact HB.out | apply below_alloc | apply pw_below_drewN | apply below_drew1 | refine below_set ?_ GE233.out) | exact HB.out)) hb);have n2_:=Aside0.mk (hbox);have n3_:=Aside0.mk ((by rw [hg];exact (below_size (by repeat (first | (with_reducible first | exact HB.out | apply below_alloc | apply pw_below_drewN | apply below_drew1 | refine below_set ?_ GE233.out) | exact HB.out))) : w.heap.size ≤ gb235));have n4_:=Aside0.mk ((by rw [hg];exact (below_size (by repeat (first | (with_reducible first | exact HB.out | apply below_alloc | apply pw_below_drewN | apply below_drew1 | refine below_set ?_ GE233.out) | exact HB.out))) : w.heap.size ≤ gb235));have n5_:=Aside0.mk ((by rw [hg];exact Nat.ne_of_lt (blk_lt (g:=gb233) (o := .cells #[.int .i64 a0_0,.slice (some ad234) l0_1.length c0_1] 25 (0,0)) (by (with_reducible repeat (first | refine blk_drewN ?_ _ | refine blk_drew ?_ | refine blk_alloc ?_ _));exact BK233.out)) : gb233 ≠ gb235));have n6_:=Aside0.mk ((by rw [hg];exact Nat.ne_of_gt (blk_lt (g:=gb233) (o := .cells #[.int .i64 a0_0,.slice (some ad234) l0_1.length c0_1] 25 (0,0)) (by (with_reducible repeat (first | refine blk_drewN ?_ _ | refine blk_drew ?_ | refine blk_alloc ?_ _));exact BK233.out)) : gb235 ≠ gb233));clear BK233;clear HB;have BK233:=n0_;have HB:=n1_;have BK235:=n2_;have GW235:=n3_;have GE235:=n4_;have NB233_235:=n5_;have NB235_233:=n6_;clear n0_ n1_ n2_ n3_ n4_ n5_ n6_;clear hb hbox hg;have hnb17:=NB235_233.out;have hnc17:=NB233_235.out;have hcz18_0 : w16.cell? ⟨gb235,0,none⟩ = some (.int .i64 0):=(blk_cell BK235.out 0).trans rfl;have hcz18_1 : w16.cell? ⟨gb235,1,none⟩ = some (.int .i64 0):=(blk_cell BK235.out 1).trans rfl;have hcz18_2 : w16.cell? ⟨gb235,2,none⟩ = some (.int .u32 0):=(blk_cell BK235.out 2).trans rfl;have hfz18_0:=blk_frozen BK235.out 0;have hfz18_1:=blk_frozen BK235.out 1;have hfz18_2:=blk_frozen BK235.out 2))
         go_ret
         exact ⟨by first | rfl | (simp [errW_none,errW_some] <;> rfl) | (simp [*,errW_none,errW_some] <;> rfl) | (simp [errW_none,errW_some];exact isEmpty_bne _),by repeat (first | (with_reducible first | exact HB.out | apply below_alloc | apply pw_below_drewN | apply below_drew1 | refine below_set ?_ GE233.out | refine below_set ?_ GE235.out) | exact HB.out)⟩
        ·rw [if_neg c15] at H
         have c15b0 : decide (((rd_T45 l0_1 x9_1).f1) < 0) = false:=decide_eq_false c15
         clear c15
         by_cases c19 : ((rd_T45 l0_1 x9_1).f1) > 1048576
         ·rw [if_pos c19] at H
          have c19b0 : decide (1048576 < ((rd_T45 l0_1 x9_1).f1)) = true:=decide_eq_true c19
          clear c19
          obtain rfl:=Option.some.inj H
          have p234 : 0 ≤ (x9_1 : Int):=of_decide_eq_true (by first | (with_reducible assumption) | assumption)
          have q234 : x9_1 < (l0_1.length : Int):=of_decide_eq_true (by first | (with_reducible assumption) | assumption)
          obtain ⟨ad234,e234,hx234_0,hx234_1,hx234_2⟩:=at_T45 HR0_1.out x9_1 p234 q234
          cases e234
          replace hx234_0:=(HB.out.cell (World.block_lt_of_cell? w _ hx234_0)).trans hx234_0
          replace hx234_1:=(HB.out.cell (World.block_lt_of_cell? w _ hx234_1)).trans hx234_1
          replace hx234_2:=(HB.out.cell (World.block_lt_of_cell? w _ hx234_2)).trans hx234_2
          replace p234:=eq_true p234
          replace q234:=eq_true q234
          go_wp2_with (first | ((with_reducible refine gate_dst (N:=5) rfl ?_);(try (refine gate_guard (by rfl) ?_;dsimp only));refine box_event ?hg (N:=5) ?hd (cs := #[.int .i64 0,.int .i64 0,.int .u32 0]) (t:=45) ?hr ?_;(case hd => rfl);(case hg => rfl);(case hr => first | (go_simp;done) | (go_simp;rfl));intro gb235 hg w20 hbox hb;have n0_:=Aside0.mk (blk_below (g:=gb233) (o := .cells #[.int .i64 a0_0,.slice (some ad234) l0_1.length c0_1] 25 (0,0)) (by (with_reducible repeat (first | refine blk_drewN ?_ _ | refine blk_drew ?_ | refine blk_alloc ?_ _));exact BK233.out) hb);have n1_:=Aside0.mk (below_step (by repeat (first | (with_reducible first | exact HB.out | apply below_alloc | apply pw_below_drewN | apply below_drew1 | refine below_set ?_ GE233.out) | exact HB.out)) hb);have n2_:=Aside0.mk (hbox);have n3_:=Aside0.mk ((by rw [hg];exact (below_size (by repeat (first | (with_reducible first | exact HB.out | apply below_alloc | apply pw_below_drewN | apply below_drew1 | refine below_set ?_ GE233.out) | exact HB.out))) : w.heap.size ≤ gb235));have n4_:=Aside0.mk ((by rw [hg];exact (below_size (by repeat (first | (with_reducible first | exact HB.out | apply below_alloc | apply pw_below_drewN | apply below_drew1 | refine below_set ?_ GE233.out) | exact HB.out))) : w.heap.size ≤ gb235));have n5_:=Aside0.mk ((by rw [hg];exact Nat.ne_of_lt (blk_lt (g:=gb233) (o := .cells #[.int .i64 a0_0,.slice (some ad234) l0_1.length c0_1] 25 (0,0)) (by (with_reducible repeat (first | refine blk_drewN ?_ _ | refine blk_drew ?_ | refine blk_alloc ?_ _));exact BK233.out)) : gb233 ≠ gb235));have n6_:=Aside0.mk ((by rw [hg];exact Nat.ne_of_gt (blk_lt (g:=gb233) (o := .cells #[.int .i64 a0_0,.slice (some ad234) l0_1.length c0_1] 25 (0,0)) (by (with_reducible repeat (first | refine blk_drewN ?_ _ | refine blk_drew ?_ | refine blk_alloc ?_ _));exact BK233.out)) : gb235 ≠ gb233));clear BK233;clear HB;have BK233:=n0_;have HB:=n1_;have BK235:=n2_;have GW235:=n3_;have GE235:=n4_;have NB233_235:=n5_;have NB235_233:=n6_;clear n0_ n1_ n2_ n3_ n4_ n5_ n6_;clear hb hbox hg;have hnb21:=NB235_233.out;have hnc21:=NB233_235.out;have hcz22_0 : w20.cell? ⟨gb235,0,none⟩ = some (.int .i64 0):=(blk_cell BK235.out 0).trans rfl;have hcz22_1 : w20.cell? ⟨gb235,1,none⟩ = some (.int .i64 0):=(blk_cell BK235.out 1).trans rfl;have hcz22_2 : w20.cell? ⟨gb235,2,none⟩ = some (.int .u32 0):=(blk_cell BK235.out 2).trans rfl;have hfz22_0:=blk_frozen BK235.out 0;have hfz22_1:=blk_frozen BK235.out 1;have hfz22_2:=blk_frozen BK235.out 2))
          go_ret
          exact ⟨by first | rfl | (simp [errW_none,errW_some] <;> rfl) | (simp [*,errW_none,errW_some] <;> rfl) | (simp [errW_none,errW_some];exact isEmpty_bne _),by repeat (first | (with_reducible first | exact HB.out | apply below_alloc | apply pw_below_drewN | apply below_drew1 | refine below_set ?_ GE233.out | refine below_set ?_ GE235.out) | exact HB.out)⟩
         ·rw [if_neg c19] at H
          have c19b0 : decide (1048576 < ((rd_T45 l0_1 x9_1).f1)) = false:=decide_eq_false c19
          clear c19
          have H' := Aside0.mk H
          clear H
          have p234 : 0 ≤ (x9_1 : Int):=of_decide_eq_true (by first | (with_reducible assumption) | assumption)
          have q234 : x9_1 < (l0_1.length : Int):=of_decide_eq_true (by first | (with_reducible assumption) | assumption)
          obtain ⟨ad234,e234,hx234_0,hx234_1,hx234_2⟩:=at_T45 HR0_1.out x9_1 p234 q234
          cases e234
          replace hx234_0:=(HB.out.cell (World.block_lt_of_cell? w _ hx234_0)).trans hx234_0
          replace hx234_1:=(HB.out.cell (World.block_lt_of_cell? w _ hx234_1)).trans hx234_1
          replace hx234_2:=(HB.out.cell (World.block_lt_of_cell? w _ hx234_2)).trans hx234_2
          replace p234:=eq_true p234
          replace q234:=eq_true q234
          go_wp2_with (first | ((with_reducible refine gate_dst (N:=5) rfl ?_);(try (refine gate_guard (by rfl) ?_;dsimp only));refine box_event ?hg (N:=5) ?hd (cs := #[.int .i64 0,.int .i64 0,.int .u32 0]) (t:=45) ?hr ?_;(case hd => rfl);(case hg => rfl);(case hr => first | (go_simp;done) | (go_simp;rfl));intro gb235 hg w23 hbox hb;have n0_:=Aside0.mk (blk_below (g:=gb233) (o := .cells #[.int .i64 a0_0,.slice (some ad234) l0_1.length c0_1] 25 (0,0)) (by (with_reducible repeat (first | refine blk_drewN ?_ _ | refine blk_drew ?_ | refine blk_alloc ?_ _));exact BK233.out) hb);have n1_:=Aside0.mk (below_step (by repeat (first | (with_reducible first | exact HB.out | apply below_alloc | apply pw_below_drewN | apply below_drew1 | refine below_set ?_ GE233.out) | exact HB.out)) hb);have n2_:=Aside0.mk (hbox);have n3_:=Aside0.mk ((by rw [hg];exact (below_size (by repeat (first | (with_reducible first | exact HB.out | apply below_alloc | apply pw_below_drewN | apply below_drew1 | refine below_set ?_ GE233.out) | exact HB.out))) : w.heap.size ≤ gb235));have n4_:=Aside0.mk ((by rw [hg];exact (below_size (by repeat (first | (with_reducible first | exact HB.out | apply below_alloc | apply pw_below_drewN | apply below_drew1 | refine below_set ?_ GE233.out) | exact HB.out))) : w.heap.size ≤ gb235));have n5_:=Aside0.mk ((by rw [hg];exact Nat.ne_of_lt (blk_lt (g:=gb233) (o := .cells #[.int .i64 a0_0,.slice (some ad234) l0_1.length c0_1] 25 (0,0)) (by (with_reducible repeat (first | refine blk_drewN ?_ _ | refine blk_drew ?_ | refine blk_alloc ?_ _));exact BK233.out)) : gb233 ≠ gb235));have n6_:=Aside0.mk ((by rw [hg];exact Nat.ne_of_gt (blk_lt (g:=gb233) (o := .cells #[.int .i64 a0_0,.slice (some ad234) l0_1.length c0_1] 25 (0,0)) (by (with_reducible repeat (first | refine blk_drewN ?_ _ | refine blk_drew ?_ | refine blk_alloc ?_ _));exact BK233.out)) : gb235 ≠ gb233));clear BK233;clear HB;have BK233:=n0_;have HB:=n1_;have BK235:=n2_;have GW235:=n3_;have GE235:=n4_;have NB233_235:=n5_;have NB235_233:=n6_;clear n0_ n1_ n2_ n3_ n4_ n5_ n6_;clear hb hbox hg;have hnb24:=NB235_233.out;have hnc24:=NB233_235.out;have hcz25_0 : w23.cell? ⟨gb235,0,none⟩ = some (.int .i64 0):=(blk_cell BK235.out 0).trans rfl;have hcz25_1 : w23.cell? ⟨gb235,1,none⟩ = some (.int .i64 0):=(blk_cell BK235.out 1).trans rfl;have hcz25_2 : w23.cell? ⟨gb235,2,none⟩ = some (.int .u32 0):=(blk_cell BK235.out 2).trans rfl;have hfz25_0:=blk_frozen BK235.out 0;have hfz25_1:=blk_frozen BK235.out 1;have hfz25_2:=blk_frozen BK235.out 2))
          go_roundg k1
          case measure => have:=HK1.out;omega
          case rel => exact ⟨((rd_T45 l0_1 x9_1).f0),(wrap64 (x9_1 + 1)),(by first | rfl | (simp;done) | (simp [*];done)),(by first | rfl | (simp;done) | (simp [*];done)),H',⟨by have:=HK1.out;omega⟩,⟨by (with_reducible repeat (first | refine blk_drewN ?_ _ | refine blk_drew ?_ | refine blk_alloc ?_ _));refine blk_far ?_ NB233_235.out _;(with_reducible repeat (first | refine blk_drewN ?_ _ | refine blk_drew ?_ | refine blk_alloc ?_ _));refine blk_far ?_ NB233_235.out _;(with_reducible repeat (first | refine blk_drewN ?_ _ | refine blk_drew ?_ | refine blk_alloc ?_ _));refine blk_far ?_ NB233_235.out _;(with_reducible repeat (first | refine blk_drewN ?_ _ | refine blk_drew ?_ | refine blk_alloc ?_ _));exact BK233.out⟩,⟨by repeat (first | (with_reducible first | exact HB.out | apply below_alloc | apply pw_below_drewN | apply below_drew1 | refine below_set ?_ GE233.out | refine below_set ?_ GE235.out) | exact HB.out)⟩⟩
     ·rw [if_neg c6] at H
      exact absurd H (by simp)
    ·rw [if_neg c5] at H
     exact absurd H (by simp)
   ·rw [if_neg c4] at H
    have c4b0 : decide (x9_1 < (l0_1.length : Int)) = false:=decide_eq_false c4
    clear c4
    by_cases c26 : a0_0 ≥ 1
    ·rw [if_pos c26] at H
     have c26b0 : decide (1 ≤ a0_0) = true:=decide_eq_true c26
     clear c26
     by_cases c27 : a0_0 ≤ 999999
     ·rw [if_pos c27] at H
      have c27b0 : decide (a0_0 ≤ 999999) = true:=decide_eq_true c27
      clear c27
      obtain rfl:=Option.some.inj H
      have hcz28_0 : wr.cell? ⟨gb233,0,none⟩ = some (.int .i64 a0_0):=(blk_cell BK233.out 0).trans rfl
      have hcz28_1 : wr.cell? ⟨gb233,1,none⟩ = some (.slice A0_1 l0_1.length c0_1):=(blk_cell BK233.out 1).trans rfl
      have hfz28_0:=blk_frozen BK233.out 0
      have hfz28_1:=blk_frozen BK233.out 1
      go_wp2
      go_ret
      exact ⟨by first | rfl | (simp [errW_none,errW_some] <;> rfl) | (simp [*,errW_none,errW_some] <;> rfl) | (simp [errW_none,errW_some];exact isEmpty_bne _),by repeat (first | (with_reducible first | exact HB.out | apply below_alloc | apply pw_below_drewN | apply below_drew1 | refine below_set ?_ GE233.out) | exact HB.out)⟩
     ·rw [if_neg c27] at H
      have c27b0 : decide (a0_0 ≤ 999999) = false:=decide_eq_false c27
      clear c27
      obtain rfl:=Option.some.inj H
      have hcz29_0 : wr.cell? ⟨gb233,0,none⟩ = some (.int .i64 a0_0):=(blk_cell BK233.out 0).trans rfl
      have hcz29_1 : wr.cell? ⟨gb233,1,none⟩ = some (.slice A0_1 l0_1.length c0_1):=(blk_cell BK233.out 1).trans rfl
      have hfz29_0:=blk_frozen BK233.out 0
      have hfz29_1:=blk_frozen BK233.out 1
      go_wp2
      go_ret
      exact ⟨by first | rfl | (simp [errW_none,errW_some] <;> rfl) | (simp [*,errW_none,errW_some] <;> rfl) | (simp [errW_none,errW_some];exact isEmpty_bne _),by repeat (first | (with_reducible first | exact HB.out | apply below_alloc | apply pw_below_drewN | apply below_drew1 | refine below_set ?_ GE233.out) | exact HB.out)⟩
    ·rw [if_neg c26] at H
     have c26b0 : decide (1 ≤ a0_0) = false:=decide_eq_false c26
     clear c26
     obtain rfl:=Option.some.inj H
     have hcz30_0 : wr.cell? ⟨gb233,0,none⟩ = some (.int .i64 a0_0):=(blk_cell BK233.out 0).trans rfl
     have hcz30_1 : wr.cell? ⟨gb233,1,none⟩ = some (.slice A0_1 l0_1.length c0_1):=(blk_cell BK233.out 1).trans rfl
     have hfz30_0:=blk_frozen BK233.out 0
     have hfz30_1:=blk_frozen BK233.out 1
     go_wp2
     go_ret
     exact ⟨by first | rfl | (simp [errW_none,errW_some] <;> rfl) | (simp [*,errW_none,errW_some] <;> rfl) | (simp [errW_none,errW_some];exact isEmpty_bne _),by repeat (first | (with_reducible first | exact HB.out | apply below_alloc | apply pw_below_drewN | apply below_drew1 | refine below_set ?_ GE233.out) | exact HB.out)⟩

/-! ### varint_Put: function 73 -/
theorem run_sliceAt_array_hm {P : Program} (w : World) (t : TypeId) (a : Addr) (ht : P.underlying t = some (.array (P.arrayLen t) (P.elem t))) (kh km : IntKind) (h m : Int) (h0 : 0 ≤ h) (h2 : h ≤ m) (h3 : m ≤ P.arrayLen t) :
    (Instr.sliceAt t (.pointer (some a)) none (some (.int kh h)) (some (.int km m))).run P w =
      ((sizeOf (P.elem t)).run P w).andThen fun s w => .ok (slicedAt a 0 h.toNat m.toNat s) w := by
  have em : (m.toNat : Int) = m := Int.toNat_of_nonneg (by omega)
  simp [Instr.sliceAt, Instr.sureAddr, slicedAt, run_underlying ht, Instr.sliceBounds, run_sliceBound, sliced, *, em, (by omega : 0 ≤ h), (by omega : 0 ≤ m)]
theorem ediv_twice (a b c : Int) (h : 0 ≤ b) : a / b / c = a / (b * c) := Int.ediv_ediv_of_nonneg h
/-- The bytes of a number, as Put lays them: 'k' more may follow. -/
def putF : Nat → Int → List Int
  | 0, n => [n]
  | k + 1, n => if n < 128 then [n] else (n % 128 + 128) :: putF k (n / 128)
def varint_Put.f (a0 : Int) : Option ByteArray := if 0 ≤ a0 ∧ a0 < 18446744073709551616 then some (strOfNums (putF 9 a0)) else none
def put_pre (n : Int) (k : Nat) : List Int := (List.range k).map fun j => n / 128 ^ j % 128 + 128
def put_cells (n : Int) (k : Nat) : List Int := put_pre n k ++ List.replicate (10 - k) 0
def put_arr (n : Int) (k : Nat) : Array Value := ((put_cells n k).map (Value.int .u8)).toArray
theorem put_pre_length (n : Int) (k : Nat) : (put_pre n k).length = k := by simp [put_pre]
theorem put_arr_at (n : Int) (k : Nat) (h : k ≤ 9) : (put_arr n k)[k]? = some (.int .u8 0) := by
  simp [put_arr, put_cells, put_pre, List.getElem?_append, List.getElem?_replicate]
  omega
theorem put_or (x : Int) (h : 0 ≤ x) : Go.bits .or .u8 (x % 256) 128 = x % 128 + 128 := by
  have e : ∀ a : Nat, a < 256 → a ||| 128 = a % 128 + 128 := by decide +kernel
  rw [u8_or _ _ (by omega) (by omega) (by omega) (by omega)]
  have h2 := e (x % 256).toNat (by omega)
  have h3 : (128 : Int).toNat = 128 := rfl
  rw [h3, h2]; omega
theorem put_arr_set (n : Int) (k : Nat) (h : k ≤ 8) (hn : 0 ≤ n) : (put_arr n k).setIfInBounds k (.int .u8 (Go.bits .or .u8 (n / 128 ^ k % 256) 128)) = put_arr n (k + 1) := by
  have hp : (0 : Int) < 128 ^ k := Int.pow_pos (by decide)
  rw [put_or _ (Int.ediv_nonneg hn (by omega))]
  apply Array.ext_getElem?
  intro i
  simp only [put_arr, put_cells, put_pre, Array.getElem?_setIfInBounds, List.getElem?_toArray, List.size_toArray, List.length_map, List.length_append, List.length_range, List.length_replicate, List.getElem?_map, List.getElem?_append, List.getElem?_replicate]
  by_cases h1 : k = i
  · subst h1; simp [show k < 10 by omega]; omega
  · rcases Nat.lt_or_ge i k with h2 | h2
    · simp [h1, h2, show i < k + 1 by omega, List.getElem?_range, show i < k from h2]
    · simp [h1, show ¬ i < k by omega, show ¬ i < k + 1 by omega, List.getElem?_range, show ¬ i < k by omega]
      split <;> split <;> first | rfl | omega
theorem putF_pre (n : Int) (h0 : 0 ≤ n) : ∀ (k f : Nat), (∀ j, j < k → 128 ≤ n / 128 ^ j) → n / 128 ^ k < 128 → k ≤ f → putF f n = put_pre n k ++ [n / 128 ^ k]
  | 0, f, _, h, _ => by
    simp at h
    cases f <;> simp [putF, put_pre, h]
  | k + 1, 0, _, _, hf => absurd hf (by omega)
  | k + 1, f + 1, hj, h, hf => by
    have h1 := hj 0 (by omega)
    simp at h1
    have e : ∀ j, n / 128 / 128 ^ j = n / 128 ^ (j + 1) := fun j => by rw [ediv_twice _ _ _ (by decide), Int.pow_succ, Int.mul_comm]
    rw [putF, if_neg (by omega), putF_pre (n / 128) (by omega) k f (fun j h2 => by rw [e]; exact hj (j + 1) (by omega)) (by rw [e]; exact h) (by omega), e]
    simp [put_pre, List.range_succ_eq_map, List.map_map, Function.comp_def, e]
theorem put_last (n : Int) (k : Nat) (h : k ≤ 9) (v : Int) (i : Nat) (hi : i < k + 1) : ((put_arr n k).setIfInBounds k (.int .u8 v))[i]? = some (.int .u8 ((put_pre n k ++ [v]).getD i 0)) := by
  simp only [put_arr, put_cells, Array.getElem?_setIfInBounds, List.getElem?_toArray, List.size_toArray, List.length_map, List.length_append, put_pre_length, List.length_replicate, List.getElem?_map, List.getD_eq_getElem?_getD, List.getElem?_append]
  by_cases h1 : k = i
  · subst h1; simp [show k < 10 by omega]; omega
  · have h2 : i < k := by omega
    have h3 : i < (put_pre n k).length := by rw [put_pre_length]; exact h2
    simp [h1, h2, List.getElem?_eq_getElem h3]

set_option maxHeartbeats 800000 in
theorem varint_Put.calls (a0 : Int) (r : ByteArray) (w : World) (h : varint_Put.f a0 = some r) :
    Calls Tryz.prog 73 #[.int .u64 a0] w fun e w' => e = .returned (.string r) ∧ Below w.heap.size w w' := by
  unfold varint_Put.f at h
  by_cases hb : 0 ≤ a0 ∧ a0 < 18446744073709551616
  case neg => rw [if_neg hb] at h; exact absurd h (by simp)
  rw [if_pos hb] at h
  obtain ⟨h0, h1⟩ := hb
  have HR := Aside0.mk (Option.some.inj h)
  clear h
  go_enter Tryz.func73, Tryz.ntmps73
  go_wp2
  go_loopw [0, 4] (fun n i wr => ∃ k : Nat, k ≤ 9 ∧ i = .int .i64 k ∧ n = .int .u64 (a0 / 128 ^ k) ∧ (∀ j, j < k → 128 ≤ a0 / 128 ^ j) ∧ wr = w.alloc (.cells (put_arr a0 k) 153)) (fun _ i _ => 10 - (intOf i).toNat)
  case atStart => exact ⟨0, by omega, rfl, by simp, by omega, rfl⟩
  case round =>
    obtain ⟨k, hk, rfl, rfl, hj, rfl⟩ := hrel
    have hck := put_arr_at a0 k hk
    have HJ := Aside0.mk hj
    clear hj
    have hp : (0 : Int) < 128 ^ k := Int.pow_pos (by decide)
    have hnn : 0 ≤ a0 / 128 ^ k := Int.ediv_nonneg h0 (by omega)
    have hlt : a0 / 128 ^ k ≤ a0 := Int.ediv_le_self _ h0
    by_cases hc : a0 / 128 ^ k < 128
    · have hc' : decide (128 ≤ a0 / 128 ^ k) = false := by simp; omega
      have HR2 := Aside0.mk (HR.out.symm.trans (by rw [putF_pre a0 h0 k 9 HJ.out hc hk]))
      have hsl : ∀ W, (Instr.sliceAt 153 (.pointer (some ⟨w.heap.size, 0, none⟩)) none (some (.int .i64 ((k : Int) + 1))) (some (.int .i64 ((k : Int) + 1)))).run Tryz.prog W = .ok (.slice (some ⟨w.heap.size, 0, none⟩) (k + 1) (k + 1)) W := by
        intro W
        rw [run_sliceAt_array_hm W 153 _ (by kernel_rfl) .i64 .i64 _ _ (by omega) (by omega) (by rw [show Tryz.prog.arrayLen 153 = 10 by kernel_rfl]; omega)]
        have e1 : ((k : Int) + 1).toNat = k + 1 := by omega
        simp only [slicedAt, e1, show Tryz.prog.elem 153 = 5 by kernel_rfl]
        have e2 : (sizeOf 5).run Tryz.prog W = .ok 1 W := by kernel_rfl
        rw [e2]
        simp [Result.andThen, Addr.add]
      have hcv := run_convert_bytes_arg (P := Tryz.prog) (w.alloc (.cells ((put_arr a0 k).setIfInBounds k (.int .u8 (a0 / 128 ^ k))) 153)) 154 5 Tryz.underlying154 Tryz.underlying5 w.heap.size 0 (k + 1) (k + 1) (put_pre a0 k ++ [a0 / 128 ^ k]) (by simp [put_pre_length])
        (fun i hi => by
          have := put_last a0 k hk (a0 / 128 ^ k) i hi
          simpa [World.cell?, World.alloc, -World.alloc_eq] using this) 9 Tryz.underlying9
      go_wp2
      go_ret
      exact ⟨by rw [HR2.out]; rfl, (Below.refl _ _).alloc (Nat.le_refl _) _⟩
    · have hc' : decide (128 ≤ a0 / 128 ^ k) = true := by simp; omega
      have hk8 : k ≤ 8 := by
        rcases Nat.lt_or_ge k 9 with h | h
        · omega
        · have e9 : k = 9 := by omega
          subst e9
          have : (128 : Int) ^ 9 = 9223372036854775808 := by decide
          rw [this] at hc
          omega
      have HA := Aside0.mk (put_arr_set a0 k hk8 h0)
      go_wp2
      refine ⟨⟨k + 1, by omega, by go_num, ?_, ?_, ?_⟩, ?_⟩
      · rw [ediv_twice _ _ _ (by omega), Int.pow_succ]
      · intro j hj
        rcases Nat.lt_or_ge j k with h | h
        · exact HJ.out j h
        · obtain rfl : j = k := by omega
          omega
      · rw [HA.out]
      · simp [intOf]; omega

-- NOT PRINTED: function 136 (crc_table)

/-! ### crc_More: function 114 -/
def zs256 : Array Value := (List.replicate 256 (Value.int .u32 0)).toArray
theorem zs256_zero (w : World) : (zeroValue 178).run Tryz.prog w = .ok (.agg zs256) w := by kernel_rfl
def crcStep (c : Int) : Int := Go.bits .xor .u32 (c / 2) (Go.bits .and .u32 2197175160 ((-(Go.bits .and .u32 c 1)) % 4294967296))
def iterI (f : Int → Int) : Nat → Int → Int
  | 0, x => x
  | n + 1, x => f (iterI f n x)
def crcOf (i : Nat) : Int := iterI crcStep 8 i
def tabL (k : Nat) : List Int := (List.range k).map crcOf ++ List.replicate (256 - k) 0
def tabA (k : Nat) : Array Value := ((tabL k).map (Value.int .u32)).toArray
theorem tabA_zero : tabA 0 = zs256 := by simp only [tabA, tabL, zs256, List.range_zero, List.map_nil, List.nil_append, Nat.sub_zero, List.map_replicate]
theorem tabA_at (k : Nat) (h : k < 256) : (tabA k)[k]? = some (.int .u32 0) := by
  simp [tabA, tabL, List.getElem?_append, List.getElem?_replicate]
  omega
theorem tabA_size (k : Nat) (h : k ≤ 256) : (tabA k).size = 256 := by simp [tabA, tabL]; omega
theorem tabA_set (k : Nat) (h : k < 256) : (tabA k).setIfInBounds k (.int .u32 (crcOf k)) = tabA (k + 1) := by
  apply Array.ext_getElem?
  intro i
  simp only [tabA, tabL, Array.getElem?_setIfInBounds, List.getElem?_toArray, List.size_toArray, List.length_map, List.length_append, List.length_range, List.length_replicate, List.getElem?_map, List.getElem?_append, List.getElem?_replicate]
  by_cases h1 : k = i
  · subst h1; simp; omega
  · rcases Nat.lt_or_ge i k with h2 | h2
    · simp [h1, h2, show i < k + 1 by omega, List.getElem?_range, show i < k from h2]
    · simp [h1, show ¬ i < k by omega, show ¬ i < k + 1 by omega, List.getElem?_range]
      split <;> split <;> first | rfl | omega
theorem tabA_one (k : Nat) : (tabA k).all (·.oneCell') = true := by
  rw [Array.all_eq_true_iff_forall_mem]
  intro v hv
  simp only [tabA, List.mem_toArray, List.mem_map] at hv
  obtain ⟨x, _, rfl⟩ := hv
  rfl
set_option maxHeartbeats 800000 in
set_option maxRecDepth 100000 in
theorem crc_table.calls (w : World) :
    Calls Tryz.prog 136 #[] w fun e w' => e = .returned (.agg (tabA 256)) ∧ Below w.heap.size w w' := by
  have hz := zs256_zero
  go_enter Tryz.func136, Tryz.ntmps136
  go_wp2
  go_loopw [4] (fun i wr => ∃ k : Nat, k ≤ 256 ∧ i = .int .i64 k ∧ wr = (w.alloc (.cells zs256 178)).alloc (.cells (tabA k) 178)) (fun i _ => 256 - (intOf i).toNat)
  case atStart => exact ⟨0, by omega, rfl, by rw [tabA_zero]⟩
  case round =>
    obtain ⟨k, hk, rfl, rfl⟩ := hrel
    by_cases hlt : k < 256
    · have hck := tabA_at k hlt
      go_wp2
      go_loop [9, 3] (fun j c => ∃ n : Nat, n ≤ 8 ∧ j = .int .i64 n ∧ c = .int .u32 (iterI crcStep n k)) (fun j _ => 8 - (intOf j).toNat)
      case atStart => exact ⟨0, by omega, rfl, rfl⟩
      case round =>
        obtain ⟨n, hn, rfl, rfl⟩ := hrel
        by_cases hlt2 : n < 8
        · go_wp2
          go_round
          case rel => exact ⟨n + 1, by omega, by go_num, rfl⟩
          case measure => simp [intOf]; omega
        · obtain rfl : n = 8 := by omega
          go_wp2
          refine ⟨⟨k + 1, by omega, by go_num, ?_⟩, ?_⟩
          · exact congrArg _ (congrArg (fun c => Obj.cells c 178) (tabA_set k hlt))
          · simp [intOf]; omega
    · obtain rfl : k = 256 := by omega
      have hg1 : ((w.alloc (.cells zs256 178)).alloc (.cells (tabA 256) 178)).heap[w.heap.size + 1]? = some (.cells (tabA 256) 178 (0, 0)) := by have := heap_alloc_new (w.alloc (.cells zs256 178)) (.cells (tabA 256) 178); rwa [World.size_alloc] at this
      have hg2 : ((w.alloc (.cells zs256 178)).alloc (.cells (tabA 256) 178)).heap[w.heap.size]? = some (.cells zs256 178 (0, 0)) := by simp [World.alloc, -World.alloc_eq, Array.getElem?_push]
      have hi : (Tryz.prog.info? 178).map (·.size) = some (tabA 256).size := by rw [tabA_size 256 (Nat.le_refl _)]; kernel_rfl
      have ho : zs256.size = (tabA 256).size := by rw [tabA_size 256 (Nat.le_refl _)]; rfl
      have h1 : (tabA 256).all (·.oneCell') = true := by
        rw [Array.all_eq_true_iff_forall_mem]
        intro v hv
        simp only [tabA, List.mem_toArray, List.mem_map] at hv
        obtain ⟨x, _, rfl⟩ := hv
        rfl
      have HB := Aside0.mk (below_setRow (B := w.heap.size) (g := w.heap.size) (((Below.refl _ _).alloc (Nat.le_refl _) (.cells zs256 178)).alloc (by simp) (.cells (tabA 256) 178)) (Nat.le_refl _) (tabA 256))
      have HG := Aside0.mk (setRow_heap _ _ _ (tabA 256) _ _ hg2)
      generalize hW : (w.alloc (.cells zs256 178)).alloc (.cells (tabA 256) 178) = W at hg1 hg2 HB HG ⊢
      clear hW
      go_wp2_with (first | (refine wpList_load_row rfl 178 _ rfl (w.heap.size + 1) rfl 178 (tabA 256) (0, 0) _ hg1 Tryz.underlying178 rfl hi ?_) | (refine wpList_store_row rfl 178 _ _ rfl w.heap.size (tabA 256) rfl rfl 178 zs256 hg2 hi ho h1 ?_))
      exact bodyPost_ret (v := .agg (tabA 256)) (results_cell_row rfl _ _ w.heap.size 178 (tabA 256) (0, 0) _ rfl HG.out Tryz.underlying178 rfl hi) rfl ⟨rfl, HB.out⟩

theorem xor8_range (a b : Int) (h0 : 0 ≤ a) (h1 : a < 256) (h2 : 0 ≤ b) (h3 : b < 256) : 0 ≤ Go.bits .xor .u8 a b ∧ Go.bits .xor .u8 a b < 256 := by
  rw [u8_xor a b h0 h1 h2 h3]
  have := Nat.xor_lt_two_pow (n := 8) (x := a.toNat) (y := b.toNat) (by omega) (by omega)
  omega
def crcNext (c : Int) (x : Int) : Int := Go.bits .xor .u32 (crcOf (Go.bits .xor .u8 (c % 256) x).toNat) (c / 256)
def moreL (l : List UInt8) (c : Int) : Int := l.foldl (fun c b => crcNext c (b.toNat : Int)) c
theorem below_bytesWorld {B : Nat} {w0 w : World} (h : Below B w0 w) (hB : B ≤ w.heap.size) (e : TypeId) (s : ByteArray) : Below B w0 (Lib.bytesWorld w e s) :=
  h.trans ⟨rfl, rfl, rfl, by rw [Lib.bytesWorld_size]; omega, fun k hk => Lib.bytesWorld_at_old w e s k (by omega)⟩
theorem moreL_take (b : ByteArray) (k : Nat) (h : k < b.size) (c : Int) : moreL (b.data.toList.take (k + 1)) c = crcNext (moreL (b.data.toList.take k) c) ((b.data.toList.getD k 0).toNat : Int) := by
  have hl : k < b.data.toList.length := by rw [← Lib.size_eq]; exact h
  rw [List.take_succ_eq_append_getElem hl, moreL, List.foldl_append, List.getD_eq_getElem?_getD, List.getElem?_eq_getElem hl]
  rfl
set_option maxHeartbeats 800000 in
set_option maxRecDepth 100000 in
theorem crc_More.calls0 (sum : Int) (b : ByteArray) (w : World) (hb : b.size ≤ 4611686018427387904) (r : Int) (hr : Go.bits .xor .u32 IntKind.u32.max (moreL b.data.toList (Go.bits .xor .u32 IntKind.u32.max sum)) = r) :
    Calls Tryz.prog 114 #[.int .u32 sum, .string b] w fun e w' => e = .returned (.int .u32 r) ∧ Below w.heap.size w w' := by
  have hz := zs256_zero
  have HR := Aside0.mk hr
  clear hr
  have hsg : IntKind.u32.signed = false := rfl
  go_enter Tryz.func114, Tryz.ntmps114
  go_wp2_with fail
  refine (crc_table.calls _).mono ?_
  rintro e w1 ⟨rfl, hb1⟩
  have hi : (Tryz.prog.info? 178).map (·.size) = some (tabA 256).size := by rw [tabA_size 256 (Nat.le_refl _)]; kernel_rfl
  have ho : zs256.size = (tabA 256).size := by rw [tabA_size 256 (Nat.le_refl _)]; rfl
  have h1 := tabA_one 256
  have hcv := fun W => Lib.run_convert_string_bytes (P := Tryz.prog) W 9 154 5 b Tryz.underlying9 Tryz.underlying154 Tryz.underlying5
  go_wp2_with (refine wpList_store_row rfl 178 _ _ rfl w1.heap.size (tabA 256) rfl rfl 178 zs256 (heap_alloc_new _ _) hi ho h1 ?_; rw [World.setRow_alloc_new]; clear hi ho h1)
  have hT : ∀ j : Nat, j < 256 → (Lib.bytesWorld (w1.alloc (.cells (tabA 256) 178)) 5 b).cell? ⟨w1.heap.size, j, none⟩ = some (.int .u32 (crcOf j)) := by
    intro j hj
    rw [Lib.bytesWorld_old _ _ _ _ (by simp), World.cell?, heap_alloc_new]
    simp [tabA, tabL, List.getElem?_append, hj]
  have hS : ∀ j : Nat, j < b.size → (Lib.bytesWorld (w1.alloc (.cells (tabA 256) 178)) 5 b).cell? ⟨w1.heap.size + 1, j, none⟩ = some (.int .u8 ((b.data.toList.getD j 0).toNat : Int)) := by
    intro j hj
    have := Lib.bytesWorld_cell (w1.alloc (.cells (tabA 256) 178)) 5 b j hj
    rwa [World.size_alloc] at this
  have HB := Aside0.mk (below_bytesWorld (hb1.alloc hb1.size (.cells (tabA 256) 178)) (by have := hb1.size; simp; omega) 5 b)
  generalize Lib.bytesWorld (w1.alloc (.cells (tabA 256) 178)) 5 b = W at hT hS HB ⊢
  generalize grownCap (w1.alloc (.cells (tabA 256) 178)) b.size 0 5 = cap
  have HT := Aside0.mk hT
  have HS := Aside0.mk hS
  clear hT hS hcv hz hb1
  go_loop [15, 6] (fun i c => ∃ k : Nat, k ≤ b.size ∧ i = .int .i64 k ∧ c = .int .u32 (moreL (b.data.toList.take k) (Go.bits .xor .u32 IntKind.u32.max sum))) (fun i _ => b.size - (intOf i).toNat)
  case atStart => exact ⟨0, by omega, rfl, rfl⟩
  case round =>
    obtain ⟨k, hk, rfl, rfl⟩ := hrel
    generalize hc : moreL (b.data.toList.take k) (Go.bits .xor .u32 IntKind.u32.max sum) = c
    have HC := Aside0.mk hc
    clear hc
    by_cases hlt : k < b.size
    · have hx := HS.out k hlt
      generalize hg : (((b.data.toList.getD k 0).toNat : Nat) : Int) = x at hx
      have HG := Aside0.mk hg
      have x0 : 0 ≤ x := by omega
      have x1 : x < 256 := by have := (b.data.toList.getD k 0).toNat_lt; omega
      clear hg
      have hi := xor8_range (c % 256) x (by omega) (by omega) x0 x1
      obtain ⟨i0, i1⟩ := hi
      have ht := HT.out (Go.bits .xor .u8 (c % 256) x).toNat (by omega)
      go_wp2
      go_round
      case rel => exact ⟨k + 1, by omega, by go_num, by rw [moreL_take b k hlt, HC.out, HG.out]; rfl⟩
      case measure => simp [intOf]; omega
    · go_wp2
      go_ret
      exact ⟨by rw [← HR.out, ← HC.out, List.take_of_length_le (by rw [← Lib.size_eq]; omega)]; rfl, HB.out⟩
/-- More, in words: the check is turned round, goes on byte by byte, and is turned round again. -/
def crc_More.f (a0 : Int) (a1 : ByteArray) : Option Int := if a1.size ≤ 4611686018427387904 then some (Go.bits .xor .u32 IntKind.u32.max (moreL a1.data.toList (Go.bits .xor .u32 IntKind.u32.max a0))) else none
theorem crc_More.calls (a0 : Int) (a1 : ByteArray) (r : Int) (w : World) (h : crc_More.f a0 a1 = some r) :
    Calls Tryz.prog 114 #[.int .u32 a0, .string a1] w fun e w' => e = .returned (.int .u32 r) ∧ Below w.heap.size w w' := by
  unfold crc_More.f at h
  by_cases hz : a1.size ≤ 4611686018427387904
  case neg => rw [if_neg hz] at h; exact absurd h (by simp)
  rw [if_pos hz] at h
  exact crc_More.calls0 a0 a1 w hz r (Option.some.inj h)

/-! ### crc_Sum: function 86 -/
def crc_Sum.f (a0 : ByteArray) : Option (Int):=(crc_More.f 0 a0).bind fun t236 => (some t236)
set_option maxHeartbeats 8000000 in
set_option maxRecDepth 100000 in
theorem crc_Sum.calls (a0 : ByteArray) (r : Int) (w : World) (h : crc_Sum.f a0 = some r) :
  Calls Tryz.prog 86 #[.string a0] w fun e w' => e = .returned (.int .u32 r) ∧ Below w.heap.size w w' := by
 have HB:=Aside0.mk (Below.refl w.heap.size w)
 have H : ((crc_More.f 0 a0).bind fun t236 => (some t236)) = some r:=h
 clear h
 replace H:=Option.bind_eq_some_iff.mp H
 obtain ⟨t236,A20,H⟩:=H
 replace H : (some t236) = some r:=H
 have A2:=Aside0.mk A20
 clear A20
 obtain rfl:=Option.some.inj H
 go_enter Tryz.func86,Tryz.ntmps86
 go_wp2_with (first | ((with_reducible refine gate_callee (f:=114) rfl ?_);refine goesL_ (some 4) rfl rfl Tryz.func114 (by kernel_rfl) rfl #[.int .u32 0,.string a0] rfl (by (try simp only [List.map_toArray,List.map_cons,List.map_nil]);first | done | rfl | (simp only [List.length_drop,List.length_take];rfl)) ?_;(with_reducible refine (crc_More.calls 0 a0 t236 _ A2.out).mono ?_);rintro e w3 ⟨rfl,hb⟩;refine ⟨_,rfl,?_⟩;have n0_:=Aside0.mk (below_step (by repeat (first | (with_reducible first | exact HB.out | apply below_alloc | apply pw_below_drewN | apply below_drew1) | exact HB.out)) hb);clear HB;have HB:=n0_;clear n0_;(try clear hb);(try clear hb2);(try clear hk);(try clear hi)))
 go_ret
 exact ⟨by first | rfl | (simp [errW_none,errW_some] <;> rfl) | (simp [*,errW_none,errW_some] <;> rfl) | (simp [errW_none,errW_some];exact isEmpty_bne _),by repeat (first | (with_reducible first | exact HB.out | apply below_alloc | apply pw_below_drewN | apply below_drew1) | exact HB.out)⟩

/-! ### crc_Seal: function 74 -/
def seal4 (n : Int) : List Int := [n % 256, n / 256 % 256, n / 65536 % 256, n / 16777216 % 256]
def crc_Seal.f (a0 : ByteArray) : Option ByteArray := (crc_Sum.f a0).bind fun n => if a0.size ≤ 4611686018427387904 then some (strOfNums (seal4 n) ++ a0) else none
set_option maxHeartbeats 800000 in
theorem crc_Seal.calls (a0 : ByteArray) (r : ByteArray) (w : World) (h : crc_Seal.f a0 = some r) :
    Calls Tryz.prog 74 #[.string a0] w fun e w' => e = .returned (.string r) ∧ Below w.heap.size w w' := by
  obtain ⟨n, h1, h2⟩ := Option.bind_eq_some_iff.mp h
  clear h
  by_cases hz : a0.size ≤ 4611686018427387904
  case neg => rw [if_neg hz] at h2; exact absurd h2 (by simp)
  rw [if_pos hz] at h2
  have HR := Aside0.mk (Option.some.inj h2)
  have H1 := Aside0.mk h1
  have hs : (strOfNums (seal4 n)).size = 4 := by simp [strOfNums, seal4, ByteArray.size]
  have hd : decide ((strOfNums (seal4 n)).size + a0.size ≤ 9223372036854775807) = true := by rw [hs]; simp; omega
  have hs4 : (strOfNums (seal4 n)).size ≤ 4 := by omega
  clear h1 h2 hs
  go_enter Tryz.func74, Tryz.ntmps74
  go_wp2_with fail
  refine (crc_Sum.calls a0 n _ H1.out).mono ?_
  rintro e w1 ⟨rfl, hb⟩
  go_wp2
  go_loopw [8] (fun i wr => (i = .int .i64 0 ∧ wr = w1.alloc (.cells #[.int .u8 0, .int .u8 0, .int .u8 0, .int .u8 0] 155)) ∨ (i = .int .i64 1 ∧ wr = w1.alloc (.cells #[.int .u8 (n % 256), .int .u8 0, .int .u8 0, .int .u8 0] 155))
    ∨ (i = .int .i64 2 ∧ wr = w1.alloc (.cells #[.int .u8 (n % 256), .int .u8 (n / 256 % 256), .int .u8 0, .int .u8 0] 155)) ∨ (i = .int .i64 3 ∧ wr = w1.alloc (.cells #[.int .u8 (n % 256), .int .u8 (n / 256 % 256), .int .u8 (n / 65536 % 256), .int .u8 0] 155))
    ∨ (i = .int .i64 4 ∧ wr = w1.alloc (.cells #[.int .u8 (n % 256), .int .u8 (n / 256 % 256), .int .u8 (n / 65536 % 256), .int .u8 (n / 16777216 % 256)] 155))) (fun i _ => 4 - (intOf i).toNat)
  case atStart => exact .inl ⟨rfl, rfl⟩
  case round =>
    rcases hrel with ⟨rfl, rfl⟩ | ⟨rfl, rfl⟩ | ⟨rfl, rfl⟩ | ⟨rfl, rfl⟩ | ⟨rfl, rfl⟩
    · go_wp2
      exact ⟨.inr (.inl ⟨rfl, by first | rfl | trivial⟩), by simp [intOf]⟩
    · go_wp2
      exact ⟨.inr (.inr (.inl ⟨rfl, by first | rfl | trivial⟩)), by simp [intOf]⟩
    · go_wp2
      exact ⟨.inr (.inr (.inr (.inl ⟨rfl, by first | rfl | trivial⟩))), by simp [intOf]⟩
    · go_wp2
      exact ⟨.inr (.inr (.inr (.inr ⟨rfl, by first | rfl | trivial⟩))), by simp [intOf]⟩
    · have hcv := run_convert_bytes_arg (P := Tryz.prog) (w1.alloc (.cells #[.int .u8 (n % 256), .int .u8 (n / 256 % 256), .int .u8 (n / 65536 % 256), .int .u8 (n / 16777216 % 256)] 155)) 154 5 Tryz.underlying154 Tryz.underlying5 w1.heap.size 0 4 4 (seal4 n) rfl
        (fun i hi => by
          rw [World.cell?, heap_alloc_new]
          match i, hi with
          | 0, _ => rfl
          | 1, _ => rfl
          | 2, _ => rfl
          | 3, _ => rfl) 9 Tryz.underlying9
      go_wp2
      go_ret
      exact ⟨by rw [HR.out]; rfl, hb.alloc hb.size _⟩

end Go.Proofs.YtlnbekaldemebaaGreatDoor.Print
