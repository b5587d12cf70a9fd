/- Written by a program of mine (give.py, over the kit's print) out of the translation: contracts of the Go functions. Lean checks it. -/
import Derived.Test.YthndpknocofioaaGreatDoorPrint0
import Derived.Test.YthndpknocofioaaGreatDoorPrint2
import Derived.Test.YthndpknocofioaaGreatDoorPrint7
import Derived.Test.YthndpknocofioaaGreatDoorPrint8
namespace Go.Proofs.YthndpknocofioaaGreatDoor.Print
open Go.RowKit Go.Proofs.YthndpknocofioaaGreatDoorW.PrintWords Go.Proofs.YthndpknocofioaaGreatDoorW.PrintLast Go.Proofs.YthndpknocofioaaGreatDoorW.PrintMore
attribute [local go_sem] max2_int min2_int max_two min_two max_three min_three max_four min_four   -- for this text's walks alone
set_option linter.unusedVariables false
set_option linter.unusedSimpArgs false

attribute [local go_sem high] eqA52
/-! ### hint_At: function 64 -/
def hint_At.j0 : Nat → ByteArray → Bool → ByteArray → Int → Int → Int → Bool → Option (Int × ByteArray × ByteArray × Bool × Int)
 | 0,_,_,_,_,_,_,_ => none
 | k + 1,x0,x21,x200000,x200001,x200002,x200003,x200004 => if x21 = true then (some (0,(⟨#[]⟩ : ByteArray),(⟨#[]⟩ : ByteArray),false,1)) else (if 0 ≤ x200001 then (if x200001 ≤ (wrap64 (x200001 + x200002)) then (if (wrap64 (x200001 + x200002)) ≤ (x0.size : Int) then ((record_Read.f k (x0.extract (x200001 : Int).toNat ((wrap64 (x200001 + x200002)) : Int).toNat)).bind fun bt202 => (if bt202.2.2.2.2.2 = 0 then (if bt202.2.2.2.2.1.toList = ([] : List UInt8) then (if (!(x200000.toList == bt202.2.1.toList) || (!(x200003 == bt202.1) || (!(x200004 == bt202.2.2.2.1)))) = true then (some (0,(⟨#[]⟩ : ByteArray),(⟨#[]⟩ : ByteArray),false,2)) else (some (bt202.1,bt202.2.1,bt202.2.2.1,bt202.2.2.2.1,0))) else (some (0,(⟨#[]⟩ : ByteArray),(⟨#[]⟩ : ByteArray),false,2))) else (some (0,(⟨#[]⟩ : ByteArray),(⟨#[]⟩ : ByteArray),false,2)))) else (none)) else (none)) else (none))
def hint_At.f (k : Nat) (a0 : ByteArray) (a1_0 : ByteArray) (a1_1 : Int) (a1_2 : Int) (a1_3 : Int) (a1_4 : Bool) : Option (Int × ByteArray × ByteArray × Bool × Int):=(hint_right.f a1_0 a1_1 a1_2 a1_3 a1_4).bind fun t201 => (if t201 = true then (hint_At.j0 k a0 (decide ((wrap64 (a1_1 + a1_2)) > (a0.size : Int))) a1_0 a1_1 a1_2 a1_3 a1_4) else (hint_At.j0 k a0 true a1_0 a1_1 a1_2 a1_3 a1_4))
theorem hint_At.mono_l : ∀ k,(∀ y0 y1 y2 y3 y4 y5 y6,LeO (hint_At.j0 k y0 y1 y2 y3 y4 y5 y6) (hint_At.j0 (k + 1) y0 y1 y2 y3 y4 y5 y6))
 | 0 => fun _ _ _ _ _ _ _ r h => by simp [hint_At.j0] at h
 | k + 1 => by
  have ih0:=hint_At.mono_l k
  ·intro y0 y1 y2 y3 y4 y5 y6
   unfold hint_At.j0
   repeat' first
   | (with_reducible exact ih0 _ _ _ _ _ _ _)
   | (with_reducible exact record_Read.mono _ _)
   | (with_reducible exact LeO.refl _)
   | (with_reducible exact LeO.none _)
   | (with_reducible refine LeO.ite ?_ ?_)
   | (with_reducible refine LeO.bind ?_ (fun _ => ?_))
   | exact ih0 _ _ _ _ _ _ _
   | exact record_Read.mono _ _
   | exact LeO.none _
   | refine LeO.ite ?_ ?_
   | refine LeO.bind ?_ (fun _ => ?_)
theorem hint_At.mono : ∀ a0 a1 a2 a3 a4 a5 k,LeO (hint_At.f k a0 a1 a2 a3 a4 a5) (hint_At.f (k + 1) a0 a1 a2 a3 a4 a5):=by
 intro a0 a1 a2 a3 a4 a5 k
 have ih0:=hint_At.mono_l k
 unfold hint_At.f
 repeat' first
   | (with_reducible exact ih0 _ _ _ _ _ _ _)
   | (with_reducible exact record_Read.mono _ _)
   | (with_reducible exact LeO.refl _)
   | (with_reducible exact LeO.none _)
   | (with_reducible refine LeO.ite ?_ ?_)
   | (with_reducible refine LeO.bind ?_ (fun _ => ?_))
   | exact ih0 _ _ _ _ _ _ _
   | exact record_Read.mono _ _
   | exact LeO.none _
   | refine LeO.ite ?_ ?_
   | refine LeO.bind ?_ (fun _ => ?_)
set_option maxHeartbeats 8000000 in
set_option maxRecDepth 100000 in
theorem hint_At.calls (k : Nat) (a0 : ByteArray) (a1_0 : ByteArray) (a1_1 : Int) (a1_2 : Int) (a1_3 : Int) (a1_4 : Bool) (r1 : Int) (r2 : ByteArray) (r3 : ByteArray) (r4 : Bool) (r5 : Int) (w : World) (h : hint_At.f k a0 a1_0 a1_1 a1_2 a1_3 a1_4 = some (r1,r2,r3,r4,r5)) :
  Calls Tryz.prog 64 #[.string a0,.agg #[.string a1_0,.int .i64 a1_1,.int .i64 a1_2,.int .u64 a1_3,.bool a1_4]] w fun e w' => e = .returned (.tuple #[.agg #[.int .u64 r1,.string r2,.string r3,.bool r4],.int .i64 r5]) ∧ Below w.heap.size w w' := by
 have hu52:=Tryz.underlying52
 have hu50:=Tryz.underlying50
 have HB:=Aside0.mk (Below.refl w.heap.size w)
 have H : ((hint_right.f a1_0 a1_1 a1_2 a1_3 a1_4).bind fun t201 => (if t201 = true then (hint_At.j0 k a0 (decide ((wrap64 (a1_1 + a1_2)) > (a0.size : Int))) a1_0 a1_1 a1_2 a1_3 a1_4) else (hint_At.j0 k a0 true a1_0 a1_1 a1_2 a1_3 a1_4))) = some (r1,r2,r3,r4,r5):=h
 clear h
 have HC3:=Aside0.mk H
 clear H
 go_enter Tryz.func64,Tryz.ntmps64
 go_upto_region 1 with (first | ((with_reducible refine gate_dst (N:=3) rfl ?_);(try (refine gate_guard (by rfl) ?_;dsimp only));refine box_event ?hg (N:=3) ?hd (cs := #[.string a1_0,.int .i64 a1_1,.int .i64 a1_2,.int .u64 a1_3,.bool a1_4]) (t:=52) ?hr ?_;(case hd => rfl);(case hg => rfl);(case hr => first | (go_simp;done) | (go_simp;rfl));intro gb199 hg w4 hbox hb;have n0_:=Aside0.mk (below_step (by repeat (first | (with_reducible first | exact HB.out | apply below_alloc | apply pw_below_drewN | apply below_drew1) | exact HB.out)) hb);have n1_:=Aside0.mk (hbox);have n2_:=Aside0.mk ((by rw [hg];exact (below_size (by repeat (first | (with_reducible first | exact HB.out | apply below_alloc | apply pw_below_drewN | apply below_drew1) | exact HB.out))) : w.heap.size ≤ gb199));have n3_:=Aside0.mk ((by rw [hg];exact (below_size (by repeat (first | (with_reducible first | exact HB.out | apply below_alloc | apply pw_below_drewN | apply below_drew1) | exact HB.out))) : w.heap.size ≤ gb199));clear HB;have HB:=n0_;have BK199:=n1_;have GW199:=n2_;have GE199:=n3_;clear n0_ n1_ n2_ n3_;clear hb hbox hg) | ((with_reducible refine gate_dst (N:=4) rfl ?_);(try (refine gate_guard (by rfl) ?_;dsimp only));refine box_event ?hg (N:=4) ?hd (cs := #[.int .u64 0,.string (⟨#[]⟩ : ByteArray),.string (⟨#[]⟩ : ByteArray),.bool false]) (t:=50) ?hr ?_;(case hd => rfl);(case hg => rfl);(case hr => first | (go_simp;done) | (go_simp;rfl));intro gb200 hg w5 hbox hb;have n0_:=Aside0.mk (blk_below (g:=gb199) (o := .cells #[.string a1_0,.int .i64 a1_1,.int .i64 a1_2,.int .u64 a1_3,.bool a1_4] 52 (0,0)) (by (with_reducible repeat (first | refine blk_drewN ?_ _ | refine blk_drew ?_ | refine blk_alloc ?_ _));exact BK199.out) hb);have n1_:=Aside0.mk (below_step (by repeat (first | (with_reducible first | exact HB.out | apply below_alloc | apply pw_below_drewN | apply below_drew1 | refine below_set ?_ GE199.out) | exact HB.out)) hb);have n2_:=Aside0.mk (hbox);have n3_:=Aside0.mk ((by rw [hg];exact (below_size (by repeat (first | (with_reducible first | exact HB.out | apply below_alloc | apply pw_below_drewN | apply below_drew1 | refine below_set ?_ GE199.out) | exact HB.out))) : w.heap.size ≤ gb200));have n4_:=Aside0.mk ((by rw [hg];exact (below_size (by repeat (first | (with_reducible first | exact HB.out | apply below_alloc | apply pw_below_drewN | apply below_drew1 | refine below_set ?_ GE199.out) | exact HB.out))) : w.heap.size ≤ gb200));have n5_:=Aside0.mk ((by rw [hg];exact Nat.ne_of_lt (blk_lt (g:=gb199) (o := .cells #[.string a1_0,.int .i64 a1_1,.int .i64 a1_2,.int .u64 a1_3,.bool a1_4] 52 (0,0)) (by (with_reducible repeat (first | refine blk_drewN ?_ _ | refine blk_drew ?_ | refine blk_alloc ?_ _));exact BK199.out)) : gb199 ≠ gb200));have n6_:=Aside0.mk ((by rw [hg];exact Nat.ne_of_gt (blk_lt (g:=gb199) (o := .cells #[.string a1_0,.int .i64 a1_1,.int .i64 a1_2,.int .u64 a1_3,.bool a1_4] 52 (0,0)) (by (with_reducible repeat (first | refine blk_drewN ?_ _ | refine blk_drew ?_ | refine blk_alloc ?_ _));exact BK199.out)) : gb200 ≠ gb199));clear BK199;clear HB;have BK199:=n0_;have HB:=n1_;have BK200:=n2_;have GW200:=n3_;have GE200:=n4_;have NB199_200:=n5_;have NB200_199:=n6_;clear n0_ n1_ n2_ n3_ n4_ n5_ n6_;clear hb hbox hg))
 (try simp only [Act.put,List.setIfInBounds_toArray,List.set_cons_zero,List.set_cons_succ])
 go_cut [21] (fun v21 wc => ∃ (kq : Nat) (x21_2 : Bool),v21 = .bool x21_2 ∧ Aside0 (hint_At.j0 kq a0 x21_2 a1_0 a1_1 a1_2 a1_3 a1_4 = some (r1,r2,r3,r4,r5)) ∧ Aside0 (kq ≤ k) ∧ Aside0 (wc.heap[gb199]? = some (.cells #[.string a1_0,.int .i64 a1_1,.int .i64 a1_2,.int .u64 a1_3,.bool a1_4] 52 (0,0))) ∧ Aside0 (wc.heap[gb200]? = some (.cells #[.int .u64 0,.string (⟨#[]⟩ : ByteArray),.string (⟨#[]⟩ : ByteArray),.bool false] 50 (0,0))) ∧ Aside0 (Below w.heap.size w wc))
 case first =>
  have H:=HC3.out
  clear HC3
  replace H:=Option.bind_eq_some_iff.mp H
  obtain ⟨t201,A60,H⟩:=H
  replace H : (if t201 = true then (hint_At.j0 k a0 (decide ((wrap64 (a1_1 + a1_2)) > (a0.size : Int))) a1_0 a1_1 a1_2 a1_3 a1_4) else (hint_At.j0 k a0 true a1_0 a1_1 a1_2 a1_3 a1_4)) = some (r1,r2,r3,r4,r5):=H
  have A6:=Aside0.mk A60
  clear A60
  by_cases c7 : t201 = true
  ·subst c7
   have H1 : (hint_At.j0 k a0 (decide ((wrap64 (a1_1 + a1_2)) > (a0.size : Int))) a1_0 a1_1 a1_2 a1_3 a1_4) = some (r1,r2,r3,r4,r5):=by rw [if_pos rfl] at H;exact H
   clear H
   have H:=H1
   clear H1
   have H' := Aside0.mk H
   clear H
   have hnb8:=NB199_200.out
   have hnc8:=NB200_199.out
   have hcz9_0 : w5.cell? ⟨gb199,0,none⟩ = some (.string a1_0):=(blk_cell BK199.out 0).trans rfl
   have hcz9_1 : w5.cell? ⟨gb199,1,none⟩ = some (.int .i64 a1_1):=(blk_cell BK199.out 1).trans rfl
   have hcz9_2 : w5.cell? ⟨gb199,2,none⟩ = some (.int .i64 a1_2):=(blk_cell BK199.out 2).trans rfl
   have hcz9_3 : w5.cell? ⟨gb199,3,none⟩ = some (.int .u64 a1_3):=(blk_cell BK199.out 3).trans rfl
   have hcz9_4 : w5.cell? ⟨gb199,4,none⟩ = some (.bool a1_4):=(blk_cell BK199.out 4).trans rfl
   have hfz9_0:=blk_frozen BK199.out 0
   have hfz9_1:=blk_frozen BK199.out 1
   have hfz9_2:=blk_frozen BK199.out 2
   have hfz9_3:=blk_frozen BK199.out 3
   have hfz9_4:=blk_frozen BK199.out 4
   go_wp2_with (first | ((with_reducible refine gate_callee (f:=100) rfl ?_);refine goesL_ (some 10) rfl rfl Tryz.func100 (by kernel_rfl) rfl #[.agg #[.string a1_0,.int .i64 a1_1,.int .i64 a1_2,.int .u64 a1_3,.bool a1_4]] rfl (by (try simp only [List.map_toArray,List.map_cons,List.map_nil]);first | done | rfl | (simp only [List.length_drop,List.length_take];rfl)) ?_;(with_reducible refine (hint_right.calls a1_0 a1_1 a1_2 a1_3 a1_4 true _ A6.out).mono ?_);rintro e w10 ⟨rfl,hb⟩;refine ⟨_,rfl,?_⟩;have n0_:=Aside0.mk (blk_below (g:=gb199) (o := .cells #[.string a1_0,.int .i64 a1_1,.int .i64 a1_2,.int .u64 a1_3,.bool a1_4] 52 (0,0)) (by (with_reducible repeat (first | refine blk_drewN ?_ _ | refine blk_drew ?_ | refine blk_alloc ?_ _));exact BK199.out) hb);have n1_:=Aside0.mk (blk_below (g:=gb200) (o := .cells #[.int .u64 0,.string (⟨#[]⟩ : ByteArray),.string (⟨#[]⟩ : ByteArray),.bool false] 50 (0,0)) (by (with_reducible repeat (first | refine blk_drewN ?_ _ | refine blk_drew ?_ | refine blk_alloc ?_ _));exact BK200.out) hb);have n2_:=Aside0.mk (below_step (by repeat (first | (with_reducible first | exact HB.out | apply below_alloc | apply pw_below_drewN | apply below_drew1 | refine below_set ?_ GE199.out | refine below_set ?_ GE200.out) | exact HB.out)) hb);clear BK199;clear BK200;clear HB;have BK199:=n0_;have BK200:=n1_;have HB:=n2_;clear n0_ n1_ n2_;(try clear hb);(try clear hb2);(try clear hk);(try clear hi);have hcz11_0 : w10.cell? ⟨gb199,0,none⟩ = some (.string a1_0):=(blk_cell BK199.out 0).trans rfl;have hcz11_1 : w10.cell? ⟨gb199,1,none⟩ = some (.int .i64 a1_1):=(blk_cell BK199.out 1).trans rfl;have hcz11_2 : w10.cell? ⟨gb199,2,none⟩ = some (.int .i64 a1_2):=(blk_cell BK199.out 2).trans rfl;have hcz11_3 : w10.cell? ⟨gb199,3,none⟩ = some (.int .u64 a1_3):=(blk_cell BK199.out 3).trans rfl;have hcz11_4 : w10.cell? ⟨gb199,4,none⟩ = some (.bool a1_4):=(blk_cell BK199.out 4).trans rfl;have hfz11_0:=blk_frozen BK199.out 0;have hfz11_1:=blk_frozen BK199.out 1;have hfz11_2:=blk_frozen BK199.out 2;have hfz11_3:=blk_frozen BK199.out 3;have hfz11_4:=blk_frozen BK199.out 4))
   go_meet
   case rel => exact ⟨_,(decide ((wrap64 (a1_1 + a1_2)) > (a0.size : Int))),(by first | rfl | (simp;done) | (simp [*];done)),H',⟨by first | omega | exact Nat.le_refl _⟩,⟨by (with_reducible repeat (first | refine blk_drewN ?_ _ | refine blk_drew ?_ | refine blk_alloc ?_ _));exact BK199.out⟩,⟨by (with_reducible repeat (first | refine blk_drewN ?_ _ | refine blk_drew ?_ | refine blk_alloc ?_ _));exact BK200.out⟩,⟨by repeat (first | (with_reducible first | exact HB.out | apply below_alloc | apply pw_below_drewN | apply below_drew1 | refine below_set ?_ GE199.out | refine below_set ?_ GE200.out) | exact HB.out)⟩⟩
  ·replace c7:=Bool.eq_false_iff.mpr c7
   subst c7
   have H1 : (hint_At.j0 k a0 true a1_0 a1_1 a1_2 a1_3 a1_4) = some (r1,r2,r3,r4,r5):=by rw [if_neg (show ¬ (false = true) by decide)] at H;exact H
   clear H
   have H:=H1
   clear H1
   have H' := Aside0.mk H
   clear H
   have hnb12:=NB199_200.out
   have hnc12:=NB200_199.out
   have hcz13_0 : w5.cell? ⟨gb199,0,none⟩ = some (.string a1_0):=(blk_cell BK199.out 0).trans rfl
   have hcz13_1 : w5.cell? ⟨gb199,1,none⟩ = some (.int .i64 a1_1):=(blk_cell BK199.out 1).trans rfl
   have hcz13_2 : w5.cell? ⟨gb199,2,none⟩ = some (.int .i64 a1_2):=(blk_cell BK199.out 2).trans rfl
   have hcz13_3 : w5.cell? ⟨gb199,3,none⟩ = some (.int .u64 a1_3):=(blk_cell BK199.out 3).trans rfl
   have hcz13_4 : w5.cell? ⟨gb199,4,none⟩ = some (.bool a1_4):=(blk_cell BK199.out 4).trans rfl
   have hfz13_0:=blk_frozen BK199.out 0
   have hfz13_1:=blk_frozen BK199.out 1
   have hfz13_2:=blk_frozen BK199.out 2
   have hfz13_3:=blk_frozen BK199.out 3
   have hfz13_4:=blk_frozen BK199.out 4
   go_wp2_with (first | ((with_reducible refine gate_callee (f:=100) rfl ?_);refine goesL_ (some 10) rfl rfl Tryz.func100 (by kernel_rfl) rfl #[.agg #[.string a1_0,.int .i64 a1_1,.int .i64 a1_2,.int .u64 a1_3,.bool a1_4]] rfl (by (try simp only [List.map_toArray,List.map_cons,List.map_nil]);first | done | rfl | (simp only [List.length_drop,List.length_take];rfl)) ?_;(with_reducible refine (hint_right.calls a1_0 a1_1 a1_2 a1_3 a1_4 false _ A6.out).mono ?_);rintro e w14 ⟨rfl,hb⟩;refine ⟨_,rfl,?_⟩;have n0_:=Aside0.mk (blk_below (g:=gb199) (o := .cells #[.string a1_0,.int .i64 a1_1,.int .i64 a1_2,.int .u64 a1_3,.bool a1_4] 52 (0,0)) (by (with_reducible repeat (first | refine blk_drewN ?_ _ | refine blk_drew ?_ | refine blk_alloc ?_ _));exact BK199.out) hb);have n1_:=Aside0.mk (blk_below (g:=gb200) (o := .cells #[.int .u64 0,.string (⟨#[]⟩ : ByteArray),.string (⟨#[]⟩ : ByteArray),.bool false] 50 (0,0)) (by (with_reducible repeat (first | refine blk_drewN ?_ _ | refine blk_drew ?_ | refine blk_alloc ?_ _));exact BK200.out) hb);have n2_:=Aside0.mk (below_step (by repeat (first | (with_reducible first | exact HB.out | apply below_alloc | apply pw_below_drewN | apply below_drew1 | refine below_set ?_ GE199.out | refine below_set ?_ GE200.out) | exact HB.out)) hb);clear BK199;clear BK200;clear HB;have BK199:=n0_;have BK200:=n1_;have HB:=n2_;clear n0_ n1_ n2_;(try clear hb);(try clear hb2);(try clear hk);(try clear hi)))
   go_meet
   case rel => exact ⟨_,(true),(by first | rfl | (simp;done) | (simp [*];done)),H',⟨by first | omega | exact Nat.le_refl _⟩,⟨by (with_reducible repeat (first | refine blk_drewN ?_ _ | refine blk_drew ?_ | refine blk_alloc ?_ _));exact BK199.out⟩,⟨by (with_reducible repeat (first | refine blk_drewN ?_ _ | refine blk_drew ?_ | refine blk_alloc ?_ _));exact BK200.out⟩,⟨by repeat (first | (with_reducible first | exact HB.out | apply below_alloc | apply pw_below_drewN | apply below_drew1 | refine below_set ?_ GE199.out | refine below_set ?_ GE200.out) | exact HB.out)⟩⟩
 case rest =>
  clear HC3
  try clear c1
  try clear p2
  try clear c6
  try clear p6
  try clear c7
  try clear c8
  try clear c10
  try clear c12
  try clear hcz11_0
  try clear hcz11_1
  try clear hcz11_2
  try clear hcz11_3
  try clear hcz11_4
  try clear hcz13_0
  try clear hcz13_1
  try clear hcz13_2
  try clear hcz13_3
  try clear hcz13_4
  try clear hcz9_0
  try clear hcz9_1
  try clear hcz9_2
  try clear hcz9_3
  try clear hcz9_4
  try clear hfz11_0
  try clear hfz11_1
  try clear hfz11_2
  try clear hfz11_3
  try clear hfz11_4
  try clear hfz13_0
  try clear hfz13_1
  try clear hfz13_2
  try clear hfz13_3
  try clear hfz13_4
  try clear hfz9_0
  try clear hfz9_1
  try clear hfz9_2
  try clear hfz9_3
  try clear hfz9_4
  obtain ⟨kq,x21_2,rfl,HA,HJ2,BK199,BK200,HB⟩:=hcut
  cases kq with
  | zero => exact absurd HA.out (by simp [hint_At.j0])
  | succ kj2 =>
   have H:=HA.out
   clear HA
   simp only [hint_At.j0] at H
   by_cases c15 : x21_2 = true
   ·subst c15
    have H1 : (some (0,(⟨#[]⟩ : ByteArray),(⟨#[]⟩ : ByteArray),false,1)) = some (r1,r2,r3,r4,r5):=by rw [if_pos rfl] at H;exact H
    clear H
    have H:=H1
    clear H1
    simp only [Option.some.injEq,Prod.mk.injEq] at H
    obtain ⟨rfl,rfl,rfl,rfl,rfl⟩:=H
    have hnb16:=NB200_199.out
    have hnc16:=NB199_200.out
    have hcz17_0 : wc.cell? ⟨gb200,0,none⟩ = some (.int .u64 0):=(blk_cell BK200.out 0).trans rfl
    have hcz17_1 : wc.cell? ⟨gb200,1,none⟩ = some (.string (⟨#[]⟩ : ByteArray)):=(blk_cell BK200.out 1).trans rfl
    have hcz17_2 : wc.cell? ⟨gb200,2,none⟩ = some (.string (⟨#[]⟩ : ByteArray)):=(blk_cell BK200.out 2).trans rfl
    have hcz17_3 : wc.cell? ⟨gb200,3,none⟩ = some (.bool false):=(blk_cell BK200.out 3).trans rfl
    have hfz17_0:=blk_frozen BK200.out 0
    have hfz17_1:=blk_frozen BK200.out 1
    have hfz17_2:=blk_frozen BK200.out 2
    have hfz17_3:=blk_frozen BK200.out 3
    go_wp2
    refine bodyPost_ret (results_ct rfl _ _ gb200 50 #[.int .u64 0,.string (⟨#[]⟩ : ByteArray),.string (⟨#[]⟩ : ByteArray),.bool false] (0,0) _ rfl (by (with_reducible repeat (first | refine blk_drewN ?_ _ | refine blk_drew ?_ | refine blk_alloc ?_ _));refine blk_put (cs := #[.int .u64 0,.string (⟨#[]⟩ : ByteArray),.string (⟨#[]⟩ : ByteArray),.bool false]) ?_ 3 _ rfl;(with_reducible repeat (first | refine blk_drewN ?_ _ | refine blk_drew ?_ | refine blk_alloc ?_ _));refine blk_put (cs := #[.int .u64 0,.string (⟨#[]⟩ : ByteArray),.string (⟨#[]⟩ : ByteArray),.bool false]) ?_ 2 _ rfl;(with_reducible repeat (first | refine blk_drewN ?_ _ | refine blk_drew ?_ | refine blk_alloc ?_ _));refine blk_put (cs := #[.int .u64 0,.string (⟨#[]⟩ : ByteArray),.string (⟨#[]⟩ : ByteArray),.bool false]) ?_ 1 _ rfl;(with_reducible repeat (first | refine blk_drewN ?_ _ | refine blk_drew ?_ | refine blk_alloc ?_ _));refine blk_put (cs := #[.int .u64 0,.string (⟨#[]⟩ : ByteArray),.string (⟨#[]⟩ : ByteArray),.bool false]) ?_ 0 _ rfl;(with_reducible repeat (first | refine blk_drewN ?_ _ | refine blk_drew ?_ | refine blk_alloc ?_ _));exact BK200.out) Tryz.underlying50 rfl (by kernel_rfl)) rfl ?_
    exact ⟨by first | rfl | (simp [errW_none,errW_some] <;> rfl) | (simp [*,errW_none,errW_some] <;> rfl) | (simp [errW_none,errW_some];exact isEmpty_bne _),by repeat (first | (with_reducible first | exact HB.out | apply below_alloc | apply pw_below_drewN | apply below_drew1 | refine below_set ?_ GE199.out | refine below_set ?_ GE200.out) | exact HB.out)⟩
   ·replace c15:=Bool.eq_false_iff.mpr c15
    subst c15
    have H1 : (if 0 ≤ a1_1 then (if a1_1 ≤ (wrap64 (a1_1 + a1_2)) then (if (wrap64 (a1_1 + a1_2)) ≤ (a0.size : Int) then ((record_Read.f kj2 (a0.extract (a1_1 : Int).toNat ((wrap64 (a1_1 + a1_2)) : Int).toNat)).bind fun bt202 => (if bt202.2.2.2.2.2 = 0 then (if bt202.2.2.2.2.1.toList = ([] : List UInt8) then (if (!(a1_0.toList == bt202.2.1.toList) || (!(a1_3 == bt202.1) || (!(a1_4 == bt202.2.2.2.1)))) = true then (some (0,(⟨#[]⟩ : ByteArray),(⟨#[]⟩ : ByteArray),false,2)) else (some (bt202.1,bt202.2.1,bt202.2.2.1,bt202.2.2.2.1,0))) else (some (0,(⟨#[]⟩ : ByteArray),(⟨#[]⟩ : ByteArray),false,2))) else (some (0,(⟨#[]⟩ : ByteArray),(⟨#[]⟩ : ByteArray),false,2)))) else (none)) else (none)) else (none)) = some (r1,r2,r3,r4,r5):=by rw [if_neg (show ¬ (false = true) by decide)] at H;exact H
    clear H
    have H:=H1
    clear H1
    by_cases c18 : 0 ≤ a1_1
    ·rw [if_pos c18] at H
     have c18b0:=eq_true c18
     have c18b1 : decide (0 ≤ a1_1) = true:=decide_eq_true c18
     clear c18
     by_cases c19 : a1_1 ≤ (wrap64 (a1_1 + a1_2))
     ·rw [if_pos c19] at H
      have c19b0:=eq_true c19
      have c19b1 : decide (a1_1 ≤ (wrap64 (a1_1 + a1_2))) = true:=decide_eq_true c19
      by_cases c20 : (wrap64 (a1_1 + a1_2)) ≤ (a0.size : Int)
      ·rw [if_pos c20] at H
       have c20b0:=eq_true c20
       have c20b1 : decide ((wrap64 (a1_1 + a1_2)) ≤ (a0.size : Int)) = true:=decide_eq_true c20
       replace H:=Option.bind_eq_some_iff.mp H
       obtain ⟨⟨t202,t203,t204,t205,t206,t207⟩,A210,H⟩:=H
       replace H : (if t207 = 0 then (if t206.toList = ([] : List UInt8) then (if (!(a1_0.toList == t203.toList) || (!(a1_3 == t202) || (!(a1_4 == t205)))) = true then (some (0,(⟨#[]⟩ : ByteArray),(⟨#[]⟩ : ByteArray),false,2)) else (some (t202,t203,t204,t205,0))) else (some (0,(⟨#[]⟩ : ByteArray),(⟨#[]⟩ : ByteArray),false,2))) else (some (0,(⟨#[]⟩ : ByteArray),(⟨#[]⟩ : ByteArray),false,2))) = some (r1,r2,r3,r4,r5):=H
       have A21:=Aside0.mk A210
       clear A210
       by_cases c22 : t207 = 0
       ·rw [if_pos c22] at H
        have c22b0 : (t207 == 0) = true:=beq_iff_eq.mpr c22
        have c22b1 : (t207 != 0) = false:=bne_eq_false_iff_eq.mpr c22
        clear c22
        by_cases c23 : t206.toList = ([] : List UInt8)
        ·rw [if_pos c23] at H
         have c23b0 : (t206.toList == ([] : List UInt8)) = true:=beq_iff_eq.mpr c23
         have c23b1 : (t206.toList != ([] : List UInt8)) = false:=bne_eq_false_iff_eq.mpr c23
         clear c23
         by_cases c24 : (!(a1_0.toList == t203.toList) || (!(a1_3 == t202) || (!(a1_4 == t205)))) = true
         ·rw [if_pos c24] at H
          have c24b0 : (!(a1_0.toList == t203.toList) || (!(a1_3 == t202) || (!(a1_4 == t205)))) = true:=c24
          clear c24
          simp only [Option.some.injEq,Prod.mk.injEq] at H
          obtain ⟨rfl,rfl,rfl,rfl,rfl⟩:=H
          have hnb25:=NB199_200.out
          have hnc25:=NB200_199.out
          have hcz26_0 : wc.cell? ⟨gb199,0,none⟩ = some (.string a1_0):=(blk_cell BK199.out 0).trans rfl
          have hcz26_1 : wc.cell? ⟨gb199,1,none⟩ = some (.int .i64 a1_1):=(blk_cell BK199.out 1).trans rfl
          have hcz26_2 : wc.cell? ⟨gb199,2,none⟩ = some (.int .i64 a1_2):=(blk_cell BK199.out 2).trans rfl
          have hcz26_3 : wc.cell? ⟨gb199,3,none⟩ = some (.int .u64 a1_3):=(blk_cell BK199.out 3).trans rfl
          have hcz26_4 : wc.cell? ⟨gb199,4,none⟩ = some (.bool a1_4):=(blk_cell BK199.out 4).trans rfl
          have hfz26_0:=blk_frozen BK199.out 0
          have hfz26_1:=blk_frozen BK199.out 1
          have hfz26_2:=blk_frozen BK199.out 2
          have hfz26_3:=blk_frozen BK199.out 3
          have hfz26_4:=blk_frozen BK199.out 4
          go_wp2_with (first | ((with_reducible refine gate_callee (f:=101) rfl ?_);refine goesL_ (some 33) rfl rfl Tryz.func101 (by kernel_rfl) rfl #[.string (a0.extract (a1_1 : Int).toNat ((wrap64 (a1_1 + a1_2)) : Int).toNat)] rfl (by (try simp only [List.map_toArray,List.map_cons,List.map_nil]);first | done | rfl | (simp only [List.length_drop,List.length_take];rfl)) ?_;(with_reducible refine (record_Read.calls kj2 (a0.extract (a1_1 : Int).toNat ((wrap64 (a1_1 + a1_2)) : Int).toNat) t202 t203 t204 t205 t206 t207 _ A21.out).mono ?_);rintro e w27 ⟨rfl,hb⟩;refine ⟨_,rfl,?_⟩;have n0_:=Aside0.mk (blk_below (g:=gb199) (o := .cells #[.string a1_0,.int .i64 a1_1,.int .i64 a1_2,.int .u64 a1_3,.bool a1_4] 52 (0,0)) (by (with_reducible repeat (first | refine blk_drewN ?_ _ | refine blk_drew ?_ | refine blk_alloc ?_ _));exact BK199.out) hb);have n1_:=Aside0.mk (blk_below (g:=gb200) (o := .cells #[.int .u64 0,.string (⟨#[]⟩ : ByteArray),.string (⟨#[]⟩ : ByteArray),.bool false] 50 (0,0)) (by (with_reducible repeat (first | refine blk_drewN ?_ _ | refine blk_drew ?_ | refine blk_alloc ?_ _));exact BK200.out) hb);have n2_:=Aside0.mk (below_step (by repeat (first | (with_reducible first | exact HB.out | apply below_alloc | apply pw_below_drewN | apply below_drew1 | refine below_set ?_ GE199.out | refine below_set ?_ GE200.out) | exact HB.out)) hb);clear BK199;clear BK200;clear HB;have BK199:=n0_;have BK200:=n1_;have HB:=n2_;clear n0_ n1_ n2_;(try clear hb);(try clear hb2);(try clear hk);(try clear hi)) | ((with_reducible refine gate_dst (N:=6) rfl ?_);(try (refine gate_guard (by rfl) ?_;dsimp only));refine box_event ?hg (N:=6) ?hd (cs := #[.int .u64 0,.string (⟨#[]⟩ : ByteArray),.string (⟨#[]⟩ : ByteArray),.bool false]) (t:=50) ?hr ?_;(case hd => rfl);(case hg => rfl);(case hr => first | (go_simp;done) | (go_simp;rfl));intro gb208 hg w28 hbox hb;have n0_:=Aside0.mk (blk_below (g:=gb199) (o := .cells #[.string a1_0,.int .i64 a1_1,.int .i64 a1_2,.int .u64 a1_3,.bool a1_4] 52 (0,0)) (by (with_reducible repeat (first | refine blk_drewN ?_ _ | refine blk_drew ?_ | refine blk_alloc ?_ _));exact BK199.out) hb);have n1_:=Aside0.mk (blk_below (g:=gb200) (o := .cells #[.int .u64 0,.string (⟨#[]⟩ : ByteArray),.string (⟨#[]⟩ : ByteArray),.bool false] 50 (0,0)) (by (with_reducible repeat (first | refine blk_drewN ?_ _ | refine blk_drew ?_ | refine blk_alloc ?_ _));exact BK200.out) hb);have n2_:=Aside0.mk (below_step (by repeat (first | (with_reducible first | exact HB.out | apply below_alloc | apply pw_below_drewN | apply below_drew1 | refine below_set ?_ GE199.out | refine below_set ?_ GE200.out) | exact HB.out)) hb);have n3_:=Aside0.mk (hbox);have n4_:=Aside0.mk ((by rw [hg];exact (below_size (by repeat (first | (with_reducible first | exact HB.out | apply below_alloc | apply pw_below_drewN | apply below_drew1 | refine below_set ?_ GE199.out | refine below_set ?_ GE200.out) | exact HB.out))) : w.heap.size ≤ gb208));have n5_:=Aside0.mk ((by rw [hg];exact (below_size (by repeat (first | (with_reducible first | exact HB.out | apply below_alloc | apply pw_below_drewN | apply below_drew1 | refine below_set ?_ GE199.out | refine below_set ?_ GE200.out) | exact HB.out))) : w.heap.size ≤ gb208));have n6_:=Aside0.mk ((by rw [hg];exact Nat.ne_of_lt (blk_lt (g:=gb199) (o := .cells #[.string a1_0,.int .i64 a1_1,.int .i64 a1_2,.int .u64 a1_3,.bool a1_4] 52 (0,0)) (by (with_reducible repeat (first | refine blk_drewN ?_ _ | refine blk_drew ?_ | refine blk_alloc ?_ _));exact BK199.out)) : gb199 ≠ gb208));have n7_:=Aside0.mk ((by rw [hg];exact Nat.ne_of_gt (blk_lt (g:=gb199) (o := .cells #[.string a1_0,.int .i64 a1_1,.int .i64 a1_2,.int .u64 a1_3,.bool a1_4] 52 (0,0)) (by (with_reducible repeat (first | refine blk_drewN ?_ _ | refine blk_drew ?_ | refine blk_alloc ?_ _));exact BK199.out)) : gb208 ≠ gb199));have n8_:=Aside0.mk ((by rw [hg];exact Nat.ne_of_lt (blk_lt (g:=gb200) (o := .cells #[.int .u64 0,.string (⟨#[]⟩ : ByteArray),.string (⟨#[]⟩ : ByteArray),.bool false] 50 (0,0)) (by (with_reducible repeat (first | refine blk_drewN ?_ _ | refine blk_drew ?_ | refine blk_alloc ?_ _));exact BK200.out)) : gb200 ≠ gb208));have n9_:=Aside0.mk ((by rw [hg];exact Nat.ne_of_gt (blk_lt (g:=gb200) (o := .cells #[.int .u64 0,.string (⟨#[]⟩ : ByteArray),.string (⟨#[]⟩ : ByteArray),.bool false] 50 (0,0)) (by (with_reducible repeat (first | refine blk_drewN ?_ _ | refine blk_drew ?_ | refine blk_alloc ?_ _));exact BK200.out)) : gb208 ≠ gb200));clear BK199;clear BK200;clear HB;have BK199:=n0_;have BK200:=n1_;have HB:=n2_;have BK208:=n3_;have GW208:=n4_;have GE208:=n5_;have NB199_208:=n6_;have NB208_199:=n7_;have NB200_208:=n8_;have NB208_200:=n9_;clear n0_ n1_ n2_ n3_ n4_ n5_ n6_ n7_ n8_ n9_;clear hb hbox hg;have hnb29:=NB208_199.out;have hnc29:=NB199_208.out;have hnb30:=NB208_200.out;have hnc30:=NB200_208.out;have hcz31_0 : w28.cell? ⟨gb208,0,none⟩ = some (.int .u64 0):=(blk_cell BK208.out 0).trans rfl;have hcz31_1 : w28.cell? ⟨gb208,1,none⟩ = some (.string (⟨#[]⟩ : ByteArray)):=(blk_cell BK208.out 1).trans rfl;have hcz31_2 : w28.cell? ⟨gb208,2,none⟩ = some (.string (⟨#[]⟩ : ByteArray)):=(blk_cell BK208.out 2).trans rfl;have hcz31_3 : w28.cell? ⟨gb208,3,none⟩ = some (.bool false):=(blk_cell BK208.out 3).trans rfl;have hfz31_0:=blk_frozen BK208.out 0;have hfz31_1:=blk_frozen BK208.out 1;have hfz31_2:=blk_frozen BK208.out 2;have hfz31_3:=blk_frozen BK208.out 3;have hcz32_0 : w28.cell? ⟨gb199,0,none⟩ = some (.string a1_0):=(blk_cell BK199.out 0).trans rfl;have hcz32_1 : w28.cell? ⟨gb199,1,none⟩ = some (.int .i64 a1_1):=(blk_cell BK199.out 1).trans rfl;have hcz32_2 : w28.cell? ⟨gb199,2,none⟩ = some (.int .i64 a1_2):=(blk_cell BK199.out 2).trans rfl;have hcz32_3 : w28.cell? ⟨gb199,3,none⟩ = some (.int .u64 a1_3):=(blk_cell BK199.out 3).trans rfl;have hcz32_4 : w28.cell? ⟨gb199,4,none⟩ = some (.bool a1_4):=(blk_cell BK199.out 4).trans rfl;have hfz32_0:=blk_frozen BK199.out 0;have hfz32_1:=blk_frozen BK199.out 1;have hfz32_2:=blk_frozen BK199.out 2;have hfz32_3:=blk_frozen BK199.out 3;have hfz32_4:=blk_frozen BK199.out 4;have hcz33_0 : w28.cell? ⟨gb200,0,none⟩ = some (.int .u64 0):=(blk_cell BK200.out 0).trans rfl;have hcz33_1 : w28.cell? ⟨gb200,1,none⟩ = some (.string (⟨#[]⟩ : ByteArray)):=(blk_cell BK200.out 1).trans rfl;have hcz33_2 : w28.cell? ⟨gb200,2,none⟩ = some (.string (⟨#[]⟩ : ByteArray)):=(blk_cell BK200.out 2).trans rfl;have hcz33_3 : w28.cell? ⟨gb200,3,none⟩ = some (.bool false):=(blk_cell BK200.out 3).trans rfl;have hfz33_0:=blk_frozen BK200.out 0;have hfz33_1:=blk_frozen BK200.out 1;have hfz33_2:=blk_frozen BK200.out 2;have hfz33_3:=blk_frozen BK200.out 3))
          refine bodyPost_ret (results_ct rfl _ _ gb200 50 #[.int .u64 0,.string (⟨#[]⟩ : ByteArray),.string (⟨#[]⟩ : ByteArray),.bool false] (0,0) _ rfl (by (with_reducible repeat (first | refine blk_drewN ?_ _ | refine blk_drew ?_ | refine blk_alloc ?_ _));refine blk_put (cs := #[.int .u64 0,.string (⟨#[]⟩ : ByteArray),.string (⟨#[]⟩ : ByteArray),.bool false]) ?_ 3 _ rfl;(with_reducible repeat (first | refine blk_drewN ?_ _ | refine blk_drew ?_ | refine blk_alloc ?_ _));refine blk_put (cs := #[.int .u64 0,.string (⟨#[]⟩ : ByteArray),.string (⟨#[]⟩ : ByteArray),.bool false]) ?_ 2 _ rfl;(with_reducible repeat (first | refine blk_drewN ?_ _ | refine blk_drew ?_ | refine blk_alloc ?_ _));refine blk_put (cs := #[.int .u64 0,.string (⟨#[]⟩ : ByteArray),.string (⟨#[]⟩ : ByteArray),.bool false]) ?_ 1 _ rfl;(with_reducible repeat (first | refine blk_drewN ?_ _ | refine blk_drew ?_ | refine blk_alloc ?_ _));refine blk_put (cs := #[.int .u64 0,.string (⟨#[]⟩ : ByteArray),.string (⟨#[]⟩ : ByteArray),.bool false]) ?_ 0 _ rfl;(with_reducible repeat (first | refine blk_drewN ?_ _ | refine blk_drew ?_ | refine blk_alloc ?_ _));refine blk_far ?_ NB200_208.out _;(with_reducible repeat (first | refine blk_drewN ?_ _ | refine blk_drew ?_ | refine blk_alloc ?_ _));refine blk_far ?_ NB200_208.out _;(with_reducible repeat (first | refine blk_drewN ?_ _ | refine blk_drew ?_ | refine blk_alloc ?_ _));refine blk_far ?_ NB200_208.out _;(with_reducible repeat (first | refine blk_drewN ?_ _ | refine blk_drew ?_ | refine blk_alloc ?_ _));refine blk_far ?_ NB200_208.out _;(with_reducible repeat (first | refine blk_drewN ?_ _ | refine blk_drew ?_ | refine blk_alloc ?_ _));exact BK200.out) Tryz.underlying50 rfl (by kernel_rfl)) rfl ?_
          exact ⟨by first | rfl | (simp [errW_none,errW_some] <;> rfl) | (simp [*,errW_none,errW_some] <;> rfl) | (simp [errW_none,errW_some];exact isEmpty_bne _),by repeat (first | (with_reducible first | exact HB.out | apply below_alloc | apply pw_below_drewN | apply below_drew1 | refine below_set ?_ GE199.out | refine below_set ?_ GE200.out | refine below_set ?_ GE208.out) | exact HB.out)⟩
         ·rw [if_neg c24] at H
          have c24b0 : (!(a1_0.toList == t203.toList) || (!(a1_3 == t202) || (!(a1_4 == t205)))) = false:=by simpa using c24
          clear c24
          simp only [Option.some.injEq,Prod.mk.injEq] at H
          obtain ⟨rfl,rfl,rfl,rfl,rfl⟩:=H
          have hnb34:=NB199_200.out
          have hnc34:=NB200_199.out
          have hcz35_0 : wc.cell? ⟨gb199,0,none⟩ = some (.string a1_0):=(blk_cell BK199.out 0).trans rfl
          have hcz35_1 : wc.cell? ⟨gb199,1,none⟩ = some (.int .i64 a1_1):=(blk_cell BK199.out 1).trans rfl
          have hcz35_2 : wc.cell? ⟨gb199,2,none⟩ = some (.int .i64 a1_2):=(blk_cell BK199.out 2).trans rfl
          have hcz35_3 : wc.cell? ⟨gb199,3,none⟩ = some (.int .u64 a1_3):=(blk_cell BK199.out 3).trans rfl
          have hcz35_4 : wc.cell? ⟨gb199,4,none⟩ = some (.bool a1_4):=(blk_cell BK199.out 4).trans rfl
          have hfz35_0:=blk_frozen BK199.out 0
          have hfz35_1:=blk_frozen BK199.out 1
          have hfz35_2:=blk_frozen BK199.out 2
          have hfz35_3:=blk_frozen BK199.out 3
          have hfz35_4:=blk_frozen BK199.out 4
          go_wp2_with (first | ((with_reducible refine gate_callee (f:=101) rfl ?_);refine goesL_ (some 33) rfl rfl Tryz.func101 (by kernel_rfl) rfl #[.string (a0.extract (a1_1 : Int).toNat ((wrap64 (a1_1 + a1_2)) : Int).toNat)] rfl (by (try simp only [List.map_toArray,List.map_cons,List.map_nil]);first | done | rfl | (simp only [List.length_drop,List.length_take];rfl)) ?_;(with_reducible refine (record_Read.calls kj2 (a0.extract (a1_1 : Int).toNat ((wrap64 (a1_1 + a1_2)) : Int).toNat) t202 t203 t204 t205 t206 t207 _ A21.out).mono ?_);rintro e w36 ⟨rfl,hb⟩;refine ⟨_,rfl,?_⟩;have n0_:=Aside0.mk (blk_below (g:=gb199) (o := .cells #[.string a1_0,.int .i64 a1_1,.int .i64 a1_2,.int .u64 a1_3,.bool a1_4] 52 (0,0)) (by (with_reducible repeat (first | refine blk_drewN ?_ _ | refine blk_drew ?_ | refine blk_alloc ?_ _));exact BK199.out) hb);have n1_:=Aside0.mk (blk_below (g:=gb200) (o := .cells #[.int .u64 0,.string (⟨#[]⟩ : ByteArray),.string (⟨#[]⟩ : ByteArray),.bool false] 50 (0,0)) (by (with_reducible repeat (first | refine blk_drewN ?_ _ | refine blk_drew ?_ | refine blk_alloc ?_ _));exact BK200.out) hb);have n2_:=Aside0.mk (below_step (by repeat (first | (with_reducible first | exact HB.out | apply below_alloc | apply pw_below_drewN | apply below_drew1 | refine below_set ?_ GE199.out | refine below_set ?_ GE200.out) | exact HB.out)) hb);clear BK199;clear BK200;clear HB;have BK199:=n0_;have BK200:=n1_;have HB:=n2_;clear n0_ n1_ n2_;(try clear hb);(try clear hb2);(try clear hk);(try clear hi)) | ((with_reducible refine gate_dst (N:=6) rfl ?_);(try (refine gate_guard (by rfl) ?_;dsimp only));refine box_event ?hg (N:=6) ?hd (cs := #[.int .u64 0,.string (⟨#[]⟩ : ByteArray),.string (⟨#[]⟩ : ByteArray),.bool false]) (t:=50) ?hr ?_;(case hd => rfl);(case hg => rfl);(case hr => first | (go_simp;done) | (go_simp;rfl));intro gb208 hg w37 hbox hb;have n0_:=Aside0.mk (blk_below (g:=gb199) (o := .cells #[.string a1_0,.int .i64 a1_1,.int .i64 a1_2,.int .u64 a1_3,.bool a1_4] 52 (0,0)) (by (with_reducible repeat (first | refine blk_drewN ?_ _ | refine blk_drew ?_ | refine blk_alloc ?_ _));exact BK199.out) hb);have n1_:=Aside0.mk (blk_below (g:=gb200) (o := .cells #[.int .u64 0,.string (⟨#[]⟩ : ByteArray),.string (⟨#[]⟩ : ByteArray),.bool false] 50 (0,0)) (by (with_reducible repeat (first | refine blk_drewN ?_ _ | refine blk_drew ?_ | refine blk_alloc ?_ _));exact BK200.out) hb);have n2_:=Aside0.mk (below_step (by repeat (first | (with_reducible first | exact HB.out | apply below_alloc | apply pw_below_drewN | apply below_drew1 | refine below_set ?_ GE199.out | refine below_set ?_ GE200.out) | exact HB.out)) hb);have n3_:=Aside0.mk (hbox);have n4_:=Aside0.mk ((by rw [hg];exact (below_size (by repeat (first | (with_reducible first | exact HB.out | apply below_alloc | apply pw_below_drewN | apply below_drew1 | refine below_set ?_ GE199.out | refine below_set ?_ GE200.out) | exact HB.out))) : w.heap.size ≤ gb208));have n5_:=Aside0.mk ((by rw [hg];exact (below_size (by repeat (first | (with_reducible first | exact HB.out | apply below_alloc | apply pw_below_drewN | apply below_drew1 | refine below_set ?_ GE199.out | refine below_set ?_ GE200.out) | exact HB.out))) : w.heap.size ≤ gb208));have n6_:=Aside0.mk ((by rw [hg];exact Nat.ne_of_lt (blk_lt (g:=gb199) (o := .cells #[.string a1_0,.int .i64 a1_1,.int .i64 a1_2,.int .u64 a1_3,.bool a1_4] 52 (0,0)) (by (with_reducible repeat (first | refine blk_drewN ?_ _ | refine blk_drew ?_ | refine blk_alloc ?_ _));exact BK199.out)) : gb199 ≠ gb208));have n7_:=Aside0.mk ((by rw [hg];exact Nat.ne_of_gt (blk_lt (g:=gb199) (o := .cells #[.string a1_0,.int .i64 a1_1,.int .i64 a1_2,.int .u64 a1_3,.bool a1_4] 52 (0,0)) (by (with_reducible repeat (first | refine blk_drewN ?_ _ | refine blk_drew ?_ | refine blk_alloc ?_ _));exact BK199.out)) : gb208 ≠ gb199));have n8_:=Aside0.mk ((by rw [hg];exact Nat.ne_of_lt (blk_lt (g:=gb200) (o := .cells #[.int .u64 0,.string (⟨#[]⟩ : ByteArray),.string (⟨#[]⟩ : ByteArray),.bool false] 50 (0,0)) (by (with_reducible repeat (first | refine blk_drewN ?_ _ | refine blk_drew ?_ | refine blk_alloc ?_ _));exact BK200.out)) : gb200 ≠ gb208));have n9_:=Aside0.mk ((by rw [hg];exact Nat.ne_of_gt (blk_lt (g:=gb200) (o := .cells #[.int .u64 0,.string (⟨#[]⟩ : ByteArray),.string (⟨#[]⟩ : ByteArray),.bool false] 50 (0,0)) (by (with_reducible repeat (first | refine blk_drewN ?_ _ | refine blk_drew ?_ | refine blk_alloc ?_ _));exact BK200.out)) : gb208 ≠ gb200));clear BK199;clear BK200;clear HB;have BK199:=n0_;have BK200:=n1_;have HB:=n2_;have BK208:=n3_;have GW208:=n4_;have GE208:=n5_;have NB199_208:=n6_;have NB208_199:=n7_;have NB200_208:=n8_;have NB208_200:=n9_;clear n0_ n1_ n2_ n3_ n4_ n5_ n6_ n7_ n8_ n9_;clear hb hbox hg;have hnb38:=NB208_199.out;have hnc38:=NB199_208.out;have hnb39:=NB208_200.out;have hnc39:=NB200_208.out;have hcz40_0 : w37.cell? ⟨gb208,0,none⟩ = some (.int .u64 0):=(blk_cell BK208.out 0).trans rfl;have hcz40_1 : w37.cell? ⟨gb208,1,none⟩ = some (.string (⟨#[]⟩ : ByteArray)):=(blk_cell BK208.out 1).trans rfl;have hcz40_2 : w37.cell? ⟨gb208,2,none⟩ = some (.string (⟨#[]⟩ : ByteArray)):=(blk_cell BK208.out 2).trans rfl;have hcz40_3 : w37.cell? ⟨gb208,3,none⟩ = some (.bool false):=(blk_cell BK208.out 3).trans rfl;have hfz40_0:=blk_frozen BK208.out 0;have hfz40_1:=blk_frozen BK208.out 1;have hfz40_2:=blk_frozen BK208.out 2;have hfz40_3:=blk_frozen BK208.out 3;have hcz41_0 : w37.cell? ⟨gb199,0,none⟩ = some (.string a1_0):=(blk_cell BK199.out 0).trans rfl;have hcz41_1 : w37.cell? ⟨gb199,1,none⟩ = some (.int .i64 a1_1):=(blk_cell BK199.out 1).trans rfl;have hcz41_2 : w37.cell? ⟨gb199,2,none⟩ = some (.int .i64 a1_2):=(blk_cell BK199.out 2).trans rfl;have hcz41_3 : w37.cell? ⟨gb199,3,none⟩ = some (.int .u64 a1_3):=(blk_cell BK199.out 3).trans rfl;have hcz41_4 : w37.cell? ⟨gb199,4,none⟩ = some (.bool a1_4):=(blk_cell BK199.out 4).trans rfl;have hfz41_0:=blk_frozen BK199.out 0;have hfz41_1:=blk_frozen BK199.out 1;have hfz41_2:=blk_frozen BK199.out 2;have hfz41_3:=blk_frozen BK199.out 3;have hfz41_4:=blk_frozen BK199.out 4;have hcz42_0 : w37.cell? ⟨gb200,0,none⟩ = some (.int .u64 0):=(blk_cell BK200.out 0).trans rfl;have hcz42_1 : w37.cell? ⟨gb200,1,none⟩ = some (.string (⟨#[]⟩ : ByteArray)):=(blk_cell BK200.out 1).trans rfl;have hcz42_2 : w37.cell? ⟨gb200,2,none⟩ = some (.string (⟨#[]⟩ : ByteArray)):=(blk_cell BK200.out 2).trans rfl;have hcz42_3 : w37.cell? ⟨gb200,3,none⟩ = some (.bool false):=(blk_cell BK200.out 3).trans rfl;have hfz42_0:=blk_frozen BK200.out 0;have hfz42_1:=blk_frozen BK200.out 1;have hfz42_2:=blk_frozen BK200.out 2;have hfz42_3:=blk_frozen BK200.out 3))
          refine bodyPost_ret (results_ct rfl _ _ gb200 50 #[.int .u64 t202,.string t203,.string t204,.bool t205] (0,0) _ rfl (by (with_reducible repeat (first | refine blk_drewN ?_ _ | refine blk_drew ?_ | refine blk_alloc ?_ _));refine blk_put (cs := #[.int .u64 t202,.string t203,.string t204,.bool false]) ?_ 3 _ rfl;(with_reducible repeat (first | refine blk_drewN ?_ _ | refine blk_drew ?_ | refine blk_alloc ?_ _));refine blk_put (cs := #[.int .u64 t202,.string t203,.string (⟨#[]⟩ : ByteArray),.bool false]) ?_ 2 _ rfl;(with_reducible repeat (first | refine blk_drewN ?_ _ | refine blk_drew ?_ | refine blk_alloc ?_ _));refine blk_put (cs := #[.int .u64 t202,.string (⟨#[]⟩ : ByteArray),.string (⟨#[]⟩ : ByteArray),.bool false]) ?_ 1 _ rfl;(with_reducible repeat (first | refine blk_drewN ?_ _ | refine blk_drew ?_ | refine blk_alloc ?_ _));refine blk_put (cs := #[.int .u64 0,.string (⟨#[]⟩ : ByteArray),.string (⟨#[]⟩ : ByteArray),.bool false]) ?_ 0 _ rfl;(with_reducible repeat (first | refine blk_drewN ?_ _ | refine blk_drew ?_ | refine blk_alloc ?_ _));refine blk_far ?_ NB200_208.out _;(with_reducible repeat (first | refine blk_drewN ?_ _ | refine blk_drew ?_ | refine blk_alloc ?_ _));refine blk_far ?_ NB200_208.out _;(with_reducible repeat (first | refine blk_drewN ?_ _ | refine blk_drew ?_ | refine blk_alloc ?_ _));refine blk_far ?_ NB200_208.out _;(with_reducible repeat (first | refine blk_drewN ?_ _ | refine blk_drew ?_ | refine blk_alloc ?_ _));refine blk_far ?_ NB200_208.out _;(with_reducible repeat (first | refine blk_drewN ?_ _ | refine blk_drew ?_ | refine blk_alloc ?_ _));exact BK200.out) Tryz.underlying50 rfl (by kernel_rfl)) rfl ?_
          exact ⟨by first | rfl | (simp [errW_none,errW_some] <;> rfl) | (simp [*,errW_none,errW_some] <;> rfl) | (simp [errW_none,errW_some];exact isEmpty_bne _),by repeat (first | (with_reducible first | exact HB.out | apply below_alloc | apply pw_below_drewN | apply below_drew1 | refine below_set ?_ GE199.out | refine below_set ?_ GE200.out | refine below_set ?_ GE208.out) | exact HB.out)⟩
        ·rw [if_neg c23] at H
         have c23b0 : (t206.toList == ([] : List UInt8)) = false:=beq_eq_false_iff_ne.mpr c23
         have c23b1 : (t206.toList != ([] : List UInt8)) = true:=bne_iff_ne.mpr c23
         simp only [Option.some.injEq,Prod.mk.injEq] at H
         obtain ⟨rfl,rfl,rfl,rfl,rfl⟩:=H
         have hnb43:=NB199_200.out
         have hnc43:=NB200_199.out
         have hcz44_0 : wc.cell? ⟨gb199,0,none⟩ = some (.string a1_0):=(blk_cell BK199.out 0).trans rfl
         have hcz44_1 : wc.cell? ⟨gb199,1,none⟩ = some (.int .i64 a1_1):=(blk_cell BK199.out 1).trans rfl
         have hcz44_2 : wc.cell? ⟨gb199,2,none⟩ = some (.int .i64 a1_2):=(blk_cell BK199.out 2).trans rfl
         have hcz44_3 : wc.cell? ⟨gb199,3,none⟩ = some (.int .u64 a1_3):=(blk_cell BK199.out 3).trans rfl
         have hcz44_4 : wc.cell? ⟨gb199,4,none⟩ = some (.bool a1_4):=(blk_cell BK199.out 4).trans rfl
         have hfz44_0:=blk_frozen BK199.out 0
         have hfz44_1:=blk_frozen BK199.out 1
         have hfz44_2:=blk_frozen BK199.out 2
         have hfz44_3:=blk_frozen BK199.out 3
         have hfz44_4:=blk_frozen BK199.out 4
         go_wp2_with (first | ((with_reducible refine gate_callee (f:=101) rfl ?_);refine goesL_ (some 33) rfl rfl Tryz.func101 (by kernel_rfl) rfl #[.string (a0.extract (a1_1 : Int).toNat ((wrap64 (a1_1 + a1_2)) : Int).toNat)] rfl (by (try simp only [List.map_toArray,List.map_cons,List.map_nil]);first | done | rfl | (simp only [List.length_drop,List.length_take];rfl)) ?_;(with_reducible refine (record_Read.calls kj2 (a0.extract (a1_1 : Int).toNat ((wrap64 (a1_1 + a1_2)) : Int).toNat) t202 t203 t204 t205 t206 t207 _ A21.out).mono ?_);rintro e w45 ⟨rfl,hb⟩;refine ⟨_,rfl,?_⟩;have n0_:=Aside0.mk (blk_below (g:=gb199) (o := .cells #[.string a1_0,.int .i64 a1_1,.int .i64 a1_2,.int .u64 a1_3,.bool a1_4] 52 (0,0)) (by (with_reducible repeat (first | refine blk_drewN ?_ _ | refine blk_drew ?_ | refine blk_alloc ?_ _));exact BK199.out) hb);have n1_:=Aside0.mk (blk_below (g:=gb200) (o := .cells #[.int .u64 0,.string (⟨#[]⟩ : ByteArray),.string (⟨#[]⟩ : ByteArray),.bool false] 50 (0,0)) (by (with_reducible repeat (first | refine blk_drewN ?_ _ | refine blk_drew ?_ | refine blk_alloc ?_ _));exact BK200.out) hb);have n2_:=Aside0.mk (below_step (by repeat (first | (with_reducible first | exact HB.out | apply below_alloc | apply pw_below_drewN | apply below_drew1 | refine below_set ?_ GE199.out | refine below_set ?_ GE200.out) | exact HB.out)) hb);clear BK199;clear BK200;clear HB;have BK199:=n0_;have BK200:=n1_;have HB:=n2_;clear n0_ n1_ n2_;(try clear hb);(try clear hb2);(try clear hk);(try clear hi)) | ((with_reducible refine gate_dst (N:=6) rfl ?_);(try (refine gate_guard (by rfl) ?_;dsimp only));refine box_event ?hg (N:=6) ?hd (cs := #[.int .u64 0,.string (⟨#[]⟩ : ByteArray),.string (⟨#[]⟩ : ByteArray),.bool false]) (t:=50) ?hr ?_;(case hd => rfl);(case hg => rfl);(case hr => first | (go_simp;done) | (go_simp;rfl));intro gb208 hg w46 hbox hb;have n0_:=Aside0.mk (blk_below (g:=gb199) (o := .cells #[.string a1_0,.int .i64 a1_1,.int .i64 a1_2,.int .u64 a1_3,.bool a1_4] 52 (0,0)) (by (with_reducible repeat (first | refine blk_drewN ?_ _ | refine blk_drew ?_ | refine blk_alloc ?_ _));exact BK199.out) hb);have n1_:=Aside0.mk (blk_below (g:=gb200) (o := .cells #[.int .u64 0,.string (⟨#[]⟩ : ByteArray),.string (⟨#[]⟩ : ByteArray),.bool false] 50 (0,0)) (by (with_reducible repeat (first | refine blk_drewN ?_ _ | refine blk_drew ?_ | refine blk_alloc ?_ _));exact BK200.out) hb);have n2_:=Aside0.mk (below_step (by repeat (first | (with_reducible first | exact HB.out | apply below_alloc | apply pw_below_drewN | apply below_drew1 | refine below_set ?_ GE199.out | refine below_set ?_ GE200.out) | exact HB.out)) hb);have n3_:=Aside0.mk (hbox);have n4_:=Aside0.mk ((by rw [hg];exact (below_size (by repeat (first | (with_reducible first | exact HB.out | apply below_alloc | apply pw_below_drewN | apply below_drew1 | refine below_set ?_ GE199.out | refine below_set ?_ GE200.out) | exact HB.out))) : w.heap.size ≤ gb208));have n5_:=Aside0.mk ((by rw [hg];exact (below_size (by repeat (first | (with_reducible first | exact HB.out | apply below_alloc | apply pw_below_drewN | apply below_drew1 | refine below_set ?_ GE199.out | refine below_set ?_ GE200.out) | exact HB.out))) : w.heap.size ≤ gb208));have n6_:=Aside0.mk ((by rw [hg];exact Nat.ne_of_lt (blk_lt (g:=gb199) (o := .cells #[.string a1_0,.int .i64 a1_1,.int .i64 a1_2,.int .u64 a1_3,.bool a1_4] 52 (0,0)) (by (with_reducible repeat (first | refine blk_drewN ?_ _ | refine blk_drew ?_ | refine blk_alloc ?_ _));exact BK199.out)) : gb199 ≠ gb208));have n7_:=Aside0.mk ((by rw [hg];exact Nat.ne_of_gt (blk_lt (g:=gb199) (o := .cells #[.string a1_0,.int .i64 a1_1,.int .i64 a1_2,.int .u64 a1_3,.bool a1_4] 52 (0,0)) (by (with_reducible repeat (first | refine blk_drewN ?_ _ | refine blk_drew ?_ | refine blk_alloc ?_ _));exact BK199.out)) : gb208 ≠ gb199));have n8_:=Aside0.mk ((by rw [hg];exact Nat.ne_of_lt (blk_lt (g:=gb200) (o := .cells #[.int .u64 0,.string (⟨#[]⟩ : ByteArray),.string (⟨#[]⟩ : ByteArray),.bool false] 50 (0,0)) (by (with_reducible repeat (first | refine blk_drewN ?_ _ | refine blk_drew ?_ | refine blk_alloc ?_ _));exact BK200.out)) : gb200 ≠ gb208));have n9_:=Aside0.mk ((by rw [hg];exact Nat.ne_of_gt (blk_lt (g:=gb200) (o := .cells #[.int .u64 0,.string (⟨#[]⟩ : ByteArray),.string (⟨#[]⟩ : ByteArray),.bool false] 50 (0,0)) (by (with_reducible repeat (first | refine blk_drewN ?_ _ | refine blk_drew ?_ | refine blk_alloc ?_ _));exact BK200.out)) : gb208 ≠ gb200));clear BK199;clear BK200;clear HB;have BK199:=n0_;have BK200:=n1_;have HB:=n2_;have BK208:=n3_;have GW208:=n4_;have GE208:=n5_;have NB199_208:=n6_;have NB208_199:=n7_;have NB200_208:=n8_;have NB208_200:=n9_;clear n0_ n1_ n2_ n3_ n4_ n5_ n6_ n7_ n8_ n9_;clear hb hbox hg;have hnb47:=NB208_199.out;have hnc47:=NB199_208.out;have hnb48:=NB208_200.out;have hnc48:=NB200_208.out;have hcz49_0 : w46.cell? ⟨gb208,0,none⟩ = some (.int .u64 0):=(blk_cell BK208.out 0).trans rfl;have hcz49_1 : w46.cell? ⟨gb208,1,none⟩ = some (.string (⟨#[]⟩ : ByteArray)):=(blk_cell BK208.out 1).trans rfl;have hcz49_2 : w46.cell? ⟨gb208,2,none⟩ = some (.string (⟨#[]⟩ : ByteArray)):=(blk_cell BK208.out 2).trans rfl;have hcz49_3 : w46.cell? ⟨gb208,3,none⟩ = some (.bool false):=(blk_cell BK208.out 3).trans rfl;have hfz49_0:=blk_frozen BK208.out 0;have hfz49_1:=blk_frozen BK208.out 1;have hfz49_2:=blk_frozen BK208.out 2;have hfz49_3:=blk_frozen BK208.out 3;have hcz50_0 : w46.cell? ⟨gb200,0,none⟩ = some (.int .u64 0):=(blk_cell BK200.out 0).trans rfl;have hcz50_1 : w46.cell? ⟨gb200,1,none⟩ = some (.string (⟨#[]⟩ : ByteArray)):=(blk_cell BK200.out 1).trans rfl;have hcz50_2 : w46.cell? ⟨gb200,2,none⟩ = some (.string (⟨#[]⟩ : ByteArray)):=(blk_cell BK200.out 2).trans rfl;have hcz50_3 : w46.cell? ⟨gb200,3,none⟩ = some (.bool false):=(blk_cell BK200.out 3).trans rfl;have hfz50_0:=blk_frozen BK200.out 0;have hfz50_1:=blk_frozen BK200.out 1;have hfz50_2:=blk_frozen BK200.out 2;have hfz50_3:=blk_frozen BK200.out 3))
         refine bodyPost_ret (results_ct rfl _ _ gb200 50 #[.int .u64 0,.string (⟨#[]⟩ : ByteArray),.string (⟨#[]⟩ : ByteArray),.bool false] (0,0) _ rfl (by (with_reducible repeat (first | refine blk_drewN ?_ _ | refine blk_drew ?_ | refine blk_alloc ?_ _));refine blk_put (cs := #[.int .u64 0,.string (⟨#[]⟩ : ByteArray),.string (⟨#[]⟩ : ByteArray),.bool false]) ?_ 3 _ rfl;(with_reducible repeat (first | refine blk_drewN ?_ _ | refine blk_drew ?_ | refine blk_alloc ?_ _));refine blk_put (cs := #[.int .u64 0,.string (⟨#[]⟩ : ByteArray),.string (⟨#[]⟩ : ByteArray),.bool false]) ?_ 2 _ rfl;(with_reducible repeat (first | refine blk_drewN ?_ _ | refine blk_drew ?_ | refine blk_alloc ?_ _));refine blk_put (cs := #[.int .u64 0,.string (⟨#[]⟩ : ByteArray),.string (⟨#[]⟩ : ByteArray),.bool false]) ?_ 1 _ rfl;(with_reducible repeat (first | refine blk_drewN ?_ _ | refine blk_drew ?_ | refine blk_alloc ?_ _));refine blk_put (cs := #[.int .u64 0,.string (⟨#[]⟩ : ByteArray),.string (⟨#[]⟩ : ByteArray),.bool false]) ?_ 0 _ rfl;(with_reducible repeat (first | refine blk_drewN ?_ _ | refine blk_drew ?_ | refine blk_alloc ?_ _));refine blk_far ?_ NB200_208.out _;(with_reducible repeat (first | refine blk_drewN ?_ _ | refine blk_drew ?_ | refine blk_alloc ?_ _));refine blk_far ?_ NB200_208.out _;(with_reducible repeat (first | refine blk_drewN ?_ _ | refine blk_drew ?_ | refine blk_alloc ?_ _));refine blk_far ?_ NB200_208.out _;(with_reducible repeat (first | refine blk_drewN ?_ _ | refine blk_drew ?_ | refine blk_alloc ?_ _));refine blk_far ?_ NB200_208.out _;(with_reducible repeat (first | refine blk_drewN ?_ _ | refine blk_drew ?_ | refine blk_alloc ?_ _));exact BK200.out) Tryz.underlying50 rfl (by kernel_rfl)) rfl ?_
         exact ⟨by first | rfl | (simp [errW_none,errW_some] <;> rfl) | (simp [*,errW_none,errW_some] <;> rfl) | (simp [errW_none,errW_some];exact isEmpty_bne _),by repeat (first | (with_reducible first | exact HB.out | apply below_alloc | apply pw_below_drewN | apply below_drew1 | refine below_set ?_ GE199.out | refine below_set ?_ GE200.out | refine below_set ?_ GE208.out) | exact HB.out)⟩
       ·rw [if_neg c22] at H
        have c22b0 : (t207 == 0) = false:=beq_eq_false_iff_ne.mpr c22
        have c22b1 : (t207 != 0) = true:=bne_iff_ne.mpr c22
        simp only [Option.some.injEq,Prod.mk.injEq] at H
        obtain ⟨rfl,rfl,rfl,rfl,rfl⟩:=H
        have hnb51:=NB199_200.out
        have hnc51:=NB200_199.out
        have hcz52_0 : wc.cell? ⟨gb199,0,none⟩ = some (.string a1_0):=(blk_cell BK199.out 0).trans rfl
        have hcz52_1 : wc.cell? ⟨gb199,1,none⟩ = some (.int .i64 a1_1):=(blk_cell BK199.out 1).trans rfl
        have hcz52_2 : wc.cell? ⟨gb199,2,none⟩ = some (.int .i64 a1_2):=(blk_cell BK199.out 2).trans rfl
        have hcz52_3 : wc.cell? ⟨gb199,3,none⟩ = some (.int .u64 a1_3):=(blk_cell BK199.out 3).trans rfl
        have hcz52_4 : wc.cell? ⟨gb199,4,none⟩ = some (.bool a1_4):=(blk_cell BK199.out 4).trans rfl
        have hfz52_0:=blk_frozen BK199.out 0
        have hfz52_1:=blk_frozen BK199.out 1
        have hfz52_2:=blk_frozen BK199.out 2
        have hfz52_3:=blk_frozen BK199.out 3
        have hfz52_4:=blk_frozen BK199.out 4
        go_wp2_with (first | ((with_reducible refine gate_callee (f:=101) rfl ?_);refine goesL_ (some 33) rfl rfl Tryz.func101 (by kernel_rfl) rfl #[.string (a0.extract (a1_1 : Int).toNat ((wrap64 (a1_1 + a1_2)) : Int).toNat)] rfl (by (try simp only [List.map_toArray,List.map_cons,List.map_nil]);first | done | rfl | (simp only [List.length_drop,List.length_take];rfl)) ?_;(with_reducible refine (record_Read.calls kj2 (a0.extract (a1_1 : Int).toNat ((wrap64 (a1_1 + a1_2)) : Int).toNat) t202 t203 t204 t205 t206 t207 _ A21.out).mono ?_);rintro e w53 ⟨rfl,hb⟩;refine ⟨_,rfl,?_⟩;have n0_:=Aside0.mk (blk_below (g:=gb199) (o := .cells #[.string a1_0,.int .i64 a1_1,.int .i64 a1_2,.int .u64 a1_3,.bool a1_4] 52 (0,0)) (by (with_reducible repeat (first | refine blk_drewN ?_ _ | refine blk_drew ?_ | refine blk_alloc ?_ _));exact BK199.out) hb);have n1_:=Aside0.mk (blk_below (g:=gb200) (o := .cells #[.int .u64 0,.string (⟨#[]⟩ : ByteArray),.string (⟨#[]⟩ : ByteArray),.bool false] 50 (0,0)) (by (with_reducible repeat (first | refine blk_drewN ?_ _ | refine blk_drew ?_ | refine blk_alloc ?_ _));exact BK200.out) hb);have n2_:=Aside0.mk (below_step (by repeat (first | (with_reducible first | exact HB.out | apply below_alloc | apply pw_below_drewN | apply below_drew1 | refine below_set ?_ GE199.out | refine below_set ?_ GE200.out) | exact HB.out)) hb);clear BK199;clear BK200;clear HB;have BK199:=n0_;have BK200:=n1_;have HB:=n2_;clear n0_ n1_ n2_;(try clear hb);(try clear hb2);(try clear hk);(try clear hi)) | ((with_reducible refine gate_dst (N:=6) rfl ?_);(try (refine gate_guard (by rfl) ?_;dsimp only));refine box_event ?hg (N:=6) ?hd (cs := #[.int .u64 0,.string (⟨#[]⟩ : ByteArray),.string (⟨#[]⟩ : ByteArray),.bool false]) (t:=50) ?hr ?_;(case hd => rfl);(case hg => rfl);(case hr => first | (go_simp;done) | (go_simp;rfl));intro gb208 hg w54 hbox hb;have n0_:=Aside0.mk (blk_below (g:=gb199) (o := .cells #[.string a1_0,.int .i64 a1_1,.int .i64 a1_2,.int .u64 a1_3,.bool a1_4] 52 (0,0)) (by (with_reducible repeat (first | refine blk_drewN ?_ _ | refine blk_drew ?_ | refine blk_alloc ?_ _));exact BK199.out) hb);have n1_:=Aside0.mk (blk_below (g:=gb200) (o := .cells #[.int .u64 0,.string (⟨#[]⟩ : ByteArray),.string (⟨#[]⟩ : ByteArray),.bool false] 50 (0,0)) (by (with_reducible repeat (first | refine blk_drewN ?_ _ | refine blk_drew ?_ | refine blk_alloc ?_ _));exact BK200.out) hb);have n2_:=Aside0.mk (below_step (by repeat (first | (with_reducible first | exact HB.out | apply below_alloc | apply pw_below_drewN | apply below_drew1 | refine below_set ?_ GE199.out | refine below_set ?_ GE200.out) | exact HB.out)) hb);have n3_:=Aside0.mk (hbox);have n4_:=Aside0.mk ((by rw [hg];exact (below_size (by repeat (first | (with_reducible first | exact HB.out | apply below_alloc | apply pw_below_drewN | apply below_drew1 | refine below_set ?_ GE199.out | refine below_set ?_ GE200.out) | exact HB.out))) : w.heap.size ≤ gb208));have n5_:=Aside0.mk ((by rw [hg];exact (below_size (by repeat (first | (with_reducible first | exact HB.out | apply below_alloc | apply pw_below_drewN | apply below_drew1 | refine below_set ?_ GE199.out | refine below_set ?_ GE200.out) | exact HB.out))) : w.heap.size ≤ gb208));have n6_:=Aside0.mk ((by rw [hg];exact Nat.ne_of_lt (blk_lt (g:=gb199) (o := .cells #[.string a1_0,.int .i64 a1_1,.int .i64 a1_2,.int .u64 a1_3,.bool a1_4] 52 (0,0)) (by (with_reducible repeat (first | refine blk_drewN ?_ _ | refine blk_drew ?_ | refine blk_alloc ?_ _));exact BK199.out)) : gb199 ≠ gb208));have n7_:=Aside0.mk ((by rw [hg];exact Nat.ne_of_gt (blk_lt (g:=gb199) (o := .cells #[.string a1_0,.int .i64 a1_1,.int .i64 a1_2,.int .u64 a1_3,.bool a1_4] 52 (0,0)) (by (with_reducible repeat (first | refine blk_drewN ?_ _ | refine blk_drew ?_ | refine blk_alloc ?_ _));exact BK199.out)) : gb208 ≠ gb199));have n8_:=Aside0.mk ((by rw [hg];exact Nat.ne_of_lt (blk_lt (g:=gb200) (o := .cells #[.int .u64 0,.string (⟨#[]⟩ : ByteArray),.string (⟨#[]⟩ : ByteArray),.bool false] 50 (0,0)) (by (with_reducible repeat (first | refine blk_drewN ?_ _ | refine blk_drew ?_ | refine blk_alloc ?_ _));exact BK200.out)) : gb200 ≠ gb208));have n9_:=Aside0.mk ((by rw [hg];exact Nat.ne_of_gt (blk_lt (g:=gb200) (o := .cells #[.int .u64 0,.string (⟨#[]⟩ : ByteArray),.string (⟨#[]⟩ : ByteArray),.bool false] 50 (0,0)) (by (with_reducible repeat (first | refine blk_drewN ?_ _ | refine blk_drew ?_ | refine blk_alloc ?_ _));exact BK200.out)) : gb208 ≠ gb200));clear BK199;clear BK200;clear HB;have BK199:=n0_;have BK200:=n1_;have HB:=n2_;have BK208:=n3_;have GW208:=n4_;have GE208:=n5_;have NB199_208:=n6_;have NB208_199:=n7_;have NB200_208:=n8_;have NB208_200:=n9_;clear n0_ n1_ n2_ n3_ n4_ n5_ n6_ n7_ n8_ n9_;clear hb hbox hg;have hnb55:=NB208_199.out;have hnc55:=NB199_208.out;have hnb56:=NB208_200.out;have hnc56:=NB200_208.out;have hcz57_0 : w54.cell? ⟨gb208,0,none⟩ = some (.int .u64 0):=(blk_cell BK208.out 0).trans rfl;have hcz57_1 : w54.cell? ⟨gb208,1,none⟩ = some (.string (⟨#[]⟩ : ByteArray)):=(blk_cell BK208.out 1).trans rfl;have hcz57_2 : w54.cell? ⟨gb208,2,none⟩ = some (.string (⟨#[]⟩ : ByteArray)):=(blk_cell BK208.out 2).trans rfl;have hcz57_3 : w54.cell? ⟨gb208,3,none⟩ = some (.bool false):=(blk_cell BK208.out 3).trans rfl;have hfz57_0:=blk_frozen BK208.out 0;have hfz57_1:=blk_frozen BK208.out 1;have hfz57_2:=blk_frozen BK208.out 2;have hfz57_3:=blk_frozen BK208.out 3;have hcz58_0 : w54.cell? ⟨gb200,0,none⟩ = some (.int .u64 0):=(blk_cell BK200.out 0).trans rfl;have hcz58_1 : w54.cell? ⟨gb200,1,none⟩ = some (.string (⟨#[]⟩ : ByteArray)):=(blk_cell BK200.out 1).trans rfl;have hcz58_2 : w54.cell? ⟨gb200,2,none⟩ = some (.string (⟨#[]⟩ : ByteArray)):=(blk_cell BK200.out 2).trans rfl;have hcz58_3 : w54.cell? ⟨gb200,3,none⟩ = some (.bool false):=(blk_cell BK200.out 3).trans rfl;have hfz58_0:=blk_frozen BK200.out 0;have hfz58_1:=blk_frozen BK200.out 1;have hfz58_2:=blk_frozen BK200.out 2;have hfz58_3:=blk_frozen BK200.out 3))
        refine bodyPost_ret (results_ct rfl _ _ gb200 50 #[.int .u64 0,.string (⟨#[]⟩ : ByteArray),.string (⟨#[]⟩ : ByteArray),.bool false] (0,0) _ rfl (by (with_reducible repeat (first | refine blk_drewN ?_ _ | refine blk_drew ?_ | refine blk_alloc ?_ _));refine blk_put (cs := #[.int .u64 0,.string (⟨#[]⟩ : ByteArray),.string (⟨#[]⟩ : ByteArray),.bool false]) ?_ 3 _ rfl;(with_reducible repeat (first | refine blk_drewN ?_ _ | refine blk_drew ?_ | refine blk_alloc ?_ _));refine blk_put (cs := #[.int .u64 0,.string (⟨#[]⟩ : ByteArray),.string (⟨#[]⟩ : ByteArray),.bool false]) ?_ 2 _ rfl;(with_reducible repeat (first | refine blk_drewN ?_ _ | refine blk_drew ?_ | refine blk_alloc ?_ _));refine blk_put (cs := #[.int .u64 0,.string (⟨#[]⟩ : ByteArray),.string (⟨#[]⟩ : ByteArray),.bool false]) ?_ 1 _ rfl;(with_reducible repeat (first | refine blk_drewN ?_ _ | refine blk_drew ?_ | refine blk_alloc ?_ _));refine blk_put (cs := #[.int .u64 0,.string (⟨#[]⟩ : ByteArray),.string (⟨#[]⟩ : ByteArray),.bool false]) ?_ 0 _ rfl;(with_reducible repeat (first | refine blk_drewN ?_ _ | refine blk_drew ?_ | refine blk_alloc ?_ _));refine blk_far ?_ NB200_208.out _;(with_reducible repeat (first | refine blk_drewN ?_ _ | refine blk_drew ?_ | refine blk_alloc ?_ _));refine blk_far ?_ NB200_208.out _;(with_reducible repeat (first | refine blk_drewN ?_ _ | refine blk_drew ?_ | refine blk_alloc ?_ _));refine blk_far ?_ NB200_208.out _;(with_reducible repeat (first | refine blk_drewN ?_ _ | refine blk_drew ?_ | refine blk_alloc ?_ _));refine blk_far ?_ NB200_208.out _;(with_reducible repeat (first | refine blk_drewN ?_ _ | refine blk_drew ?_ | refine blk_alloc ?_ _));exact BK200.out) Tryz.underlying50 rfl (by kernel_rfl)) rfl ?_
        exact ⟨by first | rfl | (simp [errW_none,errW_some] <;> rfl) | (simp [*,errW_none,errW_some] <;> rfl) | (simp [errW_none,errW_some];exact isEmpty_bne _),by repeat (first | (with_reducible first | exact HB.out | apply below_alloc | apply pw_below_drewN | apply below_drew1 | refine below_set ?_ GE199.out | refine below_set ?_ GE200.out | refine below_set ?_ GE208.out) | exact HB.out)⟩
      ·rw [if_neg c20] at H
       exact absurd H (by simp)
     ·rw [if_neg c19] at H
      exact absurd H (by simp)
    ·rw [if_neg c18] at H
     exact absurd H (by simp)

-- NOT PRINTED: function 25 (segment_Get)

-- NOT PRINTED: function 146 (slices_AppendSeq_string_string)

-- NOT PRINTED: function 121 (slices_Collect_string)

-- NOT PRINTED: function 157 (bits_Len32)

-- NOT PRINTED: function 125 (bits_Len)

/-! ### cmp_isNaN_string: function 198 -/
def cmp_isNaN_string.f (a0 : ByteArray) : Option (Bool):=some (a0.toList != a0.toList)
set_option maxHeartbeats 8000000 in
set_option maxRecDepth 100000 in
theorem cmp_isNaN_string.calls (a0 : ByteArray) (r : Bool) (w : World) (h : cmp_isNaN_string.f a0 = some r) :
  Calls Tryz.prog 198 #[.string a0] w fun e w' => e = .returned (.bool r) ∧ Drawn0 w w' := by
 have H : (some (a0.toList != a0.toList)) = some r:=h
 clear h
 obtain rfl:=Option.some.inj H
 go_enter Tryz.func198,Tryz.ntmps198
 go_wp2
 go_ret
 exact ⟨by first | rfl | (simp;done) | (simp [*];done),by repeat (first | exact Drawn0.refl _ | apply Drawn0.step)⟩

/-! ### cmp_Less_string: function 176 -/
def cmp_Less_string.f (a0 : ByteArray) (a1 : ByteArray) : Option (Bool):=(cmp_isNaN_string.f a0).bind fun t209 => (if t209 = true then ((cmp_isNaN_string.f a1).bind fun t210 => (if t210 = true then (some (Op.bytesLess a0.toList a1.toList)) else (some true))) else (some (Op.bytesLess a0.toList a1.toList)))
set_option maxHeartbeats 8000000 in
set_option maxRecDepth 100000 in
theorem cmp_Less_string.calls (a0 : ByteArray) (a1 : ByteArray) (r : Bool) (w : World) (h : cmp_Less_string.f a0 a1 = some r) :
  Calls Tryz.prog 176 #[.string a0,.string a1] w fun e w' => e = .returned (.bool r) ∧ Drawn0 w w' := by
 have H : ((cmp_isNaN_string.f a0).bind fun t209 => (if t209 = true then ((cmp_isNaN_string.f a1).bind fun t210 => (if t210 = true then (some (Op.bytesLess a0.toList a1.toList)) else (some true))) else (some (Op.bytesLess a0.toList a1.toList)))) = some r:=h
 clear h
 replace H:=Option.bind_eq_some_iff.mp H
 obtain ⟨t209,A30,H⟩:=H
 replace H : (if t209 = true then ((cmp_isNaN_string.f a1).bind fun t210 => (if t210 = true then (some (Op.bytesLess a0.toList a1.toList)) else (some true))) else (some (Op.bytesLess a0.toList a1.toList))) = some r:=H
 have A3:=Aside0.mk A30
 clear A30
 by_cases c4 : t209 = true
 ·subst c4
  have H1 : ((cmp_isNaN_string.f a1).bind fun t210 => (if t210 = true then (some (Op.bytesLess a0.toList a1.toList)) else (some true))) = some r:=by rw [if_pos rfl] at H;exact H
  clear H
  have H:=H1
  clear H1
  replace H:=Option.bind_eq_some_iff.mp H
  obtain ⟨t210,A50,H⟩:=H
  replace H : (if t210 = true then (some (Op.bytesLess a0.toList a1.toList)) else (some true)) = some r:=H
  have A5:=Aside0.mk A50
  clear A50
  by_cases c6 : t210 = true
  ·subst c6
   have H1 : (some (Op.bytesLess a0.toList a1.toList)) = some r:=by rw [if_pos rfl] at H;exact H
   clear H
   have H:=H1
   clear H1
   obtain rfl:=Option.some.inj H
   go_enter Tryz.func176,Tryz.ntmps176
   go_wp2_with (first | ((with_reducible refine gate_callee (f:=198) rfl ?_);refine goesL_ (some 6) rfl rfl Tryz.func198 (by kernel_rfl) rfl #[.string a0] rfl (by (try simp only [List.map_toArray,List.map_cons,List.map_nil]);first | done | rfl | (simp only [List.length_drop,List.length_take];rfl)) ?_;(with_reducible refine (cmp_isNaN_string.calls a0 true _ A3.out).mono ?_);rintro e w' ⟨rfl,⟨nd,rfl⟩⟩;refine ⟨_,rfl,?_⟩) | (go_at_call 198;(with_reducible refine (cmp_isNaN_string.calls a1 true _ A5.out).mono ?_);rintro e w' ⟨rfl,⟨nd,rfl⟩⟩))
   go_ret
   exact ⟨by first | rfl | (simp;done) | (simp [*];done),by repeat (first | exact Drawn0.refl _ | apply Drawn0.step)⟩
  ·replace c6:=Bool.eq_false_iff.mpr c6
   subst c6
   have H1 : (some true) = some r:=by rw [if_neg (show ¬ (false = true) by decide)] at H;exact H
   clear H
   have H:=H1
   clear H1
   obtain rfl:=Option.some.inj H
   go_enter Tryz.func176,Tryz.ntmps176
   go_wp2_with (first | ((with_reducible refine gate_callee (f:=198) rfl ?_);refine goesL_ (some 6) rfl rfl Tryz.func198 (by kernel_rfl) rfl #[.string a0] rfl (by (try simp only [List.map_toArray,List.map_cons,List.map_nil]);first | done | rfl | (simp only [List.length_drop,List.length_take];rfl)) ?_;(with_reducible refine (cmp_isNaN_string.calls a0 true _ A3.out).mono ?_);rintro e w' ⟨rfl,⟨nd,rfl⟩⟩;refine ⟨_,rfl,?_⟩) | (go_at_call 198;(with_reducible refine (cmp_isNaN_string.calls a1 false _ A5.out).mono ?_);rintro e w' ⟨rfl,⟨nd,rfl⟩⟩))
   go_ret
   exact ⟨by first | rfl | (simp;done) | (simp [*];done),by repeat (first | exact Drawn0.refl _ | apply Drawn0.step)⟩
 ·replace c4:=Bool.eq_false_iff.mpr c4
  subst c4
  have H1 : (some (Op.bytesLess a0.toList a1.toList)) = some r:=by rw [if_neg (show ¬ (false = true) by decide)] at H;exact H
  clear H
  have H:=H1
  clear H1
  obtain rfl:=Option.some.inj H
  go_enter Tryz.func176,Tryz.ntmps176
  go_wp2_with (first | ((with_reducible refine gate_callee (f:=198) rfl ?_);refine goesL_ (some 6) rfl rfl Tryz.func198 (by kernel_rfl) rfl #[.string a0] rfl (by (try simp only [List.map_toArray,List.map_cons,List.map_nil]);first | done | rfl | (simp only [List.length_drop,List.length_take];rfl)) ?_;(with_reducible refine (cmp_isNaN_string.calls a0 false _ A3.out).mono ?_);rintro e w' ⟨rfl,⟨nd,rfl⟩⟩;refine ⟨_,rfl,?_⟩))
  go_ret
  exact ⟨by first | rfl | (simp;done) | (simp [*];done),by repeat (first | exact Drawn0.refl _ | apply Drawn0.step)⟩

end Go.Proofs.YthndpknocofioaaGreatDoor.Print
