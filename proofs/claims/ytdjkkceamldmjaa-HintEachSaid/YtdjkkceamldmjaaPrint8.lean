/- Written by a program of mine (give.py, over the kit's print) out of the translation: contracts of the Go functions. Lean checks it. -/
import Derived.Test.YtdjkkceamldmjaaPrint0
import Derived.Test.YtdjkkceamldmjaaPrint1
import Derived.Test.YtdjkkceamldmjaaPrint3
import Derived.Test.YtdjkkceamldmjaaPrint4
import Derived.Test.YtdjkkceamldmjaaPrint5
import Derived.Test.YtdjkkceamldmjaaPrint6
import Derived.Test.YtdjkkceamldmjaaPrint7
namespace Go.Proofs.Ytdjkkceamldmjaa.Print
open Go.RowKit Go.Proofs.YtdjkkceamldmjaaW.PrintWords Go.Proofs.YtdjkkceamldmjaaW.PrintLast Go.Proofs.YtdjkkceamldmjaaW.PrintMore
attribute [local go_sem] max2_int min2_int max_two min_two max_three min_three max_four min_four   -- for this text's walks alone
set_option linter.unusedVariables false
set_option linter.unusedSimpArgs false

attribute [local go_sem high] eqA39
/-! ### hint_At: function 17 -/
def hint_At.j0 : Nat → ByteArray → Bool → ByteArray → Int → Int → Int → Bool → Option (Int × ByteArray × ByteArray × Bool × Int)
 | 0,_,_,_,_,_,_,_ => none
 | k + 1,x0,x21,x164000,x164001,x164002,x164003,x164004 => if x21 = true then (some (0,(⟨#[]⟩ : ByteArray),(⟨#[]⟩ : ByteArray),false,1)) else (if 0 ≤ x164001 then (if x164001 ≤ (wrap64 (x164001 + x164002)) then (if (wrap64 (x164001 + x164002)) ≤ (x0.size : Int) then ((record_Read.f k (x0.extract (x164001 : Int).toNat ((wrap64 (x164001 + x164002)) : Int).toNat)).bind fun bt166 => (if bt166.2.2.2.2.2 = 0 then (if bt166.2.2.2.2.1.toList = ([] : List UInt8) then (if (!(x164000.toList == bt166.2.1.toList) || (!(x164003 == bt166.1) || (!(x164004 == bt166.2.2.2.1)))) = true then (some (0,(⟨#[]⟩ : ByteArray),(⟨#[]⟩ : ByteArray),false,2)) else (some (bt166.1,bt166.2.1,bt166.2.2.1,bt166.2.2.2.1,0))) else (some (0,(⟨#[]⟩ : ByteArray),(⟨#[]⟩ : ByteArray),false,2))) else (some (0,(⟨#[]⟩ : ByteArray),(⟨#[]⟩ : ByteArray),false,2)))) else (none)) else (none)) else (none))
def hint_At.f (k : Nat) (a0 : ByteArray) (a1_0 : ByteArray) (a1_1 : Int) (a1_2 : Int) (a1_3 : Int) (a1_4 : Bool) : Option (Int × ByteArray × ByteArray × Bool × Int):=(hint_right.f a1_0 a1_1 a1_2 a1_3 a1_4).bind fun t165 => (if t165 = true then (hint_At.j0 k a0 (decide ((wrap64 (a1_1 + a1_2)) > (a0.size : Int))) a1_0 a1_1 a1_2 a1_3 a1_4) else (hint_At.j0 k a0 true a1_0 a1_1 a1_2 a1_3 a1_4))
theorem hint_At.mono_l : ∀ k,(∀ y0 y1 y2 y3 y4 y5 y6,LeO (hint_At.j0 k y0 y1 y2 y3 y4 y5 y6) (hint_At.j0 (k + 1) y0 y1 y2 y3 y4 y5 y6))
 | 0 => fun _ _ _ _ _ _ _ r h => by simp [hint_At.j0] at h
 | k + 1 => by
  have ih0:=hint_At.mono_l k
  ·intro y0 y1 y2 y3 y4 y5 y6
   unfold hint_At.j0
   repeat' first
   | (with_reducible exact ih0 _ _ _ _ _ _ _)
   | (with_reducible exact record_Read.mono _ _)
   | (with_reducible exact LeO.refl _)
   | (with_reducible exact LeO.none _)
   | (with_reducible refine LeO.ite ?_ ?_)
   | (with_reducible refine LeO.bind ?_ (fun _ => ?_))
   | exact ih0 _ _ _ _ _ _ _
   | exact record_Read.mono _ _
   | exact LeO.none _
   | refine LeO.ite ?_ ?_
   | refine LeO.bind ?_ (fun _ => ?_)
theorem hint_At.mono : ∀ a0 a1 a2 a3 a4 a5 k,LeO (hint_At.f k a0 a1 a2 a3 a4 a5) (hint_At.f (k + 1) a0 a1 a2 a3 a4 a5):=by
 intro a0 a1 a2 a3 a4 a5 k
 have ih0:=hint_At.mono_l k
 unfold hint_At.f
 repeat' first
   | (with_reducible exact ih0 _ _ _ _ _ _ _)
   | (with_reducible exact record_Read.mono _ _)
   | (with_reducible exact LeO.refl _)
   | (with_reducible exact LeO.none _)
   | (with_reducible refine LeO.ite ?_ ?_)
   | (with_reducible refine LeO.bind ?_ (fun _ => ?_))
   | exact ih0 _ _ _ _ _ _ _
   | exact record_Read.mono _ _
   | exact LeO.none _
   | refine LeO.ite ?_ ?_
   | refine LeO.bind ?_ (fun _ => ?_)
set_option maxHeartbeats 8000000 in
set_option maxRecDepth 100000 in
theorem hint_At.calls (k : Nat) (a0 : ByteArray) (a1_0 : ByteArray) (a1_1 : Int) (a1_2 : Int) (a1_3 : Int) (a1_4 : Bool) (r1 : Int) (r2 : ByteArray) (r3 : ByteArray) (r4 : Bool) (r5 : Int) (w : World) (h : hint_At.f k a0 a1_0 a1_1 a1_2 a1_3 a1_4 = some (r1,r2,r3,r4,r5)) :
  Calls Try.prog 17 #[.string a0,.agg #[.string a1_0,.int .i64 a1_1,.int .i64 a1_2,.int .u64 a1_3,.bool a1_4]] w fun e w' => e = .returned (.tuple #[.agg #[.int .u64 r1,.string r2,.string r3,.bool r4],.int .i64 r5]) ∧ Below w.heap.size w w' := by
 have hu39:=Try.underlying39
 have hu45:=Try.underlying45
 have HB:=Aside0.mk (Below.refl w.heap.size w)
 have H : ((hint_right.f a1_0 a1_1 a1_2 a1_3 a1_4).bind fun t165 => (if t165 = true then (hint_At.j0 k a0 (decide ((wrap64 (a1_1 + a1_2)) > (a0.size : Int))) a1_0 a1_1 a1_2 a1_3 a1_4) else (hint_At.j0 k a0 true a1_0 a1_1 a1_2 a1_3 a1_4))) = some (r1,r2,r3,r4,r5):=h
 clear h
 have HC3:=Aside0.mk H
 clear H
 go_enter Try.func17,Try.ntmps17
 go_upto_region 1 with (first | ((with_reducible refine gate_dst (N:=3) rfl ?_);(try (refine gate_guard (by rfl) ?_;dsimp only));refine box_event ?hg (N:=3) ?hd (cs := #[.string a1_0,.int .i64 a1_1,.int .i64 a1_2,.int .u64 a1_3,.bool a1_4]) (t:=39) ?hr ?_;(case hd => rfl);(case hg => rfl);(case hr => first | (go_simp;done) | (go_simp;rfl));intro gb163 hg w4 hbox hb;have n0_:=Aside0.mk (below_step (by repeat (first | (with_reducible first | exact HB.out | apply below_alloc | apply pw_below_drewN | apply below_drew1) | exact HB.out)) hb);have n1_:=Aside0.mk (hbox);have n2_:=Aside0.mk ((by rw [hg];exact (below_size (by repeat (first | (with_reducible first | exact HB.out | apply below_alloc | apply pw_below_drewN | apply below_drew1) | exact HB.out))) : w.heap.size ≤ gb163));have n3_:=Aside0.mk ((by rw [hg];exact (below_size (by repeat (first | (with_reducible first | exact HB.out | apply below_alloc | apply pw_below_drewN | apply below_drew1) | exact HB.out))) : w.heap.size ≤ gb163));clear HB;have HB:=n0_;have BK163:=n1_;have GW163:=n2_;have GE163:=n3_;clear n0_ n1_ n2_ n3_;clear hb hbox hg) | ((with_reducible refine gate_dst (N:=4) rfl ?_);(try (refine gate_guard (by rfl) ?_;dsimp only));refine box_event ?hg (N:=4) ?hd (cs := #[.int .u64 0,.string (⟨#[]⟩ : ByteArray),.string (⟨#[]⟩ : ByteArray),.bool false]) (t:=45) ?hr ?_;(case hd => rfl);(case hg => rfl);(case hr => first | (go_simp;done) | (go_simp;rfl));intro gb164 hg w5 hbox hb;have n0_:=Aside0.mk (blk_below (g:=gb163) (o := .cells #[.string a1_0,.int .i64 a1_1,.int .i64 a1_2,.int .u64 a1_3,.bool a1_4] 39 (0,0)) (by (with_reducible repeat (first | refine blk_drewN ?_ _ | refine blk_drew ?_ | refine blk_alloc ?_ _));exact BK163.out) hb);have n1_:=Aside0.mk (below_step (by repeat (first | (with_reducible first | exact HB.out | apply below_alloc | apply pw_below_drewN | apply below_drew1 | refine below_set ?_ GE163.out) | exact HB.out)) hb);have n2_:=Aside0.mk (hbox);have n3_:=Aside0.mk ((by rw [hg];exact (below_size (by repeat (first | (with_reducible first | exact HB.out | apply below_alloc | apply pw_below_drewN | apply below_drew1 | refine below_set ?_ GE163.out) | exact HB.out))) : w.heap.size ≤ gb164));have n4_:=Aside0.mk ((by rw [hg];exact (below_size (by repeat (first | (with_reducible first | exact HB.out | apply below_alloc | apply pw_below_drewN | apply below_drew1 | refine below_set ?_ GE163.out) | exact HB.out))) : w.heap.size ≤ gb164));have n5_:=Aside0.mk ((by rw [hg];exact Nat.ne_of_lt (blk_lt (g:=gb163) (o := .cells #[.string a1_0,.int .i64 a1_1,.int .i64 a1_2,.int .u64 a1_3,.bool a1_4] 39 (0,0)) (by (with_reducible repeat (first | refine blk_drewN ?_ _ | refine blk_drew ?_ | refine blk_alloc ?_ _));exact BK163.out)) : gb163 ≠ gb164));have n6_:=Aside0.mk ((by rw [hg];exact Nat.ne_of_gt (blk_lt (g:=gb163) (o := .cells #[.string a1_0,.int .i64 a1_1,.int .i64 a1_2,.int .u64 a1_3,.bool a1_4] 39 (0,0)) (by (with_reducible repeat (first | refine blk_drewN ?_ _ | refine blk_drew ?_ | refine blk_alloc ?_ _));exact BK163.out)) : gb164 ≠ gb163));clear BK163;clear HB;have BK163:=n0_;have HB:=n1_;have BK164:=n2_;have GW164:=n3_;have GE164:=n4_;have NB163_164:=n5_;have NB164_163:=n6_;clear n0_ n1_ n2_ n3_ n4_ n5_ n6_;clear hb hbox hg))
 (try simp only [Act.put,List.setIfInBounds_toArray,List.set_cons_zero,List.set_cons_succ])
 go_cut [21] (fun v21 wc => ∃ (kq : Nat) (x21_2 : Bool),v21 = .bool x21_2 ∧ Aside0 (hint_At.j0 kq a0 x21_2 a1_0 a1_1 a1_2 a1_3 a1_4 = some (r1,r2,r3,r4,r5)) ∧ Aside0 (kq ≤ k) ∧ Aside0 (wc.heap[gb163]? = some (.cells #[.string a1_0,.int .i64 a1_1,.int .i64 a1_2,.int .u64 a1_3,.bool a1_4] 39 (0,0))) ∧ Aside0 (wc.heap[gb164]? = some (.cells #[.int .u64 0,.string (⟨#[]⟩ : ByteArray),.string (⟨#[]⟩ : ByteArray),.bool false] 45 (0,0))) ∧ Aside0 (Below w.heap.size w wc))
 case first =>
  have H:=HC3.out
  clear HC3
  replace H:=Option.bind_eq_some_iff.mp H
  obtain ⟨t165,A60,H⟩:=H
  replace H : (if t165 = true then (hint_At.j0 k a0 (decide ((wrap64 (a1_1 + a1_2)) > (a0.size : Int))) a1_0 a1_1 a1_2 a1_3 a1_4) else (hint_At.j0 k a0 true a1_0 a1_1 a1_2 a1_3 a1_4)) = some (r1,r2,r3,r4,r5):=H
  have A6:=Aside0.mk A60
  clear A60
  by_cases c7 : t165 = true
  ·subst c7
   have H1 : (hint_At.j0 k a0 (decide ((wrap64 (a1_1 + a1_2)) > (a0.size : Int))) a1_0 a1_1 a1_2 a1_3 a1_4) = some (r1,r2,r3,r4,r5):=by rw [if_pos rfl] at H;exact H
   clear H
   have H:=H1
   clear H1
   have H' := Aside0.mk H
   clear H
   have hnb8:=NB163_164.out
   have hnc8:=NB164_163.out
   have hcz9_0 : w5.cell? ⟨gb163,0,none⟩ = some (.string a1_0):=(blk_cell BK163.out 0).trans rfl
   have hcz9_1 : w5.cell? ⟨gb163,1,none⟩ = some (.int .i64 a1_1):=(blk_cell BK163.out 1).trans rfl
   have hcz9_2 : w5.cell? ⟨gb163,2,none⟩ = some (.int .i64 a1_2):=(blk_cell BK163.out 2).trans rfl
   have hcz9_3 : w5.cell? ⟨gb163,3,none⟩ = some (.int .u64 a1_3):=(blk_cell BK163.out 3).trans rfl
   have hcz9_4 : w5.cell? ⟨gb163,4,none⟩ = some (.bool a1_4):=(blk_cell BK163.out 4).trans rfl
   have hfz9_0:=blk_frozen BK163.out 0
   have hfz9_1:=blk_frozen BK163.out 1
   have hfz9_2:=blk_frozen BK163.out 2
   have hfz9_3:=blk_frozen BK163.out 3
   have hfz9_4:=blk_frozen BK163.out 4
   go_wp2_with (first | ((with_reducible refine gate_callee (f:=23) rfl ?_);refine goesL_ (some 10) rfl rfl Try.func23 (by kernel_rfl) rfl #[.agg #[.string a1_0,.int .i64 a1_1,.int .i64 a1_2,.int .u64 a1_3,.bool a1_4]] rfl (by (try simp only [List.map_toArray,List.map_cons,List.map_nil]);first | done | rfl | (simp only [List.length_drop,List.length_take];rfl)) ?_;(with_reducible refine (hint_right.calls a1_0 a1_1 a1_2 a1_3 a1_4 true _ A6.out).mono ?_);rintro e w10 ⟨rfl,hb⟩;refine ⟨_,rfl,?_⟩;have n0_:=Aside0.mk (blk_below (g:=gb163) (o := .cells #[.string a1_0,.int .i64 a1_1,.int .i64 a1_2,.int .u64 a1_3,.bool a1_4] 39 (0,0)) (by (with_reducible repeat (first | refine blk_drewN ?_ _ | refine blk_drew ?_ | refine blk_alloc ?_ _));exact BK163.out) hb);have n1_:=Aside0.mk (blk_below (g:=gb164) (o := .cells #[.int .u64 0,.string (⟨#[]⟩ : ByteArray),.string (⟨#[]⟩ : ByteArray),.bool false] 45 (0,0)) (by (with_reducible repeat (first | refine blk_drewN ?_ _ | refine blk_drew ?_ | refine blk_alloc ?_ _));exact BK164.out) hb);have n2_:=Aside0.mk (below_step (by repeat (first | (with_reducible first | exact HB.out | apply below_alloc | apply pw_below_drewN | apply below_drew1 | refine below_set ?_ GE163.out | refine below_set ?_ GE164.out) | exact HB.out)) hb);clear BK163;clear BK164;clear HB;have BK163:=n0_;have BK164:=n1_;have HB:=n2_;clear n0_ n1_ n2_;(try clear hb);(try clear hb2);(try clear hk);(try clear hi);have hcz11_0 : w10.cell? ⟨gb163,0,none⟩ = some (.string a1_0):=(blk_cell BK163.out 0).trans rfl;have hcz11_1 : w10.cell? ⟨gb163,1,none⟩ = some (.int .i64 a1_1):=(blk_cell BK163.out 1).trans rfl;have hcz11_2 : w10.cell? ⟨gb163,2,none⟩ = some (.int .i64 a1_2):=(blk_cell BK163.out 2).trans rfl;have hcz11_3 : w10.cell? ⟨gb163,3,none⟩ = some (.int .u64 a1_3):=(blk_cell BK163.out 3).trans rfl;have hcz11_4 : w10.cell? ⟨gb163,4,none⟩ = some (.bool a1_4):=(blk_cell BK163.out 4).trans rfl;have hfz11_0:=blk_frozen BK163.out 0;have hfz11_1:=blk_frozen BK163.out 1;have hfz11_2:=blk_frozen BK163.out 2;have hfz11_3:=blk_frozen BK163.out 3;have hfz11_4:=blk_frozen BK163.out 4))
   go_meet
   case rel => exact ⟨_,(decide ((wrap64 (a1_1 + a1_2)) > (a0.size : Int))),(by first | rfl | (simp;done) | (simp [*];done)),H',⟨by first | omega | exact Nat.le_refl _⟩,⟨by (with_reducible repeat (first | refine blk_drewN ?_ _ | refine blk_drew ?_ | refine blk_alloc ?_ _));exact BK163.out⟩,⟨by (with_reducible repeat (first | refine blk_drewN ?_ _ | refine blk_drew ?_ | refine blk_alloc ?_ _));exact BK164.out⟩,⟨by repeat (first | (with_reducible first | exact HB.out | apply below_alloc | apply pw_below_drewN | apply below_drew1 | refine below_set ?_ GE163.out | refine below_set ?_ GE164.out) | exact HB.out)⟩⟩
  ·replace c7:=Bool.eq_false_iff.mpr c7
   subst c7
   have H1 : (hint_At.j0 k a0 true a1_0 a1_1 a1_2 a1_3 a1_4) = some (r1,r2,r3,r4,r5):=by rw [if_neg (show ¬ (false = true) by decide)] at H;exact H
   clear H
   have H:=H1
   clear H1
   have H' := Aside0.mk H
   clear H
   have hnb12:=NB163_164.out
   have hnc12:=NB164_163.out
   have hcz13_0 : w5.cell? ⟨gb163,0,none⟩ = some (.string a1_0):=(blk_cell BK163.out 0).trans rfl
   have hcz13_1 : w5.cell? ⟨gb163,1,none⟩ = some (.int .i64 a1_1):=(blk_cell BK163.out 1).trans rfl
   have hcz13_2 : w5.cell? ⟨gb163,2,none⟩ = some (.int .i64 a1_2):=(blk_cell BK163.out 2).trans rfl
   have hcz13_3 : w5.cell? ⟨gb163,3,none⟩ = some (.int .u64 a1_3):=(blk_cell BK163.out 3).trans rfl
   have hcz13_4 : w5.cell? ⟨gb163,4,none⟩ = some (.bool a1_4):=(blk_cell BK163.out 4).trans rfl
   have hfz13_0:=blk_frozen BK163.out 0
   have hfz13_1:=blk_frozen BK163.out 1
   have hfz13_2:=blk_frozen BK163.out 2
   have hfz13_3:=blk_frozen BK163.out 3
   have hfz13_4:=blk_frozen BK163.out 4
   go_wp2_with (first | ((with_reducible refine gate_callee (f:=23) rfl ?_);refine goesL_ (some 10) rfl rfl Try.func23 (by kernel_rfl) rfl #[.agg #[.string a1_0,.int .i64 a1_1,.int .i64 a1_2,.int .u64 a1_3,.bool a1_4]] rfl (by (try simp only [List.map_toArray,List.map_cons,List.map_nil]);first | done | rfl | (simp only [List.length_drop,List.length_take];rfl)) ?_;(with_reducible refine (hint_right.calls a1_0 a1_1 a1_2 a1_3 a1_4 false _ A6.out).mono ?_);rintro e w14 ⟨rfl,hb⟩;refine ⟨_,rfl,?_⟩;have n0_:=Aside0.mk (blk_below (g:=gb163) (o := .cells #[.string a1_0,.int .i64 a1_1,.int .i64 a1_2,.int .u64 a1_3,.bool a1_4] 39 (0,0)) (by (with_reducible repeat (first | refine blk_drewN ?_ _ | refine blk_drew ?_ | refine blk_alloc ?_ _));exact BK163.out) hb);have n1_:=Aside0.mk (blk_below (g:=gb164) (o := .cells #[.int .u64 0,.string (⟨#[]⟩ : ByteArray),.string (⟨#[]⟩ : ByteArray),.bool false] 45 (0,0)) (by (with_reducible repeat (first | refine blk_drewN ?_ _ | refine blk_drew ?_ | refine blk_alloc ?_ _));exact BK164.out) hb);have n2_:=Aside0.mk (below_step (by repeat (first | (with_reducible first | exact HB.out | apply below_alloc | apply pw_below_drewN | apply below_drew1 | refine below_set ?_ GE163.out | refine below_set ?_ GE164.out) | exact HB.out)) hb);clear BK163;clear BK164;clear HB;have BK163:=n0_;have BK164:=n1_;have HB:=n2_;clear n0_ n1_ n2_;(try clear hb);(try clear hb2);(try clear hk);(try clear hi)))
   go_meet
   case rel => exact ⟨_,(true),(by first | rfl | (simp;done) | (simp [*];done)),H',⟨by first | omega | exact Nat.le_refl _⟩,⟨by (with_reducible repeat (first | refine blk_drewN ?_ _ | refine blk_drew ?_ | refine blk_alloc ?_ _));exact BK163.out⟩,⟨by (with_reducible repeat (first | refine blk_drewN ?_ _ | refine blk_drew ?_ | refine blk_alloc ?_ _));exact BK164.out⟩,⟨by repeat (first | (with_reducible first | exact HB.out | apply below_alloc | apply pw_below_drewN | apply below_drew1 | refine below_set ?_ GE163.out | refine below_set ?_ GE164.out) | exact HB.out)⟩⟩
 case rest =>
  clear HC3
  try clear c1
  try clear c2
  try clear p2
  try clear p6
  try clear c7
  try clear c8
  try clear c12
  try clear hcz11_0
  try clear hcz11_1
  try clear hcz11_2
  try clear hcz11_3
  try clear hcz11_4
  try clear hcz13_0
  try clear hcz13_1
  try clear hcz13_2
  try clear hcz13_3
  try clear hcz13_4
  try clear hcz9_0
  try clear hcz9_1
  try clear hcz9_2
  try clear hcz9_3
  try clear hcz9_4
  try clear hfz11_0
  try clear hfz11_1
  try clear hfz11_2
  try clear hfz11_3
  try clear hfz11_4
  try clear hfz13_0
  try clear hfz13_1
  try clear hfz13_2
  try clear hfz13_3
  try clear hfz13_4
  try clear hfz9_0
  try clear hfz9_1
  try clear hfz9_2
  try clear hfz9_3
  try clear hfz9_4
  obtain ⟨kq,x21_2,rfl,HA,HJ2,BK163,BK164,HB⟩:=hcut
  cases kq with
  | zero => exact absurd HA.out (by simp [hint_At.j0])
  | succ kj2 =>
   have H:=HA.out
   clear HA
   simp only [hint_At.j0] at H
   by_cases c15 : x21_2 = true
   ·subst c15
    have H1 : (some (0,(⟨#[]⟩ : ByteArray),(⟨#[]⟩ : ByteArray),false,1)) = some (r1,r2,r3,r4,r5):=by rw [if_pos rfl] at H;exact H
    clear H
    have H:=H1
    clear H1
    simp only [Option.some.injEq,Prod.mk.injEq] at H
    obtain ⟨rfl,rfl,rfl,rfl,rfl⟩:=H
    have hnb16:=NB164_163.out
    have hnc16:=NB163_164.out
    have hcz17_0 : wc.cell? ⟨gb164,0,none⟩ = some (.int .u64 0):=(blk_cell BK164.out 0).trans rfl
    have hcz17_1 : wc.cell? ⟨gb164,1,none⟩ = some (.string (⟨#[]⟩ : ByteArray)):=(blk_cell BK164.out 1).trans rfl
    have hcz17_2 : wc.cell? ⟨gb164,2,none⟩ = some (.string (⟨#[]⟩ : ByteArray)):=(blk_cell BK164.out 2).trans rfl
    have hcz17_3 : wc.cell? ⟨gb164,3,none⟩ = some (.bool false):=(blk_cell BK164.out 3).trans rfl
    have hfz17_0:=blk_frozen BK164.out 0
    have hfz17_1:=blk_frozen BK164.out 1
    have hfz17_2:=blk_frozen BK164.out 2
    have hfz17_3:=blk_frozen BK164.out 3
    go_wp2
    refine bodyPost_ret (results_ct rfl _ _ gb164 45 #[.int .u64 0,.string (⟨#[]⟩ : ByteArray),.string (⟨#[]⟩ : ByteArray),.bool false] (0,0) _ rfl (by (with_reducible repeat (first | refine blk_drewN ?_ _ | refine blk_drew ?_ | refine blk_alloc ?_ _));refine blk_put (cs := #[.int .u64 0,.string (⟨#[]⟩ : ByteArray),.string (⟨#[]⟩ : ByteArray),.bool false]) ?_ 3 _ rfl;(with_reducible repeat (first | refine blk_drewN ?_ _ | refine blk_drew ?_ | refine blk_alloc ?_ _));refine blk_put (cs := #[.int .u64 0,.string (⟨#[]⟩ : ByteArray),.string (⟨#[]⟩ : ByteArray),.bool false]) ?_ 2 _ rfl;(with_reducible repeat (first | refine blk_drewN ?_ _ | refine blk_drew ?_ | refine blk_alloc ?_ _));refine blk_put (cs := #[.int .u64 0,.string (⟨#[]⟩ : ByteArray),.string (⟨#[]⟩ : ByteArray),.bool false]) ?_ 1 _ rfl;(with_reducible repeat (first | refine blk_drewN ?_ _ | refine blk_drew ?_ | refine blk_alloc ?_ _));refine blk_put (cs := #[.int .u64 0,.string (⟨#[]⟩ : ByteArray),.string (⟨#[]⟩ : ByteArray),.bool false]) ?_ 0 _ rfl;(with_reducible repeat (first | refine blk_drewN ?_ _ | refine blk_drew ?_ | refine blk_alloc ?_ _));exact BK164.out) Try.underlying45 rfl (by kernel_rfl)) rfl ?_
    exact ⟨by first | rfl | (simp [errW_none,errW_some] <;> rfl) | (simp [*,errW_none,errW_some] <;> rfl) | (simp [errW_none,errW_some];exact isEmpty_bne _),by repeat (first | (with_reducible first | exact HB.out | apply below_alloc | apply pw_below_drewN | apply below_drew1 | refine below_set ?_ GE163.out | refine below_set ?_ GE164.out) | exact HB.out)⟩
   ·replace c15:=Bool.eq_false_iff.mpr c15
    subst c15
    have H1 : (if 0 ≤ a1_1 then (if a1_1 ≤ (wrap64 (a1_1 + a1_2)) then (if (wrap64 (a1_1 + a1_2)) ≤ (a0.size : Int) then ((record_Read.f kj2 (a0.extract (a1_1 : Int).toNat ((wrap64 (a1_1 + a1_2)) : Int).toNat)).bind fun bt166 => (if bt166.2.2.2.2.2 = 0 then (if bt166.2.2.2.2.1.toList = ([] : List UInt8) then (if (!(a1_0.toList == bt166.2.1.toList) || (!(a1_3 == bt166.1) || (!(a1_4 == bt166.2.2.2.1)))) = true then (some (0,(⟨#[]⟩ : ByteArray),(⟨#[]⟩ : ByteArray),false,2)) else (some (bt166.1,bt166.2.1,bt166.2.2.1,bt166.2.2.2.1,0))) else (some (0,(⟨#[]⟩ : ByteArray),(⟨#[]⟩ : ByteArray),false,2))) else (some (0,(⟨#[]⟩ : ByteArray),(⟨#[]⟩ : ByteArray),false,2)))) else (none)) else (none)) else (none)) = some (r1,r2,r3,r4,r5):=by rw [if_neg (show ¬ (false = true) by decide)] at H;exact H
    clear H
    have H:=H1
    clear H1
    by_cases c18 : 0 ≤ a1_1
    ·rw [if_pos c18] at H
     have c18b0:=eq_true c18
     have c18b1 : decide (0 ≤ a1_1) = true:=decide_eq_true c18
     clear c18
     by_cases c19 : a1_1 ≤ (wrap64 (a1_1 + a1_2))
     ·rw [if_pos c19] at H
      have c19b0:=eq_true c19
      have c19b1 : decide (a1_1 ≤ (wrap64 (a1_1 + a1_2))) = true:=decide_eq_true c19
      by_cases c20 : (wrap64 (a1_1 + a1_2)) ≤ (a0.size : Int)
      ·rw [if_pos c20] at H
       have c20b0:=eq_true c20
       have c20b1 : decide ((wrap64 (a1_1 + a1_2)) ≤ (a0.size : Int)) = true:=decide_eq_true c20
       replace H:=Option.bind_eq_some_iff.mp H
       obtain ⟨⟨t166,t167,t168,t169,t170,t171⟩,A210,H⟩:=H
       replace H : (if t171 = 0 then (if t170.toList = ([] : List UInt8) then (if (!(a1_0.toList == t167.toList) || (!(a1_3 == t166) || (!(a1_4 == t169)))) = true then (some (0,(⟨#[]⟩ : ByteArray),(⟨#[]⟩ : ByteArray),false,2)) else (some (t166,t167,t168,t169,0))) else (some (0,(⟨#[]⟩ : ByteArray),(⟨#[]⟩ : ByteArray),false,2))) else (some (0,(⟨#[]⟩ : ByteArray),(⟨#[]⟩ : ByteArray),false,2))) = some (r1,r2,r3,r4,r5):=H
       have A21:=Aside0.mk A210
       clear A210
       by_cases c22 : t171 = 0
       ·rw [if_pos c22] at H
        have c22b0 : (t171 == 0) = true:=beq_iff_eq.mpr c22
        have c22b1 : (t171 != 0) = false:=bne_eq_false_iff_eq.mpr c22
        clear c22
        by_cases c23 : t170.toList = ([] : List UInt8)
        ·rw [if_pos c23] at H
         have c23b0 : (t170.toList == ([] : List UInt8)) = true:=beq_iff_eq.mpr c23
         have c23b1 : (t170.toList != ([] : List UInt8)) = false:=bne_eq_false_iff_eq.mpr c23
         clear c23
         by_cases c24 : (!(a1_0.toList == t167.toList) || (!(a1_3 == t166) || (!(a1_4 == t169)))) = true
         ·rw [if_pos c24] at H
          have c24b0 : (!(a1_0.toList == t167.toList) || (!(a1_3 == t166) || (!(a1_4 == t169)))) = true:=c24
          clear c24
          simp only [Option.some.injEq,Prod.mk.injEq] at H
          obtain ⟨rfl,rfl,rfl,rfl,rfl⟩:=H
          have hnb25:=NB163_164.out
          have hnc25:=NB164_163.out
          have hcz26_0 : wc.cell? ⟨gb163,0,none⟩ = some (.string a1_0):=(blk_cell BK163.out 0).trans rfl
          have hcz26_1 : wc.cell? ⟨gb163,1,none⟩ = some (.int .i64 a1_1):=(blk_cell BK163.out 1).trans rfl
          have hcz26_2 : wc.cell? ⟨gb163,2,none⟩ = some (.int .i64 a1_2):=(blk_cell BK163.out 2).trans rfl
          have hcz26_3 : wc.cell? ⟨gb163,3,none⟩ = some (.int .u64 a1_3):=(blk_cell BK163.out 3).trans rfl
          have hcz26_4 : wc.cell? ⟨gb163,4,none⟩ = some (.bool a1_4):=(blk_cell BK163.out 4).trans rfl
          have hfz26_0:=blk_frozen BK163.out 0
          have hfz26_1:=blk_frozen BK163.out 1
          have hfz26_2:=blk_frozen BK163.out 2
          have hfz26_3:=blk_frozen BK163.out 3
          have hfz26_4:=blk_frozen BK163.out 4
          go_wp2_with (first | ((with_reducible refine gate_callee (f:=44) rfl ?_);refine goesL_ (some 33) rfl rfl Try.func44 (by kernel_rfl) rfl #[.string (a0.extract (a1_1 : Int).toNat ((wrap64 (a1_1 + a1_2)) : Int).toNat)] rfl (by (try simp only [List.map_toArray,List.map_cons,List.map_nil]);first | done | rfl | (simp only [List.length_drop,List.length_take];rfl)) ?_;(with_reducible refine (record_Read.calls kj2 (a0.extract (a1_1 : Int).toNat ((wrap64 (a1_1 + a1_2)) : Int).toNat) t166 t167 t168 t169 t170 t171 _ A21.out).mono ?_);rintro e w27 ⟨rfl,hb⟩;refine ⟨_,rfl,?_⟩;have n0_:=Aside0.mk (blk_below (g:=gb163) (o := .cells #[.string a1_0,.int .i64 a1_1,.int .i64 a1_2,.int .u64 a1_3,.bool a1_4] 39 (0,0)) (by (with_reducible repeat (first | refine blk_drewN ?_ _ | refine blk_drew ?_ | refine blk_alloc ?_ _));exact BK163.out) hb);have n1_:=Aside0.mk (blk_below (g:=gb164) (o := .cells #[.int .u64 0,.string (⟨#[]⟩ : ByteArray),.string (⟨#[]⟩ : ByteArray),.bool false] 45 (0,0)) (by (with_reducible repeat (first | refine blk_drewN ?_ _ | refine blk_drew ?_ | refine blk_alloc ?_ _));exact BK164.out) hb);have n2_:=Aside0.mk (below_step (by repeat (first | (with_reducible first | exact HB.out | apply below_alloc | apply pw_below_drewN | apply below_drew1 | refine below_set ?_ GE163.out | refine below_set ?_ GE164.out) | exact HB.out)) hb);clear BK163;clear BK164;clear HB;have BK163:=n0_;have BK164:=n1_;have HB:=n2_;clear n0_ n1_ n2_;(try clear hb);(try clear hb2);(try clear hk);(try clear hi)) | ((with_reducible refine gate_dst (N:=6) rfl ?_);(try (refine gate_guard (by rfl) ?_;dsimp only));refine box_event ?hg (N:=6) ?hd (cs := #[.int .u64 0,.string (⟨#[]⟩ : ByteArray),.string (⟨#[]⟩ : ByteArray),.bool false]) (t:=45) ?hr ?_;(case hd => rfl);(case hg => rfl);(case hr => first | (go_simp;done) | (go_simp;rfl));intro gb172 hg w28 hbox hb;have n0_:=Aside0.mk (blk_below (g:=gb163) (o := .cells #[.string a1_0,.int .i64 a1_1,.int .i64 a1_2,.int .u64 a1_3,.bool a1_4] 39 (0,0)) (by (with_reducible repeat (first | refine blk_drewN ?_ _ | refine blk_drew ?_ | refine blk_alloc ?_ _));exact BK163.out) hb);have n1_:=Aside0.mk (blk_below (g:=gb164) (o := .cells #[.int .u64 0,.string (⟨#[]⟩ : ByteArray),.string (⟨#[]⟩ : ByteArray),.bool false] 45 (0,0)) (by (with_reducible repeat (first | refine blk_drewN ?_ _ | refine blk_drew ?_ | refine blk_alloc ?_ _));exact BK164.out) hb);have n2_:=Aside0.mk (below_step (by repeat (first | (with_reducible first | exact HB.out | apply below_alloc | apply pw_below_drewN | apply below_drew1 | refine below_set ?_ GE163.out | refine below_set ?_ GE164.out) | exact HB.out)) hb);have n3_:=Aside0.mk (hbox);have n4_:=Aside0.mk ((by rw [hg];exact (below_size (by repeat (first | (with_reducible first | exact HB.out | apply below_alloc | apply pw_below_drewN | apply below_drew1 | refine below_set ?_ GE163.out | refine below_set ?_ GE164.out) | exact HB.out))) : w.heap.size ≤ gb172));have n5_:=Aside0.mk ((by rw [hg];exact (below_size (by repeat (first | (with_reducible first | exact HB.out | apply below_alloc | apply pw_below_drewN | apply below_drew1 | refine below_set ?_ GE163.out | refine below_set ?_ GE164.out) | exact HB.out))) : w.heap.size ≤ gb172));have n6_:=Aside0.mk ((by rw [hg];exact Nat.ne_of_lt (blk_lt (g:=gb163) (o := .cells #[.string a1_0,.int .i64 a1_1,.int .i64 a1_2,.int .u64 a1_3,.bool a1_4] 39 (0,0)) (by (with_reducible repeat (first | refine blk_drewN ?_ _ | refine blk_drew ?_ | refine blk_alloc ?_ _));exact BK163.out)) : gb163 ≠ gb172));have n7_:=Aside0.mk ((by rw [hg];exact Nat.ne_of_gt (blk_lt (g:=gb163) (o := .cells #[.string a1_0,.int .i64 a1_1,.int .i64 a1_2,.int .u64 a1_3,.bool a1_4] 39 (0,0)) (by (with_reducible repeat (first | refine blk_drewN ?_ _ | refine blk_drew ?_ | refine blk_alloc ?_ _));exact BK163.out)) : gb172 ≠ gb163));have n8_:=Aside0.mk ((by rw [hg];exact Nat.ne_of_lt (blk_lt (g:=gb164) (o := .cells #[.int .u64 0,.string (⟨#[]⟩ : ByteArray),.string (⟨#[]⟩ : ByteArray),.bool false] 45 (0,0)) (by (with_reducible repeat (first | refine blk_drewN ?_ _ | refine blk_drew ?_ | refine blk_alloc ?_ _));exact BK164.out)) : gb164 ≠ gb172));have n9_:=Aside0.mk ((by rw [hg];exact Nat.ne_of_gt (blk_lt (g:=gb164) (o := .cells #[.int .u64 0,.string (⟨#[]⟩ : ByteArray),.string (⟨#[]⟩ : ByteArray),.bool false] 45 (0,0)) (by (with_reducible repeat (first | refine blk_drewN ?_ _ | refine blk_drew ?_ | refine blk_alloc ?_ _));exact BK164.out)) : gb172 ≠ gb164));clear BK163;clear BK164;clear HB;have BK163:=n0_;have BK164:=n1_;have HB:=n2_;have BK172:=n3_;have GW172:=n4_;have GE172:=n5_;have NB163_172:=n6_;have NB172_163:=n7_;have NB164_172:=n8_;have NB172_164:=n9_;clear n0_ n1_ n2_ n3_ n4_ n5_ n6_ n7_ n8_ n9_;clear hb hbox hg;have hnb29:=NB172_163.out;have hnc29:=NB163_172.out;have hnb30:=NB172_164.out;have hnc30:=NB164_172.out;have hcz31_0 : w28.cell? ⟨gb172,0,none⟩ = some (.int .u64 0):=(blk_cell BK172.out 0).trans rfl;have hcz31_1 : w28.cell? ⟨gb172,1,none⟩ = some (.string (⟨#[]⟩ : ByteArray)):=(blk_cell BK172.out 1).trans rfl;have hcz31_2 : w28.cell? ⟨gb172,2,none⟩ = some (.string (⟨#[]⟩ : ByteArray)):=(blk_cell BK172.out 2).trans rfl;have hcz31_3 : w28.cell? ⟨gb172,3,none⟩ = some (.bool false):=(blk_cell BK172.out 3).trans rfl;have hfz31_0:=blk_frozen BK172.out 0;have hfz31_1:=blk_frozen BK172.out 1;have hfz31_2:=blk_frozen BK172.out 2;have hfz31_3:=blk_frozen BK172.out 3;have hcz32_0 : w28.cell? ⟨gb163,0,none⟩ = some (.string a1_0):=(blk_cell BK163.out 0).trans rfl;have hcz32_1 : w28.cell? ⟨gb163,1,none⟩ = some (.int .i64 a1_1):=(blk_cell BK163.out 1).trans rfl;have hcz32_2 : w28.cell? ⟨gb163,2,none⟩ = some (.int .i64 a1_2):=(blk_cell BK163.out 2).trans rfl;have hcz32_3 : w28.cell? ⟨gb163,3,none⟩ = some (.int .u64 a1_3):=(blk_cell BK163.out 3).trans rfl;have hcz32_4 : w28.cell? ⟨gb163,4,none⟩ = some (.bool a1_4):=(blk_cell BK163.out 4).trans rfl;have hfz32_0:=blk_frozen BK163.out 0;have hfz32_1:=blk_frozen BK163.out 1;have hfz32_2:=blk_frozen BK163.out 2;have hfz32_3:=blk_frozen BK163.out 3;have hfz32_4:=blk_frozen BK163.out 4;have hcz33_0 : w28.cell? ⟨gb164,0,none⟩ = some (.int .u64 0):=(blk_cell BK164.out 0).trans rfl;have hcz33_1 : w28.cell? ⟨gb164,1,none⟩ = some (.string (⟨#[]⟩ : ByteArray)):=(blk_cell BK164.out 1).trans rfl;have hcz33_2 : w28.cell? ⟨gb164,2,none⟩ = some (.string (⟨#[]⟩ : ByteArray)):=(blk_cell BK164.out 2).trans rfl;have hcz33_3 : w28.cell? ⟨gb164,3,none⟩ = some (.bool false):=(blk_cell BK164.out 3).trans rfl;have hfz33_0:=blk_frozen BK164.out 0;have hfz33_1:=blk_frozen BK164.out 1;have hfz33_2:=blk_frozen BK164.out 2;have hfz33_3:=blk_frozen BK164.out 3))
          refine bodyPost_ret (results_ct rfl _ _ gb164 45 #[.int .u64 0,.string (⟨#[]⟩ : ByteArray),.string (⟨#[]⟩ : ByteArray),.bool false] (0,0) _ rfl (by (with_reducible repeat (first | refine blk_drewN ?_ _ | refine blk_drew ?_ | refine blk_alloc ?_ _));refine blk_put (cs := #[.int .u64 0,.string (⟨#[]⟩ : ByteArray),.string (⟨#[]⟩ : ByteArray),.bool false]) ?_ 3 _ rfl;(with_reducible repeat (first | refine blk_drewN ?_ _ | refine blk_drew ?_ | refine blk_alloc ?_ _));refine blk_put (cs := #[.int .u64 0,.string (⟨#[]⟩ : ByteArray),.string (⟨#[]⟩ : ByteArray),.bool false]) ?_ 2 _ rfl;(with_reducible repeat (first | refine blk_drewN ?_ _ | refine blk_drew ?_ | refine blk_alloc ?_ _));refine blk_put (cs := #[.int .u64 0,.string (⟨#[]⟩ : ByteArray),.string (⟨#[]⟩ : ByteArray),.bool false]) ?_ 1 _ rfl;(with_reducible repeat (first | refine blk_drewN ?_ _ | refine blk_drew ?_ | refine blk_alloc ?_ _));refine blk_put (cs := #[.int .u64 0,.string (⟨#[]⟩ : ByteArray),.string (⟨#[]⟩ : ByteArray),.bool false]) ?_ 0 _ rfl;(with_reducible repeat (first | refine blk_drewN ?_ _ | refine blk_drew ?_ | refine blk_alloc ?_ _));refine blk_far ?_ NB164_172.out _;(with_reducible repeat (first | refine blk_drewN ?_ _ | refine blk_drew ?_ | refine blk_alloc ?_ _));refine blk_far ?_ NB164_172.out _;(with_reducible repeat (first | refine blk_drewN ?_ _ | refine blk_drew ?_ | refine blk_alloc ?_ _));refine blk_far ?_ NB164_172.out _;(with_reducible repeat (first | refine blk_drewN ?_ _ | refine blk_drew ?_ | refine blk_alloc ?_ _));refine blk_far ?_ NB164_172.out _;(with_reducible repeat (first | refine blk_drewN ?_ _ | refine blk_drew ?_ | refine blk_alloc ?_ _));exact BK164.out) Try.underlying45 rfl (by kernel_rfl)) rfl ?_
          exact ⟨by first | rfl | (simp [errW_none,errW_some] <;> rfl) | (simp [*,errW_none,errW_some] <;> rfl) | (simp [errW_none,errW_some];exact isEmpty_bne _),by repeat (first | (with_reducible first | exact HB.out | apply below_alloc | apply pw_below_drewN | apply below_drew1 | refine below_set ?_ GE163.out | refine below_set ?_ GE164.out | refine below_set ?_ GE172.out) | exact HB.out)⟩
         ·rw [if_neg c24] at H
          have c24b0 : (!(a1_0.toList == t167.toList) || (!(a1_3 == t166) || (!(a1_4 == t169)))) = false:=by simpa using c24
          clear c24
          simp only [Option.some.injEq,Prod.mk.injEq] at H
          obtain ⟨rfl,rfl,rfl,rfl,rfl⟩:=H
          have hnb34:=NB163_164.out
          have hnc34:=NB164_163.out
          have hcz35_0 : wc.cell? ⟨gb163,0,none⟩ = some (.string a1_0):=(blk_cell BK163.out 0).trans rfl
          have hcz35_1 : wc.cell? ⟨gb163,1,none⟩ = some (.int .i64 a1_1):=(blk_cell BK163.out 1).trans rfl
          have hcz35_2 : wc.cell? ⟨gb163,2,none⟩ = some (.int .i64 a1_2):=(blk_cell BK163.out 2).trans rfl
          have hcz35_3 : wc.cell? ⟨gb163,3,none⟩ = some (.int .u64 a1_3):=(blk_cell BK163.out 3).trans rfl
          have hcz35_4 : wc.cell? ⟨gb163,4,none⟩ = some (.bool a1_4):=(blk_cell BK163.out 4).trans rfl
          have hfz35_0:=blk_frozen BK163.out 0
          have hfz35_1:=blk_frozen BK163.out 1
          have hfz35_2:=blk_frozen BK163.out 2
          have hfz35_3:=blk_frozen BK163.out 3
          have hfz35_4:=blk_frozen BK163.out 4
          go_wp2_with (first | ((with_reducible refine gate_callee (f:=44) rfl ?_);refine goesL_ (some 33) rfl rfl Try.func44 (by kernel_rfl) rfl #[.string (a0.extract (a1_1 : Int).toNat ((wrap64 (a1_1 + a1_2)) : Int).toNat)] rfl (by (try simp only [List.map_toArray,List.map_cons,List.map_nil]);first | done | rfl | (simp only [List.length_drop,List.length_take];rfl)) ?_;(with_reducible refine (record_Read.calls kj2 (a0.extract (a1_1 : Int).toNat ((wrap64 (a1_1 + a1_2)) : Int).toNat) t166 t167 t168 t169 t170 t171 _ A21.out).mono ?_);rintro e w36 ⟨rfl,hb⟩;refine ⟨_,rfl,?_⟩;have n0_:=Aside0.mk (blk_below (g:=gb163) (o := .cells #[.string a1_0,.int .i64 a1_1,.int .i64 a1_2,.int .u64 a1_3,.bool a1_4] 39 (0,0)) (by (with_reducible repeat (first | refine blk_drewN ?_ _ | refine blk_drew ?_ | refine blk_alloc ?_ _));exact BK163.out) hb);have n1_:=Aside0.mk (blk_below (g:=gb164) (o := .cells #[.int .u64 0,.string (⟨#[]⟩ : ByteArray),.string (⟨#[]⟩ : ByteArray),.bool false] 45 (0,0)) (by (with_reducible repeat (first | refine blk_drewN ?_ _ | refine blk_drew ?_ | refine blk_alloc ?_ _));exact BK164.out) hb);have n2_:=Aside0.mk (below_step (by repeat (first | (with_reducible first | exact HB.out | apply below_alloc | apply pw_below_drewN | apply below_drew1 | refine below_set ?_ GE163.out | refine below_set ?_ GE164.out) | exact HB.out)) hb);clear BK163;clear BK164;clear HB;have BK163:=n0_;have BK164:=n1_;have HB:=n2_;clear n0_ n1_ n2_;(try clear hb);(try clear hb2);(try clear hk);(try clear hi)) | ((with_reducible refine gate_dst (N:=6) rfl ?_);(try (refine gate_guard (by rfl) ?_;dsimp only));refine box_event ?hg (N:=6) ?hd (cs := #[.int .u64 0,.string (⟨#[]⟩ : ByteArray),.string (⟨#[]⟩ : ByteArray),.bool false]) (t:=45) ?hr ?_;(case hd => rfl);(case hg => rfl);(case hr => first | (go_simp;done) | (go_simp;rfl));intro gb172 hg w37 hbox hb;have n0_:=Aside0.mk (blk_below (g:=gb163) (o := .cells #[.string a1_0,.int .i64 a1_1,.int .i64 a1_2,.int .u64 a1_3,.bool a1_4] 39 (0,0)) (by (with_reducible repeat (first | refine blk_drewN ?_ _ | refine blk_drew ?_ | refine blk_alloc ?_ _));exact BK163.out) hb);have n1_:=Aside0.mk (blk_below (g:=gb164) (o := .cells #[.int .u64 0,.string (⟨#[]⟩ : ByteArray),.string (⟨#[]⟩ : ByteArray),.bool false] 45 (0,0)) (by (with_reducible repeat (first | refine blk_drewN ?_ _ | refine blk_drew ?_ | refine blk_alloc ?_ _));exact BK164.out) hb);have n2_:=Aside0.mk (below_step (by repeat (first | (with_reducible first | exact HB.out | apply below_alloc | apply pw_below_drewN | apply below_drew1 | refine below_set ?_ GE163.out | refine below_set ?_ GE164.out) | exact HB.out)) hb);have n3_:=Aside0.mk (hbox);have n4_:=Aside0.mk ((by rw [hg];exact (below_size (by repeat (first | (with_reducible first | exact HB.out | apply below_alloc | apply pw_below_drewN | apply below_drew1 | refine below_set ?_ GE163.out | refine below_set ?_ GE164.out) | exact HB.out))) : w.heap.size ≤ gb172));have n5_:=Aside0.mk ((by rw [hg];exact (below_size (by repeat (first | (with_reducible first | exact HB.out | apply below_alloc | apply pw_below_drewN | apply below_drew1 | refine below_set ?_ GE163.out | refine below_set ?_ GE164.out) | exact HB.out))) : w.heap.size ≤ gb172));have n6_:=Aside0.mk ((by rw [hg];exact Nat.ne_of_lt (blk_lt (g:=gb163) (o := .cells #[.string a1_0,.int .i64 a1_1,.int .i64 a1_2,.int .u64 a1_3,.bool a1_4] 39 (0,0)) (by (with_reducible repeat (first | refine blk_drewN ?_ _ | refine blk_drew ?_ | refine blk_alloc ?_ _));exact BK163.out)) : gb163 ≠ gb172));have n7_:=Aside0.mk ((by rw [hg];exact Nat.ne_of_gt (blk_lt (g:=gb163) (o := .cells #[.string a1_0,.int .i64 a1_1,.int .i64 a1_2,.int .u64 a1_3,.bool a1_4] 39 (0,0)) (by (with_reducible repeat (first | refine blk_drewN ?_ _ | refine blk_drew ?_ | refine blk_alloc ?_ _));exact BK163.out)) : gb172 ≠ gb163));have n8_:=Aside0.mk ((by rw [hg];exact Nat.ne_of_lt (blk_lt (g:=gb164) (o := .cells #[.int .u64 0,.string (⟨#[]⟩ : ByteArray),.string (⟨#[]⟩ : ByteArray),.bool false] 45 (0,0)) (by (with_reducible repeat (first | refine blk_drewN ?_ _ | refine blk_drew ?_ | refine blk_alloc ?_ _));exact BK164.out)) : gb164 ≠ gb172));have n9_:=Aside0.mk ((by rw [hg];exact Nat.ne_of_gt (blk_lt (g:=gb164) (o := .cells #[.int .u64 0,.string (⟨#[]⟩ : ByteArray),.string (⟨#[]⟩ : ByteArray),.bool false] 45 (0,0)) (by (with_reducible repeat (first | refine blk_drewN ?_ _ | refine blk_drew ?_ | refine blk_alloc ?_ _));exact BK164.out)) : gb172 ≠ gb164));clear BK163;clear BK164;clear HB;have BK163:=n0_;have BK164:=n1_;have HB:=n2_;have BK172:=n3_;have GW172:=n4_;have GE172:=n5_;have NB163_172:=n6_;have NB172_163:=n7_;have NB164_172:=n8_;have NB172_164:=n9_;clear n0_ n1_ n2_ n3_ n4_ n5_ n6_ n7_ n8_ n9_;clear hb hbox hg;have hnb38:=NB172_163.out;have hnc38:=NB163_172.out;have hnb39:=NB172_164.out;have hnc39:=NB164_172.out;have hcz40_0 : w37.cell? ⟨gb172,0,none⟩ = some (.int .u64 0):=(blk_cell BK172.out 0).trans rfl;have hcz40_1 : w37.cell? ⟨gb172,1,none⟩ = some (.string (⟨#[]⟩ : ByteArray)):=(blk_cell BK172.out 1).trans rfl;have hcz40_2 : w37.cell? ⟨gb172,2,none⟩ = some (.string (⟨#[]⟩ : ByteArray)):=(blk_cell BK172.out 2).trans rfl;have hcz40_3 : w37.cell? ⟨gb172,3,none⟩ = some (.bool false):=(blk_cell BK172.out 3).trans rfl;have hfz40_0:=blk_frozen BK172.out 0;have hfz40_1:=blk_frozen BK172.out 1;have hfz40_2:=blk_frozen BK172.out 2;have hfz40_3:=blk_frozen BK172.out 3;have hcz41_0 : w37.cell? ⟨gb163,0,none⟩ = some (.string a1_0):=(blk_cell BK163.out 0).trans rfl;have hcz41_1 : w37.cell? ⟨gb163,1,none⟩ = some (.int .i64 a1_1):=(blk_cell BK163.out 1).trans rfl;have hcz41_2 : w37.cell? ⟨gb163,2,none⟩ = some (.int .i64 a1_2):=(blk_cell BK163.out 2).trans rfl;have hcz41_3 : w37.cell? ⟨gb163,3,none⟩ = some (.int .u64 a1_3):=(blk_cell BK163.out 3).trans rfl;have hcz41_4 : w37.cell? ⟨gb163,4,none⟩ = some (.bool a1_4):=(blk_cell BK163.out 4).trans rfl;have hfz41_0:=blk_frozen BK163.out 0;have hfz41_1:=blk_frozen BK163.out 1;have hfz41_2:=blk_frozen BK163.out 2;have hfz41_3:=blk_frozen BK163.out 3;have hfz41_4:=blk_frozen BK163.out 4;have hcz42_0 : w37.cell? ⟨gb164,0,none⟩ = some (.int .u64 0):=(blk_cell BK164.out 0).trans rfl;have hcz42_1 : w37.cell? ⟨gb164,1,none⟩ = some (.string (⟨#[]⟩ : ByteArray)):=(blk_cell BK164.out 1).trans rfl;have hcz42_2 : w37.cell? ⟨gb164,2,none⟩ = some (.string (⟨#[]⟩ : ByteArray)):=(blk_cell BK164.out 2).trans rfl;have hcz42_3 : w37.cell? ⟨gb164,3,none⟩ = some (.bool false):=(blk_cell BK164.out 3).trans rfl;have hfz42_0:=blk_frozen BK164.out 0;have hfz42_1:=blk_frozen BK164.out 1;have hfz42_2:=blk_frozen BK164.out 2;have hfz42_3:=blk_frozen BK164.out 3))
          refine bodyPost_ret (results_ct rfl _ _ gb164 45 #[.int .u64 t166,.string t167,.string t168,.bool t169] (0,0) _ rfl (by (with_reducible repeat (first | refine blk_drewN ?_ _ | refine blk_drew ?_ | refine blk_alloc ?_ _));refine blk_put (cs := #[.int .u64 t166,.string t167,.string t168,.bool false]) ?_ 3 _ rfl;(with_reducible repeat (first | refine blk_drewN ?_ _ | refine blk_drew ?_ | refine blk_alloc ?_ _));refine blk_put (cs := #[.int .u64 t166,.string t167,.string (⟨#[]⟩ : ByteArray),.bool false]) ?_ 2 _ rfl;(with_reducible repeat (first | refine blk_drewN ?_ _ | refine blk_drew ?_ | refine blk_alloc ?_ _));refine blk_put (cs := #[.int .u64 t166,.string (⟨#[]⟩ : ByteArray),.string (⟨#[]⟩ : ByteArray),.bool false]) ?_ 1 _ rfl;(with_reducible repeat (first | refine blk_drewN ?_ _ | refine blk_drew ?_ | refine blk_alloc ?_ _));refine blk_put (cs := #[.int .u64 0,.string (⟨#[]⟩ : ByteArray),.string (⟨#[]⟩ : ByteArray),.bool false]) ?_ 0 _ rfl;(with_reducible repeat (first | refine blk_drewN ?_ _ | refine blk_drew ?_ | refine blk_alloc ?_ _));refine blk_far ?_ NB164_172.out _;(with_reducible repeat (first | refine blk_drewN ?_ _ | refine blk_drew ?_ | refine blk_alloc ?_ _));refine blk_far ?_ NB164_172.out _;(with_reducible repeat (first | refine blk_drewN ?_ _ | refine blk_drew ?_ | refine blk_alloc ?_ _));refine blk_far ?_ NB164_172.out _;(with_reducible repeat (first | refine blk_drewN ?_ _ | refine blk_drew ?_ | refine blk_alloc ?_ _));refine blk_far ?_ NB164_172.out _;(with_reducible repeat (first | refine blk_drewN ?_ _ | refine blk_drew ?_ | refine blk_alloc ?_ _));exact BK164.out) Try.underlying45 rfl (by kernel_rfl)) rfl ?_
          exact ⟨by first | rfl | (simp [errW_none,errW_some] <;> rfl) | (simp [*,errW_none,errW_some] <;> rfl) | (simp [errW_none,errW_some];exact isEmpty_bne _),by repeat (first | (with_reducible first | exact HB.out | apply below_alloc | apply pw_below_drewN | apply below_drew1 | refine below_set ?_ GE163.out | refine below_set ?_ GE164.out | refine below_set ?_ GE172.out) | exact HB.out)⟩
        ·rw [if_neg c23] at H
         have c23b0 : (t170.toList == ([] : List UInt8)) = false:=beq_eq_false_iff_ne.mpr c23
         have c23b1 : (t170.toList != ([] : List UInt8)) = true:=bne_iff_ne.mpr c23
         simp only [Option.some.injEq,Prod.mk.injEq] at H
         obtain ⟨rfl,rfl,rfl,rfl,rfl⟩:=H
         have hnb43:=NB163_164.out
         have hnc43:=NB164_163.out
         have hcz44_0 : wc.cell? ⟨gb163,0,none⟩ = some (.string a1_0):=(blk_cell BK163.out 0).trans rfl
         have hcz44_1 : wc.cell? ⟨gb163,1,none⟩ = some (.int .i64 a1_1):=(blk_cell BK163.out 1).trans rfl
         have hcz44_2 : wc.cell? ⟨gb163,2,none⟩ = some (.int .i64 a1_2):=(blk_cell BK163.out 2).trans rfl
         have hcz44_3 : wc.cell? ⟨gb163,3,none⟩ = some (.int .u64 a1_3):=(blk_cell BK163.out 3).trans rfl
         have hcz44_4 : wc.cell? ⟨gb163,4,none⟩ = some (.bool a1_4):=(blk_cell BK163.out 4).trans rfl
         have hfz44_0:=blk_frozen BK163.out 0
         have hfz44_1:=blk_frozen BK163.out 1
         have hfz44_2:=blk_frozen BK163.out 2
         have hfz44_3:=blk_frozen BK163.out 3
         have hfz44_4:=blk_frozen BK163.out 4
         go_wp2_with (first | ((with_reducible refine gate_callee (f:=44) rfl ?_);refine goesL_ (some 33) rfl rfl Try.func44 (by kernel_rfl) rfl #[.string (a0.extract (a1_1 : Int).toNat ((wrap64 (a1_1 + a1_2)) : Int).toNat)] rfl (by (try simp only [List.map_toArray,List.map_cons,List.map_nil]);first | done | rfl | (simp only [List.length_drop,List.length_take];rfl)) ?_;(with_reducible refine (record_Read.calls kj2 (a0.extract (a1_1 : Int).toNat ((wrap64 (a1_1 + a1_2)) : Int).toNat) t166 t167 t168 t169 t170 t171 _ A21.out).mono ?_);rintro e w45 ⟨rfl,hb⟩;refine ⟨_,rfl,?_⟩;have n0_:=Aside0.mk (blk_below (g:=gb163) (o := .cells #[.string a1_0,.int .i64 a1_1,.int .i64 a1_2,.int .u64 a1_3,.bool a1_4] 39 (0,0)) (by (with_reducible repeat (first | refine blk_drewN ?_ _ | refine blk_drew ?_ | refine blk_alloc ?_ _));exact BK163.out) hb);have n1_:=Aside0.mk (blk_below (g:=gb164) (o := .cells #[.int .u64 0,.string (⟨#[]⟩ : ByteArray),.string (⟨#[]⟩ : ByteArray),.bool false] 45 (0,0)) (by (with_reducible repeat (first | refine blk_drewN ?_ _ | refine blk_drew ?_ | refine blk_alloc ?_ _));exact BK164.out) hb);have n2_:=Aside0.mk (below_step (by repeat (first | (with_reducible first | exact HB.out | apply below_alloc | apply pw_below_drewN | apply below_drew1 | refine below_set ?_ GE163.out | refine below_set ?_ GE164.out) | exact HB.out)) hb);clear BK163;clear BK164;clear HB;have BK163:=n0_;have BK164:=n1_;have HB:=n2_;clear n0_ n1_ n2_;(try clear hb);(try clear hb2);(try clear hk);(try clear hi)) | ((with_reducible refine gate_dst (N:=6) rfl ?_);(try (refine gate_guard (by rfl) ?_;dsimp only));refine box_event ?hg (N:=6) ?hd (cs := #[.int .u64 0,.string (⟨#[]⟩ : ByteArray),.string (⟨#[]⟩ : ByteArray),.bool false]) (t:=45) ?hr ?_;(case hd => rfl);(case hg => rfl);(case hr => first | (go_simp;done) | (go_simp;rfl));intro gb172 hg w46 hbox hb;have n0_:=Aside0.mk (blk_below (g:=gb163) (o := .cells #[.string a1_0,.int .i64 a1_1,.int .i64 a1_2,.int .u64 a1_3,.bool a1_4] 39 (0,0)) (by (with_reducible repeat (first | refine blk_drewN ?_ _ | refine blk_drew ?_ | refine blk_alloc ?_ _));exact BK163.out) hb);have n1_:=Aside0.mk (blk_below (g:=gb164) (o := .cells #[.int .u64 0,.string (⟨#[]⟩ : ByteArray),.string (⟨#[]⟩ : ByteArray),.bool false] 45 (0,0)) (by (with_reducible repeat (first | refine blk_drewN ?_ _ | refine blk_drew ?_ | refine blk_alloc ?_ _));exact BK164.out) hb);have n2_:=Aside0.mk (below_step (by repeat (first | (with_reducible first | exact HB.out | apply below_alloc | apply pw_below_drewN | apply below_drew1 | refine below_set ?_ GE163.out | refine below_set ?_ GE164.out) | exact HB.out)) hb);have n3_:=Aside0.mk (hbox);have n4_:=Aside0.mk ((by rw [hg];exact (below_size (by repeat (first | (with_reducible first | exact HB.out | apply below_alloc | apply pw_below_drewN | apply below_drew1 | refine below_set ?_ GE163.out | refine below_set ?_ GE164.out) | exact HB.out))) : w.heap.size ≤ gb172));have n5_:=Aside0.mk ((by rw [hg];exact (below_size (by repeat (first | (with_reducible first | exact HB.out | apply below_alloc | apply pw_below_drewN | apply below_drew1 | refine below_set ?_ GE163.out | refine below_set ?_ GE164.out) | exact HB.out))) : w.heap.size ≤ gb172));have n6_:=Aside0.mk ((by rw [hg];exact Nat.ne_of_lt (blk_lt (g:=gb163) (o := .cells #[.string a1_0,.int .i64 a1_1,.int .i64 a1_2,.int .u64 a1_3,.bool a1_4] 39 (0,0)) (by (with_reducible repeat (first | refine blk_drewN ?_ _ | refine blk_drew ?_ | refine blk_alloc ?_ _));exact BK163.out)) : gb163 ≠ gb172));have n7_:=Aside0.mk ((by rw [hg];exact Nat.ne_of_gt (blk_lt (g:=gb163) (o := .cells #[.string a1_0,.int .i64 a1_1,.int .i64 a1_2,.int .u64 a1_3,.bool a1_4] 39 (0,0)) (by (with_reducible repeat (first | refine blk_drewN ?_ _ | refine blk_drew ?_ | refine blk_alloc ?_ _));exact BK163.out)) : gb172 ≠ gb163));have n8_:=Aside0.mk ((by rw [hg];exact Nat.ne_of_lt (blk_lt (g:=gb164) (o := .cells #[.int .u64 0,.string (⟨#[]⟩ : ByteArray),.string (⟨#[]⟩ : ByteArray),.bool false] 45 (0,0)) (by (with_reducible repeat (first | refine blk_drewN ?_ _ | refine blk_drew ?_ | refine blk_alloc ?_ _));exact BK164.out)) : gb164 ≠ gb172));have n9_:=Aside0.mk ((by rw [hg];exact Nat.ne_of_gt (blk_lt (g:=gb164) (o := .cells #[.int .u64 0,.string (⟨#[]⟩ : ByteArray),.string (⟨#[]⟩ : ByteArray),.bool false] 45 (0,0)) (by (with_reducible repeat (first | refine blk_drewN ?_ _ | refine blk_drew ?_ | refine blk_alloc ?_ _));exact BK164.out)) : gb172 ≠ gb164));clear BK163;clear BK164;clear HB;have BK163:=n0_;have BK164:=n1_;have HB:=n2_;have BK172:=n3_;have GW172:=n4_;have GE172:=n5_;have NB163_172:=n6_;have NB172_163:=n7_;have NB164_172:=n8_;have NB172_164:=n9_;clear n0_ n1_ n2_ n3_ n4_ n5_ n6_ n7_ n8_ n9_;clear hb hbox hg;have hnb47:=NB172_163.out;have hnc47:=NB163_172.out;have hnb48:=NB172_164.out;have hnc48:=NB164_172.out;have hcz49_0 : w46.cell? ⟨gb172,0,none⟩ = some (.int .u64 0):=(blk_cell BK172.out 0).trans rfl;have hcz49_1 : w46.cell? ⟨gb172,1,none⟩ = some (.string (⟨#[]⟩ : ByteArray)):=(blk_cell BK172.out 1).trans rfl;have hcz49_2 : w46.cell? ⟨gb172,2,none⟩ = some (.string (⟨#[]⟩ : ByteArray)):=(blk_cell BK172.out 2).trans rfl;have hcz49_3 : w46.cell? ⟨gb172,3,none⟩ = some (.bool false):=(blk_cell BK172.out 3).trans rfl;have hfz49_0:=blk_frozen BK172.out 0;have hfz49_1:=blk_frozen BK172.out 1;have hfz49_2:=blk_frozen BK172.out 2;have hfz49_3:=blk_frozen BK172.out 3;have hcz50_0 : w46.cell? ⟨gb164,0,none⟩ = some (.int .u64 0):=(blk_cell BK164.out 0).trans rfl;have hcz50_1 : w46.cell? ⟨gb164,1,none⟩ = some (.string (⟨#[]⟩ : ByteArray)):=(blk_cell BK164.out 1).trans rfl;have hcz50_2 : w46.cell? ⟨gb164,2,none⟩ = some (.string (⟨#[]⟩ : ByteArray)):=(blk_cell BK164.out 2).trans rfl;have hcz50_3 : w46.cell? ⟨gb164,3,none⟩ = some (.bool false):=(blk_cell BK164.out 3).trans rfl;have hfz50_0:=blk_frozen BK164.out 0;have hfz50_1:=blk_frozen BK164.out 1;have hfz50_2:=blk_frozen BK164.out 2;have hfz50_3:=blk_frozen BK164.out 3))
         refine bodyPost_ret (results_ct rfl _ _ gb164 45 #[.int .u64 0,.string (⟨#[]⟩ : ByteArray),.string (⟨#[]⟩ : ByteArray),.bool false] (0,0) _ rfl (by (with_reducible repeat (first | refine blk_drewN ?_ _ | refine blk_drew ?_ | refine blk_alloc ?_ _));refine blk_put (cs := #[.int .u64 0,.string (⟨#[]⟩ : ByteArray),.string (⟨#[]⟩ : ByteArray),.bool false]) ?_ 3 _ rfl;(with_reducible repeat (first | refine blk_drewN ?_ _ | refine blk_drew ?_ | refine blk_alloc ?_ _));refine blk_put (cs := #[.int .u64 0,.string (⟨#[]⟩ : ByteArray),.string (⟨#[]⟩ : ByteArray),.bool false]) ?_ 2 _ rfl;(with_reducible repeat (first | refine blk_drewN ?_ _ | refine blk_drew ?_ | refine blk_alloc ?_ _));refine blk_put (cs := #[.int .u64 0,.string (⟨#[]⟩ : ByteArray),.string (⟨#[]⟩ : ByteArray),.bool false]) ?_ 1 _ rfl;(with_reducible repeat (first | refine blk_drewN ?_ _ | refine blk_drew ?_ | refine blk_alloc ?_ _));refine blk_put (cs := #[.int .u64 0,.string (⟨#[]⟩ : ByteArray),.string (⟨#[]⟩ : ByteArray),.bool false]) ?_ 0 _ rfl;(with_reducible repeat (first | refine blk_drewN ?_ _ | refine blk_drew ?_ | refine blk_alloc ?_ _));refine blk_far ?_ NB164_172.out _;(with_reducible repeat (first | refine blk_drewN ?_ _ | refine blk_drew ?_ | refine blk_alloc ?_ _));refine blk_far ?_ NB164_172.out _;(with_reducible repeat (first | refine blk_drewN ?_ _ | refine blk_drew ?_ | refine blk_alloc ?_ _));refine blk_far ?_ NB164_172.out _;(with_reducible repeat (first | refine blk_drewN ?_ _ | refine blk_drew ?_ | refine blk_alloc ?_ _));refine blk_far ?_ NB164_172.out _;(with_reducible repeat (first | refine blk_drewN ?_ _ | refine blk_drew ?_ | refine blk_alloc ?_ _));exact BK164.out) Try.underlying45 rfl (by kernel_rfl)) rfl ?_
         exact ⟨by first | rfl | (simp [errW_none,errW_some] <;> rfl) | (simp [*,errW_none,errW_some] <;> rfl) | (simp [errW_none,errW_some];exact isEmpty_bne _),by repeat (first | (with_reducible first | exact HB.out | apply below_alloc | apply pw_below_drewN | apply below_drew1 | refine below_set ?_ GE163.out | refine below_set ?_ GE164.out | refine below_set ?_ GE172.out) | exact HB.out)⟩
       ·rw [if_neg c22] at H
        have c22b0 : (t171 == 0) = false:=beq_eq_false_iff_ne.mpr c22
        have c22b1 : (t171 != 0) = true:=bne_iff_ne.mpr c22
        simp only [Option.some.injEq,Prod.mk.injEq] at H
        obtain ⟨rfl,rfl,rfl,rfl,rfl⟩:=H
        have hnb51:=NB163_164.out
        have hnc51:=NB164_163.out
        have hcz52_0 : wc.cell? ⟨gb163,0,none⟩ = some (.string a1_0):=(blk_cell BK163.out 0).trans rfl
        have hcz52_1 : wc.cell? ⟨gb163,1,none⟩ = some (.int .i64 a1_1):=(blk_cell BK163.out 1).trans rfl
        have hcz52_2 : wc.cell? ⟨gb163,2,none⟩ = some (.int .i64 a1_2):=(blk_cell BK163.out 2).trans rfl
        have hcz52_3 : wc.cell? ⟨gb163,3,none⟩ = some (.int .u64 a1_3):=(blk_cell BK163.out 3).trans rfl
        have hcz52_4 : wc.cell? ⟨gb163,4,none⟩ = some (.bool a1_4):=(blk_cell BK163.out 4).trans rfl
        have hfz52_0:=blk_frozen BK163.out 0
        have hfz52_1:=blk_frozen BK163.out 1
        have hfz52_2:=blk_frozen BK163.out 2
        have hfz52_3:=blk_frozen BK163.out 3
        have hfz52_4:=blk_frozen BK163.out 4
        go_wp2_with (first | ((with_reducible refine gate_callee (f:=44) rfl ?_);refine goesL_ (some 33) rfl rfl Try.func44 (by kernel_rfl) rfl #[.string (a0.extract (a1_1 : Int).toNat ((wrap64 (a1_1 + a1_2)) : Int).toNat)] rfl (by (try simp only [List.map_toArray,List.map_cons,List.map_nil]);first | done | rfl | (simp only [List.length_drop,List.length_take];rfl)) ?_;(with_reducible refine (record_Read.calls kj2 (a0.extract (a1_1 : Int).toNat ((wrap64 (a1_1 + a1_2)) : Int).toNat) t166 t167 t168 t169 t170 t171 _ A21.out).mono ?_);rintro e w53 ⟨rfl,hb⟩;refine ⟨_,rfl,?_⟩;have n0_:=Aside0.mk (blk_below (g:=gb163) (o := .cells #[.string a1_0,.int .i64 a1_1,.int .i64 a1_2,.int .u64 a1_3,.bool a1_4] 39 (0,0)) (by (with_reducible repeat (first | refine blk_drewN ?_ _ | refine blk_drew ?_ | refine blk_alloc ?_ _));exact BK163.out) hb);have n1_:=Aside0.mk (blk_below (g:=gb164) (o := .cells #[.int .u64 0,.string (⟨#[]⟩ : ByteArray),.string (⟨#[]⟩ : ByteArray),.bool false] 45 (0,0)) (by (with_reducible repeat (first | refine blk_drewN ?_ _ | refine blk_drew ?_ | refine blk_alloc ?_ _));exact BK164.out) hb);have n2_:=Aside0.mk (below_step (by repeat (first | (with_reducible first | exact HB.out | apply below_alloc | apply pw_below_drewN | apply below_drew1 | refine below_set ?_ GE163.out | refine below_set ?_ GE164.out) | exact HB.out)) hb);clear BK163;clear BK164;clear HB;have BK163:=n0_;have BK164:=n1_;have HB:=n2_;clear n0_ n1_ n2_;(try clear hb);(try clear hb2);(try clear hk);(try clear hi)) | ((with_reducible refine gate_dst (N:=6) rfl ?_);(try (refine gate_guard (by rfl) ?_;dsimp only));refine box_event ?hg (N:=6) ?hd (cs := #[.int .u64 0,.string (⟨#[]⟩ : ByteArray),.string (⟨#[]⟩ : ByteArray),.bool false]) (t:=45) ?hr ?_;(case hd => rfl);(case hg => rfl);(case hr => first | (go_simp;done) | (go_simp;rfl));intro gb172 hg w54 hbox hb;have n0_:=Aside0.mk (blk_below (g:=gb163) (o := .cells #[.string a1_0,.int .i64 a1_1,.int .i64 a1_2,.int .u64 a1_3,.bool a1_4] 39 (0,0)) (by (with_reducible repeat (first | refine blk_drewN ?_ _ | refine blk_drew ?_ | refine blk_alloc ?_ _));exact BK163.out) hb);have n1_:=Aside0.mk (blk_below (g:=gb164) (o := .cells #[.int .u64 0,.string (⟨#[]⟩ : ByteArray),.string (⟨#[]⟩ : ByteArray),.bool false] 45 (0,0)) (by (with_reducible repeat (first | refine blk_drewN ?_ _ | refine blk_drew ?_ | refine blk_alloc ?_ _));exact BK164.out) hb);have n2_:=Aside0.mk (below_step (by repeat (first | (with_reducible first | exact HB.out | apply below_alloc | apply pw_below_drewN | apply below_drew1 | refine below_set ?_ GE163.out | refine below_set ?_ GE164.out) | exact HB.out)) hb);have n3_:=Aside0.mk (hbox);have n4_:=Aside0.mk ((by rw [hg];exact (below_size (by repeat (first | (with_reducible first | exact HB.out | apply below_alloc | apply pw_below_drewN | apply below_drew1 | refine below_set ?_ GE163.out | refine below_set ?_ GE164.out) | exact HB.out))) : w.heap.size ≤ gb172));have n5_:=Aside0.mk ((by rw [hg];exact (below_size (by repeat (first | (with_reducible first | exact HB.out | apply below_alloc | apply pw_below_drewN | apply below_drew1 | refine below_set ?_ GE163.out | refine below_set ?_ GE164.out) | exact HB.out))) : w.heap.size ≤ gb172));have n6_:=Aside0.mk ((by rw [hg];exact Nat.ne_of_lt (blk_lt (g:=gb163) (o := .cells #[.string a1_0,.int .i64 a1_1,.int .i64 a1_2,.int .u64 a1_3,.bool a1_4] 39 (0,0)) (by (with_reducible repeat (first | refine blk_drewN ?_ _ | refine blk_drew ?_ | refine blk_alloc ?_ _));exact BK163.out)) : gb163 ≠ gb172));have n7_:=Aside0.mk ((by rw [hg];exact Nat.ne_of_gt (blk_lt (g:=gb163) (o := .cells #[.string a1_0,.int .i64 a1_1,.int .i64 a1_2,.int .u64 a1_3,.bool a1_4] 39 (0,0)) (by (with_reducible repeat (first | refine blk_drewN ?_ _ | refine blk_drew ?_ | refine blk_alloc ?_ _));exact BK163.out)) : gb172 ≠ gb163));have n8_:=Aside0.mk ((by rw [hg];exact Nat.ne_of_lt (blk_lt (g:=gb164) (o := .cells #[.int .u64 0,.string (⟨#[]⟩ : ByteArray),.string (⟨#[]⟩ : ByteArray),.bool false] 45 (0,0)) (by (with_reducible repeat (first | refine blk_drewN ?_ _ | refine blk_drew ?_ | refine blk_alloc ?_ _));exact BK164.out)) : gb164 ≠ gb172));have n9_:=Aside0.mk ((by rw [hg];exact Nat.ne_of_gt (blk_lt (g:=gb164) (o := .cells #[.int .u64 0,.string (⟨#[]⟩ : ByteArray),.string (⟨#[]⟩ : ByteArray),.bool false] 45 (0,0)) (by (with_reducible repeat (first | refine blk_drewN ?_ _ | refine blk_drew ?_ | refine blk_alloc ?_ _));exact BK164.out)) : gb172 ≠ gb164));clear BK163;clear BK164;clear HB;have BK163:=n0_;have BK164:=n1_;have HB:=n2_;have BK172:=n3_;have GW172:=n4_;have GE172:=n5_;have NB163_172:=n6_;have NB172_163:=n7_;have NB164_172:=n8_;have NB172_164:=n9_;clear n0_ n1_ n2_ n3_ n4_ n5_ n6_ n7_ n8_ n9_;clear hb hbox hg;have hnb55:=NB172_163.out;have hnc55:=NB163_172.out;have hnb56:=NB172_164.out;have hnc56:=NB164_172.out;have hcz57_0 : w54.cell? ⟨gb172,0,none⟩ = some (.int .u64 0):=(blk_cell BK172.out 0).trans rfl;have hcz57_1 : w54.cell? ⟨gb172,1,none⟩ = some (.string (⟨#[]⟩ : ByteArray)):=(blk_cell BK172.out 1).trans rfl;have hcz57_2 : w54.cell? ⟨gb172,2,none⟩ = some (.string (⟨#[]⟩ : ByteArray)):=(blk_cell BK172.out 2).trans rfl;have hcz57_3 : w54.cell? ⟨gb172,3,none⟩ = some (.bool false):=(blk_cell BK172.out 3).trans rfl;have hfz57_0:=blk_frozen BK172.out 0;have hfz57_1:=blk_frozen BK172.out 1;have hfz57_2:=blk_frozen BK172.out 2;have hfz57_3:=blk_frozen BK172.out 3;have hcz58_0 : w54.cell? ⟨gb164,0,none⟩ = some (.int .u64 0):=(blk_cell BK164.out 0).trans rfl;have hcz58_1 : w54.cell? ⟨gb164,1,none⟩ = some (.string (⟨#[]⟩ : ByteArray)):=(blk_cell BK164.out 1).trans rfl;have hcz58_2 : w54.cell? ⟨gb164,2,none⟩ = some (.string (⟨#[]⟩ : ByteArray)):=(blk_cell BK164.out 2).trans rfl;have hcz58_3 : w54.cell? ⟨gb164,3,none⟩ = some (.bool false):=(blk_cell BK164.out 3).trans rfl;have hfz58_0:=blk_frozen BK164.out 0;have hfz58_1:=blk_frozen BK164.out 1;have hfz58_2:=blk_frozen BK164.out 2;have hfz58_3:=blk_frozen BK164.out 3))
        refine bodyPost_ret (results_ct rfl _ _ gb164 45 #[.int .u64 0,.string (⟨#[]⟩ : ByteArray),.string (⟨#[]⟩ : ByteArray),.bool false] (0,0) _ rfl (by (with_reducible repeat (first | refine blk_drewN ?_ _ | refine blk_drew ?_ | refine blk_alloc ?_ _));refine blk_put (cs := #[.int .u64 0,.string (⟨#[]⟩ : ByteArray),.string (⟨#[]⟩ : ByteArray),.bool false]) ?_ 3 _ rfl;(with_reducible repeat (first | refine blk_drewN ?_ _ | refine blk_drew ?_ | refine blk_alloc ?_ _));refine blk_put (cs := #[.int .u64 0,.string (⟨#[]⟩ : ByteArray),.string (⟨#[]⟩ : ByteArray),.bool false]) ?_ 2 _ rfl;(with_reducible repeat (first | refine blk_drewN ?_ _ | refine blk_drew ?_ | refine blk_alloc ?_ _));refine blk_put (cs := #[.int .u64 0,.string (⟨#[]⟩ : ByteArray),.string (⟨#[]⟩ : ByteArray),.bool false]) ?_ 1 _ rfl;(with_reducible repeat (first | refine blk_drewN ?_ _ | refine blk_drew ?_ | refine blk_alloc ?_ _));refine blk_put (cs := #[.int .u64 0,.string (⟨#[]⟩ : ByteArray),.string (⟨#[]⟩ : ByteArray),.bool false]) ?_ 0 _ rfl;(with_reducible repeat (first | refine blk_drewN ?_ _ | refine blk_drew ?_ | refine blk_alloc ?_ _));refine blk_far ?_ NB164_172.out _;(with_reducible repeat (first | refine blk_drewN ?_ _ | refine blk_drew ?_ | refine blk_alloc ?_ _));refine blk_far ?_ NB164_172.out _;(with_reducible repeat (first | refine blk_drewN ?_ _ | refine blk_drew ?_ | refine blk_alloc ?_ _));refine blk_far ?_ NB164_172.out _;(with_reducible repeat (first | refine blk_drewN ?_ _ | refine blk_drew ?_ | refine blk_alloc ?_ _));refine blk_far ?_ NB164_172.out _;(with_reducible repeat (first | refine blk_drewN ?_ _ | refine blk_drew ?_ | refine blk_alloc ?_ _));exact BK164.out) Try.underlying45 rfl (by kernel_rfl)) rfl ?_
        exact ⟨by first | rfl | (simp [errW_none,errW_some] <;> rfl) | (simp [*,errW_none,errW_some] <;> rfl) | (simp [errW_none,errW_some];exact isEmpty_bne _),by repeat (first | (with_reducible first | exact HB.out | apply below_alloc | apply pw_below_drewN | apply below_drew1 | refine below_set ?_ GE163.out | refine below_set ?_ GE164.out | refine below_set ?_ GE172.out) | exact HB.out)⟩
      ·rw [if_neg c20] at H
       exact absurd H (by simp)
     ·rw [if_neg c19] at H
      exact absurd H (by simp)
    ·rw [if_neg c18] at H
     exact absurd H (by simp)

/-! ### record_All: function 48 -/
def record_All.l0 : Nat → ByteArray → List (S45) → Int → Int → Option (ByteArray × Int)
 | 0,_,_,_,_ => none
 | k + 1,x4,x9,x10,x11 => if x11 < x10 then (if 0 ≤ x11 then (if x11 < (x9.length : Int) then ((record_Bytes.f k ((rd_T45 x9 x11).f0) ((rd_T45 x9 x11).f1) ((rd_T45 x9 x11).f2) ((rd_T45 x9 x11).f3)).bind fun bt175 => (if bt175.2 = 0 then (if x4.size + bt175.1.size ≤ 9223372036854775807 then (record_All.l0 k (x4 ++ bt175.1) x9 x10 (wrap64 (x11 + 1))) else (none)) else (some ((⟨#[]⟩ : ByteArray),bt175.2)))) else (none)) else (none)) else (some (x4,0))
def record_All.f (k : Nat) (l0 : List (S45)) : Option (ByteArray × Int):=record_All.l0 k (⟨#[]⟩ : ByteArray) l0 (l0.length : Int) 0
theorem record_All.mono_l : ∀ k,(∀ y0 y1 y2 y3,LeO (record_All.l0 k y0 y1 y2 y3) (record_All.l0 (k + 1) y0 y1 y2 y3))
 | 0 => fun _ _ _ _ r h => by simp [record_All.l0] at h
 | k + 1 => by
  have ih0:=record_All.mono_l k
  ·intro y0 y1 y2 y3
   unfold record_All.l0
   repeat' first
   | (with_reducible exact ih0 _ _ _ _)
   | (with_reducible exact record_Bytes.mono _ _ _ _ _)
   | (with_reducible exact LeO.refl _)
   | (with_reducible exact LeO.none _)
   | (with_reducible refine LeO.ite ?_ ?_)
   | (with_reducible refine LeO.bind ?_ (fun _ => ?_))
   | exact ih0 _ _ _ _
   | exact record_Bytes.mono _ _ _ _ _
   | exact LeO.none _
   | refine LeO.ite ?_ ?_
   | refine LeO.bind ?_ (fun _ => ?_)
theorem record_All.mono : ∀ a0 k,LeO (record_All.f k a0) (record_All.f (k + 1) a0):=by
 intro a0 k
 have ih0:=record_All.mono_l k
 unfold record_All.f
 repeat' first
   | (with_reducible exact ih0 _ _ _ _)
   | (with_reducible exact record_Bytes.mono _ _ _ _ _)
   | (with_reducible exact LeO.refl _)
   | (with_reducible exact LeO.none _)
   | (with_reducible refine LeO.ite ?_ ?_)
   | (with_reducible refine LeO.bind ?_ (fun _ => ?_))
   | exact ih0 _ _ _ _
   | exact record_Bytes.mono _ _ _ _ _
   | exact LeO.none _
   | refine LeO.ite ?_ ?_
   | refine LeO.bind ?_ (fun _ => ?_)
set_option maxHeartbeats 8000000 in
set_option maxRecDepth 100000 in
theorem record_All.calls (k : Nat) (A0 : Option Addr) (c0 : Nat) (l0 : List (S45)) (r1 : ByteArray) (r2 : Int) (w : World) (hr0 : Kd.C k45 w A0 l0.length l0) (hc0 : l0.length ≤ c0) (h : record_All.f k l0 = some (r1,r2)) :
  Calls Try.prog 48 #[.slice A0 l0.length c0] w fun e w' => e = .returned (.tuple #[.string r1,.int .i64 r2]) ∧ Below w.heap.size w w' := by
 have hu45:=Try.underlying45
 have HR0:=Aside0.mk hr0
 have HC0:=Aside0.mk hc0
 clear hr0 hc0
 have HB:=Aside0.mk (Below.refl w.heap.size w)
 have H : (record_All.l0 k (⟨#[]⟩ : ByteArray) l0 (l0.length : Int) 0) = some (r1,r2):=h
 clear h
 have H' := Aside0.mk H
 clear H
 go_enter Try.func48,Try.ntmps48
 go_wp2
 go_loopg [4,11] k (fun kq v4 v11 w' => ∃ (x4_1 : ByteArray) (x11_1 : Int),v4 = .string x4_1 ∧ v11 = .int .i64 x11_1 ∧ Aside0 (record_All.l0 kq x4_1 l0 (l0.length : Int) x11_1 = some (r1,r2)) ∧ Aside0 (kq ≤ k) ∧ Aside0 (Below w.heap.size w w'))
 case atStart => exact ⟨((⟨#[]⟩ : ByteArray)),(0),(by first | rfl | (simp;done) | (simp [*];done)),(by first | rfl | (simp;done) | (simp [*];done)),H',⟨Nat.le_refl _⟩,⟨by repeat (first | (with_reducible first | exact HB.out | apply below_alloc | apply pw_below_drewN | apply below_drew1) | exact HB.out)⟩⟩
 case round =>
  clear H'
  obtain ⟨x4_1,x11_1,rfl,rfl,HA,HK1,HB⟩:=hrel
  cases gk with
  | zero => exact absurd HA.out (by simp [record_All.l0])
  | succ k1 =>
   have H:=HA.out
   clear HA
   simp only [record_All.l0] at H
   by_cases c2 : x11_1 < (l0.length : Int)
   ·rw [if_pos c2] at H
    have c2b0 : decide (x11_1 < (l0.length : Int)) = true:=decide_eq_true c2
    clear c2
    by_cases c3 : 0 ≤ x11_1
    ·rw [if_pos c3] at H
     have c3b0 : decide (0 ≤ x11_1) = true:=decide_eq_true c3
     clear c3
     by_cases c4 : x11_1 < (l0.length : Int)
     ·rw [if_pos c4] at H
      have c4b0 : decide (x11_1 < (l0.length : Int)) = true:=decide_eq_true c4
      clear c4
      replace H:=Option.bind_eq_some_iff.mp H
      obtain ⟨⟨t175,t176⟩,A50,H⟩:=H
      replace H : (if t176 = 0 then (if x4_1.size + t175.size ≤ 9223372036854775807 then (record_All.l0 k1 (x4_1 ++ t175) l0 (l0.length : Int) (wrap64 (x11_1 + 1))) else (none)) else (some ((⟨#[]⟩ : ByteArray),t176))) = some (r1,r2):=H
      have A5:=Aside0.mk A50
      clear A50
      by_cases c6 : t176 = 0
      ·rw [if_pos c6] at H
       have c6b0 : (t176 == 0) = true:=beq_iff_eq.mpr c6
       have c6b1 : (t176 != 0) = false:=bne_eq_false_iff_eq.mpr c6
       clear c6
       by_cases c7 : x4_1.size + t175.size ≤ 9223372036854775807
       ·rw [if_pos c7] at H
        have c7b0:=eq_true c7
        have c7b1 : decide (x4_1.size + t175.size ≤ 9223372036854775807) = true:=decide_eq_true c7
        try have c7b2 : (9223372036854775807 < x4_1.size + t175.size) = False:=eq_false (Nat.not_lt.2 c7)
        have H' := Aside0.mk H
        clear H
        have p173 : 0 ≤ (x11_1 : Int):=of_decide_eq_true (by first | (with_reducible assumption) | assumption)
        have q173 : x11_1 < (l0.length : Int):=of_decide_eq_true (by first | (with_reducible assumption) | assumption)
        obtain ⟨ad173,e173,hx173_0,hx173_1,hx173_2,hx173_3⟩:=at_T45 HR0.out x11_1 p173 q173
        cases e173
        replace hx173_0:=(HB.out.cell (World.block_lt_of_cell? w _ hx173_0)).trans hx173_0
        replace hx173_1:=(HB.out.cell (World.block_lt_of_cell? w _ hx173_1)).trans hx173_1
        replace hx173_2:=(HB.out.cell (World.block_lt_of_cell? w _ hx173_2)).trans hx173_2
        replace hx173_3:=(HB.out.cell (World.block_lt_of_cell? w _ hx173_3)).trans hx173_3
        replace p173:=eq_true p173
        replace q173:=eq_true q173
        go_wp2_with (first | ((with_reducible refine gate_dst (N:=6) rfl ?_);refine box_event ?hg (N:=6) ?hd (cs := #[.int .u64 0,.string (⟨#[]⟩ : ByteArray),.string (⟨#[]⟩ : ByteArray),.bool false]) (t:=45) ?hr ?_;(case hd => rfl);(case hg => rfl);(case hr => first | (go_simp;done) | (go_simp;rfl));intro gb174 hg w8 hbox hb;have n0_:=Aside0.mk (below_step (by repeat (first | (with_reducible first | exact HB.out | apply below_alloc | apply pw_below_drewN | apply below_drew1) | exact HB.out)) hb);have n1_:=Aside0.mk (hbox);have n2_:=Aside0.mk ((by rw [hg];exact (below_size (by repeat (first | (with_reducible first | exact HB.out | apply below_alloc | apply pw_below_drewN | apply below_drew1) | exact HB.out))) : w.heap.size ≤ gb174));have n3_:=Aside0.mk ((by rw [hg];exact (below_size (by repeat (first | (with_reducible first | exact HB.out | apply below_alloc | apply pw_below_drewN | apply below_drew1) | exact HB.out))) : w.heap.size ≤ gb174));clear HB;have HB:=n0_;have BK174:=n1_;have GW174:=n2_;have GE174:=n3_;clear n0_ n1_ n2_ n3_;clear hb hbox hg;have hcz9_0 : w8.cell? ⟨gb174,0,none⟩ = some (.int .u64 0):=(blk_cell BK174.out 0).trans rfl;have hcz9_1 : w8.cell? ⟨gb174,1,none⟩ = some (.string (⟨#[]⟩ : ByteArray)):=(blk_cell BK174.out 1).trans rfl;have hcz9_2 : w8.cell? ⟨gb174,2,none⟩ = some (.string (⟨#[]⟩ : ByteArray)):=(blk_cell BK174.out 2).trans rfl;have hcz9_3 : w8.cell? ⟨gb174,3,none⟩ = some (.bool false):=(blk_cell BK174.out 3).trans rfl;have hfz9_0:=blk_frozen BK174.out 0;have hfz9_1:=blk_frozen BK174.out 1;have hfz9_2:=blk_frozen BK174.out 2;have hfz9_3:=blk_frozen BK174.out 3) | ((with_reducible refine gate_callee (f:=39) rfl ?_);refine goesL_ (some 17) rfl rfl Try.func39 (by kernel_rfl) rfl #[.agg #[.int .u64 ((rd_T45 l0 x11_1).f0),.string ((rd_T45 l0 x11_1).f1),.string ((rd_T45 l0 x11_1).f2),.bool ((rd_T45 l0 x11_1).f3)]] rfl (by (try simp only [List.map_toArray,List.map_cons,List.map_nil]);first | done | rfl | (simp only [List.length_drop,List.length_take];rfl)) ?_;(with_reducible refine (record_Bytes.calls k1 ((rd_T45 l0 x11_1).f0) ((rd_T45 l0 x11_1).f1) ((rd_T45 l0 x11_1).f2) ((rd_T45 l0 x11_1).f3) t175 t176 _ A5.out).mono ?_);rintro e w10 ⟨rfl,hb⟩;refine ⟨_,rfl,?_⟩;have n0_:=Aside0.mk (blk_below (g:=gb174) (o := .cells #[.int .u64 ((rd_T45 l0 x11_1).f0),.string ((rd_T45 l0 x11_1).f1),.string ((rd_T45 l0 x11_1).f2),.bool ((rd_T45 l0 x11_1).f3)] 45 (0,0)) (by (with_reducible repeat (first | refine blk_drewN ?_ _ | refine blk_drew ?_ | refine blk_alloc ?_ _));refine blk_put (cs := #[.int .u64 ((rd_T45 l0 x11_1).f0),.string ((rd_T45 l0 x11_1).f1),.string ((rd_T45 l0 x11_1).f2),.bool false]) ?_ 3 _ rfl;(with_reducible repeat (first | refine blk_drewN ?_ _ | refine blk_drew ?_ | refine blk_alloc ?_ _));refine blk_put (cs := #[.int .u64 ((rd_T45 l0 x11_1).f0),.string ((rd_T45 l0 x11_1).f1),.string (⟨#[]⟩ : ByteArray),.bool false]) ?_ 2 _ rfl;(with_reducible repeat (first | refine blk_drewN ?_ _ | refine blk_drew ?_ | refine blk_alloc ?_ _));refine blk_put (cs := #[.int .u64 ((rd_T45 l0 x11_1).f0),.string (⟨#[]⟩ : ByteArray),.string (⟨#[]⟩ : ByteArray),.bool false]) ?_ 1 _ rfl;(with_reducible repeat (first | refine blk_drewN ?_ _ | refine blk_drew ?_ | refine blk_alloc ?_ _));refine blk_put (cs := #[.int .u64 0,.string (⟨#[]⟩ : ByteArray),.string (⟨#[]⟩ : ByteArray),.bool false]) ?_ 0 _ rfl;(with_reducible repeat (first | refine blk_drewN ?_ _ | refine blk_drew ?_ | refine blk_alloc ?_ _));exact BK174.out) hb);have n1_:=Aside0.mk (below_step (by repeat (first | (with_reducible first | exact HB.out | apply below_alloc | apply pw_below_drewN | apply below_drew1 | refine below_set ?_ GE174.out) | exact HB.out)) hb);clear BK174;clear HB;have BK174:=n0_;have HB:=n1_;clear n0_ n1_;(try clear hb);(try clear hb2);(try clear hk);(try clear hi)))
        go_roundg k1
        case measure => have:=HK1.out;omega
        case rel => exact ⟨(x4_1 ++ t175),(wrap64 (x11_1 + 1)),(by first | rfl | (simp;done) | (simp [*];done)),(by first | rfl | (simp;done) | (simp [*];done)),H',⟨by have:=HK1.out;omega⟩,⟨by repeat (first | (with_reducible first | exact HB.out | apply below_alloc | apply pw_below_drewN | apply below_drew1 | refine below_set ?_ GE174.out) | exact HB.out)⟩⟩
       ·rw [if_neg c7] at H
        exact absurd H (by simp)
      ·rw [if_neg c6] at H
       have c6b0 : (t176 == 0) = false:=beq_eq_false_iff_ne.mpr c6
       have c6b1 : (t176 != 0) = true:=bne_iff_ne.mpr c6
       simp only [Option.some.injEq,Prod.mk.injEq] at H
       obtain ⟨rfl,rfl⟩:=H
       have p173 : 0 ≤ (x11_1 : Int):=of_decide_eq_true (by first | (with_reducible assumption) | assumption)
       have q173 : x11_1 < (l0.length : Int):=of_decide_eq_true (by first | (with_reducible assumption) | assumption)
       obtain ⟨ad173,e173,hx173_0,hx173_1,hx173_2,hx173_3⟩:=at_T45 HR0.out x11_1 p173 q173
       cases e173
       replace hx173_0:=(HB.out.cell (World.block_lt_of_cell? w _ hx173_0)).trans hx173_0
       replace hx173_1:=(HB.out.cell (World.block_lt_of_cell? w _ hx173_1)).trans hx173_1
       replace hx173_2:=(HB.out.cell (World.block_lt_of_cell? w _ hx173_2)).trans hx173_2
       replace hx173_3:=(HB.out.cell (World.block_lt_of_cell? w _ hx173_3)).trans hx173_3
       replace p173:=eq_true p173
       replace q173:=eq_true q173
       go_wp2_with (first | ((with_reducible refine gate_dst (N:=6) rfl ?_);refine box_event ?hg (N:=6) ?hd (cs := #[.int .u64 0,.string (⟨#[]⟩ : ByteArray),.string (⟨#[]⟩ : ByteArray),.bool false]) (t:=45) ?hr ?_;(case hd => rfl);(case hg => rfl);(case hr => first | (go_simp;done) | (go_simp;rfl));intro gb174 hg w11 hbox hb;have n0_:=Aside0.mk (below_step (by repeat (first | (with_reducible first | exact HB.out | apply below_alloc | apply pw_below_drewN | apply below_drew1) | exact HB.out)) hb);have n1_:=Aside0.mk (hbox);have n2_:=Aside0.mk ((by rw [hg];exact (below_size (by repeat (first | (with_reducible first | exact HB.out | apply below_alloc | apply pw_below_drewN | apply below_drew1) | exact HB.out))) : w.heap.size ≤ gb174));have n3_:=Aside0.mk ((by rw [hg];exact (below_size (by repeat (first | (with_reducible first | exact HB.out | apply below_alloc | apply pw_below_drewN | apply below_drew1) | exact HB.out))) : w.heap.size ≤ gb174));clear HB;have HB:=n0_;have BK174:=n1_;have GW174:=n2_;have GE174:=n3_;clear n0_ n1_ n2_ n3_;clear hb hbox hg;have hcz12_0 : w11.cell? ⟨gb174,0,none⟩ = some (.int .u64 0):=(blk_cell BK174.out 0).trans rfl;have hcz12_1 : w11.cell? ⟨gb174,1,none⟩ = some (.string (⟨#[]⟩ : ByteArray)):=(blk_cell BK174.out 1).trans rfl;have hcz12_2 : w11.cell? ⟨gb174,2,none⟩ = some (.string (⟨#[]⟩ : ByteArray)):=(blk_cell BK174.out 2).trans rfl;have hcz12_3 : w11.cell? ⟨gb174,3,none⟩ = some (.bool false):=(blk_cell BK174.out 3).trans rfl;have hfz12_0:=blk_frozen BK174.out 0;have hfz12_1:=blk_frozen BK174.out 1;have hfz12_2:=blk_frozen BK174.out 2;have hfz12_3:=blk_frozen BK174.out 3) | ((with_reducible refine gate_callee (f:=39) rfl ?_);refine goesL_ (some 17) rfl rfl Try.func39 (by kernel_rfl) rfl #[.agg #[.int .u64 ((rd_T45 l0 x11_1).f0),.string ((rd_T45 l0 x11_1).f1),.string ((rd_T45 l0 x11_1).f2),.bool ((rd_T45 l0 x11_1).f3)]] rfl (by (try simp only [List.map_toArray,List.map_cons,List.map_nil]);first | done | rfl | (simp only [List.length_drop,List.length_take];rfl)) ?_;(with_reducible refine (record_Bytes.calls k1 ((rd_T45 l0 x11_1).f0) ((rd_T45 l0 x11_1).f1) ((rd_T45 l0 x11_1).f2) ((rd_T45 l0 x11_1).f3) t175 t176 _ A5.out).mono ?_);rintro e w13 ⟨rfl,hb⟩;refine ⟨_,rfl,?_⟩;have n0_:=Aside0.mk (blk_below (g:=gb174) (o := .cells #[.int .u64 ((rd_T45 l0 x11_1).f0),.string ((rd_T45 l0 x11_1).f1),.string ((rd_T45 l0 x11_1).f2),.bool ((rd_T45 l0 x11_1).f3)] 45 (0,0)) (by (with_reducible repeat (first | refine blk_drewN ?_ _ | refine blk_drew ?_ | refine blk_alloc ?_ _));refine blk_put (cs := #[.int .u64 ((rd_T45 l0 x11_1).f0),.string ((rd_T45 l0 x11_1).f1),.string ((rd_T45 l0 x11_1).f2),.bool false]) ?_ 3 _ rfl;(with_reducible repeat (first | refine blk_drewN ?_ _ | refine blk_drew ?_ | refine blk_alloc ?_ _));refine blk_put (cs := #[.int .u64 ((rd_T45 l0 x11_1).f0),.string ((rd_T45 l0 x11_1).f1),.string (⟨#[]⟩ : ByteArray),.bool false]) ?_ 2 _ rfl;(with_reducible repeat (first | refine blk_drewN ?_ _ | refine blk_drew ?_ | refine blk_alloc ?_ _));refine blk_put (cs := #[.int .u64 ((rd_T45 l0 x11_1).f0),.string (⟨#[]⟩ : ByteArray),.string (⟨#[]⟩ : ByteArray),.bool false]) ?_ 1 _ rfl;(with_reducible repeat (first | refine blk_drewN ?_ _ | refine blk_drew ?_ | refine blk_alloc ?_ _));refine blk_put (cs := #[.int .u64 0,.string (⟨#[]⟩ : ByteArray),.string (⟨#[]⟩ : ByteArray),.bool false]) ?_ 0 _ rfl;(with_reducible repeat (first | refine blk_drewN ?_ _ | refine blk_drew ?_ | refine blk_alloc ?_ _));exact BK174.out) hb);have n1_:=Aside0.mk (below_step (by repeat (first | (with_reducible first | exact HB.out | apply below_alloc | apply pw_below_drewN | apply below_drew1 | refine below_set ?_ GE174.out) | exact HB.out)) hb);clear BK174;clear HB;have BK174:=n0_;have HB:=n1_;clear n0_ n1_;(try clear hb);(try clear hb2);(try clear hk);(try clear hi)))
       go_ret2
       exact ⟨by first | rfl | (simp [errW_none,errW_some] <;> rfl) | (simp [*,errW_none,errW_some] <;> rfl) | (simp [errW_none,errW_some];exact isEmpty_bne _),by repeat (first | (with_reducible first | exact HB.out | apply below_alloc | apply pw_below_drewN | apply below_drew1 | refine below_set ?_ GE174.out) | exact HB.out)⟩
     ·rw [if_neg c4] at H
      exact absurd H (by simp)
    ·rw [if_neg c3] at H
     exact absurd H (by simp)
   ·rw [if_neg c2] at H
    have c2b0 : decide (x11_1 < (l0.length : Int)) = false:=decide_eq_false c2
    clear c2
    simp only [Option.some.injEq,Prod.mk.injEq] at H
    obtain ⟨rfl,rfl⟩:=H
    go_wp2
    go_ret2
    exact ⟨by first | rfl | (simp [errW_none,errW_some] <;> rfl) | (simp [*,errW_none,errW_some] <;> rfl) | (simp [errW_none,errW_some];exact isEmpty_bne _),by repeat (first | (with_reducible first | exact HB.out | apply below_alloc | apply pw_below_drewN | apply below_drew1) | exact HB.out)⟩

/-! ### frame_Bytes: function 20 -/
def frame_Bytes.f (k : Nat) (l0 : List (S45)) : Option (ByteArray × Int):=(frame_fits.f (l0.length : Int)).bind fun t177 => (if t177 = true then ((record_All.f k l0).bind fun bt178 => (if bt178.2 = 0 then ((crc_Seal.f bt178.1).bind fun t180 => ((varint_Text.f t180).bind fun t181 => (some (t181,0)))) else (some ((⟨#[]⟩ : ByteArray),bt178.2)))) else (some ((⟨#[]⟩ : ByteArray),1)))
theorem frame_Bytes.mono : ∀ a0 k,LeO (frame_Bytes.f k a0) (frame_Bytes.f (k + 1) a0):=by
 intro a0 k
 unfold frame_Bytes.f
 repeat' first
   | (with_reducible exact record_All.mono _ _)
   | (with_reducible exact LeO.refl _)
   | (with_reducible exact LeO.none _)
   | (with_reducible refine LeO.ite ?_ ?_)
   | (with_reducible refine LeO.bind ?_ (fun _ => ?_))
   | exact record_All.mono _ _
   | exact LeO.none _
   | refine LeO.ite ?_ ?_
   | refine LeO.bind ?_ (fun _ => ?_)
set_option maxHeartbeats 8000000 in
set_option maxRecDepth 100000 in
theorem frame_Bytes.calls (k : Nat) (A0 : Option Addr) (c0 : Nat) (l0 : List (S45)) (r1 : ByteArray) (r2 : Int) (w : World) (hr0 : Kd.C k45 w A0 l0.length l0) (hc0 : l0.length ≤ c0) (h : frame_Bytes.f k l0 = some (r1,r2)) :
  Calls Try.prog 20 #[.slice A0 l0.length c0] w fun e w' => e = .returned (.tuple #[.string r1,.int .i64 r2]) ∧ Below w.heap.size w w' := by
 have HR0:=Aside0.mk hr0
 have HC0:=Aside0.mk hc0
 clear hr0 hc0
 have HB:=Aside0.mk (Below.refl w.heap.size w)
 have H : ((frame_fits.f (l0.length : Int)).bind fun t177 => (if t177 = true then ((record_All.f k l0).bind fun bt178 => (if bt178.2 = 0 then ((crc_Seal.f bt178.1).bind fun t180 => ((varint_Text.f t180).bind fun t181 => (some (t181,0)))) else (some ((⟨#[]⟩ : ByteArray),bt178.2)))) else (some ((⟨#[]⟩ : ByteArray),1)))) = some (r1,r2):=h
 clear h
 replace H:=Option.bind_eq_some_iff.mp H
 obtain ⟨t177,A20,H⟩:=H
 replace H : (if t177 = true then ((record_All.f k l0).bind fun bt178 => (if bt178.2 = 0 then ((crc_Seal.f bt178.1).bind fun t180 => ((varint_Text.f t180).bind fun t181 => (some (t181,0)))) else (some ((⟨#[]⟩ : ByteArray),bt178.2)))) else (some ((⟨#[]⟩ : ByteArray),1))) = some (r1,r2):=H
 have A2:=Aside0.mk A20
 clear A20
 by_cases c3 : t177 = true
 ·subst c3
  have H1 : ((record_All.f k l0).bind fun bt178 => (if bt178.2 = 0 then ((crc_Seal.f bt178.1).bind fun t180 => ((varint_Text.f t180).bind fun t181 => (some (t181,0)))) else (some ((⟨#[]⟩ : ByteArray),bt178.2)))) = some (r1,r2):=by rw [if_pos rfl] at H;exact H
  clear H
  have H:=H1
  clear H1
  replace H:=Option.bind_eq_some_iff.mp H
  obtain ⟨⟨t178,t179⟩,A40,H⟩:=H
  replace H : (if t179 = 0 then ((crc_Seal.f t178).bind fun t180 => ((varint_Text.f t180).bind fun t181 => (some (t181,0)))) else (some ((⟨#[]⟩ : ByteArray),t179))) = some (r1,r2):=H
  have A4:=Aside0.mk A40
  clear A40
  by_cases c5 : t179 = 0
  ·rw [if_pos c5] at H
   have c5b0 : (t179 == 0) = true:=beq_iff_eq.mpr c5
   have c5b1 : (t179 != 0) = false:=bne_eq_false_iff_eq.mpr c5
   clear c5
   replace H:=Option.bind_eq_some_iff.mp H
   obtain ⟨t180,A60,H⟩:=H
   replace H : ((varint_Text.f t180).bind fun t181 => (some (t181,0))) = some (r1,r2):=H
   have A6:=Aside0.mk A60
   clear A60
   replace H:=Option.bind_eq_some_iff.mp H
   obtain ⟨t181,A70,H⟩:=H
   replace H : (some (t181,0)) = some (r1,r2):=H
   have A7:=Aside0.mk A70
   clear A70
   simp only [Option.some.injEq,Prod.mk.injEq] at H
   obtain ⟨rfl,rfl⟩:=H
   go_enter Try.func20,Try.ntmps20
   go_wp2_with (first | ((with_reducible refine gate_callee (f:=47) rfl ?_);refine goesL_ (some 8) rfl rfl Try.func47 (by kernel_rfl) rfl #[.int .i64 (l0.length : Int)] rfl (by (try simp only [List.map_toArray,List.map_cons,List.map_nil]);first | done | rfl | (simp only [List.length_drop,List.length_take];rfl)) ?_;(with_reducible refine (frame_fits.calls (l0.length : Int) true _ A2.out).mono ?_);rintro e w' ⟨rfl,⟨nd,rfl⟩⟩;refine ⟨_,rfl,?_⟩) | ((with_reducible refine gate_callee (f:=48) rfl ?_);refine goesL_ (some 12) rfl rfl Try.func48 (by kernel_rfl) rfl #[.slice A0 l0.length c0] rfl (by (try simp only [List.map_toArray,List.map_cons,List.map_nil]);first | done | rfl | (simp only [List.length_drop,List.length_take];rfl)) ?_;(with_reducible refine (record_All.calls k _ _ l0 t178 t179 _ ?side1 ?side2 A4.out).mono ?_);(case side1 => repeat (first | exact HR0.out | (with_reducible refine Kd.C_alloc ?_ _) | (with_reducible refine Kd.C_drewN ?_ _) | (with_reducible refine Kd.C_drew ?_)));(case side2 => exact HC0.out);rintro e w8 ⟨rfl,hb⟩;refine ⟨_,rfl,?_⟩;have n0_:=Aside0.mk (below_step (by repeat (first | (with_reducible first | exact HB.out | apply below_alloc | apply pw_below_drewN | apply below_drew1) | exact HB.out)) hb);clear HB;have HB:=n0_;clear n0_;(try clear hb);(try clear hb2);(try clear hk);(try clear hi)) | ((with_reducible refine gate_callee (f:=26) rfl ?_);refine goesL_ (some 19) rfl rfl Try.func26 (by kernel_rfl) rfl #[.string t178] rfl (by (try simp only [List.map_toArray,List.map_cons,List.map_nil]);first | done | rfl | (simp only [List.length_drop,List.length_take];rfl)) ?_;(with_reducible refine (crc_Seal.calls t178 t180 _ A6.out).mono ?_);rintro e w9 ⟨rfl,hb⟩;refine ⟨_,rfl,?_⟩;have n0_:=Aside0.mk (below_step (by repeat (first | (with_reducible first | exact HB.out | apply below_alloc | apply pw_below_drewN | apply below_drew1) | exact HB.out)) hb);clear HB;have HB:=n0_;clear n0_;(try clear hb);(try clear hb2);(try clear hk);(try clear hi)) | ((with_reducible refine gate_callee (f:=24) rfl ?_);refine goesL_ (some 20) rfl rfl Try.func24 (by kernel_rfl) rfl #[.string t180] rfl (by (try simp only [List.map_toArray,List.map_cons,List.map_nil]);first | done | rfl | (simp only [List.length_drop,List.length_take];rfl)) ?_;(with_reducible refine (varint_Text.calls t180 t181 _ A7.out).mono ?_);rintro e w10 ⟨rfl,hb⟩;refine ⟨_,rfl,?_⟩;have n0_:=Aside0.mk (below_step (by repeat (first | (with_reducible first | exact HB.out | apply below_alloc | apply pw_below_drewN | apply below_drew1) | exact HB.out)) hb);clear HB;have HB:=n0_;clear n0_;(try clear hb);(try clear hb2);(try clear hk);(try clear hi)))
   go_ret2
   exact ⟨by first | rfl | (simp [errW_none,errW_some] <;> rfl) | (simp [*,errW_none,errW_some] <;> rfl) | (simp [errW_none,errW_some];exact isEmpty_bne _),by repeat (first | (with_reducible first | exact HB.out | apply below_alloc | apply pw_below_drewN | apply below_drew1) | exact HB.out)⟩
  ·rw [if_neg c5] at H
   have c5b0 : (t179 == 0) = false:=beq_eq_false_iff_ne.mpr c5
   have c5b1 : (t179 != 0) = true:=bne_iff_ne.mpr c5
   simp only [Option.some.injEq,Prod.mk.injEq] at H
   obtain ⟨rfl,rfl⟩:=H
   go_enter Try.func20,Try.ntmps20
   go_wp2_with (first | ((with_reducible refine gate_callee (f:=47) rfl ?_);refine goesL_ (some 8) rfl rfl Try.func47 (by kernel_rfl) rfl #[.int .i64 (l0.length : Int)] rfl (by (try simp only [List.map_toArray,List.map_cons,List.map_nil]);first | done | rfl | (simp only [List.length_drop,List.length_take];rfl)) ?_;(with_reducible refine (frame_fits.calls (l0.length : Int) true _ A2.out).mono ?_);rintro e w' ⟨rfl,⟨nd,rfl⟩⟩;refine ⟨_,rfl,?_⟩) | ((with_reducible refine gate_callee (f:=48) rfl ?_);refine goesL_ (some 12) rfl rfl Try.func48 (by kernel_rfl) rfl #[.slice A0 l0.length c0] rfl (by (try simp only [List.map_toArray,List.map_cons,List.map_nil]);first | done | rfl | (simp only [List.length_drop,List.length_take];rfl)) ?_;(with_reducible refine (record_All.calls k _ _ l0 t178 t179 _ ?side1 ?side2 A4.out).mono ?_);(case side1 => repeat (first | exact HR0.out | (with_reducible refine Kd.C_alloc ?_ _) | (with_reducible refine Kd.C_drewN ?_ _) | (with_reducible refine Kd.C_drew ?_)));(case side2 => exact HC0.out);rintro e w11 ⟨rfl,hb⟩;refine ⟨_,rfl,?_⟩;have n0_:=Aside0.mk (below_step (by repeat (first | (with_reducible first | exact HB.out | apply below_alloc | apply pw_below_drewN | apply below_drew1) | exact HB.out)) hb);clear HB;have HB:=n0_;clear n0_;(try clear hb);(try clear hb2);(try clear hk);(try clear hi)))
   go_ret2
   exact ⟨by first | rfl | (simp [errW_none,errW_some] <;> rfl) | (simp [*,errW_none,errW_some] <;> rfl) | (simp [errW_none,errW_some];exact isEmpty_bne _),by repeat (first | (with_reducible first | exact HB.out | apply below_alloc | apply pw_below_drewN | apply below_drew1) | exact HB.out)⟩
 ·replace c3:=Bool.eq_false_iff.mpr c3
  subst c3
  have H1 : (some ((⟨#[]⟩ : ByteArray),1)) = some (r1,r2):=by rw [if_neg (show ¬ (false = true) by decide)] at H;exact H
  clear H
  have H:=H1
  clear H1
  simp only [Option.some.injEq,Prod.mk.injEq] at H
  obtain ⟨rfl,rfl⟩:=H
  go_enter Try.func20,Try.ntmps20
  go_wp2_with (first | ((with_reducible refine gate_callee (f:=47) rfl ?_);refine goesL_ (some 8) rfl rfl Try.func47 (by kernel_rfl) rfl #[.int .i64 (l0.length : Int)] rfl (by (try simp only [List.map_toArray,List.map_cons,List.map_nil]);first | done | rfl | (simp only [List.length_drop,List.length_take];rfl)) ?_;(with_reducible refine (frame_fits.calls (l0.length : Int) false _ A2.out).mono ?_);rintro e w' ⟨rfl,⟨nd,rfl⟩⟩;refine ⟨_,rfl,?_⟩))
  go_ret2
  exact ⟨by first | rfl | (simp [errW_none,errW_some] <;> rfl) | (simp [*,errW_none,errW_some] <;> rfl) | (simp [errW_none,errW_some];exact isEmpty_bne _),by repeat (first | (with_reducible first | exact HB.out | apply below_alloc | apply pw_below_drewN | apply below_drew1) | exact HB.out)⟩

/-! ### thwartlaw05_awake: function 7 -/
def thwartlaw05_awake.f (k : Nat)  : Option (Bool):=(frame_Bytes.f k (([(⟨3,(⟨#[107]⟩ : ByteArray),(⟨#[118]⟩ : ByteArray),false⟩ : S45)] : List (S45)))).bind fun bt185 => ((hint_Of.f k bt185.1).bind fun bt187 => (if (bt187.1.length : Int) = 1 then (if 0 < (bt187.1.length : Int) then ((hint_At.f k bt185.1 ((rd_T39 bt187.1 0).f0) ((rd_T39 bt187.1 0).f1) ((rd_T39 bt187.1 0).f2) ((rd_T39 bt187.1 0).f3) ((rd_T39 bt187.1 0).f4)).bind fun bt192 => ((hint_Bytes.f k bt187.1).bind fun bt198 => ((hint_Read.f k bt198.1).bind fun bt200 => (if bt185.2 = 0 then (if ((rd_T39 bt187.1 0).f1) = 5 then (if bt187.2 = (bt185.1.size : Int) then (if bt192.2.2.2.2 = 0 then (if bt192.2.2.1.toList = ([118] : List UInt8) then (if bt198.2 = 0 then (if bt200.2 = 0 then (if (bt200.1.length : Int) = 1 then (if 0 < (bt200.1.length : Int) then (some ((((rd_T39 bt200.1 0).f0).toList) == (((rd_T39 bt187.1 0).f0).toList) && (((rd_T39 bt200.1 0).f1) == ((rd_T39 bt187.1 0).f1) && (((rd_T39 bt200.1 0).f2) == ((rd_T39 bt187.1 0).f2) && (((rd_T39 bt200.1 0).f3) == ((rd_T39 bt187.1 0).f3) && (((rd_T39 bt200.1 0).f4) == ((rd_T39 bt187.1 0).f4))))))) else (none)) else (none)) else (none)) else (none)) else (none)) else (none)) else (none)) else (none)) else (none))))) else (none)) else (none)))
theorem thwartlaw05_awake.mono : ∀ k,LeO (thwartlaw05_awake.f k ) (thwartlaw05_awake.f (k + 1) ):=by
 intro  k
 unfold thwartlaw05_awake.f
 repeat' first
   | (with_reducible exact frame_Bytes.mono _ _)
   | (with_reducible exact hint_At.mono _ _ _ _ _ _ _)
   | (with_reducible exact hint_Bytes.mono _ _)
   | (with_reducible exact hint_Of.mono _ _)
   | (with_reducible exact hint_Read.mono _ _)
   | (with_reducible exact LeO.refl _)
   | (with_reducible exact LeO.none _)
   | (with_reducible refine LeO.ite ?_ ?_)
   | (with_reducible refine LeO.bind ?_ (fun _ => ?_))
   | exact frame_Bytes.mono _ _
   | exact hint_At.mono _ _ _ _ _ _ _
   | exact hint_Bytes.mono _ _
   | exact hint_Of.mono _ _
   | exact hint_Read.mono _ _
   | exact LeO.none _
   | refine LeO.ite ?_ ?_
   | refine LeO.bind ?_ (fun _ => ?_)
set_option maxHeartbeats 8000000 in
set_option maxRecDepth 100000 in
theorem thwartlaw05_awake.calls (k : Nat)  (r : Bool) (w : World) (h : thwartlaw05_awake.f k  = some r) :
  Calls Try.prog 7 #[] w fun e w' => e = .returned (.bool r) ∧ Below w.heap.size w w' := by
 have hu45:=Try.underlying45
 have hu39:=Try.underlying39
 have HB:=Aside0.mk (Below.refl w.heap.size w)
 have H : ((frame_Bytes.f k (([(⟨3,(⟨#[107]⟩ : ByteArray),(⟨#[118]⟩ : ByteArray),false⟩ : S45)] : List (S45)))).bind fun bt185 => ((hint_Of.f k bt185.1).bind fun bt187 => (if (bt187.1.length : Int) = 1 then (if 0 < (bt187.1.length : Int) then ((hint_At.f k bt185.1 ((rd_T39 bt187.1 0).f0) ((rd_T39 bt187.1 0).f1) ((rd_T39 bt187.1 0).f2) ((rd_T39 bt187.1 0).f3) ((rd_T39 bt187.1 0).f4)).bind fun bt192 => ((hint_Bytes.f k bt187.1).bind fun bt198 => ((hint_Read.f k bt198.1).bind fun bt200 => (if bt185.2 = 0 then (if ((rd_T39 bt187.1 0).f1) = 5 then (if bt187.2 = (bt185.1.size : Int) then (if bt192.2.2.2.2 = 0 then (if bt192.2.2.1.toList = ([118] : List UInt8) then (if bt198.2 = 0 then (if bt200.2 = 0 then (if (bt200.1.length : Int) = 1 then (if 0 < (bt200.1.length : Int) then (some ((((rd_T39 bt200.1 0).f0).toList) == (((rd_T39 bt187.1 0).f0).toList) && (((rd_T39 bt200.1 0).f1) == ((rd_T39 bt187.1 0).f1) && (((rd_T39 bt200.1 0).f2) == ((rd_T39 bt187.1 0).f2) && (((rd_T39 bt200.1 0).f3) == ((rd_T39 bt187.1 0).f3) && (((rd_T39 bt200.1 0).f4) == ((rd_T39 bt187.1 0).f4))))))) else (none)) else (none)) else (none)) else (none)) else (none)) else (none)) else (none)) else (none)) else (none))))) else (none)) else (none)))) = some r:=h
 clear h
 obtain ⟨y182,hy182⟩ : ∃ y_ : List (S45),y_ = (([(⟨3,(⟨#[107]⟩ : ByteArray),(⟨#[118]⟩ : ByteArray),false⟩ : S45)] : List (S45))):=⟨_,rfl⟩
 replace H : ((frame_Bytes.f k y182).bind fun bt185 => ((hint_Of.f k bt185.1).bind fun bt187 => (if (bt187.1.length : Int) = 1 then (if 0 < (bt187.1.length : Int) then ((hint_At.f k bt185.1 ((rd_T39 bt187.1 0).f0) ((rd_T39 bt187.1 0).f1) ((rd_T39 bt187.1 0).f2) ((rd_T39 bt187.1 0).f3) ((rd_T39 bt187.1 0).f4)).bind fun bt192 => ((hint_Bytes.f k bt187.1).bind fun bt198 => ((hint_Read.f k bt198.1).bind fun bt200 => (if bt185.2 = 0 then (if ((rd_T39 bt187.1 0).f1) = 5 then (if bt187.2 = (bt185.1.size : Int) then (if bt192.2.2.2.2 = 0 then (if bt192.2.2.1.toList = ([118] : List UInt8) then (if bt198.2 = 0 then (if bt200.2 = 0 then (if (bt200.1.length : Int) = 1 then (if 0 < (bt200.1.length : Int) then (some ((((rd_T39 bt200.1 0).f0).toList) == (((rd_T39 bt187.1 0).f0).toList) && (((rd_T39 bt200.1 0).f1) == ((rd_T39 bt187.1 0).f1) && (((rd_T39 bt200.1 0).f2) == ((rd_T39 bt187.1 0).f2) && (((rd_T39 bt200.1 0).f3) == ((rd_T39 bt187.1 0).f3) && (((rd_T39 bt200.1 0).f4) == ((rd_T39 bt187.1 0).f4))))))) else (none)) else (none)) else (none)) else (none)) else (none)) else (none)) else (none)) else (none)) else (none))))) else (none)) else (none)))) = some r:=by first | (rw [hy182];with_reducible exact H) | (have H2_:=(Option.bind_some _ _).symm.trans H;rw [hy182];with_reducible exact H2_) | (have H2_:=(Option.bind_some _ _).symm.trans H;with_reducible exact H2_) | with_reducible exact H | (rw [hy182];exact H) | exact H
 have Ny182:=Aside0.mk hy182
 clear hy182
 replace H:=Option.bind_eq_some_iff.mp H
 obtain ⟨⟨t185,t186⟩,A10,H⟩:=H
 replace H : ((hint_Of.f k t185).bind fun bt187 => (if (bt187.1.length : Int) = 1 then (if 0 < (bt187.1.length : Int) then ((hint_At.f k t185 ((rd_T39 bt187.1 0).f0) ((rd_T39 bt187.1 0).f1) ((rd_T39 bt187.1 0).f2) ((rd_T39 bt187.1 0).f3) ((rd_T39 bt187.1 0).f4)).bind fun bt192 => ((hint_Bytes.f k bt187.1).bind fun bt198 => ((hint_Read.f k bt198.1).bind fun bt200 => (if t186 = 0 then (if ((rd_T39 bt187.1 0).f1) = 5 then (if bt187.2 = (t185.size : Int) then (if bt192.2.2.2.2 = 0 then (if bt192.2.2.1.toList = ([118] : List UInt8) then (if bt198.2 = 0 then (if bt200.2 = 0 then (if (bt200.1.length : Int) = 1 then (if 0 < (bt200.1.length : Int) then (some ((((rd_T39 bt200.1 0).f0).toList) == (((rd_T39 bt187.1 0).f0).toList) && (((rd_T39 bt200.1 0).f1) == ((rd_T39 bt187.1 0).f1) && (((rd_T39 bt200.1 0).f2) == ((rd_T39 bt187.1 0).f2) && (((rd_T39 bt200.1 0).f3) == ((rd_T39 bt187.1 0).f3) && (((rd_T39 bt200.1 0).f4) == ((rd_T39 bt187.1 0).f4))))))) else (none)) else (none)) else (none)) else (none)) else (none)) else (none)) else (none)) else (none)) else (none))))) else (none)) else (none))) = some r:=H
 have A1:=Aside0.mk A10
 clear A10
 replace H:=Option.bind_eq_some_iff.mp H
 obtain ⟨⟨t187,t188⟩,A20,H⟩:=H
 replace H : (if (t187.length : Int) = 1 then (if 0 < (t187.length : Int) then ((hint_At.f k t185 ((rd_T39 t187 0).f0) ((rd_T39 t187 0).f1) ((rd_T39 t187 0).f2) ((rd_T39 t187 0).f3) ((rd_T39 t187 0).f4)).bind fun bt192 => ((hint_Bytes.f k t187).bind fun bt198 => ((hint_Read.f k bt198.1).bind fun bt200 => (if t186 = 0 then (if ((rd_T39 t187 0).f1) = 5 then (if t188 = (t185.size : Int) then (if bt192.2.2.2.2 = 0 then (if bt192.2.2.1.toList = ([118] : List UInt8) then (if bt198.2 = 0 then (if bt200.2 = 0 then (if (bt200.1.length : Int) = 1 then (if 0 < (bt200.1.length : Int) then (some ((((rd_T39 bt200.1 0).f0).toList) == (((rd_T39 t187 0).f0).toList) && (((rd_T39 bt200.1 0).f1) == ((rd_T39 t187 0).f1) && (((rd_T39 bt200.1 0).f2) == ((rd_T39 t187 0).f2) && (((rd_T39 bt200.1 0).f3) == ((rd_T39 t187 0).f3) && (((rd_T39 bt200.1 0).f4) == ((rd_T39 t187 0).f4))))))) else (none)) else (none)) else (none)) else (none)) else (none)) else (none)) else (none)) else (none)) else (none))))) else (none)) else (none)) = some r:=H
 have A2:=Aside0.mk A20
 clear A20
 by_cases c3 : (t187.length : Int) = 1
 ·rw [if_pos c3] at H
  have c3b0 : ((t187.length : Int) == 1) = true:=beq_iff_eq.mpr c3
  have c3b1 : ((t187.length : Int) != 1) = false:=bne_eq_false_iff_eq.mpr c3
  clear c3
  by_cases c4 : 0 < (t187.length : Int)
  ·rw [if_pos c4] at H
   have c4b0 : decide (0 < (t187.length : Int)) = true:=decide_eq_true c4
   have c4b1 : decide (0 < t187.length) = true:=decide_eq_true (by omega)
   clear c4
   replace H:=Option.bind_eq_some_iff.mp H
   obtain ⟨⟨t192,t193,t194,t195,t196⟩,A50,H⟩:=H
   replace H : ((hint_Bytes.f k t187).bind fun bt198 => ((hint_Read.f k bt198.1).bind fun bt200 => (if t186 = 0 then (if ((rd_T39 t187 0).f1) = 5 then (if t188 = (t185.size : Int) then (if t196 = 0 then (if t194.toList = ([118] : List UInt8) then (if bt198.2 = 0 then (if bt200.2 = 0 then (if (bt200.1.length : Int) = 1 then (if 0 < (bt200.1.length : Int) then (some ((((rd_T39 bt200.1 0).f0).toList) == (((rd_T39 t187 0).f0).toList) && (((rd_T39 bt200.1 0).f1) == ((rd_T39 t187 0).f1) && (((rd_T39 bt200.1 0).f2) == ((rd_T39 t187 0).f2) && (((rd_T39 bt200.1 0).f3) == ((rd_T39 t187 0).f3) && (((rd_T39 bt200.1 0).f4) == ((rd_T39 t187 0).f4))))))) else (none)) else (none)) else (none)) else (none)) else (none)) else (none)) else (none)) else (none)) else (none)))) = some r:=H
   have A5:=Aside0.mk A50
   clear A50
   replace H:=Option.bind_eq_some_iff.mp H
   obtain ⟨⟨t198,t199⟩,A60,H⟩:=H
   replace H : ((hint_Read.f k t198).bind fun bt200 => (if t186 = 0 then (if ((rd_T39 t187 0).f1) = 5 then (if t188 = (t185.size : Int) then (if t196 = 0 then (if t194.toList = ([118] : List UInt8) then (if t199 = 0 then (if bt200.2 = 0 then (if (bt200.1.length : Int) = 1 then (if 0 < (bt200.1.length : Int) then (some ((((rd_T39 bt200.1 0).f0).toList) == (((rd_T39 t187 0).f0).toList) && (((rd_T39 bt200.1 0).f1) == ((rd_T39 t187 0).f1) && (((rd_T39 bt200.1 0).f2) == ((rd_T39 t187 0).f2) && (((rd_T39 bt200.1 0).f3) == ((rd_T39 t187 0).f3) && (((rd_T39 bt200.1 0).f4) == ((rd_T39 t187 0).f4))))))) else (none)) else (none)) else (none)) else (none)) else (none)) else (none)) else (none)) else (none)) else (none))) = some r:=H
   have A6:=Aside0.mk A60
   clear A60
   replace H:=Option.bind_eq_some_iff.mp H
   obtain ⟨⟨t200,t201⟩,A70,H⟩:=H
   replace H : (if t186 = 0 then (if ((rd_T39 t187 0).f1) = 5 then (if t188 = (t185.size : Int) then (if t196 = 0 then (if t194.toList = ([118] : List UInt8) then (if t199 = 0 then (if t201 = 0 then (if (t200.length : Int) = 1 then (if 0 < (t200.length : Int) then (some ((((rd_T39 t200 0).f0).toList) == (((rd_T39 t187 0).f0).toList) && (((rd_T39 t200 0).f1) == ((rd_T39 t187 0).f1) && (((rd_T39 t200 0).f2) == ((rd_T39 t187 0).f2) && (((rd_T39 t200 0).f3) == ((rd_T39 t187 0).f3) && (((rd_T39 t200 0).f4) == ((rd_T39 t187 0).f4))))))) else (none)) else (none)) else (none)) else (none)) else (none)) else (none)) else (none)) else (none)) else (none)) = some r:=H
   have A7:=Aside0.mk A70
   clear A70
   by_cases c8 : t186 = 0
   ·rw [if_pos c8] at H
    have c8b0 : (t186 == 0) = true:=beq_iff_eq.mpr c8
    have c8b1 : (t186 != 0) = false:=bne_eq_false_iff_eq.mpr c8
    clear c8
    by_cases c9 : ((rd_T39 t187 0).f1) = 5
    ·rw [if_pos c9] at H
     have c9b0 : (((rd_T39 t187 0).f1) == 5) = true:=beq_iff_eq.mpr c9
     have c9b1 : (((rd_T39 t187 0).f1) != 5) = false:=bne_eq_false_iff_eq.mpr c9
     clear c9
     by_cases c10 : t188 = (t185.size : Int)
     ·rw [if_pos c10] at H
      have c10b0 : (t188 == (t185.size : Int)) = true:=beq_iff_eq.mpr c10
      have c10b1 : (t188 != (t185.size : Int)) = false:=bne_eq_false_iff_eq.mpr c10
      clear c10
      by_cases c11 : t196 = 0
      ·rw [if_pos c11] at H
       have c11b0 : (t196 == 0) = true:=beq_iff_eq.mpr c11
       have c11b1 : (t196 != 0) = false:=bne_eq_false_iff_eq.mpr c11
       clear c11
       by_cases c12 : t194.toList = ([118] : List UInt8)
       ·rw [if_pos c12] at H
        have c12b0 : (t194.toList == ([118] : List UInt8)) = true:=beq_iff_eq.mpr c12
        have c12b1 : (t194.toList != ([118] : List UInt8)) = false:=bne_eq_false_iff_eq.mpr c12
        clear c12
        by_cases c13 : t199 = 0
        ·rw [if_pos c13] at H
         have c13b0 : (t199 == 0) = true:=beq_iff_eq.mpr c13
         have c13b1 : (t199 != 0) = false:=bne_eq_false_iff_eq.mpr c13
         clear c13
         by_cases c14 : t201 = 0
         ·rw [if_pos c14] at H
          have c14b0 : (t201 == 0) = true:=beq_iff_eq.mpr c14
          have c14b1 : (t201 != 0) = false:=bne_eq_false_iff_eq.mpr c14
          clear c14
          by_cases c15 : (t200.length : Int) = 1
          ·rw [if_pos c15] at H
           have c15b0 : ((t200.length : Int) == 1) = true:=beq_iff_eq.mpr c15
           have c15b1 : ((t200.length : Int) != 1) = false:=bne_eq_false_iff_eq.mpr c15
           clear c15
           by_cases c16 : 0 < (t200.length : Int)
           ·rw [if_pos c16] at H
            have c16b0 : decide (0 < (t200.length : Int)) = true:=decide_eq_true c16
            have c16b1 : decide (0 < t200.length) = true:=decide_eq_true (by omega)
            clear c16
            obtain rfl:=Option.some.inj H
            go_enter Try.func7,Try.ntmps7
            go_wp2_with (first | ((with_reducible refine gate_dst (N:=13) rfl ?_);(try (refine gate_guard (by rfl) ?_;dsimp only));refine Kd.R_lit k45 _ 45 ?hg (N:=13) ?hd (xs:=([(⟨3,(⟨#[107]⟩ : ByteArray),(⟨#[118]⟩ : ByteArray),false⟩ : S45)] : List (S45))) (inner:=[.int .u64 3,.string (⟨#[107]⟩ : ByteArray),.string (⟨#[118]⟩ : ByteArray),.bool false]) (ok:=fun _ => True) (okp:=fun _ => True) ?hr ?hp (fun _ hk => hk) trivial (Below.refl _ _) (Nat.le_refl _) (by simp) ?_;(case hd => rfl);(case hg => rfl);(case hr => first | (go_simp;done) | (go_simp;rfl));(case hp => exact (Reps.c4 (show Kd.M k45 _ _ _ (⟨3,(⟨#[107]⟩ : ByteArray),(⟨#[118]⟩ : ByteArray),false⟩ : S45) [.int .u64 3,.string (⟨#[107]⟩ : ByteArray),.string (⟨#[118]⟩ : ByteArray),.bool false] from (k45_mkM _ _ _ (⟨3,(⟨#[107]⟩ : ByteArray),(⟨#[118]⟩ : ByteArray),false⟩ : S45) )) (Reps.none _ _)));intro v183 w17 ho18 hb hg_ hnew_;clear hg_ hnew_;(first | rw [← Ny182.out] at ho18 | (simp only [Int.reduceToNat] at ho18;rw [← Ny182.out] at ho18));have n0_:=Aside0.mk (Kd.R_lower ho18 (below_size (by repeat (first | (with_reducible first | exact HB.out | apply below_alloc | apply pw_below_drewN | apply below_drew1) | exact HB.out))));have n1_:=Aside0.mk (below_step (by repeat (first | (with_reducible first | exact HB.out | apply below_alloc | apply pw_below_drewN | apply below_drew1) | exact HB.out)) hb);clear HB;have HO184:=n0_;have HB:=n1_;clear n0_ n1_;clear hb ho18;obtain ⟨Ao19,co19,eo19⟩:=Kd.R_slice HO184.out;subst eo19) | (go_at_call 20;(with_reducible refine (frame_Bytes.calls k _ _ y182 t185 t186 _ ?side1 ?side2 A1.out).mono ?_);(case side1 => repeat (first | exact (Kd.R_reads' HO184.out).2.2 | (with_reducible refine Kd.C_alloc ?_ _) | (with_reducible refine Kd.C_drewN ?_ _) | (with_reducible refine Kd.C_drew ?_)));(case side2 => exact (Kd.R_reads' HO184.out).2.1);rintro e w20 ⟨rfl,hb⟩;have n0_:=Aside0.mk (Kd.R_below (by (with_reducible repeat (first | apply Kd.R_alloc | apply Kd.R_drewN | apply Kd.R_drew));exact HO184.out) hb);have n1_:=Aside0.mk (below_step (by repeat (first | (with_reducible first | exact HB.out | apply below_alloc | apply pw_below_drewN | apply below_drew1) | exact HB.out)) hb);clear HO184;clear HB;have HO184:=n0_;have HB:=n1_;clear n0_ n1_;(try clear hb);(try clear hb2);(try clear hk);(try clear hi)) | (go_at_call 15;(with_reducible refine (hint_Of.calls k t185 t187 t188 _ A2.out).mono ?_);rintro e w21 ⟨v189,rfl,ho0,hb⟩;have n0_:=Aside0.mk (Kd.R_below (by (with_reducible repeat (first | apply Kd.R_alloc | apply Kd.R_drewN | apply Kd.R_drew));exact HO184.out) hb);have n1_:=Aside0.mk (Kd.R_lower ho0 (below_size (by repeat (first | (with_reducible first | exact HB.out | apply below_alloc | apply pw_below_drewN | apply below_drew1) | exact HB.out))));have n2_:=Aside0.mk (below_step (by repeat (first | (with_reducible first | exact HB.out | apply below_alloc | apply pw_below_drewN | apply below_drew1) | exact HB.out)) hb);clear HO184;clear HB;have HO184:=n0_;have HO190:=n1_;have HB:=n2_;clear n0_ n1_ n2_;(try clear hb);(try clear hb2);(try clear hk);(try clear hi);(try clear ho0);obtain ⟨Ao22,co22,eo22⟩:=Kd.R_slice HO190.out;subst eo22;have p191 : 0 ≤ (0 : Int):=(by omega);have q191 : 0 < (t187.length : Int):=of_decide_eq_true (by first | (with_reducible assumption) | assumption);obtain ⟨ad191,e191,hx191_0,hx191_1,hx191_2,hx191_3,hx191_4⟩:=at_T39 (Kd.R_reads' HO190.out).2.2 0 p191 q191;cases e191;have qi191 : (0 < t187.length) = True:=eq_true (by omega);(try rw [show ((0 : Int)).toNat = 0 from rfl] at hx191_0);(try rw [show 0 * 5 = 0 from rfl] at hx191_0);(try rw [Addr.add_zero'] at hx191_0);(try rw [show ((0 : Int)).toNat = 0 from rfl] at hx191_1);(try rw [show 0 * 5 = 0 from rfl] at hx191_1);(try rw [Addr.add_zero'] at hx191_1);(try rw [show ((0 : Int)).toNat = 0 from rfl] at hx191_2);(try rw [show 0 * 5 = 0 from rfl] at hx191_2);(try rw [Addr.add_zero'] at hx191_2);(try rw [show ((0 : Int)).toNat = 0 from rfl] at hx191_3);(try rw [show 0 * 5 = 0 from rfl] at hx191_3);(try rw [Addr.add_zero'] at hx191_3);(try rw [show ((0 : Int)).toNat = 0 from rfl] at hx191_4);(try rw [show 0 * 5 = 0 from rfl] at hx191_4);(try rw [Addr.add_zero'] at hx191_4);replace p191:=eq_true p191;replace q191:=eq_true q191) | (go_at_call 17;(with_reducible refine (hint_At.calls k t185 ((rd_T39 t187 0).f0) ((rd_T39 t187 0).f1) ((rd_T39 t187 0).f2) ((rd_T39 t187 0).f3) ((rd_T39 t187 0).f4) t192 t193 t194 t195 t196 _ A5.out).mono ?_);rintro e w23 ⟨rfl,hb⟩;have n0_:=Aside0.mk (Kd.R_below (by (with_reducible repeat (first | apply Kd.R_alloc | apply Kd.R_drewN | apply Kd.R_drew));exact HO184.out) hb);have n1_:=Aside0.mk (Kd.R_below (by (with_reducible repeat (first | apply Kd.R_alloc | apply Kd.R_drewN | apply Kd.R_drew));exact HO190.out) hb);have n2_:=Aside0.mk (below_step (by repeat (first | (with_reducible first | exact HB.out | apply below_alloc | apply pw_below_drewN | apply below_drew1) | exact HB.out)) hb);clear HO184;clear HO190;clear HB;have HO184:=n0_;have HO190:=n1_;have HB:=n2_;clear n0_ n1_ n2_;(try clear hb);(try clear hb2);(try clear hk);(try clear hi)) | ((with_reducible refine gate_dst (N:=5) rfl ?_);(try (refine gate_guard (by rfl) ?_;dsimp only));refine box_event ?hg (N:=5) ?hd (cs := #[.int .u64 0,.string (⟨#[]⟩ : ByteArray),.string (⟨#[]⟩ : ByteArray),.bool false]) (t:=45) ?hr ?_;(case hd => rfl);(case hg => rfl);(case hr => first | (go_simp;done) | (go_simp;rfl));intro gb197 hg w24 hbox hb;have n0_:=Aside0.mk (Kd.R_below (Kd.R_elderB (by (with_reducible repeat (first | apply Kd.R_alloc | apply Kd.R_drewN | apply Kd.R_drew));exact HO184.out) gb197 (Nat.le_of_eq hg.symm)) hb);have n1_:=Aside0.mk (Kd.R_below (by (with_reducible repeat (first | apply Kd.R_alloc | apply Kd.R_drewN | apply Kd.R_drew));exact HO190.out) hb);have n2_:=Aside0.mk (below_step (by repeat (first | (with_reducible first | exact HB.out | apply below_alloc | apply pw_below_drewN | apply below_drew1) | exact HB.out)) hb);have n3_:=Aside0.mk (hbox);have n4_:=Aside0.mk ((by rw [hg];exact (below_size (by repeat (first | (with_reducible first | exact HB.out | apply below_alloc | apply pw_below_drewN | apply below_drew1) | exact HB.out))) : w.heap.size ≤ gb197));have n5_:=Aside0.mk ((by rw [hg];exact (below_size (by repeat (first | (with_reducible first | exact HB.out | apply below_alloc | apply pw_below_drewN | apply below_drew1) | exact HB.out))) : w.heap.size ≤ gb197));clear HO184;clear HO190;clear HB;have HO184:=n0_;have HO190:=n1_;have HB:=n2_;have BK197:=n3_;have GW197:=n4_;have GE197:=n5_;clear n0_ n1_ n2_ n3_ n4_ n5_;clear hb hbox hg;have hcz25_0 : w24.cell? ⟨gb197,0,none⟩ = some (.int .u64 0):=(blk_cell BK197.out 0).trans rfl;have hcz25_1 : w24.cell? ⟨gb197,1,none⟩ = some (.string (⟨#[]⟩ : ByteArray)):=(blk_cell BK197.out 1).trans rfl;have hcz25_2 : w24.cell? ⟨gb197,2,none⟩ = some (.string (⟨#[]⟩ : ByteArray)):=(blk_cell BK197.out 2).trans rfl;have hcz25_3 : w24.cell? ⟨gb197,3,none⟩ = some (.bool false):=(blk_cell BK197.out 3).trans rfl;have hfz25_0:=blk_frozen BK197.out 0;have hfz25_1:=blk_frozen BK197.out 1;have hfz25_2:=blk_frozen BK197.out 2;have hfz25_3:=blk_frozen BK197.out 3) | (go_at_call 9;(with_reducible refine (hint_Bytes.calls k _ _ t187 t198 t199 _ ?side1 ?side2 A6.out).mono ?_);(case side1 => refine (Kd.R_reads' (e:=39) (base:=w.heap.size) (ok:=fun k_ => True) (n:=t187.length) (c:=co22) ?_).2.2;exact (by (with_reducible repeat (first | apply Kd.R_alloc | apply Kd.R_drewN | apply Kd.R_drew));exact (Kd.R_mono (Kd.R_far (p:=⟨gb197,3,none⟩) (Kd.R_far (p:=⟨gb197,2,none⟩) (Kd.R_far (p:=⟨gb197,1,none⟩) (Kd.R_far (p:=⟨gb197,0,none⟩) (Kd.R_types HO190.out BK197.out (by decide)) (fun _ hk => hk.2) (.int .u64 t192)) (fun _ hk => hk.2) (.string t193)) (fun _ hk => hk.2) (.string t194)) (fun _ hk => hk.2) (.bool t195)) (fun _ h_ => h_.1))));(case side2 => exact (Kd.R_reads' HO190.out).2.1);rintro e w26 ⟨rfl,hb⟩;have n0_:=Aside0.mk (Kd.R_below (by (with_reducible repeat (first | apply Kd.R_alloc | apply Kd.R_drewN | apply Kd.R_drew));exact (Kd.R_mono (Kd.R_far (p:=⟨gb197,3,none⟩) (Kd.R_far (p:=⟨gb197,2,none⟩) (Kd.R_far (p:=⟨gb197,1,none⟩) (Kd.R_far (p:=⟨gb197,0,none⟩) (Kd.R_mono HO184.out (fun k_ hk => (⟨hk,hk.2⟩ : _ ∧ k_ ≠ gb197))) (fun _ hk => hk.2) (.int .u64 t192)) (fun _ hk => hk.2) (.string t193)) (fun _ hk => hk.2) (.string t194)) (fun _ hk => hk.2) (.bool t195)) (fun _ h_ => h_.1))) hb);have n1_:=Aside0.mk (Kd.R_below (by (with_reducible repeat (first | apply Kd.R_alloc | apply Kd.R_drewN | apply Kd.R_drew));exact (Kd.R_mono (Kd.R_far (p:=⟨gb197,3,none⟩) (Kd.R_far (p:=⟨gb197,2,none⟩) (Kd.R_far (p:=⟨gb197,1,none⟩) (Kd.R_far (p:=⟨gb197,0,none⟩) (Kd.R_types HO190.out BK197.out (by decide)) (fun _ hk => hk.2) (.int .u64 t192)) (fun _ hk => hk.2) (.string t193)) (fun _ hk => hk.2) (.string t194)) (fun _ hk => hk.2) (.bool t195)) (fun _ h_ => h_.1))) hb);have n2_:=Aside0.mk (blk_below (g:=gb197) (o := .cells #[.int .u64 t192,.string t193,.string t194,.bool t195] 45 (0,0)) (by (with_reducible repeat (first | refine blk_drewN ?_ _ | refine blk_drew ?_ | refine blk_alloc ?_ _));refine blk_put (cs := #[.int .u64 t192,.string t193,.string t194,.bool false]) ?_ 3 _ rfl;(with_reducible repeat (first | refine blk_drewN ?_ _ | refine blk_drew ?_ | refine blk_alloc ?_ _));refine blk_put (cs := #[.int .u64 t192,.string t193,.string (⟨#[]⟩ : ByteArray),.bool false]) ?_ 2 _ rfl;(with_reducible repeat (first | refine blk_drewN ?_ _ | refine blk_drew ?_ | refine blk_alloc ?_ _));refine blk_put (cs := #[.int .u64 t192,.string (⟨#[]⟩ : ByteArray),.string (⟨#[]⟩ : ByteArray),.bool false]) ?_ 1 _ rfl;(with_reducible repeat (first | refine blk_drewN ?_ _ | refine blk_drew ?_ | refine blk_alloc ?_ _));refine blk_put (cs := #[.int .u64 0,.string (⟨#[]⟩ : ByteArray),.string (⟨#[]⟩ : ByteArray),.bool false]) ?_ 0 _ rfl;(with_reducible repeat (first | refine blk_drewN ?_ _ | refine blk_drew ?_ | refine blk_alloc ?_ _));exact BK197.out) hb);have n3_:=Aside0.mk (below_step (by repeat (first | (with_reducible first | exact HB.out | apply below_alloc | apply pw_below_drewN | apply below_drew1 | refine below_set ?_ GE197.out) | exact HB.out)) hb);clear HO184;clear HO190;clear BK197;clear HB;have HO184:=n0_;have HO190:=n1_;have BK197:=n2_;have HB:=n3_;clear n0_ n1_ n2_ n3_;(try clear hb);(try clear hb2);(try clear hk);(try clear hi)) | (go_at_call 12;(with_reducible refine (hint_Read.calls k t198 t200 t201 _ A7.out).mono ?_);rintro e w27 ⟨v202,rfl,ho0,hb⟩;have n0_:=Aside0.mk (Kd.R_below (by (with_reducible repeat (first | apply Kd.R_alloc | apply Kd.R_drewN | apply Kd.R_drew));exact HO184.out) hb);have n1_:=Aside0.mk (Kd.R_elder' (by (with_reducible repeat (first | apply Kd.R_alloc | apply Kd.R_drewN | apply Kd.R_drew));exact HO190.out) (Kd.R_base ho0) hb);have n2_:=Aside0.mk (Kd.R_lower (Kd.R_new' ho0 (Kd.R_lt (by (with_reducible repeat (first | apply Kd.R_alloc | apply Kd.R_drewN | apply Kd.R_drew));exact HO190.out))) (below_size (by repeat (first | (with_reducible first | exact HB.out | apply below_alloc | apply pw_below_drewN | apply below_drew1 | refine below_set ?_ GE197.out) | exact HB.out))));have n3_:=Aside0.mk (blk_below (g:=gb197) (o := .cells #[.int .u64 t192,.string t193,.string t194,.bool t195] 45 (0,0)) (by (with_reducible repeat (first | refine blk_drewN ?_ _ | refine blk_drew ?_ | refine blk_alloc ?_ _));exact BK197.out) hb);have n4_:=Aside0.mk (below_step (by repeat (first | (with_reducible first | exact HB.out | apply below_alloc | apply pw_below_drewN | apply below_drew1 | refine below_set ?_ GE197.out) | exact HB.out)) hb);clear HO184;clear HO190;clear BK197;clear HB;have HO184:=n0_;have HO190:=n1_;have HO203:=n2_;have BK197:=n3_;have HB:=n4_;clear n0_ n1_ n2_ n3_ n4_;(try clear hb);(try clear hb2);(try clear hk);(try clear hi);(try clear ho0);have p204 : 0 ≤ (0 : Int):=(by omega);have q204 : 0 < (t187.length : Int):=of_decide_eq_true (by first | (with_reducible assumption) | assumption);obtain ⟨ad204,e204,hx204_0,hx204_1,hx204_2,hx204_3,hx204_4⟩:=at_T39 (Kd.R_reads' HO190.out).2.2 0 p204 q204;obtain rfl : ad191 = ad204:=(by injection e204);have qi204 : (0 < t187.length) = True:=eq_true (by omega);(try rw [show ((0 : Int)).toNat = 0 from rfl] at hx204_0);(try rw [show 0 * 5 = 0 from rfl] at hx204_0);(try rw [Addr.add_zero'] at hx204_0);(try rw [show ((0 : Int)).toNat = 0 from rfl] at hx204_1);(try rw [show 0 * 5 = 0 from rfl] at hx204_1);(try rw [Addr.add_zero'] at hx204_1);(try rw [show ((0 : Int)).toNat = 0 from rfl] at hx204_2);(try rw [show 0 * 5 = 0 from rfl] at hx204_2);(try rw [Addr.add_zero'] at hx204_2);(try rw [show ((0 : Int)).toNat = 0 from rfl] at hx204_3);(try rw [show 0 * 5 = 0 from rfl] at hx204_3);(try rw [Addr.add_zero'] at hx204_3);(try rw [show ((0 : Int)).toNat = 0 from rfl] at hx204_4);(try rw [show 0 * 5 = 0 from rfl] at hx204_4);(try rw [Addr.add_zero'] at hx204_4);replace p204:=eq_true p204;replace q204:=eq_true q204;have hcz28_0 : w27.cell? ⟨gb197,0,none⟩ = some (.int .u64 t192):=(blk_cell BK197.out 0).trans rfl;have hcz28_1 : w27.cell? ⟨gb197,1,none⟩ = some (.string t193):=(blk_cell BK197.out 1).trans rfl;have hcz28_2 : w27.cell? ⟨gb197,2,none⟩ = some (.string t194):=(blk_cell BK197.out 2).trans rfl;have hcz28_3 : w27.cell? ⟨gb197,3,none⟩ = some (.bool t195):=(blk_cell BK197.out 3).trans rfl;have hfz28_0:=blk_frozen BK197.out 0;have hfz28_1:=blk_frozen BK197.out 1;have hfz28_2:=blk_frozen BK197.out 2;have hfz28_3:=blk_frozen BK197.out 3;obtain ⟨Ao29,co29,eo29⟩:=Kd.R_slice HO203.out;subst eo29;have p205 : 0 ≤ (0 : Int):=(by omega);have q205 : 0 < (t200.length : Int):=of_decide_eq_true (by first | (with_reducible assumption) | assumption);obtain ⟨ad205,e205,hx205_0,hx205_1,hx205_2,hx205_3,hx205_4⟩:=at_T39 (Kd.R_reads' HO203.out).2.2 0 p205 q205;cases e205;have qi205 : (0 < t200.length) = True:=eq_true (by omega);(try rw [show ((0 : Int)).toNat = 0 from rfl] at hx205_0);(try rw [show 0 * 5 = 0 from rfl] at hx205_0);(try rw [Addr.add_zero'] at hx205_0);(try rw [show ((0 : Int)).toNat = 0 from rfl] at hx205_1);(try rw [show 0 * 5 = 0 from rfl] at hx205_1);(try rw [Addr.add_zero'] at hx205_1);(try rw [show ((0 : Int)).toNat = 0 from rfl] at hx205_2);(try rw [show 0 * 5 = 0 from rfl] at hx205_2);(try rw [Addr.add_zero'] at hx205_2);(try rw [show ((0 : Int)).toNat = 0 from rfl] at hx205_3);(try rw [show 0 * 5 = 0 from rfl] at hx205_3);(try rw [Addr.add_zero'] at hx205_3);(try rw [show ((0 : Int)).toNat = 0 from rfl] at hx205_4);(try rw [show 0 * 5 = 0 from rfl] at hx205_4);(try rw [Addr.add_zero'] at hx205_4);replace p205:=eq_true p205;replace q205:=eq_true q205;have p206 : 0 ≤ (0 : Int):=(by omega);have q206 : 0 < (t187.length : Int):=of_decide_eq_true (by first | (with_reducible assumption) | assumption);obtain ⟨ad206,e206,hx206_0,hx206_1,hx206_2,hx206_3,hx206_4⟩:=at_T39 (Kd.R_reads' HO190.out).2.2 0 p206 q206;obtain rfl : ad191 = ad206:=(by injection e206);have qi206 : (0 < t187.length) = True:=eq_true (by omega);(try rw [show ((0 : Int)).toNat = 0 from rfl] at hx206_0);(try rw [show 0 * 5 = 0 from rfl] at hx206_0);(try rw [Addr.add_zero'] at hx206_0);(try rw [show ((0 : Int)).toNat = 0 from rfl] at hx206_1);(try rw [show 0 * 5 = 0 from rfl] at hx206_1);(try rw [Addr.add_zero'] at hx206_1);(try rw [show ((0 : Int)).toNat = 0 from rfl] at hx206_2);(try rw [show 0 * 5 = 0 from rfl] at hx206_2);(try rw [Addr.add_zero'] at hx206_2);(try rw [show ((0 : Int)).toNat = 0 from rfl] at hx206_3);(try rw [show 0 * 5 = 0 from rfl] at hx206_3);(try rw [Addr.add_zero'] at hx206_3);(try rw [show ((0 : Int)).toNat = 0 from rfl] at hx206_4);(try rw [show 0 * 5 = 0 from rfl] at hx206_4);(try rw [Addr.add_zero'] at hx206_4);replace p206:=eq_true p206;replace q206:=eq_true q206))
            repeat (go_quiet (first | ((with_reducible refine gate_dst (N:=13) rfl ?_);(try (refine gate_guard (by rfl) ?_;dsimp only));refine Kd.R_lit k45 _ 45 ?hg (N:=13) ?hd (xs:=([(⟨3,(⟨#[107]⟩ : ByteArray),(⟨#[118]⟩ : ByteArray),false⟩ : S45)] : List (S45))) (inner:=[.int .u64 3,.string (⟨#[107]⟩ : ByteArray),.string (⟨#[118]⟩ : ByteArray),.bool false]) (ok:=fun _ => True) (okp:=fun _ => True) ?hr ?hp (fun _ hk => hk) trivial (Below.refl _ _) (Nat.le_refl _) (by simp) ?_;(case hd => rfl);(case hg => rfl);(case hr => first | (go_simp;done) | (go_simp;rfl));(case hp => exact (Reps.c4 (show Kd.M k45 _ _ _ (⟨3,(⟨#[107]⟩ : ByteArray),(⟨#[118]⟩ : ByteArray),false⟩ : S45) [.int .u64 3,.string (⟨#[107]⟩ : ByteArray),.string (⟨#[118]⟩ : ByteArray),.bool false] from (k45_mkM _ _ _ (⟨3,(⟨#[107]⟩ : ByteArray),(⟨#[118]⟩ : ByteArray),false⟩ : S45) )) (Reps.none _ _)));intro v183 w17 ho18 hb hg_ hnew_;clear hg_ hnew_;(first | rw [← Ny182.out] at ho18 | (simp only [Int.reduceToNat] at ho18;rw [← Ny182.out] at ho18));have n0_:=Aside0.mk (Kd.R_lower ho18 (below_size (by repeat (first | (with_reducible first | exact HB.out | apply below_alloc | apply pw_below_drewN | apply below_drew1) | exact HB.out))));have n1_:=Aside0.mk (below_step (by repeat (first | (with_reducible first | exact HB.out | apply below_alloc | apply pw_below_drewN | apply below_drew1) | exact HB.out)) hb);clear HB;have HO184:=n0_;have HB:=n1_;clear n0_ n1_;clear hb ho18;obtain ⟨Ao19,co19,eo19⟩:=Kd.R_slice HO184.out;subst eo19) | (go_at_call 20;(with_reducible refine (frame_Bytes.calls k _ _ y182 t185 t186 _ ?side1 ?side2 A1.out).mono ?_);(case side1 => repeat (first | exact (Kd.R_reads' HO184.out).2.2 | (with_reducible refine Kd.C_alloc ?_ _) | (with_reducible refine Kd.C_drewN ?_ _) | (with_reducible refine Kd.C_drew ?_)));(case side2 => exact (Kd.R_reads' HO184.out).2.1);rintro e w20 ⟨rfl,hb⟩;have n0_:=Aside0.mk (Kd.R_below (by (with_reducible repeat (first | apply Kd.R_alloc | apply Kd.R_drewN | apply Kd.R_drew));exact HO184.out) hb);have n1_:=Aside0.mk (below_step (by repeat (first | (with_reducible first | exact HB.out | apply below_alloc | apply pw_below_drewN | apply below_drew1) | exact HB.out)) hb);clear HO184;clear HB;have HO184:=n0_;have HB:=n1_;clear n0_ n1_;(try clear hb);(try clear hb2);(try clear hk);(try clear hi)) | (go_at_call 15;(with_reducible refine (hint_Of.calls k t185 t187 t188 _ A2.out).mono ?_);rintro e w21 ⟨v189,rfl,ho0,hb⟩;have n0_:=Aside0.mk (Kd.R_below (by (with_reducible repeat (first | apply Kd.R_alloc | apply Kd.R_drewN | apply Kd.R_drew));exact HO184.out) hb);have n1_:=Aside0.mk (Kd.R_lower ho0 (below_size (by repeat (first | (with_reducible first | exact HB.out | apply below_alloc | apply pw_below_drewN | apply below_drew1) | exact HB.out))));have n2_:=Aside0.mk (below_step (by repeat (first | (with_reducible first | exact HB.out | apply below_alloc | apply pw_below_drewN | apply below_drew1) | exact HB.out)) hb);clear HO184;clear HB;have HO184:=n0_;have HO190:=n1_;have HB:=n2_;clear n0_ n1_ n2_;(try clear hb);(try clear hb2);(try clear hk);(try clear hi);(try clear ho0);obtain ⟨Ao22,co22,eo22⟩:=Kd.R_slice HO190.out;subst eo22;have p191 : 0 ≤ (0 : Int):=(by omega);have q191 : 0 < (t187.length : Int):=of_decide_eq_true (by first | (with_reducible assumption) | assumption);obtain ⟨ad191,e191,hx191_0,hx191_1,hx191_2,hx191_3,hx191_4⟩:=at_T39 (Kd.R_reads' HO190.out).2.2 0 p191 q191;cases e191;have qi191 : (0 < t187.length) = True:=eq_true (by omega);(try rw [show ((0 : Int)).toNat = 0 from rfl] at hx191_0);(try rw [show 0 * 5 = 0 from rfl] at hx191_0);(try rw [Addr.add_zero'] at hx191_0);(try rw [show ((0 : Int)).toNat = 0 from rfl] at hx191_1);(try rw [show 0 * 5 = 0 from rfl] at hx191_1);(try rw [Addr.add_zero'] at hx191_1);(try rw [show ((0 : Int)).toNat = 0 from rfl] at hx191_2);(try rw [show 0 * 5 = 0 from rfl] at hx191_2);(try rw [Addr.add_zero'] at hx191_2);(try rw [show ((0 : Int)).toNat = 0 from rfl] at hx191_3);(try rw [show 0 * 5 = 0 from rfl] at hx191_3);(try rw [Addr.add_zero'] at hx191_3);(try rw [show ((0 : Int)).toNat = 0 from rfl] at hx191_4);(try rw [show 0 * 5 = 0 from rfl] at hx191_4);(try rw [Addr.add_zero'] at hx191_4);replace p191:=eq_true p191;replace q191:=eq_true q191) | (go_at_call 17;(with_reducible refine (hint_At.calls k t185 ((rd_T39 t187 0).f0) ((rd_T39 t187 0).f1) ((rd_T39 t187 0).f2) ((rd_T39 t187 0).f3) ((rd_T39 t187 0).f4) t192 t193 t194 t195 t196 _ A5.out).mono ?_);rintro e w23 ⟨rfl,hb⟩;have n0_:=Aside0.mk (Kd.R_below (by (with_reducible repeat (first | apply Kd.R_alloc | apply Kd.R_drewN | apply Kd.R_drew));exact HO184.out) hb);have n1_:=Aside0.mk (Kd.R_below (by (with_reducible repeat (first | apply Kd.R_alloc | apply Kd.R_drewN | apply Kd.R_drew));exact HO190.out) hb);have n2_:=Aside0.mk (below_step (by repeat (first | (with_reducible first | exact HB.out | apply below_alloc | apply pw_below_drewN | apply below_drew1) | exact HB.out)) hb);clear HO184;clear HO190;clear HB;have HO184:=n0_;have HO190:=n1_;have HB:=n2_;clear n0_ n1_ n2_;(try clear hb);(try clear hb2);(try clear hk);(try clear hi)) | ((with_reducible refine gate_dst (N:=5) rfl ?_);(try (refine gate_guard (by rfl) ?_;dsimp only));refine box_event ?hg (N:=5) ?hd (cs := #[.int .u64 0,.string (⟨#[]⟩ : ByteArray),.string (⟨#[]⟩ : ByteArray),.bool false]) (t:=45) ?hr ?_;(case hd => rfl);(case hg => rfl);(case hr => first | (go_simp;done) | (go_simp;rfl));intro gb197 hg w24 hbox hb;have n0_:=Aside0.mk (Kd.R_below (Kd.R_elderB (by (with_reducible repeat (first | apply Kd.R_alloc | apply Kd.R_drewN | apply Kd.R_drew));exact HO184.out) gb197 (Nat.le_of_eq hg.symm)) hb);have n1_:=Aside0.mk (Kd.R_below (by (with_reducible repeat (first | apply Kd.R_alloc | apply Kd.R_drewN | apply Kd.R_drew));exact HO190.out) hb);have n2_:=Aside0.mk (below_step (by repeat (first | (with_reducible first | exact HB.out | apply below_alloc | apply pw_below_drewN | apply below_drew1) | exact HB.out)) hb);have n3_:=Aside0.mk (hbox);have n4_:=Aside0.mk ((by rw [hg];exact (below_size (by repeat (first | (with_reducible first | exact HB.out | apply below_alloc | apply pw_below_drewN | apply below_drew1) | exact HB.out))) : w.heap.size ≤ gb197));have n5_:=Aside0.mk ((by rw [hg];exact (below_size (by repeat (first | (with_reducible first | exact HB.out | apply below_alloc | apply pw_below_drewN | apply below_drew1) | exact HB.out))) : w.heap.size ≤ gb197));clear HO184;clear HO190;clear HB;have HO184:=n0_;have HO190:=n1_;have HB:=n2_;have BK197:=n3_;have GW197:=n4_;have GE197:=n5_;clear n0_ n1_ n2_ n3_ n4_ n5_;clear hb hbox hg;have hcz25_0 : w24.cell? ⟨gb197,0,none⟩ = some (.int .u64 0):=(blk_cell BK197.out 0).trans rfl;have hcz25_1 : w24.cell? ⟨gb197,1,none⟩ = some (.string (⟨#[]⟩ : ByteArray)):=(blk_cell BK197.out 1).trans rfl;have hcz25_2 : w24.cell? ⟨gb197,2,none⟩ = some (.string (⟨#[]⟩ : ByteArray)):=(blk_cell BK197.out 2).trans rfl;have hcz25_3 : w24.cell? ⟨gb197,3,none⟩ = some (.bool false):=(blk_cell BK197.out 3).trans rfl;have hfz25_0:=blk_frozen BK197.out 0;have hfz25_1:=blk_frozen BK197.out 1;have hfz25_2:=blk_frozen BK197.out 2;have hfz25_3:=blk_frozen BK197.out 3) | (go_at_call 9;(with_reducible refine (hint_Bytes.calls k _ _ t187 t198 t199 _ ?side1 ?side2 A6.out).mono ?_);(case side1 => refine (Kd.R_reads' (e:=39) (base:=w.heap.size) (ok:=fun k_ => True) (n:=t187.length) (c:=co22) ?_).2.2;exact (by (with_reducible repeat (first | apply Kd.R_alloc | apply Kd.R_drewN | apply Kd.R_drew));exact (Kd.R_mono (Kd.R_far (p:=⟨gb197,3,none⟩) (Kd.R_far (p:=⟨gb197,2,none⟩) (Kd.R_far (p:=⟨gb197,1,none⟩) (Kd.R_far (p:=⟨gb197,0,none⟩) (Kd.R_types HO190.out BK197.out (by decide)) (fun _ hk => hk.2) (.int .u64 t192)) (fun _ hk => hk.2) (.string t193)) (fun _ hk => hk.2) (.string t194)) (fun _ hk => hk.2) (.bool t195)) (fun _ h_ => h_.1))));(case side2 => exact (Kd.R_reads' HO190.out).2.1);rintro e w26 ⟨rfl,hb⟩;have n0_:=Aside0.mk (Kd.R_below (by (with_reducible repeat (first | apply Kd.R_alloc | apply Kd.R_drewN | apply Kd.R_drew));exact (Kd.R_mono (Kd.R_far (p:=⟨gb197,3,none⟩) (Kd.R_far (p:=⟨gb197,2,none⟩) (Kd.R_far (p:=⟨gb197,1,none⟩) (Kd.R_far (p:=⟨gb197,0,none⟩) (Kd.R_mono HO184.out (fun k_ hk => (⟨hk,hk.2⟩ : _ ∧ k_ ≠ gb197))) (fun _ hk => hk.2) (.int .u64 t192)) (fun _ hk => hk.2) (.string t193)) (fun _ hk => hk.2) (.string t194)) (fun _ hk => hk.2) (.bool t195)) (fun _ h_ => h_.1))) hb);have n1_:=Aside0.mk (Kd.R_below (by (with_reducible repeat (first | apply Kd.R_alloc | apply Kd.R_drewN | apply Kd.R_drew));exact (Kd.R_mono (Kd.R_far (p:=⟨gb197,3,none⟩) (Kd.R_far (p:=⟨gb197,2,none⟩) (Kd.R_far (p:=⟨gb197,1,none⟩) (Kd.R_far (p:=⟨gb197,0,none⟩) (Kd.R_types HO190.out BK197.out (by decide)) (fun _ hk => hk.2) (.int .u64 t192)) (fun _ hk => hk.2) (.string t193)) (fun _ hk => hk.2) (.string t194)) (fun _ hk => hk.2) (.bool t195)) (fun _ h_ => h_.1))) hb);have n2_:=Aside0.mk (blk_below (g:=gb197) (o := .cells #[.int .u64 t192,.string t193,.string t194,.bool t195] 45 (0,0)) (by (with_reducible repeat (first | refine blk_drewN ?_ _ | refine blk_drew ?_ | refine blk_alloc ?_ _));refine blk_put (cs := #[.int .u64 t192,.string t193,.string t194,.bool false]) ?_ 3 _ rfl;(with_reducible repeat (first | refine blk_drewN ?_ _ | refine blk_drew ?_ | refine blk_alloc ?_ _));refine blk_put (cs := #[.int .u64 t192,.string t193,.string (⟨#[]⟩ : ByteArray),.bool false]) ?_ 2 _ rfl;(with_reducible repeat (first | refine blk_drewN ?_ _ | refine blk_drew ?_ | refine blk_alloc ?_ _));refine blk_put (cs := #[.int .u64 t192,.string (⟨#[]⟩ : ByteArray),.string (⟨#[]⟩ : ByteArray),.bool false]) ?_ 1 _ rfl;(with_reducible repeat (first | refine blk_drewN ?_ _ | refine blk_drew ?_ | refine blk_alloc ?_ _));refine blk_put (cs := #[.int .u64 0,.string (⟨#[]⟩ : ByteArray),.string (⟨#[]⟩ : ByteArray),.bool false]) ?_ 0 _ rfl;(with_reducible repeat (first | refine blk_drewN ?_ _ | refine blk_drew ?_ | refine blk_alloc ?_ _));exact BK197.out) hb);have n3_:=Aside0.mk (below_step (by repeat (first | (with_reducible first | exact HB.out | apply below_alloc | apply pw_below_drewN | apply below_drew1 | refine below_set ?_ GE197.out) | exact HB.out)) hb);clear HO184;clear HO190;clear BK197;clear HB;have HO184:=n0_;have HO190:=n1_;have BK197:=n2_;have HB:=n3_;clear n0_ n1_ n2_ n3_;(try clear hb);(try clear hb2);(try clear hk);(try clear hi)) | (go_at_call 12;(with_reducible refine (hint_Read.calls k t198 t200 t201 _ A7.out).mono ?_);rintro e w27 ⟨v202,rfl,ho0,hb⟩;have n0_:=Aside0.mk (Kd.R_below (by (with_reducible repeat (first | apply Kd.R_alloc | apply Kd.R_drewN | apply Kd.R_drew));exact HO184.out) hb);have n1_:=Aside0.mk (Kd.R_elder' (by (with_reducible repeat (first | apply Kd.R_alloc | apply Kd.R_drewN | apply Kd.R_drew));exact HO190.out) (Kd.R_base ho0) hb);have n2_:=Aside0.mk (Kd.R_lower (Kd.R_new' ho0 (Kd.R_lt (by (with_reducible repeat (first | apply Kd.R_alloc | apply Kd.R_drewN | apply Kd.R_drew));exact HO190.out))) (below_size (by repeat (first | (with_reducible first | exact HB.out | apply below_alloc | apply pw_below_drewN | apply below_drew1 | refine below_set ?_ GE197.out) | exact HB.out))));have n3_:=Aside0.mk (blk_below (g:=gb197) (o := .cells #[.int .u64 t192,.string t193,.string t194,.bool t195] 45 (0,0)) (by (with_reducible repeat (first | refine blk_drewN ?_ _ | refine blk_drew ?_ | refine blk_alloc ?_ _));exact BK197.out) hb);have n4_:=Aside0.mk (below_step (by repeat (first | (with_reducible first | exact HB.out | apply below_alloc | apply pw_below_drewN | apply below_drew1 | refine below_set ?_ GE197.out) | exact HB.out)) hb);clear HO184;clear HO190;clear BK197;clear HB;have HO184:=n0_;have HO190:=n1_;have HO203:=n2_;have BK197:=n3_;have HB:=n4_;clear n0_ n1_ n2_ n3_ n4_;(try clear hb);(try clear hb2);(try clear hk);(try clear hi);(try clear ho0);have p204 : 0 ≤ (0 : Int):=(by omega);have q204 : 0 < (t187.length : Int):=of_decide_eq_true (by first | (with_reducible assumption) | assumption);obtain ⟨ad204,e204,hx204_0,hx204_1,hx204_2,hx204_3,hx204_4⟩:=at_T39 (Kd.R_reads' HO190.out).2.2 0 p204 q204;obtain rfl : ad191 = ad204:=(by injection e204);have qi204 : (0 < t187.length) = True:=eq_true (by omega);(try rw [show ((0 : Int)).toNat = 0 from rfl] at hx204_0);(try rw [show 0 * 5 = 0 from rfl] at hx204_0);(try rw [Addr.add_zero'] at hx204_0);(try rw [show ((0 : Int)).toNat = 0 from rfl] at hx204_1);(try rw [show 0 * 5 = 0 from rfl] at hx204_1);(try rw [Addr.add_zero'] at hx204_1);(try rw [show ((0 : Int)).toNat = 0 from rfl] at hx204_2);(try rw [show 0 * 5 = 0 from rfl] at hx204_2);(try rw [Addr.add_zero'] at hx204_2);(try rw [show ((0 : Int)).toNat = 0 from rfl] at hx204_3);(try rw [show 0 * 5 = 0 from rfl] at hx204_3);(try rw [Addr.add_zero'] at hx204_3);(try rw [show ((0 : Int)).toNat = 0 from rfl] at hx204_4);(try rw [show 0 * 5 = 0 from rfl] at hx204_4);(try rw [Addr.add_zero'] at hx204_4);replace p204:=eq_true p204;replace q204:=eq_true q204;have hcz28_0 : w27.cell? ⟨gb197,0,none⟩ = some (.int .u64 t192):=(blk_cell BK197.out 0).trans rfl;have hcz28_1 : w27.cell? ⟨gb197,1,none⟩ = some (.string t193):=(blk_cell BK197.out 1).trans rfl;have hcz28_2 : w27.cell? ⟨gb197,2,none⟩ = some (.string t194):=(blk_cell BK197.out 2).trans rfl;have hcz28_3 : w27.cell? ⟨gb197,3,none⟩ = some (.bool t195):=(blk_cell BK197.out 3).trans rfl;have hfz28_0:=blk_frozen BK197.out 0;have hfz28_1:=blk_frozen BK197.out 1;have hfz28_2:=blk_frozen BK197.out 2;have hfz28_3:=blk_frozen BK197.out 3;obtain ⟨Ao29,co29,eo29⟩:=Kd.R_slice HO203.out;subst eo29;have p205 : 0 ≤ (0 : Int):=(by omega);have q205 : 0 < (t200.length : Int):=of_decide_eq_true (by first | (with_reducible assumption) | assumption);obtain ⟨ad205,e205,hx205_0,hx205_1,hx205_2,hx205_3,hx205_4⟩:=at_T39 (Kd.R_reads' HO203.out).2.2 0 p205 q205;cases e205;have qi205 : (0 < t200.length) = True:=eq_true (by omega);(try rw [show ((0 : Int)).toNat = 0 from rfl] at hx205_0);(try rw [show 0 * 5 = 0 from rfl] at hx205_0);(try rw [Addr.add_zero'] at hx205_0);(try rw [show ((0 : Int)).toNat = 0 from rfl] at hx205_1);(try rw [show 0 * 5 = 0 from rfl] at hx205_1);(try rw [Addr.add_zero'] at hx205_1);(try rw [show ((0 : Int)).toNat = 0 from rfl] at hx205_2);(try rw [show 0 * 5 = 0 from rfl] at hx205_2);(try rw [Addr.add_zero'] at hx205_2);(try rw [show ((0 : Int)).toNat = 0 from rfl] at hx205_3);(try rw [show 0 * 5 = 0 from rfl] at hx205_3);(try rw [Addr.add_zero'] at hx205_3);(try rw [show ((0 : Int)).toNat = 0 from rfl] at hx205_4);(try rw [show 0 * 5 = 0 from rfl] at hx205_4);(try rw [Addr.add_zero'] at hx205_4);replace p205:=eq_true p205;replace q205:=eq_true q205;have p206 : 0 ≤ (0 : Int):=(by omega);have q206 : 0 < (t187.length : Int):=of_decide_eq_true (by first | (with_reducible assumption) | assumption);obtain ⟨ad206,e206,hx206_0,hx206_1,hx206_2,hx206_3,hx206_4⟩:=at_T39 (Kd.R_reads' HO190.out).2.2 0 p206 q206;obtain rfl : ad191 = ad206:=(by injection e206);have qi206 : (0 < t187.length) = True:=eq_true (by omega);(try rw [show ((0 : Int)).toNat = 0 from rfl] at hx206_0);(try rw [show 0 * 5 = 0 from rfl] at hx206_0);(try rw [Addr.add_zero'] at hx206_0);(try rw [show ((0 : Int)).toNat = 0 from rfl] at hx206_1);(try rw [show 0 * 5 = 0 from rfl] at hx206_1);(try rw [Addr.add_zero'] at hx206_1);(try rw [show ((0 : Int)).toNat = 0 from rfl] at hx206_2);(try rw [show 0 * 5 = 0 from rfl] at hx206_2);(try rw [Addr.add_zero'] at hx206_2);(try rw [show ((0 : Int)).toNat = 0 from rfl] at hx206_3);(try rw [show 0 * 5 = 0 from rfl] at hx206_3);(try rw [Addr.add_zero'] at hx206_3);(try rw [show ((0 : Int)).toNat = 0 from rfl] at hx206_4);(try rw [show 0 * 5 = 0 from rfl] at hx206_4);(try rw [Addr.add_zero'] at hx206_4);replace p206:=eq_true p206;replace q206:=eq_true q206));try go_wp2_with (first | ((with_reducible refine gate_dst (N:=13) rfl ?_);(try (refine gate_guard (by rfl) ?_;dsimp only));refine Kd.R_lit k45 _ 45 ?hg (N:=13) ?hd (xs:=([(⟨3,(⟨#[107]⟩ : ByteArray),(⟨#[118]⟩ : ByteArray),false⟩ : S45)] : List (S45))) (inner:=[.int .u64 3,.string (⟨#[107]⟩ : ByteArray),.string (⟨#[118]⟩ : ByteArray),.bool false]) (ok:=fun _ => True) (okp:=fun _ => True) ?hr ?hp (fun _ hk => hk) trivial (Below.refl _ _) (Nat.le_refl _) (by simp) ?_;(case hd => rfl);(case hg => rfl);(case hr => first | (go_simp;done) | (go_simp;rfl));(case hp => exact (Reps.c4 (show Kd.M k45 _ _ _ (⟨3,(⟨#[107]⟩ : ByteArray),(⟨#[118]⟩ : ByteArray),false⟩ : S45) [.int .u64 3,.string (⟨#[107]⟩ : ByteArray),.string (⟨#[118]⟩ : ByteArray),.bool false] from (k45_mkM _ _ _ (⟨3,(⟨#[107]⟩ : ByteArray),(⟨#[118]⟩ : ByteArray),false⟩ : S45) )) (Reps.none _ _)));intro v183 w17 ho18 hb hg_ hnew_;clear hg_ hnew_;(first | rw [← Ny182.out] at ho18 | (simp only [Int.reduceToNat] at ho18;rw [← Ny182.out] at ho18));have n0_:=Aside0.mk (Kd.R_lower ho18 (below_size (by repeat (first | (with_reducible first | exact HB.out | apply below_alloc | apply pw_below_drewN | apply below_drew1) | exact HB.out))));have n1_:=Aside0.mk (below_step (by repeat (first | (with_reducible first | exact HB.out | apply below_alloc | apply pw_below_drewN | apply below_drew1) | exact HB.out)) hb);clear HB;have HO184:=n0_;have HB:=n1_;clear n0_ n1_;clear hb ho18;obtain ⟨Ao19,co19,eo19⟩:=Kd.R_slice HO184.out;subst eo19) | (go_at_call 20;(with_reducible refine (frame_Bytes.calls k _ _ y182 t185 t186 _ ?side1 ?side2 A1.out).mono ?_);(case side1 => repeat (first | exact (Kd.R_reads' HO184.out).2.2 | (with_reducible refine Kd.C_alloc ?_ _) | (with_reducible refine Kd.C_drewN ?_ _) | (with_reducible refine Kd.C_drew ?_)));(case side2 => exact (Kd.R_reads' HO184.out).2.1);rintro e w20 ⟨rfl,hb⟩;have n0_:=Aside0.mk (Kd.R_below (by (with_reducible repeat (first | apply Kd.R_alloc | apply Kd.R_drewN | apply Kd.R_drew));exact HO184.out) hb);have n1_:=Aside0.mk (below_step (by repeat (first | (with_reducible first | exact HB.out | apply below_alloc | apply pw_below_drewN | apply below_drew1) | exact HB.out)) hb);clear HO184;clear HB;have HO184:=n0_;have HB:=n1_;clear n0_ n1_;(try clear hb);(try clear hb2);(try clear hk);(try clear hi)) | (go_at_call 15;(with_reducible refine (hint_Of.calls k t185 t187 t188 _ A2.out).mono ?_);rintro e w21 ⟨v189,rfl,ho0,hb⟩;have n0_:=Aside0.mk (Kd.R_below (by (with_reducible repeat (first | apply Kd.R_alloc | apply Kd.R_drewN | apply Kd.R_drew));exact HO184.out) hb);have n1_:=Aside0.mk (Kd.R_lower ho0 (below_size (by repeat (first | (with_reducible first | exact HB.out | apply below_alloc | apply pw_below_drewN | apply below_drew1) | exact HB.out))));have n2_:=Aside0.mk (below_step (by repeat (first | (with_reducible first | exact HB.out | apply below_alloc | apply pw_below_drewN | apply below_drew1) | exact HB.out)) hb);clear HO184;clear HB;have HO184:=n0_;have HO190:=n1_;have HB:=n2_;clear n0_ n1_ n2_;(try clear hb);(try clear hb2);(try clear hk);(try clear hi);(try clear ho0);obtain ⟨Ao22,co22,eo22⟩:=Kd.R_slice HO190.out;subst eo22;have p191 : 0 ≤ (0 : Int):=(by omega);have q191 : 0 < (t187.length : Int):=of_decide_eq_true (by first | (with_reducible assumption) | assumption);obtain ⟨ad191,e191,hx191_0,hx191_1,hx191_2,hx191_3,hx191_4⟩:=at_T39 (Kd.R_reads' HO190.out).2.2 0 p191 q191;cases e191;have qi191 : (0 < t187.length) = True:=eq_true (by omega);(try rw [show ((0 : Int)).toNat = 0 from rfl] at hx191_0);(try rw [show 0 * 5 = 0 from rfl] at hx191_0);(try rw [Addr.add_zero'] at hx191_0);(try rw [show ((0 : Int)).toNat = 0 from rfl] at hx191_1);(try rw [show 0 * 5 = 0 from rfl] at hx191_1);(try rw [Addr.add_zero'] at hx191_1);(try rw [show ((0 : Int)).toNat = 0 from rfl] at hx191_2);(try rw [show 0 * 5 = 0 from rfl] at hx191_2);(try rw [Addr.add_zero'] at hx191_2);(try rw [show ((0 : Int)).toNat = 0 from rfl] at hx191_3);(try rw [show 0 * 5 = 0 from rfl] at hx191_3);(try rw [Addr.add_zero'] at hx191_3);(try rw [show ((0 : Int)).toNat = 0 from rfl] at hx191_4);(try rw [show 0 * 5 = 0 from rfl] at hx191_4);(try rw [Addr.add_zero'] at hx191_4);replace p191:=eq_true p191;replace q191:=eq_true q191) | (go_at_call 17;(with_reducible refine (hint_At.calls k t185 ((rd_T39 t187 0).f0) ((rd_T39 t187 0).f1) ((rd_T39 t187 0).f2) ((rd_T39 t187 0).f3) ((rd_T39 t187 0).f4) t192 t193 t194 t195 t196 _ A5.out).mono ?_);rintro e w23 ⟨rfl,hb⟩;have n0_:=Aside0.mk (Kd.R_below (by (with_reducible repeat (first | apply Kd.R_alloc | apply Kd.R_drewN | apply Kd.R_drew));exact HO184.out) hb);have n1_:=Aside0.mk (Kd.R_below (by (with_reducible repeat (first | apply Kd.R_alloc | apply Kd.R_drewN | apply Kd.R_drew));exact HO190.out) hb);have n2_:=Aside0.mk (below_step (by repeat (first | (with_reducible first | exact HB.out | apply below_alloc | apply pw_below_drewN | apply below_drew1) | exact HB.out)) hb);clear HO184;clear HO190;clear HB;have HO184:=n0_;have HO190:=n1_;have HB:=n2_;clear n0_ n1_ n2_;(try clear hb);(try clear hb2);(try clear hk);(try clear hi)) | ((with_reducible refine gate_dst (N:=5) rfl ?_);(try (refine gate_guard (by rfl) ?_;dsimp only));refine box_event ?hg (N:=5) ?hd (cs := #[.int .u64 0,.string (⟨#[]⟩ : ByteArray),.string (⟨#[]⟩ : ByteArray),.bool false]) (t:=45) ?hr ?_;(case hd => rfl);(case hg => rfl);(case hr => first | (go_simp;done) | (go_simp;rfl));intro gb197 hg w24 hbox hb;have n0_:=Aside0.mk (Kd.R_below (Kd.R_elderB (by (with_reducible repeat (first | apply Kd.R_alloc | apply Kd.R_drewN | apply Kd.R_drew));exact HO184.out) gb197 (Nat.le_of_eq hg.symm)) hb);have n1_:=Aside0.mk (Kd.R_below (by (with_reducible repeat (first | apply Kd.R_alloc | apply Kd.R_drewN | apply Kd.R_drew));exact HO190.out) hb);have n2_:=Aside0.mk (below_step (by repeat (first | (with_reducible first | exact HB.out | apply below_alloc | apply pw_below_drewN | apply below_drew1) | exact HB.out)) hb);have n3_:=Aside0.mk (hbox);have n4_:=Aside0.mk ((by rw [hg];exact (below_size (by repeat (first | (with_reducible first | exact HB.out | apply below_alloc | apply pw_below_drewN | apply below_drew1) | exact HB.out))) : w.heap.size ≤ gb197));have n5_:=Aside0.mk ((by rw [hg];exact (below_size (by repeat (first | (with_reducible first | exact HB.out | apply below_alloc | apply pw_below_drewN | apply below_drew1) | exact HB.out))) : w.heap.size ≤ gb197));clear HO184;clear HO190;clear HB;have HO184:=n0_;have HO190:=n1_;have HB:=n2_;have BK197:=n3_;have GW197:=n4_;have GE197:=n5_;clear n0_ n1_ n2_ n3_ n4_ n5_;clear hb hbox hg;have hcz25_0 : w24.cell? ⟨gb197,0,none⟩ = some (.int .u64 0):=(blk_cell BK197.out 0).trans rfl;have hcz25_1 : w24.cell? ⟨gb197,1,none⟩ = some (.string (⟨#[]⟩ : ByteArray)):=(blk_cell BK197.out 1).trans rfl;have hcz25_2 : w24.cell? ⟨gb197,2,none⟩ = some (.string (⟨#[]⟩ : ByteArray)):=(blk_cell BK197.out 2).trans rfl;have hcz25_3 : w24.cell? ⟨gb197,3,none⟩ = some (.bool false):=(blk_cell BK197.out 3).trans rfl;have hfz25_0:=blk_frozen BK197.out 0;have hfz25_1:=blk_frozen BK197.out 1;have hfz25_2:=blk_frozen BK197.out 2;have hfz25_3:=blk_frozen BK197.out 3) | (go_at_call 9;(with_reducible refine (hint_Bytes.calls k _ _ t187 t198 t199 _ ?side1 ?side2 A6.out).mono ?_);(case side1 => refine (Kd.R_reads' (e:=39) (base:=w.heap.size) (ok:=fun k_ => True) (n:=t187.length) (c:=co22) ?_).2.2;exact (by (with_reducible repeat (first | apply Kd.R_alloc | apply Kd.R_drewN | apply Kd.R_drew));exact (Kd.R_mono (Kd.R_far (p:=⟨gb197,3,none⟩) (Kd.R_far (p:=⟨gb197,2,none⟩) (Kd.R_far (p:=⟨gb197,1,none⟩) (Kd.R_far (p:=⟨gb197,0,none⟩) (Kd.R_types HO190.out BK197.out (by decide)) (fun _ hk => hk.2) (.int .u64 t192)) (fun _ hk => hk.2) (.string t193)) (fun _ hk => hk.2) (.string t194)) (fun _ hk => hk.2) (.bool t195)) (fun _ h_ => h_.1))));(case side2 => exact (Kd.R_reads' HO190.out).2.1);rintro e w26 ⟨rfl,hb⟩;have n0_:=Aside0.mk (Kd.R_below (by (with_reducible repeat (first | apply Kd.R_alloc | apply Kd.R_drewN | apply Kd.R_drew));exact (Kd.R_mono (Kd.R_far (p:=⟨gb197,3,none⟩) (Kd.R_far (p:=⟨gb197,2,none⟩) (Kd.R_far (p:=⟨gb197,1,none⟩) (Kd.R_far (p:=⟨gb197,0,none⟩) (Kd.R_mono HO184.out (fun k_ hk => (⟨hk,hk.2⟩ : _ ∧ k_ ≠ gb197))) (fun _ hk => hk.2) (.int .u64 t192)) (fun _ hk => hk.2) (.string t193)) (fun _ hk => hk.2) (.string t194)) (fun _ hk => hk.2) (.bool t195)) (fun _ h_ => h_.1))) hb);have n1_:=Aside0.mk (Kd.R_below (by (with_reducible repeat (first | apply Kd.R_alloc | apply Kd.R_drewN | apply Kd.R_drew));exact (Kd.R_mono (Kd.R_far (p:=⟨gb197,3,none⟩) (Kd.R_far (p:=⟨gb197,2,none⟩) (Kd.R_far (p:=⟨gb197,1,none⟩) (Kd.R_far (p:=⟨gb197,0,none⟩) (Kd.R_types HO190.out BK197.out (by decide)) (fun _ hk => hk.2) (.int .u64 t192)) (fun _ hk => hk.2) (.string t193)) (fun _ hk => hk.2) (.string t194)) (fun _ hk => hk.2) (.bool t195)) (fun _ h_ => h_.1))) hb);have n2_:=Aside0.mk (blk_below (g:=gb197) (o := .cells #[.int .u64 t192,.string t193,.string t194,.bool t195] 45 (0,0)) (by (with_reducible repeat (first | refine blk_drewN ?_ _ | refine blk_drew ?_ | refine blk_alloc ?_ _));refine blk_put (cs := #[.int .u64 t192,.string t193,.string t194,.bool false]) ?_ 3 _ rfl;(with_reducible repeat (first | refine blk_drewN ?_ _ | refine blk_drew ?_ | refine blk_alloc ?_ _));refine blk_put (cs := #[.int .u64 t192,.string t193,.string (⟨#[]⟩ : ByteArray),.bool false]) ?_ 2 _ rfl;(with_reducible repeat (first | refine blk_drewN ?_ _ | refine blk_drew ?_ | refine blk_alloc ?_ _));refine blk_put (cs := #[.int .u64 t192,.string (⟨#[]⟩ : ByteArray),.string (⟨#[]⟩ : ByteArray),.bool false]) ?_ 1 _ rfl;(with_reducible repeat (first | refine blk_drewN ?_ _ | refine blk_drew ?_ | refine blk_alloc ?_ _));refine blk_put (cs := #[.int .u64 0,.string (⟨#[]⟩ : ByteArray),.string (⟨#[]⟩ : ByteArray),.bool false]) ?_ 0 _ rfl;(with_reducible repeat (first | refine blk_drewN ?_ _ | refine blk_drew ?_ | refine blk_alloc ?_ _));exact BK197.out) hb);have n3_:=Aside0.mk (below_step (by repeat (first | (with_reducible first | exact HB.out | apply below_alloc | apply pw_below_drewN | apply below_drew1 | refine below_set ?_ GE197.out) | exact HB.out)) hb);clear HO184;clear HO190;clear BK197;clear HB;have HO184:=n0_;have HO190:=n1_;have BK197:=n2_;have HB:=n3_;clear n0_ n1_ n2_ n3_;(try clear hb);(try clear hb2);(try clear hk);(try clear hi)) | (go_at_call 12;(with_reducible refine (hint_Read.calls k t198 t200 t201 _ A7.out).mono ?_);rintro e w27 ⟨v202,rfl,ho0,hb⟩;have n0_:=Aside0.mk (Kd.R_below (by (with_reducible repeat (first | apply Kd.R_alloc | apply Kd.R_drewN | apply Kd.R_drew));exact HO184.out) hb);have n1_:=Aside0.mk (Kd.R_elder' (by (with_reducible repeat (first | apply Kd.R_alloc | apply Kd.R_drewN | apply Kd.R_drew));exact HO190.out) (Kd.R_base ho0) hb);have n2_:=Aside0.mk (Kd.R_lower (Kd.R_new' ho0 (Kd.R_lt (by (with_reducible repeat (first | apply Kd.R_alloc | apply Kd.R_drewN | apply Kd.R_drew));exact HO190.out))) (below_size (by repeat (first | (with_reducible first | exact HB.out | apply below_alloc | apply pw_below_drewN | apply below_drew1 | refine below_set ?_ GE197.out) | exact HB.out))));have n3_:=Aside0.mk (blk_below (g:=gb197) (o := .cells #[.int .u64 t192,.string t193,.string t194,.bool t195] 45 (0,0)) (by (with_reducible repeat (first | refine blk_drewN ?_ _ | refine blk_drew ?_ | refine blk_alloc ?_ _));exact BK197.out) hb);have n4_:=Aside0.mk (below_step (by repeat (first | (with_reducible first | exact HB.out | apply below_alloc | apply pw_below_drewN | apply below_drew1 | refine below_set ?_ GE197.out) | exact HB.out)) hb);clear HO184;clear HO190;clear BK197;clear HB;have HO184:=n0_;have HO190:=n1_;have HO203:=n2_;have BK197:=n3_;have HB:=n4_;clear n0_ n1_ n2_ n3_ n4_;(try clear hb);(try clear hb2);(try clear hk);(try clear hi);(try clear ho0);have p204 : 0 ≤ (0 : Int):=(by omega);have q204 : 0 < (t187.length : Int):=of_decide_eq_true (by first | (with_reducible assumption) | assumption);obtain ⟨ad204,e204,hx204_0,hx204_1,hx204_2,hx204_3,hx204_4⟩:=at_T39 (Kd.R_reads' HO190.out).2.2 0 p204 q204;obtain rfl : ad191 = ad204:=(by injection e204);have qi204 : (0 < t187.length) = True:=eq_true (by omega);(try rw [show ((0 : Int)).toNat = 0 from rfl] at hx204_0);(try rw [show 0 * 5 = 0 from rfl] at hx204_0);(try rw [Addr.add_zero'] at hx204_0);(try rw [show ((0 : Int)).toNat = 0 from rfl] at hx204_1);(try rw [show 0 * 5 = 0 from rfl] at hx204_1);(try rw [Addr.add_zero'] at hx204_1);(try rw [show ((0 : Int)).toNat = 0 from rfl] at hx204_2);(try rw [show 0 * 5 = 0 from rfl] at hx204_2);(try rw [Addr.add_zero'] at hx204_2);(try rw [show ((0 : Int)).toNat = 0 from rfl] at hx204_3);(try rw [show 0 * 5 = 0 from rfl] at hx204_3);(try rw [Addr.add_zero'] at hx204_3);(try rw [show ((0 : Int)).toNat = 0 from rfl] at hx204_4);(try rw [show 0 * 5 = 0 from rfl] at hx204_4);(try rw [Addr.add_zero'] at hx204_4);replace p204:=eq_true p204;replace q204:=eq_true q204;have hcz28_0 : w27.cell? ⟨gb197,0,none⟩ = some (.int .u64 t192):=(blk_cell BK197.out 0).trans rfl;have hcz28_1 : w27.cell? ⟨gb197,1,none⟩ = some (.string t193):=(blk_cell BK197.out 1).trans rfl;have hcz28_2 : w27.cell? ⟨gb197,2,none⟩ = some (.string t194):=(blk_cell BK197.out 2).trans rfl;have hcz28_3 : w27.cell? ⟨gb197,3,none⟩ = some (.bool t195):=(blk_cell BK197.out 3).trans rfl;have hfz28_0:=blk_frozen BK197.out 0;have hfz28_1:=blk_frozen BK197.out 1;have hfz28_2:=blk_frozen BK197.out 2;have hfz28_3:=blk_frozen BK197.out 3;obtain ⟨Ao29,co29,eo29⟩:=Kd.R_slice HO203.out;subst eo29;have p205 : 0 ≤ (0 : Int):=(by omega);have q205 : 0 < (t200.length : Int):=of_decide_eq_true (by first | (with_reducible assumption) | assumption);obtain ⟨ad205,e205,hx205_0,hx205_1,hx205_2,hx205_3,hx205_4⟩:=at_T39 (Kd.R_reads' HO203.out).2.2 0 p205 q205;cases e205;have qi205 : (0 < t200.length) = True:=eq_true (by omega);(try rw [show ((0 : Int)).toNat = 0 from rfl] at hx205_0);(try rw [show 0 * 5 = 0 from rfl] at hx205_0);(try rw [Addr.add_zero'] at hx205_0);(try rw [show ((0 : Int)).toNat = 0 from rfl] at hx205_1);(try rw [show 0 * 5 = 0 from rfl] at hx205_1);(try rw [Addr.add_zero'] at hx205_1);(try rw [show ((0 : Int)).toNat = 0 from rfl] at hx205_2);(try rw [show 0 * 5 = 0 from rfl] at hx205_2);(try rw [Addr.add_zero'] at hx205_2);(try rw [show ((0 : Int)).toNat = 0 from rfl] at hx205_3);(try rw [show 0 * 5 = 0 from rfl] at hx205_3);(try rw [Addr.add_zero'] at hx205_3);(try rw [show ((0 : Int)).toNat = 0 from rfl] at hx205_4);(try rw [show 0 * 5 = 0 from rfl] at hx205_4);(try rw [Addr.add_zero'] at hx205_4);replace p205:=eq_true p205;replace q205:=eq_true q205;have p206 : 0 ≤ (0 : Int):=(by omega);have q206 : 0 < (t187.length : Int):=of_decide_eq_true (by first | (with_reducible assumption) | assumption);obtain ⟨ad206,e206,hx206_0,hx206_1,hx206_2,hx206_3,hx206_4⟩:=at_T39 (Kd.R_reads' HO190.out).2.2 0 p206 q206;obtain rfl : ad191 = ad206:=(by injection e206);have qi206 : (0 < t187.length) = True:=eq_true (by omega);(try rw [show ((0 : Int)).toNat = 0 from rfl] at hx206_0);(try rw [show 0 * 5 = 0 from rfl] at hx206_0);(try rw [Addr.add_zero'] at hx206_0);(try rw [show ((0 : Int)).toNat = 0 from rfl] at hx206_1);(try rw [show 0 * 5 = 0 from rfl] at hx206_1);(try rw [Addr.add_zero'] at hx206_1);(try rw [show ((0 : Int)).toNat = 0 from rfl] at hx206_2);(try rw [show 0 * 5 = 0 from rfl] at hx206_2);(try rw [Addr.add_zero'] at hx206_2);(try rw [show ((0 : Int)).toNat = 0 from rfl] at hx206_3);(try rw [show 0 * 5 = 0 from rfl] at hx206_3);(try rw [Addr.add_zero'] at hx206_3);(try rw [show ((0 : Int)).toNat = 0 from rfl] at hx206_4);(try rw [show 0 * 5 = 0 from rfl] at hx206_4);(try rw [Addr.add_zero'] at hx206_4);replace p206:=eq_true p206;replace q206:=eq_true q206)))
            go_ret
            exact ⟨by first | rfl | (simp [errW_none,errW_some] <;> rfl) | (simp [*,errW_none,errW_some] <;> rfl) | (simp [errW_none,errW_some];exact isEmpty_bne _),by repeat (first | (with_reducible first | exact HB.out | apply below_alloc | apply pw_below_drewN | apply below_drew1 | refine below_set ?_ GE197.out) | exact HB.out)⟩
           ·rw [if_neg c16] at H
            exact absurd H (by simp)
          ·rw [if_neg c15] at H
           exact absurd H (by simp)
         ·rw [if_neg c14] at H
          exact absurd H (by simp)
        ·rw [if_neg c13] at H
         exact absurd H (by simp)
       ·rw [if_neg c12] at H
        exact absurd H (by simp)
      ·rw [if_neg c11] at H
       exact absurd H (by simp)
     ·rw [if_neg c10] at H
      exact absurd H (by simp)
    ·rw [if_neg c9] at H
     exact absurd H (by simp)
   ·rw [if_neg c8] at H
    exact absurd H (by simp)
  ·rw [if_neg c4] at H
   exact absurd H (by simp)
 ·rw [if_neg c3] at H
  exact absurd H (by simp)

/-! ### thwartref03_Light: function 46 -/
def thwartref03_Light.l0 : Nat → List (S45) → Int → Int → Option (Bool)
 | 0,_,_,_ => none
 | k + 1,x0,x3,x4 => if x4 < (x0.length : Int) then (if x4 < 100 then (if 0 ≤ x4 then (thwartref03_Light.l0 k x0 (wrap64 ((wrap64 (x3 + (mn (((rd_T45 x0 x4).f1).size : Int) 10000))) + (mn (((rd_T45 x0 x4).f2).size : Int) 10000))) (wrap64 (x4 + 1))) else (none)) else (if (x0.length : Int) ≤ 40 then (some (decide (x3 < 4000))) else (some false))) else (if (x0.length : Int) ≤ 40 then (some (decide (x3 < 4000))) else (some false))
def thwartref03_Light.f (k : Nat) (l0 : List (S45)) : Option (Bool):=thwartref03_Light.l0 k l0 0 0
theorem thwartref03_Light.mono_l : ∀ k,(∀ y0 y1 y2,LeO (thwartref03_Light.l0 k y0 y1 y2) (thwartref03_Light.l0 (k + 1) y0 y1 y2))
 | 0 => fun _ _ _ r h => by simp [thwartref03_Light.l0] at h
 | k + 1 => by
  have ih0:=thwartref03_Light.mono_l k
  ·intro y0 y1 y2
   unfold thwartref03_Light.l0
   repeat' first
   | (with_reducible exact ih0 _ _ _)
   | (with_reducible exact LeO.refl _)
   | (with_reducible exact LeO.none _)
   | (with_reducible refine LeO.ite ?_ ?_)
   | (with_reducible refine LeO.bind ?_ (fun _ => ?_))
   | exact ih0 _ _ _
   | exact LeO.none _
   | refine LeO.ite ?_ ?_
   | refine LeO.bind ?_ (fun _ => ?_)
theorem thwartref03_Light.mono : ∀ a0 k,LeO (thwartref03_Light.f k a0) (thwartref03_Light.f (k + 1) a0):=by
 intro a0 k
 have ih0:=thwartref03_Light.mono_l k
 unfold thwartref03_Light.f
 repeat' first
   | (with_reducible exact ih0 _ _ _)
   | (with_reducible exact LeO.refl _)
   | (with_reducible exact LeO.none _)
   | (with_reducible refine LeO.ite ?_ ?_)
   | (with_reducible refine LeO.bind ?_ (fun _ => ?_))
   | exact ih0 _ _ _
   | exact LeO.none _
   | refine LeO.ite ?_ ?_
   | refine LeO.bind ?_ (fun _ => ?_)
set_option maxHeartbeats 8000000 in
set_option maxRecDepth 100000 in
theorem thwartref03_Light.calls (k : Nat) (A0 : Option Addr) (c0 : Nat) (l0 : List (S45)) (r : Bool) (w : World) (hr0 : Kd.C k45 w A0 l0.length l0) (hc0 : l0.length ≤ c0) (h : thwartref03_Light.f k l0 = some r) :
  Calls Try.prog 46 #[.slice A0 l0.length c0] w fun e w' => e = .returned (.bool r) ∧ Below w.heap.size w w' := by
 have HR0:=Aside0.mk hr0
 have HC0:=Aside0.mk hc0
 clear hr0 hc0
 have HB:=Aside0.mk (Below.refl w.heap.size w)
 have H : (thwartref03_Light.l0 k l0 0 0) = some r:=h
 clear h
 have H' := Aside0.mk H
 clear H
 go_enter Try.func46,Try.ntmps46
 go_wp2
 repeat (go_quiet (fail);try go_wp2)
 go_loopg [3,4] k (fun kq v3 v4 w' => ∃ (x3_1 : Int) (x4_1 : Int),v3 = .int .i64 x3_1 ∧ v4 = .int .i64 x4_1 ∧ Aside0 (thwartref03_Light.l0 kq l0 x3_1 x4_1 = some r) ∧ Aside0 (kq ≤ k) ∧ Aside0 (Below w.heap.size w w'))
 case atStart => exact ⟨(0),(0),(by first | rfl | (simp;done) | (simp [*];done)),(by first | rfl | (simp;done) | (simp [*];done)),H',⟨Nat.le_refl _⟩,⟨by repeat (first | (with_reducible first | exact HB.out | apply below_alloc | apply pw_below_drewN | apply below_drew1) | exact HB.out)⟩⟩
 case round =>
  clear H'
  obtain ⟨x3_1,x4_1,rfl,rfl,HA,HK1,HB⟩:=hrel
  cases gk with
  | zero => exact absurd HA.out (by simp [thwartref03_Light.l0])
  | succ k1 =>
   have H:=HA.out
   clear HA
   simp only [thwartref03_Light.l0] at H
   by_cases c2 : x4_1 < (l0.length : Int)
   ·rw [if_pos c2] at H
    have c2b0 : decide (x4_1 < (l0.length : Int)) = true:=decide_eq_true c2
    clear c2
    by_cases c3 : x4_1 < 100
    ·rw [if_pos c3] at H
     have c3b0 : decide (x4_1 < 100) = true:=decide_eq_true c3
     clear c3
     by_cases c4 : 0 ≤ x4_1
     ·rw [if_pos c4] at H
      have c4b0 : decide (0 ≤ x4_1) = true:=decide_eq_true c4
      clear c4
      obtain ⟨ji5,hji5⟩ : ∃ j_ : Int,(mn (((rd_T45 l0 x4_1).f1).size : Int) 10000) = j_:=⟨_,rfl⟩
      replace H : (thwartref03_Light.l0 k1 l0 (wrap64 ((wrap64 (x3_1 + (ji5))) + (mn (((rd_T45 l0 x4_1).f2).size : Int) 10000))) (wrap64 (x4_1 + 1))) = some r:=by first | (rw [hji5] at H;exact H) | (simp only [hji5] at H ⊢;exact H)
      have hji5_ : (if 10000 < (((rd_T45 l0 x4_1).f1).size : Int) then 10000 else (((rd_T45 l0 x4_1).f1).size : Int)) = ji5:=hji5
      obtain ⟨ji6,hji6⟩ : ∃ j_ : Int,(mn (((rd_T45 l0 x4_1).f2).size : Int) 10000) = j_:=⟨_,rfl⟩
      replace H : (thwartref03_Light.l0 k1 l0 (wrap64 ((wrap64 (x3_1 + (ji5))) + (ji6))) (wrap64 (x4_1 + 1))) = some r:=by first | (rw [hji6] at H;exact H) | (simp only [hji6] at H ⊢;exact H)
      have hji6_ : (if 10000 < (((rd_T45 l0 x4_1).f2).size : Int) then 10000 else (((rd_T45 l0 x4_1).f2).size : Int)) = ji6:=hji6
      have H' := Aside0.mk H
      clear H
      have p207 : 0 ≤ (x4_1 : Int):=of_decide_eq_true (by first | (with_reducible assumption) | assumption)
      have q207 : x4_1 < (l0.length : Int):=of_decide_eq_true (by first | (with_reducible assumption) | assumption)
      obtain ⟨ad207,e207,hx207_0,hx207_1,hx207_2,hx207_3⟩:=at_T45 HR0.out x4_1 p207 q207
      cases e207
      replace hx207_0:=(HB.out.cell (World.block_lt_of_cell? w _ hx207_0)).trans hx207_0
      replace hx207_1:=(HB.out.cell (World.block_lt_of_cell? w _ hx207_1)).trans hx207_1
      replace hx207_2:=(HB.out.cell (World.block_lt_of_cell? w _ hx207_2)).trans hx207_2
      replace hx207_3:=(HB.out.cell (World.block_lt_of_cell? w _ hx207_3)).trans hx207_3
      replace p207:=eq_true p207
      replace q207:=eq_true q207
      have p208 : 0 ≤ (x4_1 : Int):=of_decide_eq_true (by first | (with_reducible assumption) | assumption)
      have q208 : x4_1 < (l0.length : Int):=of_decide_eq_true (by first | (with_reducible assumption) | assumption)
      obtain ⟨ad208,e208,hx208_0,hx208_1,hx208_2,hx208_3⟩:=at_T45 HR0.out x4_1 p208 q208
      obtain rfl : ad207 = ad208:=(by injection e208)
      replace hx208_0:=(HB.out.cell (World.block_lt_of_cell? w _ hx208_0)).trans hx208_0
      replace hx208_1:=(HB.out.cell (World.block_lt_of_cell? w _ hx208_1)).trans hx208_1
      replace hx208_2:=(HB.out.cell (World.block_lt_of_cell? w _ hx208_2)).trans hx208_2
      replace hx208_3:=(HB.out.cell (World.block_lt_of_cell? w _ hx208_3)).trans hx208_3
      replace p208:=eq_true p208
      replace q208:=eq_true q208
      go_wp2
      repeat (go_quiet (fail);try go_wp2)
      go_roundg k1
      case measure => have:=HK1.out;omega
      case rel => exact ⟨(wrap64 ((wrap64 (x3_1 + (ji5))) + (ji6))),(wrap64 (x4_1 + 1)),(by first | rfl | (simp;done) | (simp only [← hji5,← hji6] <;> (first | rfl | simp)) | (simp [*];done)),(by first | rfl | (simp;done) | (simp [*];done)),H',⟨by have:=HK1.out;omega⟩,⟨by repeat (first | (with_reducible first | exact HB.out | apply below_alloc | apply pw_below_drewN | apply below_drew1) | exact HB.out)⟩⟩
     ·rw [if_neg c4] at H
      exact absurd H (by simp)
    ·rw [if_neg c3] at H
     have c3b0 : decide (x4_1 < 100) = false:=decide_eq_false c3
     clear c3
     by_cases c7 : (l0.length : Int) ≤ 40
     ·rw [if_pos c7] at H
      have c7b0 : decide ((l0.length : Int) ≤ 40) = true:=decide_eq_true c7
      have c7b1 : decide (l0.length ≤ 40) = true:=decide_eq_true (by omega)
      clear c7
      obtain rfl:=Option.some.inj H
      go_wp2
      repeat (go_quiet (fail);try go_wp2)
      go_ret
      exact ⟨by first | rfl | (simp [errW_none,errW_some] <;> rfl) | (simp [*,errW_none,errW_some] <;> rfl) | (simp [errW_none,errW_some];exact isEmpty_bne _),by repeat (first | (with_reducible first | exact HB.out | apply below_alloc | apply pw_below_drewN | apply below_drew1) | exact HB.out)⟩
     ·rw [if_neg c7] at H
      have c7b0 : decide ((l0.length : Int) ≤ 40) = false:=decide_eq_false c7
      have c7b1 : decide (l0.length ≤ 40) = false:=decide_eq_false (by omega)
      clear c7
      obtain rfl:=Option.some.inj H
      go_wp2
      repeat (go_quiet (fail);try go_wp2)
      go_ret
      exact ⟨by first | rfl | (simp [errW_none,errW_some] <;> rfl) | (simp [*,errW_none,errW_some] <;> rfl) | (simp [errW_none,errW_some];exact isEmpty_bne _),by repeat (first | (with_reducible first | exact HB.out | apply below_alloc | apply pw_below_drewN | apply below_drew1) | exact HB.out)⟩
   ·rw [if_neg c2] at H
    have c2b0 : decide (x4_1 < (l0.length : Int)) = false:=decide_eq_false c2
    clear c2
    by_cases c8 : (l0.length : Int) ≤ 40
    ·rw [if_pos c8] at H
     have c8b0 : decide ((l0.length : Int) ≤ 40) = true:=decide_eq_true c8
     have c8b1 : decide (l0.length ≤ 40) = true:=decide_eq_true (by omega)
     clear c8
     obtain rfl:=Option.some.inj H
     go_wp2
     repeat (go_quiet (fail);try go_wp2)
     go_ret
     exact ⟨by first | rfl | (simp [errW_none,errW_some] <;> rfl) | (simp [*,errW_none,errW_some] <;> rfl) | (simp [errW_none,errW_some];exact isEmpty_bne _),by repeat (first | (with_reducible first | exact HB.out | apply below_alloc | apply pw_below_drewN | apply below_drew1) | exact HB.out)⟩
    ·rw [if_neg c8] at H
     have c8b0 : decide ((l0.length : Int) ≤ 40) = false:=decide_eq_false c8
     have c8b1 : decide (l0.length ≤ 40) = false:=decide_eq_false (by omega)
     clear c8
     obtain rfl:=Option.some.inj H
     go_wp2
     repeat (go_quiet (fail);try go_wp2)
     go_ret
     exact ⟨by first | rfl | (simp [errW_none,errW_some] <;> rfl) | (simp [*,errW_none,errW_some] <;> rfl) | (simp [errW_none,errW_some];exact isEmpty_bne _),by repeat (first | (with_reducible first | exact HB.out | apply below_alloc | apply pw_below_drewN | apply below_drew1) | exact HB.out)⟩

end Go.Proofs.Ytdjkkceamldmjaa.Print
