/- Written by a program of mine (give.py, over the kit's print) out of the translation: contracts of the Go functions. Lean checks it. -/
import Derived.Outline
import Derived.Test.YtlnbekaldemebaaGreatDoorPrint0
namespace Go.Proofs.YtlnbekaldemebaaGreatDoor.Print
open Go.RowKit Go.Proofs.YtlnbekaldemebaaGreatDoorW.PrintWords Go.Proofs.YtlnbekaldemebaaGreatDoorW.PrintLast Go.Proofs.YtlnbekaldemebaaGreatDoorW.PrintMore
attribute [local go_sem] max2_int min2_int max_two min_two max_three min_three max_four min_four   -- for this text's walks alone
set_option linter.unusedVariables false
set_option linter.unusedSimpArgs false

/-! ### thwartref12_Right: function 90 -/
def thwartref12_Right.l0 : Nat → Int → Int → List (S65) → Option (Bool)
 | 0,_,_,_ => none
 | k + 1,x3,x369000,x369001 => if x3 < (x369001.length : Int) then (if 0 ≤ x3 then (if ((rd_T65 x369001 x3).f0) < 0 then (some false) else (if ((rd_T65 x369001 x3).f0) > 999999 then (some false) else (if ((rd_T65 x369001 x3).f1) < 0 then (some false) else (if ((rd_T65 x369001 x3).f1) > 1048576 then (some false) else (if x3 > 0 then (if 0 ≤ (wrap64 (x3 - 1)) then (if (wrap64 (x3 - 1)) < (x369001.length : Int) then (if ((rd_T65 x369001 (wrap64 (x3 - 1))).f0) ≥ ((rd_T65 x369001 x3).f0) then (some false) else (thwartref12_Right.l0 k (wrap64 (x3 + 1)) x369000 x369001)) else (none)) else (none)) else (thwartref12_Right.l0 k (wrap64 (x3 + 1)) x369000 x369001)))))) else (none)) else (if x369000 ≥ 1 then (if x369000 ≤ 999999 then (some (decide ((x369001.length : Int) ≤ 200))) else (some false)) else (some false))
def thwartref12_Right.f (k : Nat) (a0_0 : Int) (l0_1 : List (S65)) : Option (Bool):=thwartref12_Right.l0 k 0 a0_0 l0_1
theorem thwartref12_Right.mono_l : ∀ k,(∀ y0 y1 y2,LeO (thwartref12_Right.l0 k y0 y1 y2) (thwartref12_Right.l0 (k + 1) y0 y1 y2))
 | 0 => fun _ _ _ r h => by simp [thwartref12_Right.l0] at h
 | k + 1 => by
  have ih0:=thwartref12_Right.mono_l k
  ·intro y0 y1 y2
   unfold thwartref12_Right.l0
   repeat' first
   | (with_reducible exact ih0 _ _ _)
   | (with_reducible exact LeO.refl _)
   | (with_reducible exact LeO.none _)
   | (with_reducible refine LeO.ite ?_ ?_)
   | (with_reducible refine LeO.bind ?_ (fun _ => ?_))
   | exact ih0 _ _ _
   | exact LeO.none _
   | refine LeO.ite ?_ ?_
   | refine LeO.bind ?_ (fun _ => ?_)
theorem thwartref12_Right.mono : ∀ a0 a1 k,LeO (thwartref12_Right.f k a0 a1) (thwartref12_Right.f (k + 1) a0 a1):=by
 intro a0 a1 k
 have ih0:=thwartref12_Right.mono_l k
 unfold thwartref12_Right.f
 repeat' first
   | (with_reducible exact ih0 _ _ _)
   | (with_reducible exact LeO.refl _)
   | (with_reducible exact LeO.none _)
   | (with_reducible refine LeO.ite ?_ ?_)
   | (with_reducible refine LeO.bind ?_ (fun _ => ?_))
   | exact ih0 _ _ _
   | exact LeO.none _
   | refine LeO.ite ?_ ?_
   | refine LeO.bind ?_ (fun _ => ?_)
set_option maxHeartbeats 6400000 in
set_option maxRecDepth 100000 in
theorem thwartref12_Right.calls (k : Nat) (a0_0 : Int) (A0_1 : Option Addr) (c0_1 : Nat) (l0_1 : List (S65)) (r : Bool) (w : World) (hr0_1 : Kd.C k65 w A0_1 l0_1.length l0_1) (hc0_1 : l0_1.length ≤ c0_1) (h : thwartref12_Right.f k a0_0 l0_1 = some r) :
  Calls Tryz.prog 90 #[.agg #[.int .i64 a0_0,.slice A0_1 l0_1.length c0_1]] w fun e w' => e = .returned (.bool r) ∧ Below w.heap.size w w' := by
 have HR:=Aside0.mk hr0_1
 have H' := Aside0.mk (show thwartref12_Right.l0 k 0 a0_0 l0_1 = some r from h)
 clear hr0_1 h
 go_enter Tryz.func90, Tryz.ntmps90
 go_upto_region 1 with (fail)
 obtain ⟨w1, hw1⟩ : ∃ w1, w.alloc (.cells #[.int .i64 a0_0,.slice A0_1 l0_1.length c0_1] 32) = w1 := ⟨_, rfl⟩
 have XM := Aside0.mk (show w1.heap[w.heap.size]? = some (.cells #[.int .i64 a0_0,.slice A0_1 l0_1.length c0_1] 32) by rw [← hw1]; exact blk_new _ _)
 have B1 := Aside0.mk (show Below w.heap.size w w1 by rw [← hw1]; exact (Below.refl _ w).alloc (Nat.le_refl _) _)
 rw [hw1]
 obtain ⟨gm, hgm⟩ : ∃ g, w.heap.size = g := ⟨_, rfl⟩
 have XM := Aside0.mk (show w1.heap[gm]? = some (.cells #[.int .i64 a0_0,.slice A0_1 l0_1.length c0_1] 32) by rw [← hgm]; exact XM.out)
 try rw [hgm]
 clear hw1 hgm
 have CM := Aside0.mk (fun (W : World) (hW : Below w1.heap.size w1 W) => (⟨by simp [World.cell?, blk_below XM.out hW], by simp [World.cell?, blk_below XM.out hW], fun i => by simp [World.frozen?, blk_below XM.out hW]⟩ : W.cell? ⟨gm, 0, none⟩ = some (.int .i64 a0_0) ∧ W.cell? ⟨gm, 1, none⟩ = some (.slice A0_1 l0_1.length c0_1) ∧ ∀ i, W.frozen? ⟨gm, i, none⟩ = false))
 go_wp2_with fail
 go_loopg [3] k (fun kq v3 w' => ∃ x3 : Int, v3 = .int .i64 x3 ∧ Aside0 (-9223372036854775808 ≤ x3 ∧ x3 ≤ 9223372036854775807) ∧ Aside0 (kq ≤ k) ∧ Aside0 (thwartref12_Right.l0 kq x3 a0_0 l0_1 = some r) ∧ Aside0 (Below w1.heap.size w1 w'))
 case atStart => exact ⟨0, rfl, ⟨by omega⟩, ⟨Nat.le_refl _⟩, H', ⟨Below.refl _ _⟩⟩
 case round =>
  clear H'
  obtain ⟨x3, rfl, HX, HK1, HA, HB⟩ := hrel
  cases gk with
  | zero => exact absurd HA.out (by simp [thwartref12_Right.l0])
  | succ k1 =>
   have H:=HA.out
   clear HA
   simp only [thwartref12_Right.l0] at H
   obtain ⟨m0, m1, mf⟩ := CM.out _ HB.out
   by_cases c1 : x3 < (l0_1.length : Int)
   · rw [if_pos c1] at H
     have d1 : decide (x3 < (l0_1.length : Int)) = true := decide_eq_true c1
     by_cases c2 : 0 ≤ x3
     case neg => rw [if_neg c2] at H; cases H
     rw [if_pos c2] at H
     obtain ⟨ad, rfl, q0, q1, q2⟩ := at_T65 (Kd.C_below HR.out (B1.out.trans (HB.out.mono B1.out.size))) x3 c2 c1
     have HQ := Aside0.mk (fun (W : World) (hW : Below w1.heap.size w1 W) (y : Int) (y0 : 0 ≤ y) (y1 : y < (l0_1.length : Int)) => at_T65 (Kd.C_below HR.out (B1.out.trans (hW.mono B1.out.size))) y y0 y1)
     generalize rd_T65 l0_1 x3 = s at H q0 q1 q2
     obtain ⟨s0, s1, s2⟩ := s
     simp only at H q0 q1 q2
     go_upto_region 5 with (fail)
     obtain ⟨w5, hw5⟩ : ∃ w5, wr.alloc (.cells #[.int .i64 s0, .int .i64 s1, .int .u32 s2] 65) = w5 := ⟨_, rfl⟩
     have X5 := Aside0.mk (show w5.heap[wr.heap.size]? = some (.cells #[.int .i64 s0, .int .i64 s1, .int .u32 s2] 65) by rw [← hw5]; exact blk_new _ _)
     have B5 := Aside0.mk (show Below w1.heap.size w1 w5 by rw [← hw5]; exact below_alloc HB.out _)
     rw [hw5]
     clear hw5 m0 m1 mf q0 q1 q2
     obtain ⟨gs, hgs⟩ : ∃ g, wr.heap.size = g := ⟨_, rfl⟩
     rw [hgs] at X5 ⊢
     clear hgs
     obtain ⟨p0, p1, pf⟩ := CM.out _ B5.out
     have z0 : w5.cell? ⟨gs, 0, none⟩ = some (.int .i64 s0) := by simp [World.cell?, X5.out]
     have z1 : w5.cell? ⟨gs, 1, none⟩ = some (.int .i64 s1) := by simp [World.cell?, X5.out]
     by_cases g1 : s0 < 0
     · rw [if_pos g1] at H
       have f1 : decide (s0 < 0) = true := decide_eq_true g1
       simp only [Option.some.injEq] at H
       subst H
       go_wp2
       repeat (go_quiet (fail); try go_wp2)
       go_ret
       exact ⟨rfl, B1.out.trans ((show Below w1.heap.size w1 _ from by repeat (first | (with_reducible first | exact B5.out | apply below_alloc | apply pw_below_drewN | apply below_drew1) | exact B5.out)).mono B1.out.size)⟩
     rw [if_neg g1] at H
     have f1 : decide (s0 < 0) = false := decide_eq_false g1
     by_cases g2 : s0 > 999999
     · rw [if_pos g2] at H
       have f2 : decide (999999 < s0) = true := decide_eq_true g2
       simp only [Option.some.injEq] at H
       subst H
       go_wp2
       repeat (go_quiet (fail); try go_wp2)
       go_ret
       exact ⟨rfl, B1.out.trans ((show Below w1.heap.size w1 _ from by repeat (first | (with_reducible first | exact B5.out | apply below_alloc | apply pw_below_drewN | apply below_drew1) | exact B5.out)).mono B1.out.size)⟩
     rw [if_neg g2] at H
     have f2 : decide (999999 < s0) = false := decide_eq_false g2
     by_cases g3 : s1 < 0
     · rw [if_pos g3] at H
       have f3 : decide (s1 < 0) = true := decide_eq_true g3
       simp only [Option.some.injEq] at H
       subst H
       go_wp2
       repeat (go_quiet (fail); try go_wp2)
       go_ret
       exact ⟨rfl, B1.out.trans ((show Below w1.heap.size w1 _ from by repeat (first | (with_reducible first | exact B5.out | apply below_alloc | apply pw_below_drewN | apply below_drew1) | exact B5.out)).mono B1.out.size)⟩
     rw [if_neg g3] at H
     have f3 : decide (s1 < 0) = false := decide_eq_false g3
     by_cases g4 : s1 > 1048576
     · rw [if_pos g4] at H
       have f4 : decide (1048576 < s1) = true := decide_eq_true g4
       simp only [Option.some.injEq] at H
       subst H
       go_wp2
       repeat (go_quiet (fail); try go_wp2)
       go_ret
       exact ⟨rfl, B1.out.trans ((show Below w1.heap.size w1 _ from by repeat (first | (with_reducible first | exact B5.out | apply below_alloc | apply pw_below_drewN | apply below_drew1) | exact B5.out)).mono B1.out.size)⟩
     rw [if_neg g4] at H
     have f4 : decide (1048576 < s1) = false := decide_eq_false g4
     by_cases g5 : x3 > 0
     · rw [if_pos g5] at H
       have f5 : decide (0 < x3) = true := decide_eq_true g5
       obtain ⟨x4, hx4⟩ : ∃ y, x3 - 1 = y := ⟨_, rfl⟩
       have hx1 : wrap64 (x3 - 1) = x4 := by have := HX.out; unfold wrap64; omega
       have hx2 : IntKind.i64.wrap (x3 - 1) = x4 := by rw [← hx4]; exact IntWalk.i64_in _ (by have := HX.out; omega)
       have j0 : 0 ≤ x4 := by omega
       have j1 : x4 < (l0_1.length : Int) := by omega
       clear hx4
       rw [hx1, if_pos j0, if_pos j1] at H
       obtain ⟨ad', e, y0, y1, y2⟩ := HQ.out w5 B5.out x4 j0 j1
       cases e
       generalize (rd_T65 l0_1 x4).f0 = t0 at H y0
       clear y1 y2
       by_cases g6 : t0 ≥ s0
       · rw [if_pos g6] at H
         have f6 : decide (s0 ≤ t0) = true := decide_eq_true g6
         simp only [Option.some.injEq] at H
         subst H
         go_wp2
         repeat (go_quiet (fail); try go_wp2)
         go_ret
         exact ⟨rfl, B1.out.trans ((show Below w1.heap.size w1 _ from by repeat (first | (with_reducible first | exact B5.out | apply below_alloc | apply pw_below_drewN | apply below_drew1) | exact B5.out)).mono B1.out.size)⟩
       rw [if_neg g6] at H
       have f6 : decide (s0 ≤ t0) = false := decide_eq_false g6
       go_wp2
       repeat (go_quiet (fail); try go_wp2)
       go_roundg k1
       case measure => have := HK1.out; omega
       case rel => exact ⟨wrap64 (x3 + 1), (by first | rfl | (congr 1; unfold wrap64; omega)), ⟨by unfold wrap64; omega⟩, ⟨by have := HK1.out; omega⟩, ⟨H⟩, ⟨by repeat (first | (with_reducible first | exact B5.out | apply below_alloc | apply pw_below_drewN | apply below_drew1) | exact B5.out)⟩⟩
     · rw [if_neg g5] at H
       have f5 : decide (0 < x3) = false := decide_eq_false g5
       go_wp2
       repeat (go_quiet (fail); try go_wp2)
       go_roundg k1
       case measure => have := HK1.out; omega
       case rel => exact ⟨wrap64 (x3 + 1), (by first | rfl | (congr 1; unfold wrap64; omega)), ⟨by unfold wrap64; omega⟩, ⟨by have := HK1.out; omega⟩, ⟨H⟩, ⟨by repeat (first | (with_reducible first | exact B5.out | apply below_alloc | apply pw_below_drewN | apply below_drew1) | exact B5.out)⟩⟩
   · rw [if_neg c1] at H
     have d1 : decide (x3 < (l0_1.length : Int)) = false := decide_eq_false c1
     by_cases v1 : a0_0 ≥ 1
     · rw [if_pos v1] at H
       have e1 : decide (1 ≤ a0_0) = true := decide_eq_true v1
       by_cases v2 : a0_0 ≤ 999999
       · rw [if_pos v2] at H
         have e2 : decide (a0_0 ≤ 999999) = true := decide_eq_true v2
         simp only [Option.some.injEq] at H
         subst H
         go_wp2_with fail
         go_ret
         exact ⟨by first | rfl | simp, B1.out.trans (HB.out.mono B1.out.size)⟩
       · rw [if_neg v2] at H
         have e2 : decide (a0_0 ≤ 999999) = false := decide_eq_false v2
         simp only [Option.some.injEq] at H
         subst H
         go_wp2_with fail
         go_ret
         exact ⟨rfl, B1.out.trans (HB.out.mono B1.out.size)⟩
     · rw [if_neg v1] at H
       have e1 : decide (1 ≤ a0_0) = false := decide_eq_false v1
       simp only [Option.some.injEq] at H
       subst H
       go_wp2_with fail
       go_ret
       exact ⟨rfl, B1.out.trans (HB.out.mono B1.out.size)⟩

/-! ### thwartref01_Put: function 91 -/
def thwartref01_Put.f : Nat → Int → Option (ByteArray)
 | 0,_ => none
 | k + 1,a0 => if a0 < 128 then (some (strOfNums (([(a0) % 256] : List Int)))) else ((some (([(IntKind.u64.wrap (128 + (Int.tmod a0 128))) % 256] : List Int) : List Int)).bind fun y375 => ((thwartref01_Put.f k (IntKind.u64.wrap (Int.tdiv a0 128))).bind fun t378 => (if (strOfNums y375).size + t378.size ≤ 9223372036854775807 then (some ((strOfNums y375) ++ t378)) else (none))))
theorem thwartref01_Put.mono_l : ∀ k,(∀ y0,LeO (thwartref01_Put.f k y0) (thwartref01_Put.f (k + 1) y0))
 | 0 => fun _ r h => by simp [thwartref01_Put.f] at h
 | k + 1 => by
  have ih0:=thwartref01_Put.mono_l k
  ·intro y0
   unfold thwartref01_Put.f
   repeat' first
   | (with_reducible exact ih0 _)
   | (with_reducible exact LeO.refl _)
   | (with_reducible exact LeO.none _)
   | (with_reducible refine LeO.ite ?_ ?_)
   | (with_reducible refine LeO.bind ?_ (fun _ => ?_))
   | exact ih0 _
   | exact LeO.none _
   | refine LeO.ite ?_ ?_
   | refine LeO.bind ?_ (fun _ => ?_)
theorem thwartref01_Put.mono : ∀ a0 k,LeO (thwartref01_Put.f k a0) (thwartref01_Put.f (k + 1) a0):=by
 intro a0 k
 have ih0:=thwartref01_Put.mono_l k
 exact ih0 a0
def thwartref01_Put.T3 : Bool × List (List Nat × List Nat):=(true,[([],[]),([0],[0]),([1],[1]),([2],[2]),([3],[3]),([4],[4]),([],[]),([6],[6]),([7],[7]),([5,8],[5,8]),([9,8,0,1,2,3,4,5,6,7,8,9],[9])])
def thwartref01_Put.B3 : List Nat:=[0,1,3,7,15,31,0,64,192,511,1023]
theorem thwartref01_Put.tab3 : rtab .any (opsOf Tryz.f91 3) = thwartref01_Put.T3:=by kernel_rfl
theorem thwartref01_Put.bits3 : waitsOk thwartref01_Put.T3.2 thwartref01_Put.B3 = true:=by kernel_rfl
set_option maxHeartbeats 8000000 in
set_option maxRecDepth 100000 in
theorem thwartref01_Put.calls (k : Nat) : ∀ (a0 : Int) (r : ByteArray) (w : World) (h : thwartref01_Put.f k a0 = some r),
  Calls Tryz.prog 91 #[.int .u64 a0] w fun e w' => e = .returned (.string r) ∧ Below w.heap.size w w' := by
 induction k using Nat.strongRecOn with
 | _ k ih =>
 intro a0 r w h
 cases k with
 | zero => exact absurd h (by simp [thwartref01_Put.f])
 | succ k =>
 simp only [thwartref01_Put.f] at h
 have HB:=Aside0.mk (Below.refl w.heap.size w)
 have H : (if a0 < 128 then (some (strOfNums (([(a0) % 256] : List Int)))) else ((some (([(IntKind.u64.wrap (128 + (Int.tmod a0 128))) % 256] : List Int) : List Int)).bind fun y375 => ((thwartref01_Put.f k (IntKind.u64.wrap (Int.tdiv a0 128))).bind fun t378 => (if (strOfNums y375).size + t378.size ≤ 9223372036854775807 then (some ((strOfNums y375) ++ t378)) else (none))))) = some r:=h
 clear h
 by_cases c2 : a0 < 128
 ·rw [if_pos c2] at H
  have c2b0 : decide (a0 < 128) = true:=decide_eq_true c2
  clear c2
  obtain ⟨y372,hy372⟩ : ∃ y_ : List Int,y_ = (([(a0) % 256] : List Int)):=⟨_,rfl⟩
  replace H : (some (strOfNums y372)) = some r:=by first | (rw [hy372];with_reducible exact H) | (have H2_:=(Option.bind_some _ _).symm.trans H;rw [hy372];with_reducible exact H2_) | (have H2_:=(Option.bind_some _ _).symm.trans H;with_reducible exact H2_) | with_reducible exact H | (rw [hy372];exact H) | exact H
  have Ny372:=Aside0.mk hy372
  clear hy372
  obtain rfl:=Option.some.inj H
  go_enter Tryz.func91,Tryz.ntmps91
  go_wp2_with (first | ((with_reducible refine gate_dst (N:=7) rfl ?_);refine Kd.R_lit (Kd.int .u8) _ 5 ?hg (N:=7) ?hd (xs:=([(a0) % 256] : List Int)) (inner:=[.int .u8 ((a0) % 256)]) (ok:=fun _ => True) (okp:=fun _ => True) ?hr ?hp (fun _ hk => hk) trivial (Below.refl _ _) (Nat.le_refl _) (by simp) ?_;(case hd => rfl);(case hg => rfl);(case hr => first | (go_simp;done) | (go_simp;rfl));(case hp => exact (Reps.one (show Kd.M (Kd.int .u8) _ _ _ ((a0) % 256) [.int .u8 ((a0) % 256)] from rfl) (Reps.none _ _)));intro v373 w3 ho4 hb hg_ hnew_;clear hg_ hnew_;(first | rw [← Ny372.out] at ho4 | (simp only [Int.reduceToNat] at ho4;rw [← Ny372.out] at ho4));have n0_:=Aside0.mk (Kd.R_lower ho4 (below_size (by repeat (first | (with_reducible first | exact HB.out | apply below_alloc | apply pw_below_drewN | apply below_drew1) | exact HB.out))));have n1_:=Aside0.mk (below_step (by repeat (first | (with_reducible first | exact HB.out | apply below_alloc | apply pw_below_drewN | apply below_drew1) | exact HB.out)) hb);clear HB;have HO374:=n0_;have HB:=n1_;clear n0_ n1_;clear hb ho4;have hcv5:=own_string (P:=Tryz.prog) Tryz.underlying154 Tryz.underlying5 Tryz.underlying9 (Kd.own_of_R HO374.out)))
  go_ret
  exact ⟨by first | rfl | (simp [errW_none,errW_some] <;> rfl) | (simp [*,errW_none,errW_some] <;> rfl) | (simp [errW_none,errW_some];exact isEmpty_bne _),by repeat (first | (with_reducible first | exact HB.out | apply below_alloc | apply pw_below_drewN | apply below_drew1) | exact HB.out)⟩
 ·rw [if_neg c2] at H
  have c2b0 : decide (a0 < 128) = false:=decide_eq_false c2
  clear c2
  obtain ⟨y375,hy375⟩ : ∃ y_ : List Int,y_ = (([(IntKind.u64.wrap (128 + (Int.tmod a0 128))) % 256] : List Int)):=⟨_,rfl⟩
  replace H : ((thwartref01_Put.f k (IntKind.u64.wrap (Int.tdiv a0 128))).bind fun t378 => (if (strOfNums y375).size + t378.size ≤ 9223372036854775807 then (some ((strOfNums y375) ++ t378)) else (none))) = some r:=by first | (rw [hy375];with_reducible exact H) | (have H2_:=(Option.bind_some _ _).symm.trans H;rw [hy375];with_reducible exact H2_) | (have H2_:=(Option.bind_some _ _).symm.trans H;with_reducible exact H2_) | with_reducible exact H | (rw [hy375];exact H) | exact H
  have Ny375:=Aside0.mk hy375
  clear hy375
  replace H:=Option.bind_eq_some_iff.mp H
  obtain ⟨t378,A60,H⟩:=H
  replace H : (if (strOfNums y375).size + t378.size ≤ 9223372036854775807 then (some ((strOfNums y375) ++ t378)) else (none)) = some r:=H
  have A6:=Aside0.mk A60
  clear A60
  by_cases c7 : (strOfNums y375).size + t378.size ≤ 9223372036854775807
  ·rw [if_pos c7] at H
   have c7b0:=eq_true c7
   have c7b1 : decide ((strOfNums y375).size + t378.size ≤ 9223372036854775807) = true:=decide_eq_true c7
   try have c7b2 : (9223372036854775807 < (strOfNums y375).size + t378.size) = False:=eq_false (Nat.not_lt.2 c7)
   obtain rfl:=Option.some.inj H
   go_enter Tryz.func91,Tryz.ntmps91
   try go_wp2
   have n0_:=Aside0.mk (below_drew1 HB.out)
   clear HB
   have HB:=n0_
   clear n0_
   refine start_ (n:=11) (S:=fun w' => True) (ds:=[]) #[false,false,false,false,false,false,false,false,false,false,false] (by kernel_rfl) rfl rfl trivial (fun hHeld => ?_);refine with_tabW thwartref01_Put.tab3 thwartref01_Put.bits3 (fun HT_ HW_ => ?_)
   generalize w.drew = w8 at HB hHeld ⊢
   refine pure_ (i:=0) (N:=some 9) (v := ?_) (a' := ?_) #[true,false,false,false,false,false,false,false,false,false,false] rfl rfl (any_of HT_.out (by kernel_rfl)) (fun _ _ _ h => h) (Or.inl ⟨by rfl,?_⟩) ?_ ?_
   rotate_left
   ·intro w'
    go_simp
    with_reducible rfl
   rotate_left
   ·simp only [Act.put,List.setIfInBounds_toArray,List.set_cons_zero,List.set_cons_succ,i64_w,i32_w]
    rfl
   refine pure_ (i:=1) (N:=some 10) (v := ?_) (a' := ?_) #[true,true,false,false,false,false,false,false,false,false,false] rfl rfl (any_of HT_.out (by kernel_rfl)) (fun _ _ _ h => h) (Or.inl ⟨by rfl,?_⟩) ?_ ?_
   rotate_left
   ·intro w'
    go_simp
    with_reducible rfl
   rotate_left
   ·simp only [Act.put,List.setIfInBounds_toArray,List.set_cons_zero,List.set_cons_succ,i64_w,i32_w]
    rfl
   refine pure_ (i:=2) (N:=some 11) (v := ?_) (a' := ?_) #[true,true,true,false,false,false,false,false,false,false,false] rfl rfl (any_of HT_.out (by kernel_rfl)) (fun _ _ _ h => h) (Or.inl ⟨by rfl,?_⟩) ?_ ?_
   rotate_left
   ·intro w'
    go_simp
    with_reducible rfl
   rotate_left
   ·simp only [Act.put,List.setIfInBounds_toArray,List.set_cons_zero,List.set_cons_succ,i64_w,i32_w]
    rfl
   refine pure_ (i:=3) (N:=some 12) (v := ?_) (a' := ?_) #[true,true,true,true,false,false,false,false,false,false,false] rfl rfl (any_of HT_.out (by kernel_rfl)) (fun _ _ _ h => h) (Or.inl ⟨by rfl,?_⟩) ?_ ?_
   rotate_left
   ·intro w'
    go_simp
    with_reducible rfl
   rotate_left
   ·simp only [Act.put,List.setIfInBounds_toArray,List.set_cons_zero,List.set_cons_succ,i64_w,i32_w]
    rfl
   refine pure_ (i:=6) (N:=some 15) (v := ?_) (a' := ?_) #[true,true,true,true,false,false,true,false,false,false,false] rfl rfl (any_of HT_.out (by kernel_rfl)) (fun _ _ _ h => h) (Or.inl ⟨by rfl,?_⟩) ?_ ?_
   rotate_left
   ·intro w'
    go_simp
    with_reducible rfl
   rotate_left
   ·simp only [Act.put,List.setIfInBounds_toArray,List.set_cons_zero,List.set_cons_succ,i64_w,i32_w]
    rfl
   refine pure_ (i:=7) (N:=some 16) (v := ?_) (a' := ?_) #[true,true,true,true,false,false,true,true,false,false,false] rfl rfl (any_of HT_.out (by kernel_rfl)) (fun _ _ _ h => h) (Or.inl ⟨by rfl,?_⟩) ?_ ?_
   rotate_left
   ·intro w'
    go_simp
    with_reducible rfl
   rotate_left
   ·simp only [Act.put,List.setIfInBounds_toArray,List.set_cons_zero,List.set_cons_succ,i64_w,i32_w]
    rfl
   refine join_ (σ:=Value) 2 #[true,true,true,true,true,true,true,true,true,false,false] (fun s_ => [(13,s_),(14,.string (strOfNums y375)),(17,.string t378)]) (fun s_ w' => (Kd.R (Kd.int .u8) 5 w' w.heap.size (fun _ => True) s_ y375) ∧ (Below w.heap.size w w')) ?_ ?_
   rotate_left
   ·intro hCont
    refine two_ (i:=4) (j:=8) (Ni:=some 13) (Nj:=some 17) #[true,true,true,true,true,false,true,true,false,false,false] #[true,true,true,true,false,false,true,true,true,false,false] rfl rfl rfl rfl (two_of HT_.out (by kernel_rfl)) (by decide) (by decide) (fun K hK => ?_) (fun K hK => ?_)
    ·skip
     refine Kd.R_lit_step (Kd.int .u8) _ 5 ?hg (N:=13) ?hd (xs:=([(IntKind.u64.wrap (128 + (Int.tmod a0 128))) % 256] : List Int)) (inner:=[.int .u8 ((IntKind.u64.wrap (128 + (Int.tmod a0 128))) % 256)]) (ok:=fun _ => True) (okp:=fun _ => True) ?hr ?hp (fun _ hk => hk) trivial (Below.refl _ _) (Nat.le_refl _) (by simp) ?_;(case hd => rfl);(case hg => rfl);(case hr => first | (go_simp;done) | (go_simp;rfl));(case hp => exact (Reps.one (show Kd.M (Kd.int .u8) _ _ _ ((IntKind.u64.wrap (128 + (Int.tmod a0 128))) % 256) [.int .u8 ((IntKind.u64.wrap (128 + (Int.tmod a0 128))) % 256)] from rfl) (Reps.none _ _)))
     intro v376 w9 ho10 hb hg_ hnew_
     clear hg_ hnew_
     (first | rw [← Ny375.out] at ho10 | (simp only [Int.reduceToNat] at ho10;rw [← Ny375.out] at ho10))
     have n0_:=Aside0.mk (Kd.R_lower ho10 (below_size (by repeat (first | (with_reducible first | exact HB.out | apply below_alloc | apply pw_below_drewN | apply below_drew1) | exact HB.out))))
     have n1_:=Aside0.mk (below_step (by repeat (first | (with_reducible first | exact HB.out | apply below_alloc | apply pw_below_drewN | apply below_drew1) | exact HB.out)) hb)
     clear HB
     have HO377:=n0_
     have HB:=n1_
     clear n0_ n1_
     clear hb ho10
     refine hK.out _ _ trivial (fun hHeld => ?_)
     clear hK K
     refine norm_ (a' := ?_) ?_ ?_
     rotate_left
     ·show Act.put _ (some 13) _ = _
      simp only [Act.put,List.setIfInBounds_toArray,List.set_cons_zero,List.set_cons_succ,i64_w,i32_w]
      rfl
     refine two_ (i:=5) (j:=8) (Ni:=some 14) (Nj:=some 17) #[true,true,true,true,true,true,true,true,false,false,false] #[true,true,true,true,true,false,true,true,true,false,false] rfl rfl rfl rfl (two_of HT_.out (by kernel_rfl)) (by decide) (by decide) (fun K hK => ?_) (fun K hK => ?_)
     ·skip
      have hcv11:=own_string (P:=Tryz.prog) Tryz.underlying154 Tryz.underlying5 Tryz.underlying9 (Kd.own_of_R HO377.out)
      refine value_ (w1 := ?_) (v := ?_) (by rfl) rfl ?_ ?_
      rotate_left 2
      ·go_simp
       constructor
       ·rfl
       ·rfl
      clear hcv11
      refine hK.out _ _ trivial (fun hHeld => ?_)
      clear hK K
      refine norm_ (a' := ?_) ?_ ?_
      rotate_left
      ·show Act.put _ (some 14) _ = _
       simp only [Act.put,List.setIfInBounds_toArray,List.set_cons_zero,List.set_cons_succ,i64_w,i32_w]
       rfl
      refine one_ (i:=8) (N:=some 17) #[true,true,true,true,true,true,true,true,true,false,false] rfl rfl (one_of HT_.out (by kernel_rfl)) (by decide) (fun K hK => ?_)
      refine goes_ Tryz.func91 (by kernel_rfl) rfl #[.int .u64 (IntKind.u64.wrap (Int.tdiv a0 128))] (by rfl) rfl rfl (by (try simp only [List.map_toArray,List.map_cons,List.map_nil]);first | done | rfl | (simp only [List.length_drop,List.length_take];rfl)) ?_
      with_reducible refine (ih k (by omega) (IntKind.u64.wrap (Int.tdiv a0 128)) t378 _ A6.out).mono ?_
      rintro e w12 ⟨rfl,hb⟩
      refine ⟨_,rfl,?_⟩
      have n0_:=Aside0.mk (Kd.R_below (by (with_reducible repeat (first | apply Kd.R_alloc | apply Kd.R_drewN | apply Kd.R_drew));exact HO377.out) hb)
      have n1_:=Aside0.mk (below_step (by repeat (first | (with_reducible first | exact HB.out | apply below_alloc | apply pw_below_drewN | apply below_drew1) | exact HB.out)) hb)
      clear HO377
      clear HB
      have HO377:=n0_
      have HB:=n1_
      clear n0_ n1_
      (try clear hb)
      (try clear hb2)
      (try clear hk)
      (try clear hi)
      refine hK.out _ _ trivial (fun hHeld => ?_)
      clear hK K
      refine norm_ (a' := ?_) ?_ ?_
      rotate_left
      ·show Act.put _ (some 17) _ = _
       simp only [Act.put,List.setIfInBounds_toArray,List.set_cons_zero,List.set_cons_succ,i64_w,i32_w]
       rfl
      exact norm_ (by simp only [putAll,Act.put,List.setIfInBounds_toArray,List.set_cons_zero,List.set_cons_succ]) (hCont (v376) _ ⟨(by (with_reducible repeat (first | apply Kd.R_alloc | apply Kd.R_drewN | apply Kd.R_drew));exact HO377.out),(by repeat (first | (with_reducible first | exact HB.out | apply below_alloc | apply pw_below_drewN | apply below_drew1) | exact HB.out))⟩)
     ·skip
      refine goes_ Tryz.func91 (by kernel_rfl) rfl #[.int .u64 (IntKind.u64.wrap (Int.tdiv a0 128))] (by rfl) rfl rfl (by (try simp only [List.map_toArray,List.map_cons,List.map_nil]);first | done | rfl | (simp only [List.length_drop,List.length_take];rfl)) ?_
      with_reducible refine (ih k (by omega) (IntKind.u64.wrap (Int.tdiv a0 128)) t378 _ A6.out).mono ?_
      rintro e w11 ⟨rfl,hb⟩
      refine ⟨_,rfl,?_⟩
      have n0_:=Aside0.mk (Kd.R_below (by (with_reducible repeat (first | apply Kd.R_alloc | apply Kd.R_drewN | apply Kd.R_drew));exact HO377.out) hb)
      have n1_:=Aside0.mk (below_step (by repeat (first | (with_reducible first | exact HB.out | apply below_alloc | apply pw_below_drewN | apply below_drew1) | exact HB.out)) hb)
      clear HO377
      clear HB
      have HO377:=n0_
      have HB:=n1_
      clear n0_ n1_
      (try clear hb)
      (try clear hb2)
      (try clear hk)
      (try clear hi)
      refine hK.out _ _ trivial (fun hHeld => ?_)
      clear hK K
      refine norm_ (a' := ?_) ?_ ?_
      rotate_left
      ·show Act.put _ (some 17) _ = _
       simp only [Act.put,List.setIfInBounds_toArray,List.set_cons_zero,List.set_cons_succ,i64_w,i32_w]
       rfl
      refine one_ (i:=5) (N:=some 14) #[true,true,true,true,true,true,true,true,true,false,false] rfl rfl (one_of HT_.out (by kernel_rfl)) (by decide) (fun K hK => ?_)
      have hcv12:=own_string (P:=Tryz.prog) Tryz.underlying154 Tryz.underlying5 Tryz.underlying9 (Kd.own_of_R HO377.out)
      refine value_ (w1 := ?_) (v := ?_) (by rfl) rfl ?_ ?_
      rotate_left 2
      ·go_simp
       constructor
       ·rfl
       ·rfl
      clear hcv12
      refine hK.out _ _ trivial (fun hHeld => ?_)
      clear hK K
      refine norm_ (a' := ?_) ?_ ?_
      rotate_left
      ·show Act.put _ (some 14) _ = _
       simp only [Act.put,List.setIfInBounds_toArray,List.set_cons_zero,List.set_cons_succ,i64_w,i32_w]
       rfl
      exact norm_ (by simp only [putAll,Act.put,List.setIfInBounds_toArray,List.set_cons_zero,List.set_cons_succ]) (hCont (v376) _ ⟨(by (with_reducible repeat (first | apply Kd.R_alloc | apply Kd.R_drewN | apply Kd.R_drew));exact HO377.out),(by repeat (first | (with_reducible first | exact HB.out | apply below_alloc | apply pw_below_drewN | apply below_drew1) | exact HB.out))⟩)
    ·skip
     refine goes_ Tryz.func91 (by kernel_rfl) rfl #[.int .u64 (IntKind.u64.wrap (Int.tdiv a0 128))] (by rfl) rfl rfl (by (try simp only [List.map_toArray,List.map_cons,List.map_nil]);first | done | rfl | (simp only [List.length_drop,List.length_take];rfl)) ?_
     with_reducible refine (ih k (by omega) (IntKind.u64.wrap (Int.tdiv a0 128)) t378 _ A6.out).mono ?_
     rintro e w9 ⟨rfl,hb⟩
     refine ⟨_,rfl,?_⟩
     have n0_:=Aside0.mk (below_step (by repeat (first | (with_reducible first | exact HB.out | apply below_alloc | apply pw_below_drewN | apply below_drew1) | exact HB.out)) hb)
     clear HB
     have HB:=n0_
     clear n0_
     (try clear hb)
     (try clear hb2)
     (try clear hk)
     (try clear hi)
     refine hK.out _ _ trivial (fun hHeld => ?_)
     clear hK K
     refine norm_ (a' := ?_) ?_ ?_
     rotate_left
     ·show Act.put _ (some 17) _ = _
      simp only [Act.put,List.setIfInBounds_toArray,List.set_cons_zero,List.set_cons_succ,i64_w,i32_w]
      rfl
     refine one_ (i:=4) (N:=some 13) #[true,true,true,true,true,false,true,true,true,false,false] rfl rfl (one_of HT_.out (by kernel_rfl)) (by decide) (fun K hK => ?_)
     refine Kd.R_lit_step (Kd.int .u8) _ 5 ?hg (N:=13) ?hd (xs:=([(IntKind.u64.wrap (128 + (Int.tmod a0 128))) % 256] : List Int)) (inner:=[.int .u8 ((IntKind.u64.wrap (128 + (Int.tmod a0 128))) % 256)]) (ok:=fun _ => True) (okp:=fun _ => True) ?hr ?hp (fun _ hk => hk) trivial (Below.refl _ _) (Nat.le_refl _) (by simp) ?_;(case hd => rfl);(case hg => rfl);(case hr => first | (go_simp;done) | (go_simp;rfl));(case hp => exact (Reps.one (show Kd.M (Kd.int .u8) _ _ _ ((IntKind.u64.wrap (128 + (Int.tmod a0 128))) % 256) [.int .u8 ((IntKind.u64.wrap (128 + (Int.tmod a0 128))) % 256)] from rfl) (Reps.none _ _)))
     intro v376 w10 ho11 hb hg_ hnew_
     clear hg_ hnew_
     (first | rw [← Ny375.out] at ho11 | (simp only [Int.reduceToNat] at ho11;rw [← Ny375.out] at ho11))
     have n0_:=Aside0.mk (Kd.R_lower ho11 (below_size (by repeat (first | (with_reducible first | exact HB.out | apply below_alloc | apply pw_below_drewN | apply below_drew1) | exact HB.out))))
     have n1_:=Aside0.mk (below_step (by repeat (first | (with_reducible first | exact HB.out | apply below_alloc | apply pw_below_drewN | apply below_drew1) | exact HB.out)) hb)
     clear HB
     have HO377:=n0_
     have HB:=n1_
     clear n0_ n1_
     clear hb ho11
     refine hK.out _ _ trivial (fun hHeld => ?_)
     clear hK K
     refine norm_ (a' := ?_) ?_ ?_
     rotate_left
     ·show Act.put _ (some 13) _ = _
      simp only [Act.put,List.setIfInBounds_toArray,List.set_cons_zero,List.set_cons_succ,i64_w,i32_w]
      rfl
     refine one_ (i:=5) (N:=some 14) #[true,true,true,true,true,true,true,true,true,false,false] rfl rfl (one_of HT_.out (by kernel_rfl)) (by decide) (fun K hK => ?_)
     have hcv12:=own_string (P:=Tryz.prog) Tryz.underlying154 Tryz.underlying5 Tryz.underlying9 (Kd.own_of_R HO377.out)
     refine value_ (w1 := ?_) (v := ?_) (by rfl) rfl ?_ ?_
     rotate_left 2
     ·go_simp
      constructor
      ·rfl
      ·rfl
     clear hcv12
     refine hK.out _ _ trivial (fun hHeld => ?_)
     clear hK K
     refine norm_ (a' := ?_) ?_ ?_
     rotate_left
     ·show Act.put _ (some 14) _ = _
      simp only [Act.put,List.setIfInBounds_toArray,List.set_cons_zero,List.set_cons_succ,i64_w,i32_w]
      rfl
     exact norm_ (by simp only [putAll,Act.put,List.setIfInBounds_toArray,List.set_cons_zero,List.set_cons_succ]) (hCont (v376) _ ⟨(by (with_reducible repeat (first | apply Kd.R_alloc | apply Kd.R_drewN | apply Kd.R_drew));exact HO377.out),(by repeat (first | (with_reducible first | exact HB.out | apply below_alloc | apply pw_below_drewN | apply below_drew1) | exact HB.out))⟩)
   rintro v376 w13 ⟨h0_,h1_⟩
   have n0_ : Aside0 (Kd.R (Kd.int .u8) 5 w13 w.heap.size (fun _ => True) v376 y375):=⟨h0_⟩
   have n1_ : Aside0 (Below w.heap.size w w13):=⟨h1_⟩
   clear HB
   clear h0_ h1_
   have HO377:=n0_
   have HB:=n1_
   clear n0_ n1_
   have hHeld:=trivial
   refine norm_ (a' := ?_) ?_ ?_
   rotate_left
   ·simp only [putAll,Act.put,List.setIfInBounds_toArray,List.set_cons_zero,List.set_cons_succ]
    rfl
   refine pure_ (i:=9) (N:=some 18) (v := ?_) (a' := ?_) #[true,true,true,true,true,true,true,true,true,true,false] rfl rfl (any_of HT_.out (by kernel_rfl)) (fun _ _ _ h => h) (Or.inl ⟨by rfl,?_⟩) ?_ ?_
   rotate_left
   ·intro w'
    go_simp
    with_reducible rfl
   rotate_left
   ·simp only [Act.put,List.setIfInBounds_toArray,List.set_cons_zero,List.set_cons_succ,i64_w,i32_w]
    rfl
   refine pure_ (i:=10) (N:=some 2) (v := ?_) (a' := ?_) #[true,true,true,true,true,true,true,true,true,true,true] rfl rfl (any_of HT_.out (by kernel_rfl)) (fun _ _ _ h => h) (Or.inl ⟨by rfl,?_⟩) ?_ ?_
   rotate_left
   ·intro w'
    go_simp
    with_reducible rfl
   rotate_left
   ·simp only [Act.put,List.setIfInBounds_toArray,List.set_cons_zero,List.set_cons_succ,i64_w,i32_w]
    rfl
   refine done_ (done_of HT_.out (by kernel_rfl)) ?_
   try go_wp2
   go_ret
   exact ⟨by first | rfl | (simp [errW_none,errW_some] <;> rfl) | (simp [*,errW_none,errW_some] <;> rfl) | (simp [errW_none,errW_some];exact isEmpty_bne _),by repeat (first | (with_reducible first | exact HB.out | apply below_alloc | apply pw_below_drewN | apply below_drew1) | exact HB.out)⟩
  ·rw [if_neg c7] at H
   exact absurd H (by simp)

/-! ### thwartref02_step: function 137 -/
def thwartref02_step.f (a0 : Int) : Option (Int):=if (Int.tmod a0 2) = 1 then (some (Go.bits .xor .u32 ((Int.tdiv a0 2) % 4294967296) 2197175160)) else (some ((Int.tdiv a0 2) % 4294967296))
set_option maxHeartbeats 8000000 in
set_option maxRecDepth 100000 in
theorem thwartref02_step.calls (a0 : Int) (r : Int) (w : World) (h : thwartref02_step.f a0 = some r) :
  Calls Tryz.prog 137 #[.int .u32 a0] w fun e w' => e = .returned (.int .u32 r) ∧ Drawn0 w w' := by
 have H : (if (Int.tmod a0 2) = 1 then (some (Go.bits .xor .u32 ((Int.tdiv a0 2) % 4294967296) 2197175160)) else (some ((Int.tdiv a0 2) % 4294967296))) = some r:=h
 clear h
 by_cases c2 : (Int.tmod a0 2) = 1
 ·rw [if_pos c2] at H
  have c2b0 : ((Int.tmod a0 2) == 1) = true:=beq_iff_eq.mpr c2
  have c2b1 : ((Int.tmod a0 2) != 1) = false:=bne_eq_false_iff_eq.mpr c2
  clear c2
  obtain rfl:=Option.some.inj H
  go_enter Tryz.func137,Tryz.ntmps137
  go_wp2
  go_ret
  exact ⟨by first | rfl | (simp;done) | (simp [*];done),by repeat (first | exact Drawn0.refl _ | apply Drawn0.step)⟩
 ·rw [if_neg c2] at H
  have c2b0 : ((Int.tmod a0 2) == 1) = false:=beq_eq_false_iff_ne.mpr c2
  have c2b1 : ((Int.tmod a0 2) != 1) = true:=bne_iff_ne.mpr c2
  obtain rfl:=Option.some.inj H
  go_enter Tryz.func137,Tryz.ntmps137
  go_wp2
  go_ret
  exact ⟨by first | rfl | (simp;done) | (simp [*];done),by repeat (first | exact Drawn0.refl _ | apply Drawn0.step)⟩

/-! ### thwartref02_More: function 115 -/
mutual
def thwartref02_More.l0 : Nat → ByteArray → Int → Int → Option (Int)
 | 0,_,_,_ => none
 | k + 1,x1,x5,x6 => if x6 < (x1.size : Int) then (if 0 ≤ x6 then (thwartref02_More.l1 k x1 (Go.bits .xor .u32 x5 ((bt x1 x6) % 4294967296)) x6 0) else (none)) else (some (Go.bits .xor .u32 IntKind.u32.max x5))
def thwartref02_More.l1 : Nat → ByteArray → Int → Int → Int → Option (Int)
 | 0,_,_,_,_ => none
 | k + 1,x1,x5,x6,x7 => if x7 < 8 then ((thwartref02_step.f x5).bind fun t379 => (thwartref02_More.l1 k x1 t379 x6 (wrap64 (x7 + 1)))) else (thwartref02_More.l0 k x1 x5 (wrap64 (x6 + 1)))
end
def thwartref02_More.f (k : Nat) (a0 : Int) (a1 : ByteArray) : Option (Int):=thwartref02_More.l0 k a1 (Go.bits .xor .u32 IntKind.u32.max a0) 0
theorem thwartref02_More.mono_l : ∀ k,(∀ y0 y1 y2,LeO (thwartref02_More.l0 k y0 y1 y2) (thwartref02_More.l0 (k + 1) y0 y1 y2)) ∧ (∀ y0 y1 y2 y3,LeO (thwartref02_More.l1 k y0 y1 y2 y3) (thwartref02_More.l1 (k + 1) y0 y1 y2 y3))
 | 0 => ⟨fun _ _ _ r h => by simp [thwartref02_More.l0] at h,fun _ _ _ _ r h => by simp [thwartref02_More.l1] at h⟩
 | k + 1 => by
  obtain ⟨ih0,ih1⟩:=thwartref02_More.mono_l k
  refine ⟨?_,?_⟩
  ·intro y0 y1 y2
   unfold thwartref02_More.l0
   repeat' first
   | (with_reducible exact ih0 _ _ _)
   | (with_reducible exact ih1 _ _ _ _)
   | (with_reducible exact LeO.refl _)
   | (with_reducible exact LeO.none _)
   | (with_reducible refine LeO.ite ?_ ?_)
   | (with_reducible refine LeO.bind ?_ (fun _ => ?_))
   | exact ih0 _ _ _
   | exact ih1 _ _ _ _
   | exact LeO.none _
   | refine LeO.ite ?_ ?_
   | refine LeO.bind ?_ (fun _ => ?_)
  ·intro y0 y1 y2 y3
   unfold thwartref02_More.l1
   repeat' first
   | (with_reducible exact ih0 _ _ _)
   | (with_reducible exact ih1 _ _ _ _)
   | (with_reducible exact LeO.refl _)
   | (with_reducible exact LeO.none _)
   | (with_reducible refine LeO.ite ?_ ?_)
   | (with_reducible refine LeO.bind ?_ (fun _ => ?_))
   | exact ih0 _ _ _
   | exact ih1 _ _ _ _
   | exact LeO.none _
   | refine LeO.ite ?_ ?_
   | refine LeO.bind ?_ (fun _ => ?_)
theorem thwartref02_More.mono : ∀ a0 a1 k,LeO (thwartref02_More.f k a0 a1) (thwartref02_More.f (k + 1) a0 a1):=by
 intro a0 a1 k
 obtain ⟨ih0,ih1⟩:=thwartref02_More.mono_l k
 unfold thwartref02_More.f
 repeat' first
   | (with_reducible exact ih0 _ _ _)
   | (with_reducible exact ih1 _ _ _ _)
   | (with_reducible exact LeO.refl _)
   | (with_reducible exact LeO.none _)
   | (with_reducible refine LeO.ite ?_ ?_)
   | (with_reducible refine LeO.bind ?_ (fun _ => ?_))
   | exact ih0 _ _ _
   | exact ih1 _ _ _ _
   | exact LeO.none _
   | refine LeO.ite ?_ ?_
   | refine LeO.bind ?_ (fun _ => ?_)
set_option maxHeartbeats 8000000 in
set_option maxRecDepth 100000 in
theorem thwartref02_More.calls (k : Nat) (a0 : Int) (a1 : ByteArray) (r : Int) (w : World) (h : thwartref02_More.f k a0 a1 = some r) :
  Calls Tryz.prog 115 #[.int .u32 a0,.string a1] w fun e w' => e = .returned (.int .u32 r) ∧ Drawn0 w w' := by
 have H : (thwartref02_More.l0 k a1 (Go.bits .xor .u32 IntKind.u32.max a0) 0) = some r:=h
 clear h
 have H' := Aside0.mk H
 clear H
 go_enter Tryz.func115,Tryz.ntmps115
 go_wp2
 go_loopg [5,6] k (fun kq v5 v6 w' => ∃ (x5_1 : Int) (x6_1 : Int),v5 = .int .u32 x5_1 ∧ v6 = .int .i64 x6_1 ∧ Aside0 (thwartref02_More.l0 kq a1 x5_1 x6_1 = some r) ∧ Aside0 (kq ≤ k) ∧ Drawn0 w w')
 case atStart => exact ⟨(Go.bits .xor .u32 IntKind.u32.max a0),(0),(by first | rfl | (simp;done) | (simp [*];done)),(by first | rfl | (simp;done) | (simp [*];done)),H',⟨Nat.le_refl _⟩,by repeat (first | exact Drawn0.refl _ | apply Drawn0.step)⟩
 case round =>
  clear H'
  try clear c1
  try clear p2
  obtain ⟨x5_1,x6_1,rfl,rfl,HA,HK1,⟨m1,rfl⟩⟩:=hrel
  cases gk with
  | zero => exact absurd HA.out (by simp [thwartref02_More.l0])
  | succ k1 =>
   have H:=HA.out
   clear HA
   simp only [thwartref02_More.l0] at H
   by_cases c3 : x6_1 < (a1.size : Int)
   ·rw [if_pos c3] at H
    have c3b0 : decide (x6_1 < (a1.size : Int)) = true:=decide_eq_true c3
    clear c3
    by_cases c4 : 0 ≤ x6_1
    ·rw [if_pos c4] at H
     have c4b0 : decide (0 ≤ x6_1) = true:=decide_eq_true c4
     clear c4
     have H' := Aside0.mk H
     clear H
     have p5 : 0 ≤ (x6_1 : Int):=of_decide_eq_true (by first | (with_reducible assumption) | assumption)
     have q5 : x6_1 < (a1.size : Int):=of_decide_eq_true (by first | (with_reducible assumption) | assumption)
     have hx5:=bt_at a1 x6_1
     replace p5:=eq_true p5
     replace q5:=eq_true q5
     go_wp2
     go_loopg [5,7] k1 (fun kq v5 v7 w' => ∃ (x5_2 : Int) (x7_2 : Int),v5 = .int .u32 x5_2 ∧ v7 = .int .i64 x7_2 ∧ Aside0 (thwartref02_More.l1 kq a1 x5_2 x6_1 x7_2 = some r) ∧ Aside0 (kq ≤ k1) ∧ Drawn0 w w')
     case atStart => exact ⟨(Go.bits .xor .u32 x5_1 ((bt a1 x6_1) % 4294967296)),(0),(by first | rfl | (simp;done) | (simp [*];done)),(by first | rfl | (simp;done) | (simp [*];done)),H',⟨Nat.le_refl _⟩,by repeat (first | exact Drawn0.refl _ | apply Drawn0.step)⟩
     case round =>
      clear H'
      try clear c1
      try clear p2
      try clear c3
      try clear c3b0
      try clear c4
      try clear c4b0
      try clear p5
      try clear q5
      try clear hx5
      try clear p2
      try clear p5
      try clear q5
      obtain ⟨x5_2,x7_2,rfl,rfl,HA,HK2,⟨m2,rfl⟩⟩:=hrel
      cases gk with
      | zero => exact absurd HA.out (by simp [thwartref02_More.l1])
      | succ k2 =>
       have H:=HA.out
       clear HA
       simp only [thwartref02_More.l1] at H
       by_cases c6 : x7_2 < 8
       ·rw [if_pos c6] at H
        have c6b0 : decide (x7_2 < 8) = true:=decide_eq_true c6
        clear c6
        replace H:=Option.bind_eq_some_iff.mp H
        obtain ⟨t379,A70,H⟩:=H
        replace H : (thwartref02_More.l1 k2 a1 t379 x6_1 (wrap64 (x7_2 + 1))) = some r:=H
        have A7:=Aside0.mk A70
        clear A70
        have H' := Aside0.mk H
        clear H
        go_wp2_with (first | ((with_reducible refine gate_callee (f:=137) rfl ?_);refine goesL_ (some 27) rfl rfl Tryz.func137 (by kernel_rfl) rfl #[.int .u32 x5_2] rfl (by (try simp only [List.map_toArray,List.map_cons,List.map_nil]);first | done | rfl | (simp only [List.length_drop,List.length_take];rfl)) ?_;(with_reducible refine (thwartref02_step.calls x5_2 t379 _ A7.out).mono ?_);rintro e w' ⟨rfl,⟨nd,rfl⟩⟩;refine ⟨_,rfl,?_⟩))
        go_roundg k2
        case measure => have:=HK1.out;have:=HK2.out;omega
        case rel => exact ⟨(t379),(wrap64 (x7_2 + 1)),(by first | rfl | (simp;done) | (simp [*];done)),(by first | rfl | (simp;done) | (simp [*];done)),H',⟨by have:=HK1.out;have:=HK2.out;omega⟩,by repeat (first | exact Drawn0.refl _ | apply Drawn0.step)⟩
       ·rw [if_neg c6] at H
        have c6b0 : decide (x7_2 < 8) = false:=decide_eq_false c6
        clear c6
        have H' := Aside0.mk H
        clear H
        go_wp2
        go_roundg k2
        case measure => have:=HK1.out;have:=HK2.out;omega
        case rel => exact ⟨(x5_2),(wrap64 (x6_1 + 1)),(by first | rfl | (simp;done) | (simp [*];done)),(by first | rfl | (simp;done) | (simp [*];done)),H',⟨by have:=HK1.out;have:=HK2.out;omega⟩,by repeat (first | exact Drawn0.refl _ | apply Drawn0.step)⟩
    ·rw [if_neg c4] at H
     exact absurd H (by simp)
   ·rw [if_neg c3] at H
    have c3b0 : decide (x6_1 < (a1.size : Int)) = false:=decide_eq_false c3
    clear c3
    obtain rfl:=Option.some.inj H
    go_wp2
    go_ret
    exact ⟨by first | rfl | (simp;done) | (simp [*];done),by repeat (first | exact Drawn0.refl _ | apply Drawn0.step)⟩

/-! ### thwartref02_Sum: function 94 -/
def thwartref02_Sum.f (k : Nat) (a0 : ByteArray) : Option (Int):=(thwartref02_More.f k 0 a0).bind fun t380 => (some t380)
theorem thwartref02_Sum.mono : ∀ a0 k,LeO (thwartref02_Sum.f k a0) (thwartref02_Sum.f (k + 1) a0):=by
 intro a0 k
 unfold thwartref02_Sum.f
 repeat' first
   | (with_reducible exact thwartref02_More.mono _ _ _)
   | (with_reducible exact LeO.refl _)
   | (with_reducible exact LeO.none _)
   | (with_reducible refine LeO.ite ?_ ?_)
   | (with_reducible refine LeO.bind ?_ (fun _ => ?_))
   | exact thwartref02_More.mono _ _ _
   | exact LeO.none _
   | refine LeO.ite ?_ ?_
   | refine LeO.bind ?_ (fun _ => ?_)
set_option maxHeartbeats 8000000 in
set_option maxRecDepth 100000 in
theorem thwartref02_Sum.calls (k : Nat) (a0 : ByteArray) (r : Int) (w : World) (h : thwartref02_Sum.f k a0 = some r) :
  Calls Tryz.prog 94 #[.string a0] w fun e w' => e = .returned (.int .u32 r) ∧ Drawn0 w w' := by
 have H : ((thwartref02_More.f k 0 a0).bind fun t380 => (some t380)) = some r:=h
 clear h
 replace H:=Option.bind_eq_some_iff.mp H
 obtain ⟨t380,A20,H⟩:=H
 replace H : (some t380) = some r:=H
 have A2:=Aside0.mk A20
 clear A20
 obtain rfl:=Option.some.inj H
 go_enter Tryz.func94,Tryz.ntmps94
 go_wp2_with (first | ((with_reducible refine gate_callee (f:=115) rfl ?_);refine goesL_ (some 4) rfl rfl Tryz.func115 (by kernel_rfl) rfl #[.int .u32 0,.string a0] rfl (by (try simp only [List.map_toArray,List.map_cons,List.map_nil]);first | done | rfl | (simp only [List.length_drop,List.length_take];rfl)) ?_;(with_reducible refine (thwartref02_More.calls k 0 a0 t380 _ A2.out).mono ?_);rintro e w' ⟨rfl,⟨nd,rfl⟩⟩;refine ⟨_,rfl,?_⟩))
 go_ret
 exact ⟨by first | rfl | (simp;done) | (simp [*];done),by repeat (first | exact Drawn0.refl _ | apply Drawn0.step)⟩

/-! ### thwartref02_Seal: function 92 -/
def thwartref02_Seal.f (k : Nat) (a0 : ByteArray) : Option (ByteArray):=(thwartref02_Sum.f k a0).bind fun t381 => ((some (([(t381) % 256,(t381 / 256) % 256,(t381 / 65536) % 256,(t381 / 16777216) % 256] : List Int) : List Int)).bind fun y382 => (if (strOfNums y382).size + a0.size ≤ 9223372036854775807 then (some ((strOfNums y382) ++ a0)) else (none)))
theorem thwartref02_Seal.mono : ∀ a0 k,LeO (thwartref02_Seal.f k a0) (thwartref02_Seal.f (k + 1) a0):=by
 intro a0 k
 unfold thwartref02_Seal.f
 repeat' first
   | (with_reducible exact thwartref02_Sum.mono _ _)
   | (with_reducible exact LeO.refl _)
   | (with_reducible exact LeO.none _)
   | (with_reducible refine LeO.ite ?_ ?_)
   | (with_reducible refine LeO.bind ?_ (fun _ => ?_))
   | exact thwartref02_Sum.mono _ _
   | exact LeO.none _
   | refine LeO.ite ?_ ?_
   | refine LeO.bind ?_ (fun _ => ?_)
set_option maxHeartbeats 8000000 in
set_option maxRecDepth 100000 in
theorem thwartref02_Seal.calls (k : Nat) (a0 : ByteArray) (r : ByteArray) (w : World) (h : thwartref02_Seal.f k a0 = some r) :
  Calls Tryz.prog 92 #[.string a0] w fun e w' => e = .returned (.string r) ∧ Below w.heap.size w w' := by
 have HB:=Aside0.mk (Below.refl w.heap.size w)
 have H : ((thwartref02_Sum.f k a0).bind fun t381 => ((some (([(t381) % 256,(t381 / 256) % 256,(t381 / 65536) % 256,(t381 / 16777216) % 256] : List Int) : List Int)).bind fun y382 => (if (strOfNums y382).size + a0.size ≤ 9223372036854775807 then (some ((strOfNums y382) ++ a0)) else (none)))) = some r:=h
 clear h
 replace H:=Option.bind_eq_some_iff.mp H
 obtain ⟨t381,A20,H⟩:=H
 replace H : ((some (([(t381) % 256,(t381 / 256) % 256,(t381 / 65536) % 256,(t381 / 16777216) % 256] : List Int) : List Int)).bind fun y382 => (if (strOfNums y382).size + a0.size ≤ 9223372036854775807 then (some ((strOfNums y382) ++ a0)) else (none))) = some r:=H
 have A2:=Aside0.mk A20
 clear A20
 obtain ⟨y382,hy382⟩ : ∃ y_ : List Int,y_ = (([(t381) % 256,(t381 / 256) % 256,(t381 / 65536) % 256,(t381 / 16777216) % 256] : List Int)):=⟨_,rfl⟩
 replace H : (if (strOfNums y382).size + a0.size ≤ 9223372036854775807 then (some ((strOfNums y382) ++ a0)) else (none)) = some r:=by first | (rw [hy382];with_reducible exact H) | (have H2_:=(Option.bind_some _ _).symm.trans H;rw [hy382];with_reducible exact H2_) | (have H2_:=(Option.bind_some _ _).symm.trans H;with_reducible exact H2_) | with_reducible exact H | (rw [hy382];exact H) | exact H
 have Ny382:=Aside0.mk hy382
 clear hy382
 by_cases c3 : (strOfNums y382).size + a0.size ≤ 9223372036854775807
 ·rw [if_pos c3] at H
  have c3b0:=eq_true c3
  have c3b1 : decide ((strOfNums y382).size + a0.size ≤ 9223372036854775807) = true:=decide_eq_true c3
  try have c3b2 : (9223372036854775807 < (strOfNums y382).size + a0.size) = False:=eq_false (Nat.not_lt.2 c3)
  obtain rfl:=Option.some.inj H
  go_enter Tryz.func92,Tryz.ntmps92
  go_wp2_with (first | ((with_reducible refine gate_callee (f:=94) rfl ?_);refine goesL_ (some 5) rfl rfl Tryz.func94 (by kernel_rfl) rfl #[.string a0] rfl (by (try simp only [List.map_toArray,List.map_cons,List.map_nil]);first | done | rfl | (simp only [List.length_drop,List.length_take];rfl)) ?_;(with_reducible refine (thwartref02_Sum.calls k a0 t381 _ A2.out).mono ?_);rintro e w' ⟨rfl,⟨nd,rfl⟩⟩;refine ⟨_,rfl,?_⟩) | ((with_reducible refine gate_dst (N:=17) rfl ?_);refine Kd.R_lit (Kd.int .u8) _ 5 ?hg (N:=17) ?hd (xs:=([(t381) % 256,(t381 / 256) % 256,(t381 / 65536) % 256,(t381 / 16777216) % 256] : List Int)) (inner:=[.int .u8 ((t381) % 256),.int .u8 ((t381 / 256) % 256),.int .u8 ((t381 / 65536) % 256),.int .u8 ((t381 / 16777216) % 256)]) (ok:=fun _ => True) (okp:=fun _ => True) ?hr ?hp (fun _ hk => hk) trivial (Below.refl _ _) (Nat.le_refl _) (by simp) ?_;(case hd => rfl);(case hg => rfl);(case hr => first | (go_simp;done) | (go_simp;rfl));(case hp => exact (Reps.one (show Kd.M (Kd.int .u8) _ _ _ ((t381) % 256) [.int .u8 ((t381) % 256)] from rfl) (Reps.one (show Kd.M (Kd.int .u8) _ _ _ ((t381 / 256) % 256) [.int .u8 ((t381 / 256) % 256)] from rfl) (Reps.one (show Kd.M (Kd.int .u8) _ _ _ ((t381 / 65536) % 256) [.int .u8 ((t381 / 65536) % 256)] from rfl) (Reps.one (show Kd.M (Kd.int .u8) _ _ _ ((t381 / 16777216) % 256) [.int .u8 ((t381 / 16777216) % 256)] from rfl) (Reps.none _ _))))));intro v383 w4 ho5 hb hg_ hnew_;clear hg_ hnew_;(first | rw [← Ny382.out] at ho5 | (simp only [Int.reduceToNat] at ho5;rw [← Ny382.out] at ho5));have n0_:=Aside0.mk (Kd.R_lower ho5 (below_size (by repeat (first | (with_reducible first | exact HB.out | apply below_alloc | apply pw_below_drewN | apply below_drew1) | exact HB.out))));have n1_:=Aside0.mk (below_step (by repeat (first | (with_reducible first | exact HB.out | apply below_alloc | apply pw_below_drewN | apply below_drew1) | exact HB.out)) hb);clear HB;have HO384:=n0_;have HB:=n1_;clear n0_ n1_;clear hb ho5;have hcv6:=own_string (P:=Tryz.prog) Tryz.underlying154 Tryz.underlying5 Tryz.underlying9 (Kd.own_of_R HO384.out)))
  go_ret
  exact ⟨by first | rfl | (simp [errW_none,errW_some] <;> rfl) | (simp [*,errW_none,errW_some] <;> rfl) | (simp [errW_none,errW_some];exact isEmpty_bne _),by repeat (first | (with_reducible first | exact HB.out | apply below_alloc | apply pw_below_drewN | apply below_drew1) | exact HB.out)⟩
 ·rw [if_neg c3] at H
  exact absurd H (by simp)

end Go.Proofs.YtlnbekaldemebaaGreatDoor.Print
