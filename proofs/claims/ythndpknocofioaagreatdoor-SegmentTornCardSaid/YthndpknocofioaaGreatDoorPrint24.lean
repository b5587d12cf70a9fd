/- Written by a program of mine (give.py, over the kit's print) out of the translation: contracts of the Go functions. Lean checks it. -/
import Derived.Test.YthndpknocofioaaGreatDoorPrint0
import Derived.Test.YthndpknocofioaaGreatDoorPrint3
namespace Go.Proofs.YthndpknocofioaaGreatDoor.Print
open Go.RowKit Go.Proofs.YthndpknocofioaaGreatDoorW.PrintWords Go.Proofs.YthndpknocofioaaGreatDoorW.PrintLast Go.Proofs.YthndpknocofioaaGreatDoorW.PrintMore
attribute [local go_sem] max2_int min2_int max_two min_two max_three min_three max_four min_four   -- for this text's walks alone
set_option linter.unusedVariables false
set_option linter.unusedSimpArgs false

attribute [local go_sem high] eqA65
/-! ### thwartref05_Same: function 21 -/
def thwartref05_Same.l0 : Nat → List (S65) → List (S65) → Int → Option (Bool)
 | 0,_,_,_ => none
 | k + 1,x0,x1,x5 => if x5 < (x0.length : Int) then (if 0 ≤ x5 then (if x5 < (x1.length : Int) then (if (!((((rd_T65 x0 x5).f0).toList) == (((rd_T65 x1 x5).f0).toList)) || (!(((rd_T65 x0 x5).f1) == ((rd_T65 x1 x5).f1)) || (!(((rd_T65 x0 x5).f2) == ((rd_T65 x1 x5).f2)) || (!(((rd_T65 x0 x5).f3) == ((rd_T65 x1 x5).f3)) || (!(((rd_T65 x0 x5).f4) == ((rd_T65 x1 x5).f4))))))) = true then (some false) else (thwartref05_Same.l0 k x0 x1 (wrap64 (x5 + 1)))) else (none)) else (none)) else (some true)
def thwartref05_Same.f (k : Nat) (l0 : List (S65)) (l1 : List (S65)) : Option (Bool):=if (l0.length : Int) = (l1.length : Int) then (thwartref05_Same.l0 k l0 l1 0) else (some false)
theorem thwartref05_Same.mono_l : ∀ k,(∀ y0 y1 y2,LeO (thwartref05_Same.l0 k y0 y1 y2) (thwartref05_Same.l0 (k + 1) y0 y1 y2))
 | 0 => fun _ _ _ r h => by simp [thwartref05_Same.l0] at h
 | k + 1 => by
  have ih0:=thwartref05_Same.mono_l k
  ·intro y0 y1 y2
   unfold thwartref05_Same.l0
   repeat' first
   | (with_reducible exact ih0 _ _ _)
   | (with_reducible exact LeO.refl _)
   | (with_reducible exact LeO.none _)
   | (with_reducible refine LeO.ite ?_ ?_)
   | (with_reducible refine LeO.bind ?_ (fun _ => ?_))
   | exact ih0 _ _ _
   | exact LeO.none _
   | refine LeO.ite ?_ ?_
   | refine LeO.bind ?_ (fun _ => ?_)
theorem thwartref05_Same.mono : ∀ a0 a1 k,LeO (thwartref05_Same.f k a0 a1) (thwartref05_Same.f (k + 1) a0 a1):=by
 intro a0 a1 k
 have ih0:=thwartref05_Same.mono_l k
 unfold thwartref05_Same.f
 repeat' first
   | (with_reducible exact ih0 _ _ _)
   | (with_reducible exact LeO.refl _)
   | (with_reducible exact LeO.none _)
   | (with_reducible refine LeO.ite ?_ ?_)
   | (with_reducible refine LeO.bind ?_ (fun _ => ?_))
   | exact ih0 _ _ _
   | exact LeO.none _
   | refine LeO.ite ?_ ?_
   | refine LeO.bind ?_ (fun _ => ?_)
set_option maxHeartbeats 8000000 in
set_option maxRecDepth 100000 in
theorem thwartref05_Same.calls (k : Nat) (A0 : Option Addr) (c0 : Nat) (l0 : List (S65)) (A1 : Option Addr) (c1 : Nat) (l1 : List (S65)) (r : Bool) (w : World) (hr0 : Kd.C k65 w A0 l0.length l0) (hc0 : l0.length ≤ c0) (hr1 : Kd.C k65 w A1 l1.length l1) (hc1 : l1.length ≤ c1) (h : thwartref05_Same.f k l0 l1 = some r) :
  Calls Tryz.prog 21 #[.slice A0 l0.length c0,.slice A1 l1.length c1] w fun e w' => e = .returned (.bool r) ∧ Drawn0 w w' := by
 have hu65:=Tryz.underlying65
 have HR0:=Aside0.mk hr0
 have HC0:=Aside0.mk hc0
 clear hr0 hc0
 have HR1:=Aside0.mk hr1
 have HC1:=Aside0.mk hc1
 clear hr1 hc1
 have H : (if (l0.length : Int) = (l1.length : Int) then (thwartref05_Same.l0 k l0 l1 0) else (some false)) = some r:=h
 clear h
 by_cases c3 : (l0.length : Int) = (l1.length : Int)
 ·rw [if_pos c3] at H
  have c3b0 : ((l0.length : Int) == (l1.length : Int)) = true:=beq_iff_eq.mpr c3
  have c3b1 : ((l0.length : Int) != (l1.length : Int)) = false:=bne_eq_false_iff_eq.mpr c3
  have c3b2 : (l0.length == l1.length) = true:=by first | simpa using c3 | (simp at c3 ⊢;omega)
  clear c3
  have H' := Aside0.mk H
  clear H
  go_enter Tryz.func21,Tryz.ntmps21
  go_wp2
  repeat (go_quiet (fail);try go_wp2)
  go_loopg [5] k (fun kq v5 w' => ∃ (x5_1 : Int),v5 = .int .i64 x5_1 ∧ Aside0 (thwartref05_Same.l0 kq l0 l1 x5_1 = some r) ∧ Aside0 (kq ≤ k) ∧ Drawn0 w w')
  case atStart => exact ⟨(0),(by first | rfl | (simp;done) | (simp [*];done)),H',⟨Nat.le_refl _⟩,by repeat (first | exact Drawn0.refl _ | apply Drawn0.step)⟩
  case round =>
   clear H'
   try clear c1
   try clear c2
   try clear p2
   try clear c3
   try clear c3b0
   try clear c3b1
   try clear c3b2
   obtain ⟨x5_1,rfl,HA,HK1,⟨m1,rfl⟩⟩:=hrel
   cases gk with
   | zero => exact absurd HA.out (by simp [thwartref05_Same.l0])
   | succ k1 =>
    have H:=HA.out
    clear HA
    simp only [thwartref05_Same.l0] at H
    by_cases c4 : x5_1 < (l0.length : Int)
    ·rw [if_pos c4] at H
     have c4b0 : decide (x5_1 < (l0.length : Int)) = true:=decide_eq_true c4
     clear c4
     by_cases c5 : 0 ≤ x5_1
     ·rw [if_pos c5] at H
      have c5b0 : decide (0 ≤ x5_1) = true:=decide_eq_true c5
      clear c5
      by_cases c6 : x5_1 < (l1.length : Int)
      ·rw [if_pos c6] at H
       have c6b0 : decide (x5_1 < (l1.length : Int)) = true:=decide_eq_true c6
       clear c6
       by_cases c7 : (!((((rd_T65 l0 x5_1).f0).toList) == (((rd_T65 l1 x5_1).f0).toList)) || (!(((rd_T65 l0 x5_1).f1) == ((rd_T65 l1 x5_1).f1)) || (!(((rd_T65 l0 x5_1).f2) == ((rd_T65 l1 x5_1).f2)) || (!(((rd_T65 l0 x5_1).f3) == ((rd_T65 l1 x5_1).f3)) || (!(((rd_T65 l0 x5_1).f4) == ((rd_T65 l1 x5_1).f4))))))) = true
       ·rw [if_pos c7] at H
        have c7b0 : (!((((rd_T65 l0 x5_1).f0).toList) == (((rd_T65 l1 x5_1).f0).toList)) || (!(((rd_T65 l0 x5_1).f1) == ((rd_T65 l1 x5_1).f1)) || (!(((rd_T65 l0 x5_1).f2) == ((rd_T65 l1 x5_1).f2)) || (!(((rd_T65 l0 x5_1).f3) == ((rd_T65 l1 x5_1).f3)) || (!(((rd_T65 l0 x5_1).f4) == ((rd_T65 l1 x5_1).f4))))))) = true:=c7
        clear c7
        obtain rfl:=Option.some.inj H
        have p457 : 0 ≤ (x5_1 : Int):=of_decide_eq_true (by first | (with_reducible assumption) | assumption)
        have q457 : x5_1 < (l0.length : Int):=of_decide_eq_true (by first | (with_reducible assumption) | assumption)
        obtain ⟨ad457,e457,hx457_0,hx457_1,hx457_2,hx457_3,hx457_4⟩:=at_T65 HR0.out x5_1 p457 q457
        cases e457
        replace p457:=eq_true p457
        replace q457:=eq_true q457
        have p458 : 0 ≤ (x5_1 : Int):=of_decide_eq_true (by first | (with_reducible assumption) | assumption)
        have q458 : x5_1 < (l1.length : Int):=of_decide_eq_true (by first | (with_reducible assumption) | assumption)
        obtain ⟨ad458,e458,hx458_0,hx458_1,hx458_2,hx458_3,hx458_4⟩:=at_T65 HR1.out x5_1 p458 q458
        cases e458
        replace p458:=eq_true p458
        replace q458:=eq_true q458
        go_wp2
        repeat (go_quiet (fail);try go_wp2)
        go_ret
        exact ⟨by first | rfl | (simp;done) | (simp [*];done),by repeat (first | exact Drawn0.refl _ | apply Drawn0.step)⟩
       ·rw [if_neg c7] at H
        have c7b0 : (!((((rd_T65 l0 x5_1).f0).toList) == (((rd_T65 l1 x5_1).f0).toList)) || (!(((rd_T65 l0 x5_1).f1) == ((rd_T65 l1 x5_1).f1)) || (!(((rd_T65 l0 x5_1).f2) == ((rd_T65 l1 x5_1).f2)) || (!(((rd_T65 l0 x5_1).f3) == ((rd_T65 l1 x5_1).f3)) || (!(((rd_T65 l0 x5_1).f4) == ((rd_T65 l1 x5_1).f4))))))) = false:=by simpa using c7
        clear c7
        have H' := Aside0.mk H
        clear H
        have p457 : 0 ≤ (x5_1 : Int):=of_decide_eq_true (by first | (with_reducible assumption) | assumption)
        have q457 : x5_1 < (l0.length : Int):=of_decide_eq_true (by first | (with_reducible assumption) | assumption)
        obtain ⟨ad457,e457,hx457_0,hx457_1,hx457_2,hx457_3,hx457_4⟩:=at_T65 HR0.out x5_1 p457 q457
        cases e457
        replace p457:=eq_true p457
        replace q457:=eq_true q457
        have p458 : 0 ≤ (x5_1 : Int):=of_decide_eq_true (by first | (with_reducible assumption) | assumption)
        have q458 : x5_1 < (l1.length : Int):=of_decide_eq_true (by first | (with_reducible assumption) | assumption)
        obtain ⟨ad458,e458,hx458_0,hx458_1,hx458_2,hx458_3,hx458_4⟩:=at_T65 HR1.out x5_1 p458 q458
        cases e458
        replace p458:=eq_true p458
        replace q458:=eq_true q458
        go_wp2
        repeat (go_quiet (fail);try go_wp2)
        go_roundg k1
        case measure => have:=HK1.out;omega
        case rel => exact ⟨(wrap64 (x5_1 + 1)),(by first | rfl | (simp;done) | (simp [*];done)),H',⟨by have:=HK1.out;omega⟩,by repeat (first | exact Drawn0.refl _ | apply Drawn0.step)⟩
      ·rw [if_neg c6] at H
       exact absurd H (by simp)
     ·rw [if_neg c5] at H
      exact absurd H (by simp)
    ·rw [if_neg c4] at H
     have c4b0 : decide (x5_1 < (l0.length : Int)) = false:=decide_eq_false c4
     clear c4
     obtain rfl:=Option.some.inj H
     go_wp2
     repeat (go_quiet (fail);try go_wp2)
     go_ret
     exact ⟨by first | rfl | (simp;done) | (simp [*];done),by repeat (first | exact Drawn0.refl _ | apply Drawn0.step)⟩
 ·rw [if_neg c3] at H
  have c3b0 : ((l0.length : Int) == (l1.length : Int)) = false:=beq_eq_false_iff_ne.mpr c3
  have c3b1 : ((l0.length : Int) != (l1.length : Int)) = true:=bne_iff_ne.mpr c3
  have c3b2 : (l0.length == l1.length) = false:=by first | simpa using c3 | (simp at c3 ⊢;omega)
  obtain rfl:=Option.some.inj H
  go_enter Tryz.func21,Tryz.ntmps21
  go_wp2
  repeat (go_quiet (fail);try go_wp2)
  go_ret
  exact ⟨by first | rfl | (simp;done) | (simp [*];done),by repeat (first | exact Drawn0.refl _ | apply Drawn0.step)⟩

/-! ### thwartlaw08_to: function 22 -/
def thwartlaw08_to.l0 : Nat → List (S52) → List (S65) → Int → Option ((List (S65)))
 | 0,_,_,_ => none
 | k + 1,x0,x3,x4 => if x4 < (x0.length : Int) then (if 0 ≤ x4 then (if x3.length < 2932031007402 then (thwartlaw08_to.l0 k x0 (x3 ++ [(⟨(rd_T52 x0 x4).f0,(rd_T52 x0 x4).f1,(rd_T52 x0 x4).f2,(rd_T52 x0 x4).f3,(rd_T52 x0 x4).f4⟩ : S65)]) (wrap64 (x4 + 1))) else (none)) else (none)) else (some x3)
def thwartlaw08_to.f (k : Nat) (l0 : List (S52)) : Option ((List (S65))):=thwartlaw08_to.l0 k l0 ([] : List (S65)) 0
theorem thwartlaw08_to.mono_l : ∀ k,(∀ y0 y1 y2,LeO (thwartlaw08_to.l0 k y0 y1 y2) (thwartlaw08_to.l0 (k + 1) y0 y1 y2))
 | 0 => fun _ _ _ r h => by simp [thwartlaw08_to.l0] at h
 | k + 1 => by
  have ih0:=thwartlaw08_to.mono_l k
  ·intro y0 y1 y2
   unfold thwartlaw08_to.l0
   repeat' first
   | (with_reducible exact ih0 _ _ _)
   | (with_reducible exact LeO.refl _)
   | (with_reducible exact LeO.none _)
   | (with_reducible refine LeO.ite ?_ ?_)
   | (with_reducible refine LeO.bind ?_ (fun _ => ?_))
   | exact ih0 _ _ _
   | exact LeO.none _
   | refine LeO.ite ?_ ?_
   | refine LeO.bind ?_ (fun _ => ?_)
theorem thwartlaw08_to.mono : ∀ a0 k,LeO (thwartlaw08_to.f k a0) (thwartlaw08_to.f (k + 1) a0):=by
 intro a0 k
 have ih0:=thwartlaw08_to.mono_l k
 unfold thwartlaw08_to.f
 repeat' first
   | (with_reducible exact ih0 _ _ _)
   | (with_reducible exact LeO.refl _)
   | (with_reducible exact LeO.none _)
   | (with_reducible refine LeO.ite ?_ ?_)
   | (with_reducible refine LeO.bind ?_ (fun _ => ?_))
   | exact ih0 _ _ _
   | exact LeO.none _
   | refine LeO.ite ?_ ?_
   | refine LeO.bind ?_ (fun _ => ?_)
def thwartlaw08_to.T5 : Bool × List (List Nat × List Nat):=(true,[([],[]),([],[]),([],[]),([1,2],[1,2]),([3],[3]),([4],[4]),([],[]),([],[]),([6,7],[6,7]),([8],[8]),([9],[9]),([],[]),([],[]),([11,12],[11,12]),([13],[13]),([14],[14]),([],[]),([],[]),([16,17],[16,17]),([18],[18]),([19],[19]),([],[]),([],[]),([21,22],[21,22]),([23],[23]),([24],[24]),([5,10,15,20,25],[5,10,15,20,25]),([26],[26]),([0,27],[0,27]),([28,28,0,1,2,3,4,5,6,7,8,9,10,11,12,13,14,15,16,17,18,19,20,21,22,23,24,25,26,27,28],[0,28])])
def thwartlaw08_to.B5 : List Nat:=[0,0,0,6,14,30,0,0,192,448,960,0,0,6144,14336,30720,0,0,196608,458752,983040,0,0,6291456,14680064,31457280,67108862,134217726,268435455,536870911]
theorem thwartlaw08_to.tab5 : rtab .any (opsOf Tryz.f22 5) = thwartlaw08_to.T5:=by kernel_rfl
theorem thwartlaw08_to.bits5 : waitsOk thwartlaw08_to.T5.2 thwartlaw08_to.B5 = true:=by kernel_rfl
set_option maxHeartbeats 8000000 in
set_option maxRecDepth 100000 in
theorem thwartlaw08_to.calls (k : Nat) (A0 : Option Addr) (c0 : Nat) (l0 : List (S52)) (r : List (S65)) (w : World) (hr0 : Kd.C k52 w A0 l0.length l0) (hc0 : l0.length ≤ c0) (h : thwartlaw08_to.f k l0 = some r) :
  Calls Tryz.prog 22 #[.slice A0 l0.length c0] w fun e w' => ∃ v0_ : Value,e = .returned (v0_) ∧ Kd.R k65 65 w' w.heap.size (fun _ => True) v0_ r ∧ Below w.heap.size w w' := by
 have hu65:=Tryz.underlying65
 have HR0:=Aside0.mk hr0
 have HC0:=Aside0.mk hc0
 clear hr0 hc0
 have HB:=Aside0.mk (Below.refl w.heap.size w)
 have H : (thwartlaw08_to.l0 k l0 ([] : List (S65)) 0) = some r:=h
 clear h
 have H' := Aside0.mk H
 clear H
 go_enter Tryz.func22,Tryz.ntmps22
 go_wp2
 go_loopg [3,4] k (fun kq v3 v4 w' => ∃ (x3_1 : List (S65)) (x4_1 : Int),v4 = .int .i64 x4_1 ∧ Aside0 (thwartlaw08_to.l0 kq l0 x3_1 x4_1 = some r) ∧ Aside0 (kq ≤ k) ∧ Aside0 (Kd.R k65 65 w' w.heap.size (fun _ => True) v3 x3_1) ∧ Aside0 (Below w.heap.size w w'))
 case atStart => exact ⟨(([] : List (S65))),(0),(by first | rfl | (simp;done) | (simp [*];done)),H',⟨Nat.le_refl _⟩,⟨by first | exact Kd.R_nil _ _ _ _ _ | exact Kd.N_nil _ _ _ _ _ | exact Kd.V_nil _ _ _ _ _ | exact Kd.Q_nil _ _ _ _ _ | exact Kd.S_nil _ _ _ _ _⟩,⟨by repeat (first | (with_reducible first | exact HB.out | apply below_alloc | apply pw_below_drewN | apply below_drew1) | exact HB.out)⟩⟩
 case round =>
  clear H'
  obtain ⟨x3_1,x4_1,rfl,HA,HK1,HO_3,HB⟩:=hrel
  cases gk with
  | zero => exact absurd HA.out (by simp [thwartlaw08_to.l0])
  | succ k1 =>
   have H:=HA.out
   clear HA
   simp only [thwartlaw08_to.l0] at H
   by_cases c2 : x4_1 < (l0.length : Int)
   ·rw [if_pos c2] at H
    have c2b0 : decide (x4_1 < (l0.length : Int)) = true:=decide_eq_true c2
    clear c2
    by_cases c3 : 0 ≤ x4_1
    ·rw [if_pos c3] at H
     have c3b0 : decide (0 ≤ x4_1) = true:=decide_eq_true c3
     clear c3
     by_cases c4 : x3_1.length < 2932031007402
     ·rw [if_pos c4] at H
      have LMc4:=Aside0.mk c4
      clear c4
      obtain ⟨y464,hy464⟩ : ∃ y_ : List (S65),y_ = (x3_1 ++ [(⟨(rd_T52 l0 x4_1).f0,(rd_T52 l0 x4_1).f1,(rd_T52 l0 x4_1).f2,(rd_T52 l0 x4_1).f3,(rd_T52 l0 x4_1).f4⟩ : S65)]):=⟨_,rfl⟩
      replace H : (thwartlaw08_to.l0 k1 l0 y464 (wrap64 (x4_1 + 1))) = some r:=by first | (rw [hy464];with_reducible exact H) | (have H2_:=(Option.bind_some _ _).symm.trans H;rw [hy464];with_reducible exact H2_) | (have H2_:=(Option.bind_some _ _).symm.trans H;with_reducible exact H2_) | with_reducible exact H | (rw [hy464];exact H) | exact H
      have Ny464:=Aside0.mk hy464
      clear hy464
      have H' := Aside0.mk H
      clear H
      try go_wp2
      have n0_:=Aside0.mk (Kd.R_drew HO_3.out)
      have n1_:=Aside0.mk (below_drew1 HB.out)
      clear HO_3
      clear HB
      have HO_3:=n0_
      have HB:=n1_
      clear n0_ n1_
      have p459 : 0 ≤ (x4_1 : Int):=of_decide_eq_true (by first | (with_reducible assumption) | assumption)
      have q459 : x4_1 < (l0.length : Int):=of_decide_eq_true (by first | (with_reducible assumption) | assumption)
      obtain ⟨ad459,e459,hx459_0,hx459_1,hx459_2,hx459_3,hx459_4⟩:=at_T52 HR0.out x4_1 p459 q459
      have hw459_4:=hx459_4
      have hw459_3:=hx459_3
      have hw459_2:=hx459_2
      have hw459_1:=hx459_1
      have hw459_0:=hx459_0
      cases e459
      replace hx459_0:=(HB.out.cell (World.block_lt_of_cell? w _ hx459_0)).trans hx459_0
      replace hx459_1:=(HB.out.cell (World.block_lt_of_cell? w _ hx459_1)).trans hx459_1
      replace hx459_2:=(HB.out.cell (World.block_lt_of_cell? w _ hx459_2)).trans hx459_2
      replace hx459_3:=(HB.out.cell (World.block_lt_of_cell? w _ hx459_3)).trans hx459_3
      replace hx459_4:=(HB.out.cell (World.block_lt_of_cell? w _ hx459_4)).trans hx459_4
      replace p459:=eq_true p459
      replace q459:=eq_true q459
      have p460 : 0 ≤ (x4_1 : Int):=of_decide_eq_true (by first | (with_reducible assumption) | assumption)
      have q460 : x4_1 < (l0.length : Int):=of_decide_eq_true (by first | (with_reducible assumption) | assumption)
      obtain ⟨ad460,e460,hx460_0,hx460_1,hx460_2,hx460_3,hx460_4⟩:=at_T52 HR0.out x4_1 p460 q460
      have hw460_4:=hx460_4
      have hw460_3:=hx460_3
      have hw460_2:=hx460_2
      have hw460_1:=hx460_1
      have hw460_0:=hx460_0
      obtain rfl : ad459 = ad460:=(by injection e460)
      replace hx460_0:=(HB.out.cell (World.block_lt_of_cell? w _ hx460_0)).trans hx460_0
      replace hx460_1:=(HB.out.cell (World.block_lt_of_cell? w _ hx460_1)).trans hx460_1
      replace hx460_2:=(HB.out.cell (World.block_lt_of_cell? w _ hx460_2)).trans hx460_2
      replace hx460_3:=(HB.out.cell (World.block_lt_of_cell? w _ hx460_3)).trans hx460_3
      replace hx460_4:=(HB.out.cell (World.block_lt_of_cell? w _ hx460_4)).trans hx460_4
      replace p460:=eq_true p460
      replace q460:=eq_true q460
      have p461 : 0 ≤ (x4_1 : Int):=of_decide_eq_true (by first | (with_reducible assumption) | assumption)
      have q461 : x4_1 < (l0.length : Int):=of_decide_eq_true (by first | (with_reducible assumption) | assumption)
      obtain ⟨ad461,e461,hx461_0,hx461_1,hx461_2,hx461_3,hx461_4⟩:=at_T52 HR0.out x4_1 p461 q461
      have hw461_4:=hx461_4
      have hw461_3:=hx461_3
      have hw461_2:=hx461_2
      have hw461_1:=hx461_1
      have hw461_0:=hx461_0
      obtain rfl : ad459 = ad461:=(by injection e461)
      replace hx461_0:=(HB.out.cell (World.block_lt_of_cell? w _ hx461_0)).trans hx461_0
      replace hx461_1:=(HB.out.cell (World.block_lt_of_cell? w _ hx461_1)).trans hx461_1
      replace hx461_2:=(HB.out.cell (World.block_lt_of_cell? w _ hx461_2)).trans hx461_2
      replace hx461_3:=(HB.out.cell (World.block_lt_of_cell? w _ hx461_3)).trans hx461_3
      replace hx461_4:=(HB.out.cell (World.block_lt_of_cell? w _ hx461_4)).trans hx461_4
      replace p461:=eq_true p461
      replace q461:=eq_true q461
      have p462 : 0 ≤ (x4_1 : Int):=of_decide_eq_true (by first | (with_reducible assumption) | assumption)
      have q462 : x4_1 < (l0.length : Int):=of_decide_eq_true (by first | (with_reducible assumption) | assumption)
      obtain ⟨ad462,e462,hx462_0,hx462_1,hx462_2,hx462_3,hx462_4⟩:=at_T52 HR0.out x4_1 p462 q462
      have hw462_4:=hx462_4
      have hw462_3:=hx462_3
      have hw462_2:=hx462_2
      have hw462_1:=hx462_1
      have hw462_0:=hx462_0
      obtain rfl : ad459 = ad462:=(by injection e462)
      replace hx462_0:=(HB.out.cell (World.block_lt_of_cell? w _ hx462_0)).trans hx462_0
      replace hx462_1:=(HB.out.cell (World.block_lt_of_cell? w _ hx462_1)).trans hx462_1
      replace hx462_2:=(HB.out.cell (World.block_lt_of_cell? w _ hx462_2)).trans hx462_2
      replace hx462_3:=(HB.out.cell (World.block_lt_of_cell? w _ hx462_3)).trans hx462_3
      replace hx462_4:=(HB.out.cell (World.block_lt_of_cell? w _ hx462_4)).trans hx462_4
      replace p462:=eq_true p462
      replace q462:=eq_true q462
      have p463 : 0 ≤ (x4_1 : Int):=of_decide_eq_true (by first | (with_reducible assumption) | assumption)
      have q463 : x4_1 < (l0.length : Int):=of_decide_eq_true (by first | (with_reducible assumption) | assumption)
      obtain ⟨ad463,e463,hx463_0,hx463_1,hx463_2,hx463_3,hx463_4⟩:=at_T52 HR0.out x4_1 p463 q463
      have hw463_4:=hx463_4
      have hw463_3:=hx463_3
      have hw463_2:=hx463_2
      have hw463_1:=hx463_1
      have hw463_0:=hx463_0
      obtain rfl : ad459 = ad463:=(by injection e463)
      replace hx463_0:=(HB.out.cell (World.block_lt_of_cell? w _ hx463_0)).trans hx463_0
      replace hx463_1:=(HB.out.cell (World.block_lt_of_cell? w _ hx463_1)).trans hx463_1
      replace hx463_2:=(HB.out.cell (World.block_lt_of_cell? w _ hx463_2)).trans hx463_2
      replace hx463_3:=(HB.out.cell (World.block_lt_of_cell? w _ hx463_3)).trans hx463_3
      replace hx463_4:=(HB.out.cell (World.block_lt_of_cell? w _ hx463_4)).trans hx463_4
      replace p463:=eq_true p463
      replace q463:=eq_true q463
      refine start_ (n:=30) (S:=fun w' => w'.cell? (ad459.add ((x4_1).toNat * 5)) = some (.string ((rd_T52 l0 x4_1).f0)) ∧ w'.cell? ⟨(ad459.add ((x4_1).toNat * 5)).block,(ad459.add ((x4_1).toNat * 5)).off + 1,none⟩ = some (.int .i64 ((rd_T52 l0 x4_1).f1)) ∧ w'.cell? ⟨(ad459.add ((x4_1).toNat * 5)).block,(ad459.add ((x4_1).toNat * 5)).off + 2,none⟩ = some (.int .i64 ((rd_T52 l0 x4_1).f2)) ∧ w'.cell? ⟨(ad459.add ((x4_1).toNat * 5)).block,(ad459.add ((x4_1).toNat * 5)).off + 3,none⟩ = some (.int .u64 ((rd_T52 l0 x4_1).f3)) ∧ w'.cell? ⟨(ad459.add ((x4_1).toNat * 5)).block,(ad459.add ((x4_1).toNat * 5)).off + 4,none⟩ = some (.bool ((rd_T52 l0 x4_1).f4)) ∧ w'.cell? (ad459.add ((x4_1).toNat * 5)) = some (.string ((rd_T52 l0 x4_1).f0)) ∧ w'.cell? ⟨(ad459.add ((x4_1).toNat * 5)).block,(ad459.add ((x4_1).toNat * 5)).off + 1,none⟩ = some (.int .i64 ((rd_T52 l0 x4_1).f1)) ∧ w'.cell? ⟨(ad459.add ((x4_1).toNat * 5)).block,(ad459.add ((x4_1).toNat * 5)).off + 2,none⟩ = some (.int .i64 ((rd_T52 l0 x4_1).f2)) ∧ w'.cell? ⟨(ad459.add ((x4_1).toNat * 5)).block,(ad459.add ((x4_1).toNat * 5)).off + 3,none⟩ = some (.int .u64 ((rd_T52 l0 x4_1).f3)) ∧ w'.cell? ⟨(ad459.add ((x4_1).toNat * 5)).block,(ad459.add ((x4_1).toNat * 5)).off + 4,none⟩ = some (.bool ((rd_T52 l0 x4_1).f4)) ∧ w'.cell? (ad459.add ((x4_1).toNat * 5)) = some (.string ((rd_T52 l0 x4_1).f0)) ∧ w'.cell? ⟨(ad459.add ((x4_1).toNat * 5)).block,(ad459.add ((x4_1).toNat * 5)).off + 1,none⟩ = some (.int .i64 ((rd_T52 l0 x4_1).f1)) ∧ w'.cell? ⟨(ad459.add ((x4_1).toNat * 5)).block,(ad459.add ((x4_1).toNat * 5)).off + 2,none⟩ = some (.int .i64 ((rd_T52 l0 x4_1).f2)) ∧ w'.cell? ⟨(ad459.add ((x4_1).toNat * 5)).block,(ad459.add ((x4_1).toNat * 5)).off + 3,none⟩ = some (.int .u64 ((rd_T52 l0 x4_1).f3)) ∧ w'.cell? ⟨(ad459.add ((x4_1).toNat * 5)).block,(ad459.add ((x4_1).toNat * 5)).off + 4,none⟩ = some (.bool ((rd_T52 l0 x4_1).f4)) ∧ w'.cell? (ad459.add ((x4_1).toNat * 5)) = some (.string ((rd_T52 l0 x4_1).f0)) ∧ w'.cell? ⟨(ad459.add ((x4_1).toNat * 5)).block,(ad459.add ((x4_1).toNat * 5)).off + 1,none⟩ = some (.int .i64 ((rd_T52 l0 x4_1).f1)) ∧ w'.cell? ⟨(ad459.add ((x4_1).toNat * 5)).block,(ad459.add ((x4_1).toNat * 5)).off + 2,none⟩ = some (.int .i64 ((rd_T52 l0 x4_1).f2)) ∧ w'.cell? ⟨(ad459.add ((x4_1).toNat * 5)).block,(ad459.add ((x4_1).toNat * 5)).off + 3,none⟩ = some (.int .u64 ((rd_T52 l0 x4_1).f3)) ∧ w'.cell? ⟨(ad459.add ((x4_1).toNat * 5)).block,(ad459.add ((x4_1).toNat * 5)).off + 4,none⟩ = some (.bool ((rd_T52 l0 x4_1).f4)) ∧ w'.cell? (ad459.add ((x4_1).toNat * 5)) = some (.string ((rd_T52 l0 x4_1).f0)) ∧ w'.cell? ⟨(ad459.add ((x4_1).toNat * 5)).block,(ad459.add ((x4_1).toNat * 5)).off + 1,none⟩ = some (.int .i64 ((rd_T52 l0 x4_1).f1)) ∧ w'.cell? ⟨(ad459.add ((x4_1).toNat * 5)).block,(ad459.add ((x4_1).toNat * 5)).off + 2,none⟩ = some (.int .i64 ((rd_T52 l0 x4_1).f2)) ∧ w'.cell? ⟨(ad459.add ((x4_1).toNat * 5)).block,(ad459.add ((x4_1).toNat * 5)).off + 3,none⟩ = some (.int .u64 ((rd_T52 l0 x4_1).f3)) ∧ w'.cell? ⟨(ad459.add ((x4_1).toNat * 5)).block,(ad459.add ((x4_1).toNat * 5)).off + 4,none⟩ = some (.bool ((rd_T52 l0 x4_1).f4))) (ds:=[]) #[false,false,false,false,false,false,false,false,false,false,false,false,false,false,false,false,false,false,false,false,false,false,false,false,false,false,false,false,false,false] (by kernel_rfl) rfl rfl ⟨((HB.out.cell (World.block_lt_of_cell? w _ hw459_0)).trans hw459_0),((HB.out.cell (World.block_lt_of_cell? w _ hw459_1)).trans hw459_1),((HB.out.cell (World.block_lt_of_cell? w _ hw459_2)).trans hw459_2),((HB.out.cell (World.block_lt_of_cell? w _ hw459_3)).trans hw459_3),((HB.out.cell (World.block_lt_of_cell? w _ hw459_4)).trans hw459_4),((HB.out.cell (World.block_lt_of_cell? w _ hw460_0)).trans hw460_0),((HB.out.cell (World.block_lt_of_cell? w _ hw460_1)).trans hw460_1),((HB.out.cell (World.block_lt_of_cell? w _ hw460_2)).trans hw460_2),((HB.out.cell (World.block_lt_of_cell? w _ hw460_3)).trans hw460_3),((HB.out.cell (World.block_lt_of_cell? w _ hw460_4)).trans hw460_4),((HB.out.cell (World.block_lt_of_cell? w _ hw461_0)).trans hw461_0),((HB.out.cell (World.block_lt_of_cell? w _ hw461_1)).trans hw461_1),((HB.out.cell (World.block_lt_of_cell? w _ hw461_2)).trans hw461_2),((HB.out.cell (World.block_lt_of_cell? w _ hw461_3)).trans hw461_3),((HB.out.cell (World.block_lt_of_cell? w _ hw461_4)).trans hw461_4),((HB.out.cell (World.block_lt_of_cell? w _ hw462_0)).trans hw462_0),((HB.out.cell (World.block_lt_of_cell? w _ hw462_1)).trans hw462_1),((HB.out.cell (World.block_lt_of_cell? w _ hw462_2)).trans hw462_2),((HB.out.cell (World.block_lt_of_cell? w _ hw462_3)).trans hw462_3),((HB.out.cell (World.block_lt_of_cell? w _ hw462_4)).trans hw462_4),((HB.out.cell (World.block_lt_of_cell? w _ hw463_0)).trans hw463_0),((HB.out.cell (World.block_lt_of_cell? w _ hw463_1)).trans hw463_1),((HB.out.cell (World.block_lt_of_cell? w _ hw463_2)).trans hw463_2),((HB.out.cell (World.block_lt_of_cell? w _ hw463_3)).trans hw463_3),((HB.out.cell (World.block_lt_of_cell? w _ hw463_4)).trans hw463_4)⟩ (fun hHeld => ?_);refine with_tabW thwartlaw08_to.tab5 thwartlaw08_to.bits5 (fun HT_ HW_ => ?_)
      generalize wr.drew = w5 at HO_3 HB hx459_0 hx459_1 hx459_2 hx459_3 hx459_4 hx460_0 hx460_1 hx460_2 hx460_3 hx460_4 hx461_0 hx461_1 hx461_2 hx461_3 hx461_4 hx462_0 hx462_1 hx462_2 hx462_3 hx462_4 hx463_0 hx463_1 hx463_2 hx463_3 hx463_4 hHeld ⊢
      refine pure_ (i:=0) (N:=some 11) (v := ?_) (a' := ?_) #[true,false,false,false,false,false,false,false,false,false,false,false,false,false,false,false,false,false,false,false,false,false,false,false,false,false,false,false,false,false] rfl rfl (any_of HT_.out (by kernel_rfl)) (fun _ _ _ h => h) (Or.inl ⟨by rfl,?_⟩) ?_ ?_
      rotate_left
      ·intro w'
       go_simp
       with_reducible rfl
      rotate_left
      ·simp only [Act.put,List.setIfInBounds_toArray,List.set_cons_zero,List.set_cons_succ,i64_w,i32_w]
       rfl
      refine pure_ (i:=1) (N:=some 12) (v := ?_) (a' := ?_) #[true,true,false,false,false,false,false,false,false,false,false,false,false,false,false,false,false,false,false,false,false,false,false,false,false,false,false,false,false,false] rfl rfl (any_of HT_.out (by kernel_rfl)) (fun _ _ _ h => h) (Or.inl ⟨by rfl,?_⟩) ?_ ?_
      rotate_left
      ·intro w'
       go_simp
       with_reducible rfl
      rotate_left
      ·simp only [Act.put,List.setIfInBounds_toArray,List.set_cons_zero,List.set_cons_succ,i64_w,i32_w]
       rfl
      refine pure_ (i:=2) (N:=some 13) (v := ?_) (a' := ?_) #[true,true,true,false,false,false,false,false,false,false,false,false,false,false,false,false,false,false,false,false,false,false,false,false,false,false,false,false,false,false] rfl rfl (any_of HT_.out (by kernel_rfl)) (fun _ _ _ h => h) (Or.inl ⟨by rfl,?_⟩) ?_ ?_
      rotate_left
      ·intro w'
       go_simp
       with_reducible rfl
      rotate_left
      ·simp only [Act.put,List.setIfInBounds_toArray,List.set_cons_zero,List.set_cons_succ,i64_w,i32_w]
       rfl
      refine pure_ (i:=3) (N:=some 14) (v := ?_) (a' := ?_) #[true,true,true,true,false,false,false,false,false,false,false,false,false,false,false,false,false,false,false,false,false,false,false,false,false,false,false,false,false,false] rfl rfl (any_of HT_.out (by kernel_rfl)) (fun _ _ _ h => h) (Or.inl ⟨by rfl,?_⟩) ?_ ?_
      rotate_left
      ·intro w'
       go_simp
       with_reducible rfl
      rotate_left
      ·simp only [Act.put,List.setIfInBounds_toArray,List.set_cons_zero,List.set_cons_succ,i64_w,i32_w]
       rfl
      refine pure_ (i:=4) (N:=some 15) (v := ?_) (a' := ?_) #[true,true,true,true,true,false,false,false,false,false,false,false,false,false,false,false,false,false,false,false,false,false,false,false,false,false,false,false,false,false] rfl rfl (any_of HT_.out (by kernel_rfl)) (fun _ _ _ h => h) (Or.inl ⟨by rfl,?_⟩) ?_ ?_
      rotate_left
      ·intro w'
       go_simp
       with_reducible rfl
      rotate_left
      ·simp only [Act.put,List.setIfInBounds_toArray,List.set_cons_zero,List.set_cons_succ,i64_w,i32_w]
       rfl
      refine pure_ (i:=6) (N:=some 17) (v := ?_) (a' := ?_) #[true,true,true,true,true,false,true,false,false,false,false,false,false,false,false,false,false,false,false,false,false,false,false,false,false,false,false,false,false,false] rfl rfl (any_of HT_.out (by kernel_rfl)) (fun _ _ _ h => h) (Or.inl ⟨by rfl,?_⟩) ?_ ?_
      rotate_left
      ·intro w'
       go_simp
       with_reducible rfl
      rotate_left
      ·simp only [Act.put,List.setIfInBounds_toArray,List.set_cons_zero,List.set_cons_succ,i64_w,i32_w]
       rfl
      refine pure_ (i:=7) (N:=some 18) (v := ?_) (a' := ?_) #[true,true,true,true,true,false,true,true,false,false,false,false,false,false,false,false,false,false,false,false,false,false,false,false,false,false,false,false,false,false] rfl rfl (any_of HT_.out (by kernel_rfl)) (fun _ _ _ h => h) (Or.inl ⟨by rfl,?_⟩) ?_ ?_
      rotate_left
      ·intro w'
       go_simp
       with_reducible rfl
      rotate_left
      ·simp only [Act.put,List.setIfInBounds_toArray,List.set_cons_zero,List.set_cons_succ,i64_w,i32_w]
       rfl
      refine pure_ (i:=8) (N:=some 19) (v := ?_) (a' := ?_) #[true,true,true,true,true,false,true,true,true,false,false,false,false,false,false,false,false,false,false,false,false,false,false,false,false,false,false,false,false,false] rfl rfl (any_of HT_.out (by kernel_rfl)) (fun _ _ _ h => h) (Or.inl ⟨by rfl,?_⟩) ?_ ?_
      rotate_left
      ·intro w'
       go_simp
       with_reducible rfl
      rotate_left
      ·simp only [Act.put,List.setIfInBounds_toArray,List.set_cons_zero,List.set_cons_succ,i64_w,i32_w]
       rfl
      refine pure_ (i:=9) (N:=some 20) (v := ?_) (a' := ?_) #[true,true,true,true,true,false,true,true,true,true,false,false,false,false,false,false,false,false,false,false,false,false,false,false,false,false,false,false,false,false] rfl rfl (any_of HT_.out (by kernel_rfl)) (fun _ _ _ h => h) (Or.inl ⟨by rfl,?_⟩) ?_ ?_
      rotate_left
      ·intro w'
       go_simp
       with_reducible rfl
      rotate_left
      ·simp only [Act.put,List.setIfInBounds_toArray,List.set_cons_zero,List.set_cons_succ,i64_w,i32_w]
       rfl
      refine pure_ (i:=11) (N:=some 22) (v := ?_) (a' := ?_) #[true,true,true,true,true,false,true,true,true,true,false,true,false,false,false,false,false,false,false,false,false,false,false,false,false,false,false,false,false,false] rfl rfl (any_of HT_.out (by kernel_rfl)) (fun _ _ _ h => h) (Or.inl ⟨by rfl,?_⟩) ?_ ?_
      rotate_left
      ·intro w'
       go_simp
       with_reducible rfl
      rotate_left
      ·simp only [Act.put,List.setIfInBounds_toArray,List.set_cons_zero,List.set_cons_succ,i64_w,i32_w]
       rfl
      refine pure_ (i:=12) (N:=some 23) (v := ?_) (a' := ?_) #[true,true,true,true,true,false,true,true,true,true,false,true,true,false,false,false,false,false,false,false,false,false,false,false,false,false,false,false,false,false] rfl rfl (any_of HT_.out (by kernel_rfl)) (fun _ _ _ h => h) (Or.inl ⟨by rfl,?_⟩) ?_ ?_
      rotate_left
      ·intro w'
       go_simp
       with_reducible rfl
      rotate_left
      ·simp only [Act.put,List.setIfInBounds_toArray,List.set_cons_zero,List.set_cons_succ,i64_w,i32_w]
       rfl
      refine pure_ (i:=13) (N:=some 24) (v := ?_) (a' := ?_) #[true,true,true,true,true,false,true,true,true,true,false,true,true,true,false,false,false,false,false,false,false,false,false,false,false,false,false,false,false,false] rfl rfl (any_of HT_.out (by kernel_rfl)) (fun _ _ _ h => h) (Or.inl ⟨by rfl,?_⟩) ?_ ?_
      rotate_left
      ·intro w'
       go_simp
       with_reducible rfl
      rotate_left
      ·simp only [Act.put,List.setIfInBounds_toArray,List.set_cons_zero,List.set_cons_succ,i64_w,i32_w]
       rfl
      refine pure_ (i:=14) (N:=some 25) (v := ?_) (a' := ?_) #[true,true,true,true,true,false,true,true,true,true,false,true,true,true,true,false,false,false,false,false,false,false,false,false,false,false,false,false,false,false] rfl rfl (any_of HT_.out (by kernel_rfl)) (fun _ _ _ h => h) (Or.inl ⟨by rfl,?_⟩) ?_ ?_
      rotate_left
      ·intro w'
       go_simp
       with_reducible rfl
      rotate_left
      ·simp only [Act.put,List.setIfInBounds_toArray,List.set_cons_zero,List.set_cons_succ,i64_w,i32_w]
       rfl
      refine pure_ (i:=16) (N:=some 27) (v := ?_) (a' := ?_) #[true,true,true,true,true,false,true,true,true,true,false,true,true,true,true,false,true,false,false,false,false,false,false,false,false,false,false,false,false,false] rfl rfl (any_of HT_.out (by kernel_rfl)) (fun _ _ _ h => h) (Or.inl ⟨by rfl,?_⟩) ?_ ?_
      rotate_left
      ·intro w'
       go_simp
       with_reducible rfl
      rotate_left
      ·simp only [Act.put,List.setIfInBounds_toArray,List.set_cons_zero,List.set_cons_succ,i64_w,i32_w]
       rfl
      refine pure_ (i:=17) (N:=some 28) (v := ?_) (a' := ?_) #[true,true,true,true,true,false,true,true,true,true,false,true,true,true,true,false,true,true,false,false,false,false,false,false,false,false,false,false,false,false] rfl rfl (any_of HT_.out (by kernel_rfl)) (fun _ _ _ h => h) (Or.inl ⟨by rfl,?_⟩) ?_ ?_
      rotate_left
      ·intro w'
       go_simp
       with_reducible rfl
      rotate_left
      ·simp only [Act.put,List.setIfInBounds_toArray,List.set_cons_zero,List.set_cons_succ,i64_w,i32_w]
       rfl
      refine pure_ (i:=18) (N:=some 29) (v := ?_) (a' := ?_) #[true,true,true,true,true,false,true,true,true,true,false,true,true,true,true,false,true,true,true,false,false,false,false,false,false,false,false,false,false,false] rfl rfl (any_of HT_.out (by kernel_rfl)) (fun _ _ _ h => h) (Or.inl ⟨by rfl,?_⟩) ?_ ?_
      rotate_left
      ·intro w'
       go_simp
       with_reducible rfl
      rotate_left
      ·simp only [Act.put,List.setIfInBounds_toArray,List.set_cons_zero,List.set_cons_succ,i64_w,i32_w]
       rfl
      refine pure_ (i:=19) (N:=some 30) (v := ?_) (a' := ?_) #[true,true,true,true,true,false,true,true,true,true,false,true,true,true,true,false,true,true,true,true,false,false,false,false,false,false,false,false,false,false] rfl rfl (any_of HT_.out (by kernel_rfl)) (fun _ _ _ h => h) (Or.inl ⟨by rfl,?_⟩) ?_ ?_
      rotate_left
      ·intro w'
       go_simp
       with_reducible rfl
      rotate_left
      ·simp only [Act.put,List.setIfInBounds_toArray,List.set_cons_zero,List.set_cons_succ,i64_w,i32_w]
       rfl
      refine pure_ (i:=21) (N:=some 32) (v := ?_) (a' := ?_) #[true,true,true,true,true,false,true,true,true,true,false,true,true,true,true,false,true,true,true,true,false,true,false,false,false,false,false,false,false,false] rfl rfl (any_of HT_.out (by kernel_rfl)) (fun _ _ _ h => h) (Or.inl ⟨by rfl,?_⟩) ?_ ?_
      rotate_left
      ·intro w'
       go_simp
       with_reducible rfl
      rotate_left
      ·simp only [Act.put,List.setIfInBounds_toArray,List.set_cons_zero,List.set_cons_succ,i64_w,i32_w]
       rfl
      refine pure_ (i:=22) (N:=some 33) (v := ?_) (a' := ?_) #[true,true,true,true,true,false,true,true,true,true,false,true,true,true,true,false,true,true,true,true,false,true,true,false,false,false,false,false,false,false] rfl rfl (any_of HT_.out (by kernel_rfl)) (fun _ _ _ h => h) (Or.inl ⟨by rfl,?_⟩) ?_ ?_
      rotate_left
      ·intro w'
       go_simp
       with_reducible rfl
      rotate_left
      ·simp only [Act.put,List.setIfInBounds_toArray,List.set_cons_zero,List.set_cons_succ,i64_w,i32_w]
       rfl
      refine pure_ (i:=23) (N:=some 34) (v := ?_) (a' := ?_) #[true,true,true,true,true,false,true,true,true,true,false,true,true,true,true,false,true,true,true,true,false,true,true,true,false,false,false,false,false,false] rfl rfl (any_of HT_.out (by kernel_rfl)) (fun _ _ _ h => h) (Or.inl ⟨by rfl,?_⟩) ?_ ?_
      rotate_left
      ·intro w'
       go_simp
       with_reducible rfl
      rotate_left
      ·simp only [Act.put,List.setIfInBounds_toArray,List.set_cons_zero,List.set_cons_succ,i64_w,i32_w]
       rfl
      refine pure_ (i:=24) (N:=some 35) (v := ?_) (a' := ?_) #[true,true,true,true,true,false,true,true,true,true,false,true,true,true,true,false,true,true,true,true,false,true,true,true,true,false,false,false,false,false] rfl rfl (any_of HT_.out (by kernel_rfl)) (fun _ _ _ h => h) (Or.inl ⟨by rfl,?_⟩) ?_ ?_
      rotate_left
      ·intro w'
       go_simp
       with_reducible rfl
      rotate_left
      ·simp only [Act.put,List.setIfInBounds_toArray,List.set_cons_zero,List.set_cons_succ,i64_w,i32_w]
       rfl
      refine take_ (i:=5) (N:=some 16) (v := ?_) (a' := ?_) #[true,true,true,true,true,true,true,true,true,true,false,true,true,true,true,false,true,true,true,true,false,true,true,true,true,false,false,false,false,false] rfl rfl (take_ofW HT_.out HW_.out (by kernel_rfl)) (fun _ _ _ h => h) (Or.inl ⟨by rfl,?_⟩) hHeld ?_ ?_
      rotate_left
      ·rintro w' ⟨s0,s1,s2,s3,s4,s5,s6,s7,s8,s9,s10,s11,s12,s13,s14,s15,s16,s17,s18,s19,s20,s21,s22,s23,s24⟩
       go_simp
       with_reducible rfl
      rotate_left
      ·simp only [Act.put,List.setIfInBounds_toArray,List.set_cons_zero,List.set_cons_succ,i64_w,i32_w]
       rfl
      refine take_ (i:=10) (N:=some 21) (v := ?_) (a' := ?_) #[true,true,true,true,true,true,true,true,true,true,true,true,true,true,true,false,true,true,true,true,false,true,true,true,true,false,false,false,false,false] rfl rfl (take_ofW HT_.out HW_.out (by kernel_rfl)) (fun _ _ _ h => h) (Or.inl ⟨by rfl,?_⟩) hHeld ?_ ?_
      rotate_left
      ·rintro w' ⟨s0,s1,s2,s3,s4,s5,s6,s7,s8,s9,s10,s11,s12,s13,s14,s15,s16,s17,s18,s19,s20,s21,s22,s23,s24⟩
       go_simp
       with_reducible rfl
      rotate_left
      ·simp only [Act.put,List.setIfInBounds_toArray,List.set_cons_zero,List.set_cons_succ,i64_w,i32_w]
       rfl
      refine take_ (i:=15) (N:=some 26) (v := ?_) (a' := ?_) #[true,true,true,true,true,true,true,true,true,true,true,true,true,true,true,true,true,true,true,true,false,true,true,true,true,false,false,false,false,false] rfl rfl (take_ofW HT_.out HW_.out (by kernel_rfl)) (fun _ _ _ h => h) (Or.inl ⟨by rfl,?_⟩) hHeld ?_ ?_
      rotate_left
      ·rintro w' ⟨s0,s1,s2,s3,s4,s5,s6,s7,s8,s9,s10,s11,s12,s13,s14,s15,s16,s17,s18,s19,s20,s21,s22,s23,s24⟩
       go_simp
       with_reducible rfl
      rotate_left
      ·simp only [Act.put,List.setIfInBounds_toArray,List.set_cons_zero,List.set_cons_succ,i64_w,i32_w]
       rfl
      refine take_ (i:=20) (N:=some 31) (v := ?_) (a' := ?_) #[true,true,true,true,true,true,true,true,true,true,true,true,true,true,true,true,true,true,true,true,true,true,true,true,true,false,false,false,false,false] rfl rfl (take_ofW HT_.out HW_.out (by kernel_rfl)) (fun _ _ _ h => h) (Or.inl ⟨by rfl,?_⟩) hHeld ?_ ?_
      rotate_left
      ·rintro w' ⟨s0,s1,s2,s3,s4,s5,s6,s7,s8,s9,s10,s11,s12,s13,s14,s15,s16,s17,s18,s19,s20,s21,s22,s23,s24⟩
       go_simp
       with_reducible rfl
      rotate_left
      ·simp only [Act.put,List.setIfInBounds_toArray,List.set_cons_zero,List.set_cons_succ,i64_w,i32_w]
       rfl
      refine take_ (i:=25) (N:=some 36) (v := ?_) (a' := ?_) #[true,true,true,true,true,true,true,true,true,true,true,true,true,true,true,true,true,true,true,true,true,true,true,true,true,true,false,false,false,false] rfl rfl (take_ofW HT_.out HW_.out (by kernel_rfl)) (fun _ _ _ h => h) (Or.inl ⟨by rfl,?_⟩) hHeld ?_ ?_
      rotate_left
      ·rintro w' ⟨s0,s1,s2,s3,s4,s5,s6,s7,s8,s9,s10,s11,s12,s13,s14,s15,s16,s17,s18,s19,s20,s21,s22,s23,s24⟩
       go_simp
       with_reducible rfl
      rotate_left
      ·simp only [Act.put,List.setIfInBounds_toArray,List.set_cons_zero,List.set_cons_succ,i64_w,i32_w]
       rfl
      refine pure_ (i:=26) (N:=some 37) (v := ?_) (a' := ?_) #[true,true,true,true,true,true,true,true,true,true,true,true,true,true,true,true,true,true,true,true,true,true,true,true,true,true,true,false,false,false] rfl rfl (any_of HT_.out (by kernel_rfl)) (fun _ _ _ h => h) (Or.inl ⟨by rfl,?_⟩) ?_ ?_
      rotate_left
      ·intro w'
       go_simp
       with_reducible rfl
      rotate_left
      ·simp only [Act.put,List.setIfInBounds_toArray,List.set_cons_zero,List.set_cons_succ,i64_w,i32_w]
       rfl
      refine one_ (i:=27) (N:=some 38) #[true,true,true,true,true,true,true,true,true,true,true,true,true,true,true,true,true,true,true,true,true,true,true,true,true,true,true,true,false,false] rfl rfl (one_of HT_.out (by kernel_rfl)) (by decide) (fun K hK => ?_)
      refine value_ (w1 := ?_) (v := ?_) (by rfl) rfl ?_ ?_
      rotate_left 2
      ·go_simp
       constructor
       ·rfl
       ·rfl
      refine hK.out _ _ ⟨(World.cell?_alloc_lt _ _ _ (World.block_lt_of_cell? _ _ (((HB.out.cell (World.block_lt_of_cell? w _ hw459_0)).trans hw459_0)))).trans (((HB.out.cell (World.block_lt_of_cell? w _ hw459_0)).trans hw459_0)),(World.cell?_alloc_lt _ _ _ (World.block_lt_of_cell? _ _ (((HB.out.cell (World.block_lt_of_cell? w _ hw459_1)).trans hw459_1)))).trans (((HB.out.cell (World.block_lt_of_cell? w _ hw459_1)).trans hw459_1)),(World.cell?_alloc_lt _ _ _ (World.block_lt_of_cell? _ _ (((HB.out.cell (World.block_lt_of_cell? w _ hw459_2)).trans hw459_2)))).trans (((HB.out.cell (World.block_lt_of_cell? w _ hw459_2)).trans hw459_2)),(World.cell?_alloc_lt _ _ _ (World.block_lt_of_cell? _ _ (((HB.out.cell (World.block_lt_of_cell? w _ hw459_3)).trans hw459_3)))).trans (((HB.out.cell (World.block_lt_of_cell? w _ hw459_3)).trans hw459_3)),(World.cell?_alloc_lt _ _ _ (World.block_lt_of_cell? _ _ (((HB.out.cell (World.block_lt_of_cell? w _ hw459_4)).trans hw459_4)))).trans (((HB.out.cell (World.block_lt_of_cell? w _ hw459_4)).trans hw459_4)),(World.cell?_alloc_lt _ _ _ (World.block_lt_of_cell? _ _ (((HB.out.cell (World.block_lt_of_cell? w _ hw460_0)).trans hw460_0)))).trans (((HB.out.cell (World.block_lt_of_cell? w _ hw460_0)).trans hw460_0)),(World.cell?_alloc_lt _ _ _ (World.block_lt_of_cell? _ _ (((HB.out.cell (World.block_lt_of_cell? w _ hw460_1)).trans hw460_1)))).trans (((HB.out.cell (World.block_lt_of_cell? w _ hw460_1)).trans hw460_1)),(World.cell?_alloc_lt _ _ _ (World.block_lt_of_cell? _ _ (((HB.out.cell (World.block_lt_of_cell? w _ hw460_2)).trans hw460_2)))).trans (((HB.out.cell (World.block_lt_of_cell? w _ hw460_2)).trans hw460_2)),(World.cell?_alloc_lt _ _ _ (World.block_lt_of_cell? _ _ (((HB.out.cell (World.block_lt_of_cell? w _ hw460_3)).trans hw460_3)))).trans (((HB.out.cell (World.block_lt_of_cell? w _ hw460_3)).trans hw460_3)),(World.cell?_alloc_lt _ _ _ (World.block_lt_of_cell? _ _ (((HB.out.cell (World.block_lt_of_cell? w _ hw460_4)).trans hw460_4)))).trans (((HB.out.cell (World.block_lt_of_cell? w _ hw460_4)).trans hw460_4)),(World.cell?_alloc_lt _ _ _ (World.block_lt_of_cell? _ _ (((HB.out.cell (World.block_lt_of_cell? w _ hw461_0)).trans hw461_0)))).trans (((HB.out.cell (World.block_lt_of_cell? w _ hw461_0)).trans hw461_0)),(World.cell?_alloc_lt _ _ _ (World.block_lt_of_cell? _ _ (((HB.out.cell (World.block_lt_of_cell? w _ hw461_1)).trans hw461_1)))).trans (((HB.out.cell (World.block_lt_of_cell? w _ hw461_1)).trans hw461_1)),(World.cell?_alloc_lt _ _ _ (World.block_lt_of_cell? _ _ (((HB.out.cell (World.block_lt_of_cell? w _ hw461_2)).trans hw461_2)))).trans (((HB.out.cell (World.block_lt_of_cell? w _ hw461_2)).trans hw461_2)),(World.cell?_alloc_lt _ _ _ (World.block_lt_of_cell? _ _ (((HB.out.cell (World.block_lt_of_cell? w _ hw461_3)).trans hw461_3)))).trans (((HB.out.cell (World.block_lt_of_cell? w _ hw461_3)).trans hw461_3)),(World.cell?_alloc_lt _ _ _ (World.block_lt_of_cell? _ _ (((HB.out.cell (World.block_lt_of_cell? w _ hw461_4)).trans hw461_4)))).trans (((HB.out.cell (World.block_lt_of_cell? w _ hw461_4)).trans hw461_4)),(World.cell?_alloc_lt _ _ _ (World.block_lt_of_cell? _ _ (((HB.out.cell (World.block_lt_of_cell? w _ hw462_0)).trans hw462_0)))).trans (((HB.out.cell (World.block_lt_of_cell? w _ hw462_0)).trans hw462_0)),(World.cell?_alloc_lt _ _ _ (World.block_lt_of_cell? _ _ (((HB.out.cell (World.block_lt_of_cell? w _ hw462_1)).trans hw462_1)))).trans (((HB.out.cell (World.block_lt_of_cell? w _ hw462_1)).trans hw462_1)),(World.cell?_alloc_lt _ _ _ (World.block_lt_of_cell? _ _ (((HB.out.cell (World.block_lt_of_cell? w _ hw462_2)).trans hw462_2)))).trans (((HB.out.cell (World.block_lt_of_cell? w _ hw462_2)).trans hw462_2)),(World.cell?_alloc_lt _ _ _ (World.block_lt_of_cell? _ _ (((HB.out.cell (World.block_lt_of_cell? w _ hw462_3)).trans hw462_3)))).trans (((HB.out.cell (World.block_lt_of_cell? w _ hw462_3)).trans hw462_3)),(World.cell?_alloc_lt _ _ _ (World.block_lt_of_cell? _ _ (((HB.out.cell (World.block_lt_of_cell? w _ hw462_4)).trans hw462_4)))).trans (((HB.out.cell (World.block_lt_of_cell? w _ hw462_4)).trans hw462_4)),(World.cell?_alloc_lt _ _ _ (World.block_lt_of_cell? _ _ (((HB.out.cell (World.block_lt_of_cell? w _ hw463_0)).trans hw463_0)))).trans (((HB.out.cell (World.block_lt_of_cell? w _ hw463_0)).trans hw463_0)),(World.cell?_alloc_lt _ _ _ (World.block_lt_of_cell? _ _ (((HB.out.cell (World.block_lt_of_cell? w _ hw463_1)).trans hw463_1)))).trans (((HB.out.cell (World.block_lt_of_cell? w _ hw463_1)).trans hw463_1)),(World.cell?_alloc_lt _ _ _ (World.block_lt_of_cell? _ _ (((HB.out.cell (World.block_lt_of_cell? w _ hw463_2)).trans hw463_2)))).trans (((HB.out.cell (World.block_lt_of_cell? w _ hw463_2)).trans hw463_2)),(World.cell?_alloc_lt _ _ _ (World.block_lt_of_cell? _ _ (((HB.out.cell (World.block_lt_of_cell? w _ hw463_3)).trans hw463_3)))).trans (((HB.out.cell (World.block_lt_of_cell? w _ hw463_3)).trans hw463_3)),(World.cell?_alloc_lt _ _ _ (World.block_lt_of_cell? _ _ (((HB.out.cell (World.block_lt_of_cell? w _ hw463_4)).trans hw463_4)))).trans (((HB.out.cell (World.block_lt_of_cell? w _ hw463_4)).trans hw463_4))⟩ (fun hHeld => ?_)
      clear hK K
      refine norm_ (a' := ?_) ?_ ?_
      rotate_left
      ·show Act.put _ (some 38) _ = _
       simp only [Act.put,List.setIfInBounds_toArray,List.set_cons_zero,List.set_cons_succ,i64_w,i32_w]
       rfl
      refine one_ (i:=28) (N:=some 39) #[true,true,true,true,true,true,true,true,true,true,true,true,true,true,true,true,true,true,true,true,true,true,true,true,true,true,true,true,true,false] rfl rfl (one_of HT_.out (by kernel_rfl)) (by decide) (fun K hK => ?_)
      refine Kd.R_append_step k65 (w0:=w) w.heap.size (by rfl) (.tmp 11) (.tmp 38) 41 65 (.agg #[(.string ⟨#[]⟩),(.int .i64 0),(.int .i64 0),(.int .u64 0),(.bool false)]) 48 rfl Tryz.underlying41 info65 rfl (by decide) (by omega) u3 x3_1 (⟨(rd_T52 l0 x4_1).f0,(rd_T52 l0 x4_1).f1,(rd_T52 l0 x4_1).f2,(rd_T52 l0 x4_1).f3,(rd_T52 l0 x4_1).f4⟩ : S65) [.string ((rd_T52 l0 x4_1).f0),.int .i64 ((rd_T52 l0 x4_1).f1),.int .i64 ((rd_T52 l0 x4_1).f2),.int .u64 ((rd_T52 l0 x4_1).f3),.bool ((rd_T52 l0 x4_1).f4)] (fun _ => True) (fun _ => False) rfl rfl ?aP (fun _ hk => hk.elim) ?aF ?aO ?aB ?aS ?aL ?_
      (case aP => exact k65_mkM _ _ _ (⟨(rd_T52 l0 x4_1).f0,(rd_T52 l0 x4_1).f1,(rd_T52 l0 x4_1).f2,(rd_T52 l0 x4_1).f3,(rd_T52 l0 x4_1).f4⟩ : S65))
      (case aB => exact (by repeat (first | (with_reducible first | exact HB.out | apply below_alloc | apply pw_below_drewN | apply below_drew1) | exact HB.out)))
      (case aF => exact (fun _ _ => trivial))
      (case aO => exact (by (with_reducible repeat (first | apply Kd.R_alloc | apply Kd.R_drewN | apply Kd.R_drew));exact HO_3.out))
      (case aS => exact (below_size (by repeat (first | (with_reducible first | exact HB.out | apply below_alloc | apply pw_below_drewN | apply below_drew1) | exact HB.out))))
      (case aL => have:=LMc4.out;omega)
      intro v465 w6 ho hb hg hat
      rw [← Ny464.out] at ho
      have n0_:=Aside0.mk (hb)
      have n1_:=Aside0.mk (ho)
      clear HB
      clear HO_3
      have HB:=n0_
      have HO466:=n1_
      clear n0_ n1_
      clear ho hb hg hat
      refine hK.out _ _ ⟨((HB.out.cell (World.block_lt_of_cell? w _ hw459_0)).trans hw459_0),((HB.out.cell (World.block_lt_of_cell? w _ hw459_1)).trans hw459_1),((HB.out.cell (World.block_lt_of_cell? w _ hw459_2)).trans hw459_2),((HB.out.cell (World.block_lt_of_cell? w _ hw459_3)).trans hw459_3),((HB.out.cell (World.block_lt_of_cell? w _ hw459_4)).trans hw459_4),((HB.out.cell (World.block_lt_of_cell? w _ hw460_0)).trans hw460_0),((HB.out.cell (World.block_lt_of_cell? w _ hw460_1)).trans hw460_1),((HB.out.cell (World.block_lt_of_cell? w _ hw460_2)).trans hw460_2),((HB.out.cell (World.block_lt_of_cell? w _ hw460_3)).trans hw460_3),((HB.out.cell (World.block_lt_of_cell? w _ hw460_4)).trans hw460_4),((HB.out.cell (World.block_lt_of_cell? w _ hw461_0)).trans hw461_0),((HB.out.cell (World.block_lt_of_cell? w _ hw461_1)).trans hw461_1),((HB.out.cell (World.block_lt_of_cell? w _ hw461_2)).trans hw461_2),((HB.out.cell (World.block_lt_of_cell? w _ hw461_3)).trans hw461_3),((HB.out.cell (World.block_lt_of_cell? w _ hw461_4)).trans hw461_4),((HB.out.cell (World.block_lt_of_cell? w _ hw462_0)).trans hw462_0),((HB.out.cell (World.block_lt_of_cell? w _ hw462_1)).trans hw462_1),((HB.out.cell (World.block_lt_of_cell? w _ hw462_2)).trans hw462_2),((HB.out.cell (World.block_lt_of_cell? w _ hw462_3)).trans hw462_3),((HB.out.cell (World.block_lt_of_cell? w _ hw462_4)).trans hw462_4),((HB.out.cell (World.block_lt_of_cell? w _ hw463_0)).trans hw463_0),((HB.out.cell (World.block_lt_of_cell? w _ hw463_1)).trans hw463_1),((HB.out.cell (World.block_lt_of_cell? w _ hw463_2)).trans hw463_2),((HB.out.cell (World.block_lt_of_cell? w _ hw463_3)).trans hw463_3),((HB.out.cell (World.block_lt_of_cell? w _ hw463_4)).trans hw463_4)⟩ (fun hHeld => ?_)
      clear hK K
      refine norm_ (a' := ?_) ?_ ?_
      rotate_left
      ·show Act.put _ (some 39) _ = _
       simp only [Act.put,List.setIfInBounds_toArray,List.set_cons_zero,List.set_cons_succ,i64_w,i32_w]
       rfl
      refine pure_ (i:=29) (N:=some 3) (v := ?_) (a' := ?_) #[true,true,true,true,true,true,true,true,true,true,true,true,true,true,true,true,true,true,true,true,true,true,true,true,true,true,true,true,true,true] rfl rfl (any_of HT_.out (by kernel_rfl)) (fun _ _ _ h => h) (Or.inl ⟨by rfl,?_⟩) ?_ ?_
      rotate_left
      ·intro w'
       go_simp
       with_reducible rfl
      rotate_left
      ·simp only [Act.put,List.setIfInBounds_toArray,List.set_cons_zero,List.set_cons_succ,i64_w,i32_w]
       rfl
      refine done_ (done_of HT_.out (by kernel_rfl)) ?_
      try go_wp2
      go_roundg k1
      case measure => have:=HK1.out;omega
      case rel => exact ⟨(y464),(wrap64 (x4_1 + 1)),(by first | rfl | (simp;done) | (simp [*];done)),H',⟨by have:=HK1.out;omega⟩,⟨by (with_reducible repeat (first | apply Kd.R_alloc | apply Kd.R_drewN | apply Kd.R_drew));exact HO466.out⟩,⟨by repeat (first | (with_reducible first | exact HB.out | apply below_alloc | apply pw_below_drewN | apply below_drew1) | exact HB.out)⟩⟩
     ·rw [if_neg c4] at H
      exact absurd H (by simp)
    ·rw [if_neg c3] at H
     exact absurd H (by simp)
   ·rw [if_neg c2] at H
    have c2b0 : decide (x4_1 < (l0.length : Int)) = false:=decide_eq_false c2
    clear c2
    obtain rfl:=Option.some.inj H
    go_wp2
    go_ret
    exact ⟨_,by first | rfl | (simp [errW_none,errW_some] <;> rfl) | (simp [*,errW_none,errW_some] <;> rfl) | (simp [errW_none,errW_some];exact isEmpty_bne _),by (with_reducible repeat (first | apply Kd.R_alloc | apply Kd.R_drewN | apply Kd.R_drew));exact HO_3.out,by repeat (first | (with_reducible first | exact HB.out | apply below_alloc | apply pw_below_drewN | apply below_drew1) | exact HB.out)⟩

-- NOT PRINTED: function 4 (thwartlaw08_SegmentHints)

-- NOT PRINTED: function 24 (disk_Disk_Crash)

-- NOT PRINTED: function 5 (thwartlaw08_SegmentTorn)

end Go.Proofs.YthndpknocofioaaGreatDoor.Print
