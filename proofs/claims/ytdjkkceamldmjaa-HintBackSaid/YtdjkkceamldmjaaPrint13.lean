/- Written by a program of mine (give.py, over the kit's print) out of the translation: contracts of the Go functions. Lean checks it. -/
import Derived.Test.YtdjkkceamldmjaaPrint0
import Derived.Test.YtdjkkceamldmjaaPrint3
import Derived.Test.YtdjkkceamldmjaaPrint5
import Derived.Test.YtdjkkceamldmjaaPrint6
import Derived.Test.YtdjkkceamldmjaaPrint9
import Derived.Test.YtdjkkceamldmjaaPrint11
import Derived.Test.YtdjkkceamldmjaaPrint12
namespace Go.Proofs.Ytdjkkceamldmjaa.Print
open Go.RowKit Go.Proofs.YtdjkkceamldmjaaW.PrintWords Go.Proofs.YtdjkkceamldmjaaW.PrintLast Go.Proofs.YtdjkkceamldmjaaW.PrintMore
attribute [local go_sem] max2_int min2_int max_two min_two max_three min_three max_four min_four   -- for this text's walks alone
set_option linter.unusedVariables false
set_option linter.unusedSimpArgs false

attribute [local go_sem high] eqA49
/-! ### thwartref05_Same: function 14 -/
def thwartref05_Same.l0 : Nat → List (S49) → List (S49) → Int → Option (Bool)
 | 0,_,_,_ => none
 | k + 1,x0,x1,x5 => if x5 < (x0.length : Int) then (if 0 ≤ x5 then (if x5 < (x1.length : Int) then (if (!((((rd_T49 x0 x5).f0).toList) == (((rd_T49 x1 x5).f0).toList)) || (!(((rd_T49 x0 x5).f1) == ((rd_T49 x1 x5).f1)) || (!(((rd_T49 x0 x5).f2) == ((rd_T49 x1 x5).f2)) || (!(((rd_T49 x0 x5).f3) == ((rd_T49 x1 x5).f3)) || (!(((rd_T49 x0 x5).f4) == ((rd_T49 x1 x5).f4))))))) = true then (some false) else (thwartref05_Same.l0 k x0 x1 (wrap64 (x5 + 1)))) else (none)) else (none)) else (some true)
def thwartref05_Same.f (k : Nat) (l0 : List (S49)) (l1 : List (S49)) : Option (Bool):=if (l0.length : Int) = (l1.length : Int) then (thwartref05_Same.l0 k l0 l1 0) else (some false)
theorem thwartref05_Same.mono_l : ∀ k,(∀ y0 y1 y2,LeO (thwartref05_Same.l0 k y0 y1 y2) (thwartref05_Same.l0 (k + 1) y0 y1 y2))
 | 0 => fun _ _ _ r h => by simp [thwartref05_Same.l0] at h
 | k + 1 => by
  have ih0:=thwartref05_Same.mono_l k
  ·intro y0 y1 y2
   unfold thwartref05_Same.l0
   repeat' first
   | (with_reducible exact ih0 _ _ _)
   | (with_reducible exact LeO.refl _)
   | (with_reducible exact LeO.none _)
   | (with_reducible refine LeO.ite ?_ ?_)
   | (with_reducible refine LeO.bind ?_ (fun _ => ?_))
   | exact ih0 _ _ _
   | exact LeO.none _
   | refine LeO.ite ?_ ?_
   | refine LeO.bind ?_ (fun _ => ?_)
theorem thwartref05_Same.mono : ∀ a0 a1 k,LeO (thwartref05_Same.f k a0 a1) (thwartref05_Same.f (k + 1) a0 a1):=by
 intro a0 a1 k
 have ih0:=thwartref05_Same.mono_l k
 unfold thwartref05_Same.f
 repeat' first
   | (with_reducible exact ih0 _ _ _)
   | (with_reducible exact LeO.refl _)
   | (with_reducible exact LeO.none _)
   | (with_reducible refine LeO.ite ?_ ?_)
   | (with_reducible refine LeO.bind ?_ (fun _ => ?_))
   | exact ih0 _ _ _
   | exact LeO.none _
   | refine LeO.ite ?_ ?_
   | refine LeO.bind ?_ (fun _ => ?_)
set_option maxHeartbeats 8000000 in
set_option maxRecDepth 100000 in
theorem thwartref05_Same.calls (k : Nat) (A0 : Option Addr) (c0 : Nat) (l0 : List (S49)) (A1 : Option Addr) (c1 : Nat) (l1 : List (S49)) (r : Bool) (w : World) (hr0 : Kd.C k49 w A0 l0.length l0) (hc0 : l0.length ≤ c0) (hr1 : Kd.C k49 w A1 l1.length l1) (hc1 : l1.length ≤ c1) (h : thwartref05_Same.f k l0 l1 = some r) :
  Calls Try.prog 14 #[.slice A0 l0.length c0,.slice A1 l1.length c1] w fun e w' => e = .returned (.bool r) ∧ Drawn0 w w' := by
 have hu49:=Try.underlying49
 have HR0:=Aside0.mk hr0
 have HC0:=Aside0.mk hc0
 clear hr0 hc0
 have HR1:=Aside0.mk hr1
 have HC1:=Aside0.mk hc1
 clear hr1 hc1
 have H : (if (l0.length : Int) = (l1.length : Int) then (thwartref05_Same.l0 k l0 l1 0) else (some false)) = some r:=h
 clear h
 by_cases c3 : (l0.length : Int) = (l1.length : Int)
 ·rw [if_pos c3] at H
  have c3b0 : ((l0.length : Int) == (l1.length : Int)) = true:=beq_iff_eq.mpr c3
  have c3b1 : ((l0.length : Int) != (l1.length : Int)) = false:=bne_eq_false_iff_eq.mpr c3
  have c3b2 : (l0.length == l1.length) = true:=by first | simpa using c3 | (simp at c3 ⊢;omega)
  clear c3
  have H' := Aside0.mk H
  clear H
  go_enter Try.func14,Try.ntmps14
  go_wp2
  repeat (go_quiet (fail);try go_wp2)
  go_loopg [5] k (fun kq v5 w' => ∃ (x5_1 : Int),v5 = .int .i64 x5_1 ∧ Aside0 (thwartref05_Same.l0 kq l0 l1 x5_1 = some r) ∧ Aside0 (kq ≤ k) ∧ Drawn0 w w')
  case atStart => exact ⟨(0),(by first | rfl | (simp;done) | (simp [*];done)),H',⟨Nat.le_refl _⟩,by repeat (first | exact Drawn0.refl _ | apply Drawn0.step)⟩
  case round =>
   clear H'
   try clear c1
   try clear p2
   try clear c3
   try clear c3b0
   try clear c3b1
   try clear c3b2
   obtain ⟨x5_1,rfl,HA,HK1,⟨m1,rfl⟩⟩:=hrel
   cases gk with
   | zero => exact absurd HA.out (by simp [thwartref05_Same.l0])
   | succ k1 =>
    have H:=HA.out
    clear HA
    simp only [thwartref05_Same.l0] at H
    by_cases c4 : x5_1 < (l0.length : Int)
    ·rw [if_pos c4] at H
     have c4b0 : decide (x5_1 < (l0.length : Int)) = true:=decide_eq_true c4
     clear c4
     by_cases c5 : 0 ≤ x5_1
     ·rw [if_pos c5] at H
      have c5b0 : decide (0 ≤ x5_1) = true:=decide_eq_true c5
      clear c5
      by_cases c6 : x5_1 < (l1.length : Int)
      ·rw [if_pos c6] at H
       have c6b0 : decide (x5_1 < (l1.length : Int)) = true:=decide_eq_true c6
       clear c6
       by_cases c7 : (!((((rd_T49 l0 x5_1).f0).toList) == (((rd_T49 l1 x5_1).f0).toList)) || (!(((rd_T49 l0 x5_1).f1) == ((rd_T49 l1 x5_1).f1)) || (!(((rd_T49 l0 x5_1).f2) == ((rd_T49 l1 x5_1).f2)) || (!(((rd_T49 l0 x5_1).f3) == ((rd_T49 l1 x5_1).f3)) || (!(((rd_T49 l0 x5_1).f4) == ((rd_T49 l1 x5_1).f4))))))) = true
       ·rw [if_pos c7] at H
        have c7b0 : (!((((rd_T49 l0 x5_1).f0).toList) == (((rd_T49 l1 x5_1).f0).toList)) || (!(((rd_T49 l0 x5_1).f1) == ((rd_T49 l1 x5_1).f1)) || (!(((rd_T49 l0 x5_1).f2) == ((rd_T49 l1 x5_1).f2)) || (!(((rd_T49 l0 x5_1).f3) == ((rd_T49 l1 x5_1).f3)) || (!(((rd_T49 l0 x5_1).f4) == ((rd_T49 l1 x5_1).f4))))))) = true:=c7
        clear c7
        obtain rfl:=Option.some.inj H
        have p268 : 0 ≤ (x5_1 : Int):=of_decide_eq_true (by first | (with_reducible assumption) | assumption)
        have q268 : x5_1 < (l0.length : Int):=of_decide_eq_true (by first | (with_reducible assumption) | assumption)
        obtain ⟨ad268,e268,hx268_0,hx268_1,hx268_2,hx268_3,hx268_4⟩:=at_T49 HR0.out x5_1 p268 q268
        cases e268
        replace p268:=eq_true p268
        replace q268:=eq_true q268
        have p269 : 0 ≤ (x5_1 : Int):=of_decide_eq_true (by first | (with_reducible assumption) | assumption)
        have q269 : x5_1 < (l1.length : Int):=of_decide_eq_true (by first | (with_reducible assumption) | assumption)
        obtain ⟨ad269,e269,hx269_0,hx269_1,hx269_2,hx269_3,hx269_4⟩:=at_T49 HR1.out x5_1 p269 q269
        cases e269
        replace p269:=eq_true p269
        replace q269:=eq_true q269
        go_wp2
        repeat (go_quiet (fail);try go_wp2)
        go_ret
        exact ⟨by first | rfl | (simp;done) | (simp [*];done),by repeat (first | exact Drawn0.refl _ | apply Drawn0.step)⟩
       ·rw [if_neg c7] at H
        have c7b0 : (!((((rd_T49 l0 x5_1).f0).toList) == (((rd_T49 l1 x5_1).f0).toList)) || (!(((rd_T49 l0 x5_1).f1) == ((rd_T49 l1 x5_1).f1)) || (!(((rd_T49 l0 x5_1).f2) == ((rd_T49 l1 x5_1).f2)) || (!(((rd_T49 l0 x5_1).f3) == ((rd_T49 l1 x5_1).f3)) || (!(((rd_T49 l0 x5_1).f4) == ((rd_T49 l1 x5_1).f4))))))) = false:=by simpa using c7
        clear c7
        have H' := Aside0.mk H
        clear H
        have p268 : 0 ≤ (x5_1 : Int):=of_decide_eq_true (by first | (with_reducible assumption) | assumption)
        have q268 : x5_1 < (l0.length : Int):=of_decide_eq_true (by first | (with_reducible assumption) | assumption)
        obtain ⟨ad268,e268,hx268_0,hx268_1,hx268_2,hx268_3,hx268_4⟩:=at_T49 HR0.out x5_1 p268 q268
        cases e268
        replace p268:=eq_true p268
        replace q268:=eq_true q268
        have p269 : 0 ≤ (x5_1 : Int):=of_decide_eq_true (by first | (with_reducible assumption) | assumption)
        have q269 : x5_1 < (l1.length : Int):=of_decide_eq_true (by first | (with_reducible assumption) | assumption)
        obtain ⟨ad269,e269,hx269_0,hx269_1,hx269_2,hx269_3,hx269_4⟩:=at_T49 HR1.out x5_1 p269 q269
        cases e269
        replace p269:=eq_true p269
        replace q269:=eq_true q269
        go_wp2
        repeat (go_quiet (fail);try go_wp2)
        go_roundg k1
        case measure => have:=HK1.out;omega
        case rel => exact ⟨(wrap64 (x5_1 + 1)),(by first | rfl | (simp;done) | (simp [*];done)),H',⟨by have:=HK1.out;omega⟩,by repeat (first | exact Drawn0.refl _ | apply Drawn0.step)⟩
      ·rw [if_neg c6] at H
       exact absurd H (by simp)
     ·rw [if_neg c5] at H
      exact absurd H (by simp)
    ·rw [if_neg c4] at H
     have c4b0 : decide (x5_1 < (l0.length : Int)) = false:=decide_eq_false c4
     clear c4
     obtain rfl:=Option.some.inj H
     go_wp2
     repeat (go_quiet (fail);try go_wp2)
     go_ret
     exact ⟨by first | rfl | (simp;done) | (simp [*];done),by repeat (first | exact Drawn0.refl _ | apply Drawn0.step)⟩
 ·rw [if_neg c3] at H
  have c3b0 : ((l0.length : Int) == (l1.length : Int)) = false:=beq_eq_false_iff_ne.mpr c3
  have c3b1 : ((l0.length : Int) != (l1.length : Int)) = true:=bne_iff_ne.mpr c3
  have c3b2 : (l0.length == l1.length) = false:=by first | simpa using c3 | (simp at c3 ⊢;omega)
  obtain rfl:=Option.some.inj H
  go_enter Try.func14,Try.ntmps14
  go_wp2
  repeat (go_quiet (fail);try go_wp2)
  go_ret
  exact ⟨by first | rfl | (simp;done) | (simp [*];done),by repeat (first | exact Drawn0.refl _ | apply Drawn0.step)⟩

/-! ### thwartlaw05_HintReads: function 3 -/
def thwartlaw05_HintReads.j0 : Nat → List (S39) → ByteArray → Bool → Bool → Option (Bool)
 | 0,_,_,_,_ => none
 | k + 1,x0,x1,x5,x25 => if x25 = true then (some x5) else ((hint_Bytes.f k x0).bind fun bt272 => ((thwartlaw05_to.f k x0).bind fun t274 => ((thwartref05_Bytes.f k t274).bind fun bt277 => ((hint_Read.f k x1).bind fun bt279 => ((thwartref05_Read.f k x1).bind fun bt283 => ((thwartlaw05_to.f k bt279.1).bind fun t287 => ((thwartref05_Same.f k t287 bt283.1).bind fun t290 => (if x5 = true then (if bt272.1.toList = bt277.1.toList then (if bt272.2 = bt277.2 then (if t290 = true then (some (bt279.2 == bt283.2)) else (none)) else (none)) else (none)) else (none)))))))))
def thwartlaw05_HintReads.f (k : Nat) (l0 : List (S39)) (a1 : ByteArray) : Option (Bool):=(thwartlaw05_awake.f k).bind fun t270 => ((thwartlaw05_light.f k l0).bind fun t271 => (if t271 = true then (thwartlaw05_HintReads.j0 k l0 a1 t270 (decide ((a1.size : Int) > 4000))) else (thwartlaw05_HintReads.j0 k l0 a1 t270 true)))
theorem thwartlaw05_HintReads.mono_l : ∀ k,(∀ y0 y1 y2 y3,LeO (thwartlaw05_HintReads.j0 k y0 y1 y2 y3) (thwartlaw05_HintReads.j0 (k + 1) y0 y1 y2 y3))
 | 0 => fun _ _ _ _ r h => by simp [thwartlaw05_HintReads.j0] at h
 | k + 1 => by
  have ih0:=thwartlaw05_HintReads.mono_l k
  ·intro y0 y1 y2 y3
   unfold thwartlaw05_HintReads.j0
   repeat' first
   | (with_reducible exact ih0 _ _ _ _)
   | (with_reducible exact hint_Bytes.mono _ _)
   | (with_reducible exact hint_Read.mono _ _)
   | (with_reducible exact thwartlaw05_awake.mono _)
   | (with_reducible exact thwartlaw05_light.mono _ _)
   | (with_reducible exact thwartlaw05_to.mono _ _)
   | (with_reducible exact thwartref05_Bytes.mono _ _)
   | (with_reducible exact thwartref05_Read.mono _ _)
   | (with_reducible exact thwartref05_Same.mono _ _ _)
   | (with_reducible exact LeO.refl _)
   | (with_reducible exact LeO.none _)
   | (with_reducible refine LeO.ite ?_ ?_)
   | (with_reducible refine LeO.bind ?_ (fun _ => ?_))
   | exact ih0 _ _ _ _
   | exact hint_Bytes.mono _ _
   | exact hint_Read.mono _ _
   | exact thwartlaw05_awake.mono _
   | exact thwartlaw05_light.mono _ _
   | exact thwartlaw05_to.mono _ _
   | exact thwartref05_Bytes.mono _ _
   | exact thwartref05_Read.mono _ _
   | exact thwartref05_Same.mono _ _ _
   | exact LeO.none _
   | refine LeO.ite ?_ ?_
   | refine LeO.bind ?_ (fun _ => ?_)
theorem thwartlaw05_HintReads.mono : ∀ a0 a1 k,LeO (thwartlaw05_HintReads.f k a0 a1) (thwartlaw05_HintReads.f (k + 1) a0 a1):=by
 intro a0 a1 k
 have ih0:=thwartlaw05_HintReads.mono_l k
 unfold thwartlaw05_HintReads.f
 repeat' first
   | (with_reducible exact ih0 _ _ _ _)
   | (with_reducible exact hint_Bytes.mono _ _)
   | (with_reducible exact hint_Read.mono _ _)
   | (with_reducible exact thwartlaw05_awake.mono _)
   | (with_reducible exact thwartlaw05_light.mono _ _)
   | (with_reducible exact thwartlaw05_to.mono _ _)
   | (with_reducible exact thwartref05_Bytes.mono _ _)
   | (with_reducible exact thwartref05_Read.mono _ _)
   | (with_reducible exact thwartref05_Same.mono _ _ _)
   | (with_reducible exact LeO.refl _)
   | (with_reducible exact LeO.none _)
   | (with_reducible refine LeO.ite ?_ ?_)
   | (with_reducible refine LeO.bind ?_ (fun _ => ?_))
   | exact ih0 _ _ _ _
   | exact hint_Bytes.mono _ _
   | exact hint_Read.mono _ _
   | exact thwartlaw05_awake.mono _
   | exact thwartlaw05_light.mono _ _
   | exact thwartlaw05_to.mono _ _
   | exact thwartref05_Bytes.mono _ _
   | exact thwartref05_Read.mono _ _
   | exact thwartref05_Same.mono _ _ _
   | exact LeO.none _
   | refine LeO.ite ?_ ?_
   | refine LeO.bind ?_ (fun _ => ?_)
set_option maxHeartbeats 8000000 in
set_option maxRecDepth 100000 in
theorem thwartlaw05_HintReads.calls (k : Nat) (A0 : Option Addr) (c0 : Nat) (l0 : List (S39)) (a1 : ByteArray) (r : Bool) (w : World) (hr0 : Kd.C k39 w A0 l0.length l0) (hc0 : l0.length ≤ c0) (h : thwartlaw05_HintReads.f k l0 a1 = some r) :
  Calls Try.prog 3 #[.slice A0 l0.length c0,.string a1] w fun e w' => e = .returned (.bool r) ∧ Below w.heap.size w w' := by
 have HR0:=Aside0.mk hr0
 have HC0:=Aside0.mk hc0
 clear hr0 hc0
 have HB:=Aside0.mk (Below.refl w.heap.size w)
 have H : ((thwartlaw05_awake.f k).bind fun t270 => ((thwartlaw05_light.f k l0).bind fun t271 => (if t271 = true then (thwartlaw05_HintReads.j0 k l0 a1 t270 (decide ((a1.size : Int) > 4000))) else (thwartlaw05_HintReads.j0 k l0 a1 t270 true)))) = some r:=h
 clear h
 replace H:=Option.bind_eq_some_iff.mp H
 obtain ⟨t270,A30,H⟩:=H
 replace H : ((thwartlaw05_light.f k l0).bind fun t271 => (if t271 = true then (thwartlaw05_HintReads.j0 k l0 a1 t270 (decide ((a1.size : Int) > 4000))) else (thwartlaw05_HintReads.j0 k l0 a1 t270 true))) = some r:=H
 have A3:=Aside0.mk A30
 clear A30
 replace H:=Option.bind_eq_some_iff.mp H
 obtain ⟨t271,A40,H⟩:=H
 replace H : (if t271 = true then (thwartlaw05_HintReads.j0 k l0 a1 t270 (decide ((a1.size : Int) > 4000))) else (thwartlaw05_HintReads.j0 k l0 a1 t270 true)) = some r:=H
 have A4:=Aside0.mk A40
 clear A40
 have HC5:=Aside0.mk H
 clear H
 go_enter Try.func3,Try.ntmps3
 go_upto_region 3 with (first | ((with_reducible refine gate_callee (f:=7) rfl ?_);refine goesL_ (some 16) rfl rfl Try.func7 (by kernel_rfl) rfl #[] rfl (by (try simp only [List.map_toArray,List.map_cons,List.map_nil]);first | done | rfl | (simp only [List.length_drop,List.length_take];rfl)) ?_;(with_reducible refine (thwartlaw05_awake.calls k  t270 _ A3.out).mono ?_);rintro e w6 ⟨rfl,hb⟩;refine ⟨_,rfl,?_⟩;have n0_:=Aside0.mk (below_step (by repeat (first | (with_reducible first | exact HB.out | apply below_alloc | apply pw_below_drewN | apply below_drew1) | exact HB.out)) hb);clear HB;have HB:=n0_;clear n0_;(try clear hb);(try clear hb2);(try clear hk);(try clear hi)) | ((with_reducible refine gate_callee (f:=8) rfl ?_);refine goesL_ (some 18) rfl rfl Try.func8 (by kernel_rfl) rfl #[.slice A0 l0.length c0] rfl (by (try simp only [List.map_toArray,List.map_cons,List.map_nil]);first | done | rfl | (simp only [List.length_drop,List.length_take];rfl)) ?_;(with_reducible refine (thwartlaw05_light.calls k _ _ l0 t271 _ ?side1 ?side2 A4.out).mono ?_);(case side1 => repeat (first | exact (Kd.C_below HR0.out HB.out) | (with_reducible refine Kd.C_alloc ?_ _) | (with_reducible refine Kd.C_drewN ?_ _) | (with_reducible refine Kd.C_drew ?_)));(case side2 => exact HC0.out);rintro e w' ⟨rfl,⟨nd,rfl⟩⟩;refine ⟨_,rfl,?_⟩))
 (try simp only [Act.put,List.setIfInBounds_toArray,List.set_cons_zero,List.set_cons_succ])
 go_cut [25] (fun v25 wc => ∃ (kq : Nat) (x25_4 : Bool),v25 = .bool x25_4 ∧ Aside0 (thwartlaw05_HintReads.j0 kq l0 a1 t270 x25_4 = some r) ∧ Aside0 (kq ≤ k) ∧ Aside0 (Below w.heap.size w wc))
 case first =>
  have H:=HC5.out
  clear HC5
  by_cases c7 : t271 = true
  ·subst c7
   have H1 : (thwartlaw05_HintReads.j0 k l0 a1 t270 (decide ((a1.size : Int) > 4000))) = some r:=by rw [if_pos rfl] at H;exact H
   clear H
   have H:=H1
   clear H1
   have H' := Aside0.mk H
   clear H
   go_wp2
   go_meet
   case rel => exact ⟨_,(decide ((a1.size : Int) > 4000)),(by first | rfl | (simp;done) | (simp [*];done)),H',⟨by first | omega | exact Nat.le_refl _⟩,⟨by repeat (first | (with_reducible first | exact HB.out | apply below_alloc | apply pw_below_drewN | apply below_drew1) | exact HB.out)⟩⟩
  ·replace c7:=Bool.eq_false_iff.mpr c7
   subst c7
   have H1 : (thwartlaw05_HintReads.j0 k l0 a1 t270 true) = some r:=by rw [if_neg (show ¬ (false = true) by decide)] at H;exact H
   clear H
   have H:=H1
   clear H1
   have H' := Aside0.mk H
   clear H
   go_wp2
   go_meet
   case rel => exact ⟨_,(true),(by first | rfl | (simp;done) | (simp [*];done)),H',⟨by first | omega | exact Nat.le_refl _⟩,⟨by repeat (first | (with_reducible first | exact HB.out | apply below_alloc | apply pw_below_drewN | apply below_drew1) | exact HB.out)⟩⟩
 case rest =>
  clear HC5
  try clear p2
  try clear c3
  try clear c7
  obtain ⟨kq,x25_4,rfl,HA,HJ4,HB⟩:=hcut
  cases kq with
  | zero => exact absurd HA.out (by simp [thwartlaw05_HintReads.j0])
  | succ kj4 =>
   have H:=HA.out
   clear HA
   simp only [thwartlaw05_HintReads.j0] at H
   by_cases c8 : x25_4 = true
   ·subst c8
    have H1 : (some t270) = some r:=by rw [if_pos rfl] at H;exact H
    clear H
    have H:=H1
    clear H1
    obtain rfl:=Option.some.inj H
    go_wp2
    go_ret
    exact ⟨by first | rfl | (simp [errW_none,errW_some] <;> rfl) | (simp [*,errW_none,errW_some] <;> rfl) | (simp [errW_none,errW_some];exact isEmpty_bne _),by repeat (first | (with_reducible first | exact HB.out | apply below_alloc | apply pw_below_drewN | apply below_drew1) | exact HB.out)⟩
   ·replace c8:=Bool.eq_false_iff.mpr c8
    subst c8
    have H1 : ((hint_Bytes.f kj4 l0).bind fun bt272 => ((thwartlaw05_to.f kj4 l0).bind fun t274 => ((thwartref05_Bytes.f kj4 t274).bind fun bt277 => ((hint_Read.f kj4 a1).bind fun bt279 => ((thwartref05_Read.f kj4 a1).bind fun bt283 => ((thwartlaw05_to.f kj4 bt279.1).bind fun t287 => ((thwartref05_Same.f kj4 t287 bt283.1).bind fun t290 => (if t270 = true then (if bt272.1.toList = bt277.1.toList then (if bt272.2 = bt277.2 then (if t290 = true then (some (bt279.2 == bt283.2)) else (none)) else (none)) else (none)) else (none))))))))) = some r:=by rw [if_neg (show ¬ (false = true) by decide)] at H;exact H
    clear H
    have H:=H1
    clear H1
    replace H:=Option.bind_eq_some_iff.mp H
    obtain ⟨⟨t272,t273⟩,A90,H⟩:=H
    replace H : ((thwartlaw05_to.f kj4 l0).bind fun t274 => ((thwartref05_Bytes.f kj4 t274).bind fun bt277 => ((hint_Read.f kj4 a1).bind fun bt279 => ((thwartref05_Read.f kj4 a1).bind fun bt283 => ((thwartlaw05_to.f kj4 bt279.1).bind fun t287 => ((thwartref05_Same.f kj4 t287 bt283.1).bind fun t290 => (if t270 = true then (if t272.toList = bt277.1.toList then (if t273 = bt277.2 then (if t290 = true then (some (bt279.2 == bt283.2)) else (none)) else (none)) else (none)) else (none)))))))) = some r:=H
    have A9:=Aside0.mk A90
    clear A90
    replace H:=Option.bind_eq_some_iff.mp H
    obtain ⟨t274,A100,H⟩:=H
    replace H : ((thwartref05_Bytes.f kj4 t274).bind fun bt277 => ((hint_Read.f kj4 a1).bind fun bt279 => ((thwartref05_Read.f kj4 a1).bind fun bt283 => ((thwartlaw05_to.f kj4 bt279.1).bind fun t287 => ((thwartref05_Same.f kj4 t287 bt283.1).bind fun t290 => (if t270 = true then (if t272.toList = bt277.1.toList then (if t273 = bt277.2 then (if t290 = true then (some (bt279.2 == bt283.2)) else (none)) else (none)) else (none)) else (none))))))) = some r:=H
    have A10:=Aside0.mk A100
    clear A100
    replace H:=Option.bind_eq_some_iff.mp H
    obtain ⟨⟨t277,t278⟩,A110,H⟩:=H
    replace H : ((hint_Read.f kj4 a1).bind fun bt279 => ((thwartref05_Read.f kj4 a1).bind fun bt283 => ((thwartlaw05_to.f kj4 bt279.1).bind fun t287 => ((thwartref05_Same.f kj4 t287 bt283.1).bind fun t290 => (if t270 = true then (if t272.toList = t277.toList then (if t273 = t278 then (if t290 = true then (some (bt279.2 == bt283.2)) else (none)) else (none)) else (none)) else (none)))))) = some r:=H
    have A11:=Aside0.mk A110
    clear A110
    replace H:=Option.bind_eq_some_iff.mp H
    obtain ⟨⟨t279,t280⟩,A120,H⟩:=H
    replace H : ((thwartref05_Read.f kj4 a1).bind fun bt283 => ((thwartlaw05_to.f kj4 t279).bind fun t287 => ((thwartref05_Same.f kj4 t287 bt283.1).bind fun t290 => (if t270 = true then (if t272.toList = t277.toList then (if t273 = t278 then (if t290 = true then (some (t280 == bt283.2)) else (none)) else (none)) else (none)) else (none))))) = some r:=H
    have A12:=Aside0.mk A120
    clear A120
    replace H:=Option.bind_eq_some_iff.mp H
    obtain ⟨⟨t283,t284⟩,A130,H⟩:=H
    replace H : ((thwartlaw05_to.f kj4 t279).bind fun t287 => ((thwartref05_Same.f kj4 t287 t283).bind fun t290 => (if t270 = true then (if t272.toList = t277.toList then (if t273 = t278 then (if t290 = true then (some (t280 == t284)) else (none)) else (none)) else (none)) else (none)))) = some r:=H
    have A13:=Aside0.mk A130
    clear A130
    replace H:=Option.bind_eq_some_iff.mp H
    obtain ⟨t287,A140,H⟩:=H
    replace H : ((thwartref05_Same.f kj4 t287 t283).bind fun t290 => (if t270 = true then (if t272.toList = t277.toList then (if t273 = t278 then (if t290 = true then (some (t280 == t284)) else (none)) else (none)) else (none)) else (none))) = some r:=H
    have A14:=Aside0.mk A140
    clear A140
    replace H:=Option.bind_eq_some_iff.mp H
    obtain ⟨t290,A150,H⟩:=H
    replace H : (if t270 = true then (if t272.toList = t277.toList then (if t273 = t278 then (if t290 = true then (some (t280 == t284)) else (none)) else (none)) else (none)) else (none)) = some r:=H
    have A15:=Aside0.mk A150
    clear A150
    by_cases c16 : t270 = true
    ·subst c16
     have H1 : (if t272.toList = t277.toList then (if t273 = t278 then (if t290 = true then (some (t280 == t284)) else (none)) else (none)) else (none)) = some r:=by rw [if_pos rfl] at H;exact H
     clear H
     have H:=H1
     clear H1
     by_cases c17 : t272.toList = t277.toList
     ·rw [if_pos c17] at H
      have c17b0 : (t272.toList == t277.toList) = true:=beq_iff_eq.mpr c17
      have c17b1 : (t272.toList != t277.toList) = false:=bne_eq_false_iff_eq.mpr c17
      clear c17
      by_cases c18 : t273 = t278
      ·rw [if_pos c18] at H
       have c18b0 : (t273 == t278) = true:=beq_iff_eq.mpr c18
       have c18b1 : (t273 != t278) = false:=bne_eq_false_iff_eq.mpr c18
       clear c18
       by_cases c19 : t290 = true
       ·subst c19
        have H1 : (some (t280 == t284)) = some r:=by rw [if_pos rfl] at H;exact H
        clear H
        have H:=H1
        clear H1
        obtain rfl:=Option.some.inj H
        go_wp2_with (first | ((with_reducible refine gate_callee (f:=9) rfl ?_);refine goesL_ (some 29) rfl rfl Try.func9 (by kernel_rfl) rfl #[.slice A0 l0.length c0] rfl (by (try simp only [List.map_toArray,List.map_cons,List.map_nil]);first | done | rfl | (simp only [List.length_drop,List.length_take];rfl)) ?_;(with_reducible refine (hint_Bytes.calls kj4 _ _ l0 t272 t273 _ ?side1 ?side2 A9.out).mono ?_);(case side1 => repeat (first | exact (Kd.C_below HR0.out HB.out) | (with_reducible refine Kd.C_alloc ?_ _) | (with_reducible refine Kd.C_drewN ?_ _) | (with_reducible refine Kd.C_drew ?_)));(case side2 => exact HC0.out);rintro e w20 ⟨rfl,hb⟩;refine ⟨_,rfl,?_⟩;have n0_:=Aside0.mk (below_step (by repeat (first | (with_reducible first | exact HB.out | apply below_alloc | apply pw_below_drewN | apply below_drew1) | exact HB.out)) hb);clear HB;have HB:=n0_;clear n0_;(try clear hb);(try clear hb2);(try clear hk);(try clear hi)) | ((with_reducible refine gate_callee (f:=11) rfl ?_);refine goesL_ (some 34) rfl rfl Try.func11 (by kernel_rfl) rfl #[.slice A0 l0.length c0] rfl (by (try simp only [List.map_toArray,List.map_cons,List.map_nil]);first | done | rfl | (simp only [List.length_drop,List.length_take];rfl)) ?_;(with_reducible refine (thwartlaw05_to.calls kj4 _ _ l0 t274 _ ?side1 ?side2 A10.out).mono ?_);(case side1 => repeat (first | exact (Kd.C_below HR0.out HB.out) | (with_reducible refine Kd.C_alloc ?_ _) | (with_reducible refine Kd.C_drewN ?_ _) | (with_reducible refine Kd.C_drew ?_)));(case side2 => exact HC0.out);rintro e w21 ⟨v275,rfl,ho0,hb⟩;refine ⟨_,rfl,?_⟩;have n0_:=Aside0.mk (Kd.R_lower ho0 (below_size (by repeat (first | (with_reducible first | exact HB.out | apply below_alloc | apply pw_below_drewN | apply below_drew1) | exact HB.out))));have n1_:=Aside0.mk (below_step (by repeat (first | (with_reducible first | exact HB.out | apply below_alloc | apply pw_below_drewN | apply below_drew1) | exact HB.out)) hb);clear HB;have HO276:=n0_;have HB:=n1_;clear n0_ n1_;(try clear hb);(try clear hb2);(try clear hk);(try clear hi);(try clear ho0);obtain ⟨Ao22,co22,eo22⟩:=Kd.R_slice HO276.out;subst eo22) | ((with_reducible refine gate_callee (f:=10) rfl ?_);refine goesL_ (some 35) rfl rfl Try.func10 (by kernel_rfl) rfl #[.slice Ao22 t274.length co22] rfl (by (try simp only [List.map_toArray,List.map_cons,List.map_nil]);first | done | rfl | (simp only [List.length_drop,List.length_take];rfl)) ?_;(with_reducible refine (thwartref05_Bytes.calls kj4 _ _ t274 t277 t278 _ ?side1 ?side2 A11.out).mono ?_);(case side1 => repeat (first | exact (Kd.R_reads' HO276.out).2.2 | (with_reducible refine Kd.C_alloc ?_ _) | (with_reducible refine Kd.C_drewN ?_ _) | (with_reducible refine Kd.C_drew ?_)));(case side2 => exact (Kd.R_reads' HO276.out).2.1);rintro e w23 ⟨rfl,hb⟩;refine ⟨_,rfl,?_⟩;have n0_:=Aside0.mk (Kd.R_below (by (with_reducible repeat (first | apply Kd.R_alloc | apply Kd.R_drewN | apply Kd.R_drew));exact HO276.out) hb);have n1_:=Aside0.mk (below_step (by repeat (first | (with_reducible first | exact HB.out | apply below_alloc | apply pw_below_drewN | apply below_drew1) | exact HB.out)) hb);clear HO276;clear HB;have HO276:=n0_;have HB:=n1_;clear n0_ n1_;(try clear hb);(try clear hb2);(try clear hk);(try clear hi)) | ((with_reducible refine gate_callee (f:=12) rfl ?_);refine goesL_ (some 40) rfl rfl Try.func12 (by kernel_rfl) rfl #[.string a1] rfl (by (try simp only [List.map_toArray,List.map_cons,List.map_nil]);first | done | rfl | (simp only [List.length_drop,List.length_take];rfl)) ?_;(with_reducible refine (hint_Read.calls kj4 a1 t279 t280 _ A12.out).mono ?_);rintro e w24 ⟨v281,rfl,ho0,hb⟩;refine ⟨_,rfl,?_⟩;have n0_:=Aside0.mk (Kd.R_below (by (with_reducible repeat (first | apply Kd.R_alloc | apply Kd.R_drewN | apply Kd.R_drew));exact HO276.out) hb);have n1_:=Aside0.mk (Kd.R_lower ho0 (below_size (by repeat (first | (with_reducible first | exact HB.out | apply below_alloc | apply pw_below_drewN | apply below_drew1) | exact HB.out))));have n2_:=Aside0.mk (below_step (by repeat (first | (with_reducible first | exact HB.out | apply below_alloc | apply pw_below_drewN | apply below_drew1) | exact HB.out)) hb);clear HO276;clear HB;have HO276:=n0_;have HO282:=n1_;have HB:=n2_;clear n0_ n1_ n2_;(try clear hb);(try clear hb2);(try clear hk);(try clear hi);(try clear ho0)) | ((with_reducible refine gate_callee (f:=13) rfl ?_);refine goesL_ (some 45) rfl rfl Try.func13 (by kernel_rfl) rfl #[.string a1] rfl (by (try simp only [List.map_toArray,List.map_cons,List.map_nil]);first | done | rfl | (simp only [List.length_drop,List.length_take];rfl)) ?_;(with_reducible refine (thwartref05_Read.calls kj4 a1 t283 t284 _ A13.out).mono ?_);rintro e w25 ⟨v285,rfl,ho0,hb⟩;refine ⟨_,rfl,?_⟩;have n0_:=Aside0.mk (Kd.R_elder' (by (with_reducible repeat (first | apply Kd.R_alloc | apply Kd.R_drewN | apply Kd.R_drew));exact HO276.out) (Kd.R_base ho0) hb);have n1_:=Aside0.mk (Kd.R_below (by (with_reducible repeat (first | apply Kd.R_alloc | apply Kd.R_drewN | apply Kd.R_drew));exact HO282.out) hb);have n2_:=Aside0.mk (Kd.R_lower (Kd.R_new' ho0 (Kd.R_lt (by (with_reducible repeat (first | apply Kd.R_alloc | apply Kd.R_drewN | apply Kd.R_drew));exact HO276.out))) (below_size (by repeat (first | (with_reducible first | exact HB.out | apply below_alloc | apply pw_below_drewN | apply below_drew1) | exact HB.out))));have n3_:=Aside0.mk (below_step (by repeat (first | (with_reducible first | exact HB.out | apply below_alloc | apply pw_below_drewN | apply below_drew1) | exact HB.out)) hb);clear HO276;clear HO282;clear HB;have HO276:=n0_;have HO282:=n1_;have HO286:=n2_;have HB:=n3_;clear n0_ n1_ n2_ n3_;(try clear hb);(try clear hb2);(try clear hk);(try clear hi);(try clear ho0);obtain ⟨Ao26,co26,eo26⟩:=Kd.R_slice HO282.out;subst eo26) | ((with_reducible refine gate_callee (f:=11) rfl ?_);refine goesL_ (some 49) rfl rfl Try.func11 (by kernel_rfl) rfl #[.slice Ao26 t279.length co26] rfl (by (try simp only [List.map_toArray,List.map_cons,List.map_nil]);first | done | rfl | (simp only [List.length_drop,List.length_take];rfl)) ?_;(with_reducible refine (thwartlaw05_to.calls kj4 _ _ t279 t287 _ ?side1 ?side2 A14.out).mono ?_);(case side1 => repeat (first | exact (Kd.R_reads' HO282.out).2.2 | (with_reducible refine Kd.C_alloc ?_ _) | (with_reducible refine Kd.C_drewN ?_ _) | (with_reducible refine Kd.C_drew ?_)));(case side2 => exact (Kd.R_reads' HO282.out).2.1);rintro e w27 ⟨v288,rfl,ho0,hb⟩;refine ⟨_,rfl,?_⟩;have n0_:=Aside0.mk (Kd.R_elder' (by (with_reducible repeat (first | apply Kd.R_alloc | apply Kd.R_drewN | apply Kd.R_drew));exact HO276.out) (Kd.R_base ho0) hb);have n1_:=Aside0.mk (Kd.R_below (by (with_reducible repeat (first | apply Kd.R_alloc | apply Kd.R_drewN | apply Kd.R_drew));exact HO282.out) hb);have n2_:=Aside0.mk (Kd.R_elder' (by (with_reducible repeat (first | apply Kd.R_alloc | apply Kd.R_drewN | apply Kd.R_drew));exact HO286.out) (Kd.R_base ho0) hb);have n3_:=Aside0.mk (Kd.R_lower (Kd.R_new' (Kd.R_new' ho0 (Kd.R_lt (by (with_reducible repeat (first | apply Kd.R_alloc | apply Kd.R_drewN | apply Kd.R_drew));exact HO276.out))) (Kd.R_lt (by (with_reducible repeat (first | apply Kd.R_alloc | apply Kd.R_drewN | apply Kd.R_drew));exact HO286.out))) (below_size (by repeat (first | (with_reducible first | exact HB.out | apply below_alloc | apply pw_below_drewN | apply below_drew1) | exact HB.out))));have n4_:=Aside0.mk (below_step (by repeat (first | (with_reducible first | exact HB.out | apply below_alloc | apply pw_below_drewN | apply below_drew1) | exact HB.out)) hb);clear HO276;clear HO282;clear HO286;clear HB;have HO276:=n0_;have HO282:=n1_;have HO286:=n2_;have HO289:=n3_;have HB:=n4_;clear n0_ n1_ n2_ n3_ n4_;(try clear hb);(try clear hb2);(try clear hk);(try clear hi);(try clear ho0);obtain ⟨Ao28,co28,eo28⟩:=Kd.R_slice HO289.out;subst eo28;obtain ⟨Ao29,co29,eo29⟩:=Kd.R_slice HO286.out;subst eo29) | ((with_reducible refine gate_callee (f:=14) rfl ?_);refine goesL_ (some 51) rfl rfl Try.func14 (by kernel_rfl) rfl #[.slice Ao28 t287.length co28,.slice Ao29 t283.length co29] rfl (by (try simp only [List.map_toArray,List.map_cons,List.map_nil]);first | done | rfl | (simp only [List.length_drop,List.length_take];rfl)) ?_;(with_reducible refine (thwartref05_Same.calls kj4 _ _ t287 _ _ t283 true _ ?side1 ?side2 ?side3 ?side4 A15.out).mono ?_);(case side1 => repeat (first | exact (Kd.R_reads' HO289.out).2.2 | (with_reducible refine Kd.C_alloc ?_ _) | (with_reducible refine Kd.C_drewN ?_ _) | (with_reducible refine Kd.C_drew ?_)));(case side2 => exact (Kd.R_reads' HO289.out).2.1);(case side3 => repeat (first | exact (Kd.R_reads' HO286.out).2.2 | (with_reducible refine Kd.C_alloc ?_ _) | (with_reducible refine Kd.C_drewN ?_ _) | (with_reducible refine Kd.C_drew ?_)));(case side4 => exact (Kd.R_reads' HO286.out).2.1);rintro e w' ⟨rfl,⟨nd,rfl⟩⟩;refine ⟨_,rfl,?_⟩))
        go_ret
        exact ⟨by first | rfl | (simp [errW_none,errW_some] <;> rfl) | (simp [*,errW_none,errW_some] <;> rfl) | (simp [errW_none,errW_some];exact isEmpty_bne _),by repeat (first | (with_reducible first | exact HB.out | apply below_alloc | apply pw_below_drewN | apply below_drew1) | exact HB.out)⟩
       ·replace c19:=Bool.eq_false_iff.mpr c19
        subst c19
        have H1 : (none) = some r:=by rw [if_neg (show ¬ (false = true) by decide)] at H;exact H
        clear H
        have H:=H1
        clear H1
        exact absurd H (by simp)
      ·rw [if_neg c18] at H
       exact absurd H (by simp)
     ·rw [if_neg c17] at H
      exact absurd H (by simp)
    ·replace c16:=Bool.eq_false_iff.mpr c16
     subst c16
     have H1 : (none) = some r:=by rw [if_neg (show ¬ (false = true) by decide)] at H;exact H
     clear H
     have H:=H1
     clear H1
     exact absurd H (by simp)

/-- THE ONE PURE STATEMENT of thwartlaw05_HintReads: yours. -/
def thwartlaw05_HintReads.Pure : Prop := ∀ (l0 : List (S39)) (a1 : ByteArray),l0.length * 48 ≤ 140737488351232 → (l0.length ≤ 9223372036854775807 ∧ ∀ e291 ∈ l0,(e291.f0.size ≤ 9223372036854775807 ∧ (Lit.int .i64 e291.f1).wf = true ∧ (Lit.int .i64 e291.f2).wf = true ∧ (Lit.int .u64 e291.f3).wf = true ∧ True)) → a1.size ≤ 140737488351232 → ∃ k,thwartlaw05_HintReads.f k l0 a1 = some true
theorem thwartlaw05_HintReads.walk (P : thwartlaw05_HintReads.Pure) (A0 : Option Addr) (n0 c0 : Nat) (l0 : List (S39)) (a1 : ByteArray) (w : World) (K0 : (Kd.slice 39 k39).K w l0 [.slice A0 n0 c0]) (y0 : n0 * 48 ≤ 140737488351232) (G0 : (l0.length ≤ 9223372036854775807 ∧ ∀ e291 ∈ l0,(e291.f0.size ≤ 9223372036854775807 ∧ (Lit.int .i64 e291.f1).wf = true ∧ (Lit.int .i64 e291.f2).wf = true ∧ (Lit.int .u64 e291.f3).wf = true ∧ True))) (w1 : a1.size ≤ 140737488351232) :
  Calls Try.prog 3 #[.slice A0 n0 c0,.string a1] w fun e w' => e = .returned (.bool true) ∧ Below w.heap.size w w' := by
 obtain ⟨A0_,c0_,e0,hc0,hr0⟩:=K0
 simp only [List.cons.injEq,Value.slice.injEq,and_true] at e0
 obtain ⟨rfl,rfl,rfl⟩:=e0
 obtain ⟨k,h⟩:=P l0 a1 y0 G0 w1
 refine (thwartlaw05_HintReads.calls k _ _ l0 a1 true w hr0 hc0 h).mono ?_
 rintro e w' ⟨rfl,hd⟩
 exact ⟨rfl,hd⟩

/-! ### thwartlaw05_HintBack: function 5 -/
mutual
def thwartlaw05_HintBack.j0 : Nat → List (S39) → ByteArray → Bool → Bool → Option (Bool)
 | 0,_,_,_,_ => none
 | k + 1,x0,x1,x5,x25 => if x25 = true then (some x5) else ((hint_Bytes.f k x0).bind fun bt294 => ((hint_Read.f k bt294.1).bind fun bt296 => ((thwartlaw05_to.f k x0).bind fun t300 => ((thwartlaw05_to.f k bt296.1).bind fun t303 => ((thwartref05_Same.f k t300 t303).bind fun t306 => (if bt294.2 = 0 then (if bt296.2 = 0 then (thwartlaw05_HintBack.j1 k x1 x5 (!t306)) else (thwartlaw05_HintBack.j1 k x1 x5 true)) else (thwartlaw05_HintBack.j1 k x1 x5 false)))))))
def thwartlaw05_HintBack.j1 : Nat → ByteArray → Bool → Bool → Option (Bool)
 | 0,_,_,_ => none
 | k + 1,x1,x5,x51 => if x51 = true then (none) else ((hint_Read.f k x1).bind fun bt307 => ((hint_Bytes.f k bt307.1).bind fun bt311 => (if x5 = true then (if bt307.2 = 0 then (if bt311.2 = 0 then (some (bt311.1.toList == x1.toList)) else (none)) else (some true)) else (none))))
end
def thwartlaw05_HintBack.f (k : Nat) (l0 : List (S39)) (a1 : ByteArray) : Option (Bool):=(thwartlaw05_awake.f k).bind fun t292 => ((thwartlaw05_light.f k l0).bind fun t293 => (if t293 = true then (thwartlaw05_HintBack.j0 k l0 a1 t292 (decide ((a1.size : Int) > 4000))) else (thwartlaw05_HintBack.j0 k l0 a1 t292 true)))
theorem thwartlaw05_HintBack.mono_l : ∀ k,(∀ y0 y1 y2 y3,LeO (thwartlaw05_HintBack.j0 k y0 y1 y2 y3) (thwartlaw05_HintBack.j0 (k + 1) y0 y1 y2 y3)) ∧ (∀ y0 y1 y2,LeO (thwartlaw05_HintBack.j1 k y0 y1 y2) (thwartlaw05_HintBack.j1 (k + 1) y0 y1 y2))
 | 0 => ⟨fun _ _ _ _ r h => by simp [thwartlaw05_HintBack.j0] at h,fun _ _ _ r h => by simp [thwartlaw05_HintBack.j1] at h⟩
 | k + 1 => by
  obtain ⟨ih0,ih1⟩:=thwartlaw05_HintBack.mono_l k
  refine ⟨?_,?_⟩
  ·intro y0 y1 y2 y3
   unfold thwartlaw05_HintBack.j0
   repeat' first
   | (with_reducible exact ih0 _ _ _ _)
   | (with_reducible exact ih1 _ _ _)
   | (with_reducible exact hint_Bytes.mono _ _)
   | (with_reducible exact hint_Read.mono _ _)
   | (with_reducible exact thwartlaw05_awake.mono _)
   | (with_reducible exact thwartlaw05_light.mono _ _)
   | (with_reducible exact thwartlaw05_to.mono _ _)
   | (with_reducible exact thwartref05_Same.mono _ _ _)
   | (with_reducible exact LeO.refl _)
   | (with_reducible exact LeO.none _)
   | (with_reducible refine LeO.ite ?_ ?_)
   | (with_reducible refine LeO.bind ?_ (fun _ => ?_))
   | exact ih0 _ _ _ _
   | exact ih1 _ _ _
   | exact hint_Bytes.mono _ _
   | exact hint_Read.mono _ _
   | exact thwartlaw05_awake.mono _
   | exact thwartlaw05_light.mono _ _
   | exact thwartlaw05_to.mono _ _
   | exact thwartref05_Same.mono _ _ _
   | exact LeO.none _
   | refine LeO.ite ?_ ?_
   | refine LeO.bind ?_ (fun _ => ?_)
  ·intro y0 y1 y2
   unfold thwartlaw05_HintBack.j1
   repeat' first
   | (with_reducible exact ih0 _ _ _ _)
   | (with_reducible exact ih1 _ _ _)
   | (with_reducible exact hint_Bytes.mono _ _)
   | (with_reducible exact hint_Read.mono _ _)
   | (with_reducible exact thwartlaw05_awake.mono _)
   | (with_reducible exact thwartlaw05_light.mono _ _)
   | (with_reducible exact thwartlaw05_to.mono _ _)
   | (with_reducible exact thwartref05_Same.mono _ _ _)
   | (with_reducible exact LeO.refl _)
   | (with_reducible exact LeO.none _)
   | (with_reducible refine LeO.ite ?_ ?_)
   | (with_reducible refine LeO.bind ?_ (fun _ => ?_))
   | exact ih0 _ _ _ _
   | exact ih1 _ _ _
   | exact hint_Bytes.mono _ _
   | exact hint_Read.mono _ _
   | exact thwartlaw05_awake.mono _
   | exact thwartlaw05_light.mono _ _
   | exact thwartlaw05_to.mono _ _
   | exact thwartref05_Same.mono _ _ _
   | exact LeO.none _
   | refine LeO.ite ?_ ?_
   | refine LeO.bind ?_ (fun _ => ?_)
theorem thwartlaw05_HintBack.mono : ∀ a0 a1 k,LeO (thwartlaw05_HintBack.f k a0 a1) (thwartlaw05_HintBack.f (k + 1) a0 a1):=by
 intro a0 a1 k
 obtain ⟨ih0,ih1⟩:=thwartlaw05_HintBack.mono_l k
 unfold thwartlaw05_HintBack.f
 repeat' first
   | (with_reducible exact ih0 _ _ _ _)
   | (with_reducible exact ih1 _ _ _)
   | (with_reducible exact hint_Bytes.mono _ _)
   | (with_reducible exact hint_Read.mono _ _)
   | (with_reducible exact thwartlaw05_awake.mono _)
   | (with_reducible exact thwartlaw05_light.mono _ _)
   | (with_reducible exact thwartlaw05_to.mono _ _)
   | (with_reducible exact thwartref05_Same.mono _ _ _)
   | (with_reducible exact LeO.refl _)
   | (with_reducible exact LeO.none _)
   | (with_reducible refine LeO.ite ?_ ?_)
   | (with_reducible refine LeO.bind ?_ (fun _ => ?_))
   | exact ih0 _ _ _ _
   | exact ih1 _ _ _
   | exact hint_Bytes.mono _ _
   | exact hint_Read.mono _ _
   | exact thwartlaw05_awake.mono _
   | exact thwartlaw05_light.mono _ _
   | exact thwartlaw05_to.mono _ _
   | exact thwartref05_Same.mono _ _ _
   | exact LeO.none _
   | refine LeO.ite ?_ ?_
   | refine LeO.bind ?_ (fun _ => ?_)
set_option maxHeartbeats 8000000 in
set_option maxRecDepth 100000 in
theorem thwartlaw05_HintBack.calls (k : Nat) (A0 : Option Addr) (c0 : Nat) (l0 : List (S39)) (a1 : ByteArray) (r : Bool) (w : World) (hr0 : Kd.C k39 w A0 l0.length l0) (hc0 : l0.length ≤ c0) (h : thwartlaw05_HintBack.f k l0 a1 = some r) :
  Calls Try.prog 5 #[.slice A0 l0.length c0,.string a1] w fun e w' => e = .returned (.bool r) ∧ Below w.heap.size w w' := by
 have HR0:=Aside0.mk hr0
 have HC0:=Aside0.mk hc0
 clear hr0 hc0
 have HB:=Aside0.mk (Below.refl w.heap.size w)
 have H : ((thwartlaw05_awake.f k).bind fun t292 => ((thwartlaw05_light.f k l0).bind fun t293 => (if t293 = true then (thwartlaw05_HintBack.j0 k l0 a1 t292 (decide ((a1.size : Int) > 4000))) else (thwartlaw05_HintBack.j0 k l0 a1 t292 true)))) = some r:=h
 clear h
 replace H:=Option.bind_eq_some_iff.mp H
 obtain ⟨t292,A30,H⟩:=H
 replace H : ((thwartlaw05_light.f k l0).bind fun t293 => (if t293 = true then (thwartlaw05_HintBack.j0 k l0 a1 t292 (decide ((a1.size : Int) > 4000))) else (thwartlaw05_HintBack.j0 k l0 a1 t292 true))) = some r:=H
 have A3:=Aside0.mk A30
 clear A30
 replace H:=Option.bind_eq_some_iff.mp H
 obtain ⟨t293,A40,H⟩:=H
 replace H : (if t293 = true then (thwartlaw05_HintBack.j0 k l0 a1 t292 (decide ((a1.size : Int) > 4000))) else (thwartlaw05_HintBack.j0 k l0 a1 t292 true)) = some r:=H
 have A4:=Aside0.mk A40
 clear A40
 have HC5:=Aside0.mk H
 clear H
 go_enter Try.func5,Try.ntmps5
 go_upto_region 3 with (first | ((with_reducible refine gate_callee (f:=7) rfl ?_);refine goesL_ (some 16) rfl rfl Try.func7 (by kernel_rfl) rfl #[] rfl (by (try simp only [List.map_toArray,List.map_cons,List.map_nil]);first | done | rfl | (simp only [List.length_drop,List.length_take];rfl)) ?_;(with_reducible refine (thwartlaw05_awake.calls k  t292 _ A3.out).mono ?_);rintro e w6 ⟨rfl,hb⟩;refine ⟨_,rfl,?_⟩;have n0_:=Aside0.mk (below_step (by repeat (first | (with_reducible first | exact HB.out | apply below_alloc | apply pw_below_drewN | apply below_drew1) | exact HB.out)) hb);clear HB;have HB:=n0_;clear n0_;(try clear hb);(try clear hb2);(try clear hk);(try clear hi)) | ((with_reducible refine gate_callee (f:=8) rfl ?_);refine goesL_ (some 18) rfl rfl Try.func8 (by kernel_rfl) rfl #[.slice A0 l0.length c0] rfl (by (try simp only [List.map_toArray,List.map_cons,List.map_nil]);first | done | rfl | (simp only [List.length_drop,List.length_take];rfl)) ?_;(with_reducible refine (thwartlaw05_light.calls k _ _ l0 t293 _ ?side1 ?side2 A4.out).mono ?_);(case side1 => repeat (first | exact (Kd.C_below HR0.out HB.out) | (with_reducible refine Kd.C_alloc ?_ _) | (with_reducible refine Kd.C_drewN ?_ _) | (with_reducible refine Kd.C_drew ?_)));(case side2 => exact HC0.out);rintro e w' ⟨rfl,⟨nd,rfl⟩⟩;refine ⟨_,rfl,?_⟩))
 (try simp only [Act.put,List.setIfInBounds_toArray,List.set_cons_zero,List.set_cons_succ])
 go_cut [25] (fun v25 wc => ∃ (kq : Nat) (x25_4 : Bool),v25 = .bool x25_4 ∧ Aside0 (thwartlaw05_HintBack.j0 kq l0 a1 t292 x25_4 = some r) ∧ Aside0 (kq ≤ k) ∧ Aside0 (Below w.heap.size w wc))
 case first =>
  have H:=HC5.out
  clear HC5
  by_cases c7 : t293 = true
  ·subst c7
   have H1 : (thwartlaw05_HintBack.j0 k l0 a1 t292 (decide ((a1.size : Int) > 4000))) = some r:=by rw [if_pos rfl] at H;exact H
   clear H
   have H:=H1
   clear H1
   have H' := Aside0.mk H
   clear H
   go_wp2
   go_meet
   case rel => exact ⟨_,(decide ((a1.size : Int) > 4000)),(by first | rfl | (simp;done) | (simp [*];done)),H',⟨by first | omega | exact Nat.le_refl _⟩,⟨by repeat (first | (with_reducible first | exact HB.out | apply below_alloc | apply pw_below_drewN | apply below_drew1) | exact HB.out)⟩⟩
  ·replace c7:=Bool.eq_false_iff.mpr c7
   subst c7
   have H1 : (thwartlaw05_HintBack.j0 k l0 a1 t292 true) = some r:=by rw [if_neg (show ¬ (false = true) by decide)] at H;exact H
   clear H
   have H:=H1
   clear H1
   have H' := Aside0.mk H
   clear H
   go_wp2
   go_meet
   case rel => exact ⟨_,(true),(by first | rfl | (simp;done) | (simp [*];done)),H',⟨by first | omega | exact Nat.le_refl _⟩,⟨by repeat (first | (with_reducible first | exact HB.out | apply below_alloc | apply pw_below_drewN | apply below_drew1) | exact HB.out)⟩⟩
 case rest =>
  clear HC5
  try clear p2
  try clear c5
  try clear c7
  obtain ⟨kq,x25_4,rfl,HA,HJ4,HB⟩:=hcut
  cases kq with
  | zero => exact absurd HA.out (by simp [thwartlaw05_HintBack.j0])
  | succ kj4 =>
   have H:=HA.out
   clear HA
   simp only [thwartlaw05_HintBack.j0] at H
   by_cases c8 : x25_4 = true
   ·subst c8
    have H1 : (some t292) = some r:=by rw [if_pos rfl] at H;exact H
    clear H
    have H:=H1
    clear H1
    obtain rfl:=Option.some.inj H
    go_wp2
    go_ret
    exact ⟨by first | rfl | (simp [errW_none,errW_some] <;> rfl) | (simp [*,errW_none,errW_some] <;> rfl) | (simp [errW_none,errW_some];exact isEmpty_bne _),by repeat (first | (with_reducible first | exact HB.out | apply below_alloc | apply pw_below_drewN | apply below_drew1) | exact HB.out)⟩
   ·replace c8:=Bool.eq_false_iff.mpr c8
    subst c8
    have H1 : ((hint_Bytes.f kj4 l0).bind fun bt294 => ((hint_Read.f kj4 bt294.1).bind fun bt296 => ((thwartlaw05_to.f kj4 l0).bind fun t300 => ((thwartlaw05_to.f kj4 bt296.1).bind fun t303 => ((thwartref05_Same.f kj4 t300 t303).bind fun t306 => (if bt294.2 = 0 then (if bt296.2 = 0 then (thwartlaw05_HintBack.j1 kj4 a1 t292 (!t306)) else (thwartlaw05_HintBack.j1 kj4 a1 t292 true)) else (thwartlaw05_HintBack.j1 kj4 a1 t292 false))))))) = some r:=by rw [if_neg (show ¬ (false = true) by decide)] at H;exact H
    clear H
    have H:=H1
    clear H1
    replace H:=Option.bind_eq_some_iff.mp H
    obtain ⟨⟨t294,t295⟩,A90,H⟩:=H
    replace H : ((hint_Read.f kj4 t294).bind fun bt296 => ((thwartlaw05_to.f kj4 l0).bind fun t300 => ((thwartlaw05_to.f kj4 bt296.1).bind fun t303 => ((thwartref05_Same.f kj4 t300 t303).bind fun t306 => (if t295 = 0 then (if bt296.2 = 0 then (thwartlaw05_HintBack.j1 kj4 a1 t292 (!t306)) else (thwartlaw05_HintBack.j1 kj4 a1 t292 true)) else (thwartlaw05_HintBack.j1 kj4 a1 t292 false)))))) = some r:=H
    have A9:=Aside0.mk A90
    clear A90
    replace H:=Option.bind_eq_some_iff.mp H
    obtain ⟨⟨t296,t297⟩,A100,H⟩:=H
    replace H : ((thwartlaw05_to.f kj4 l0).bind fun t300 => ((thwartlaw05_to.f kj4 t296).bind fun t303 => ((thwartref05_Same.f kj4 t300 t303).bind fun t306 => (if t295 = 0 then (if t297 = 0 then (thwartlaw05_HintBack.j1 kj4 a1 t292 (!t306)) else (thwartlaw05_HintBack.j1 kj4 a1 t292 true)) else (thwartlaw05_HintBack.j1 kj4 a1 t292 false))))) = some r:=H
    have A10:=Aside0.mk A100
    clear A100
    replace H:=Option.bind_eq_some_iff.mp H
    obtain ⟨t300,A110,H⟩:=H
    replace H : ((thwartlaw05_to.f kj4 t296).bind fun t303 => ((thwartref05_Same.f kj4 t300 t303).bind fun t306 => (if t295 = 0 then (if t297 = 0 then (thwartlaw05_HintBack.j1 kj4 a1 t292 (!t306)) else (thwartlaw05_HintBack.j1 kj4 a1 t292 true)) else (thwartlaw05_HintBack.j1 kj4 a1 t292 false)))) = some r:=H
    have A11:=Aside0.mk A110
    clear A110
    replace H:=Option.bind_eq_some_iff.mp H
    obtain ⟨t303,A120,H⟩:=H
    replace H : ((thwartref05_Same.f kj4 t300 t303).bind fun t306 => (if t295 = 0 then (if t297 = 0 then (thwartlaw05_HintBack.j1 kj4 a1 t292 (!t306)) else (thwartlaw05_HintBack.j1 kj4 a1 t292 true)) else (thwartlaw05_HintBack.j1 kj4 a1 t292 false))) = some r:=H
    have A12:=Aside0.mk A120
    clear A120
    replace H:=Option.bind_eq_some_iff.mp H
    obtain ⟨t306,A130,H⟩:=H
    replace H : (if t295 = 0 then (if t297 = 0 then (thwartlaw05_HintBack.j1 kj4 a1 t292 (!t306)) else (thwartlaw05_HintBack.j1 kj4 a1 t292 true)) else (thwartlaw05_HintBack.j1 kj4 a1 t292 false)) = some r:=H
    have A13:=Aside0.mk A130
    clear A130
    have HC14:=Aside0.mk H
    clear H
    go_upto_region 8 with (first | ((with_reducible refine gate_callee (f:=9) rfl ?_);refine goesL_ (some 29) rfl rfl Try.func9 (by kernel_rfl) rfl #[.slice A0 l0.length c0] rfl (by (try simp only [List.map_toArray,List.map_cons,List.map_nil]);first | done | rfl | (simp only [List.length_drop,List.length_take];rfl)) ?_;(with_reducible refine (hint_Bytes.calls kj4 _ _ l0 t294 t295 _ ?side1 ?side2 A9.out).mono ?_);(case side1 => repeat (first | exact (Kd.C_below HR0.out HB.out) | (with_reducible refine Kd.C_alloc ?_ _) | (with_reducible refine Kd.C_drewN ?_ _) | (with_reducible refine Kd.C_drew ?_)));(case side2 => exact HC0.out);rintro e w15 ⟨rfl,hb⟩;refine ⟨_,rfl,?_⟩;have n0_:=Aside0.mk (below_step (by repeat (first | (with_reducible first | exact HB.out | apply below_alloc | apply pw_below_drewN | apply below_drew1) | exact HB.out)) hb);clear HB;have HB:=n0_;clear n0_;(try clear hb);(try clear hb2);(try clear hk);(try clear hi)) | ((with_reducible refine gate_callee (f:=12) rfl ?_);refine goesL_ (some 34) rfl rfl Try.func12 (by kernel_rfl) rfl #[.string t294] rfl (by (try simp only [List.map_toArray,List.map_cons,List.map_nil]);first | done | rfl | (simp only [List.length_drop,List.length_take];rfl)) ?_;(with_reducible refine (hint_Read.calls kj4 t294 t296 t297 _ A10.out).mono ?_);rintro e w16 ⟨v298,rfl,ho0,hb⟩;refine ⟨_,rfl,?_⟩;have n0_:=Aside0.mk (Kd.R_lower ho0 (below_size (by repeat (first | (with_reducible first | exact HB.out | apply below_alloc | apply pw_below_drewN | apply below_drew1) | exact HB.out))));have n1_:=Aside0.mk (below_step (by repeat (first | (with_reducible first | exact HB.out | apply below_alloc | apply pw_below_drewN | apply below_drew1) | exact HB.out)) hb);clear HB;have HO299:=n0_;have HB:=n1_;clear n0_ n1_;(try clear hb);(try clear hb2);(try clear hk);(try clear hi);(try clear ho0)) | ((with_reducible refine gate_callee (f:=11) rfl ?_);refine goesL_ (some 38) rfl rfl Try.func11 (by kernel_rfl) rfl #[.slice A0 l0.length c0] rfl (by (try simp only [List.map_toArray,List.map_cons,List.map_nil]);first | done | rfl | (simp only [List.length_drop,List.length_take];rfl)) ?_;(with_reducible refine (thwartlaw05_to.calls kj4 _ _ l0 t300 _ ?side1 ?side2 A11.out).mono ?_);(case side1 => repeat (first | exact (Kd.C_below HR0.out HB.out) | (with_reducible refine Kd.C_alloc ?_ _) | (with_reducible refine Kd.C_drewN ?_ _) | (with_reducible refine Kd.C_drew ?_)));(case side2 => exact HC0.out);rintro e w17 ⟨v301,rfl,ho0,hb⟩;refine ⟨_,rfl,?_⟩;have n0_:=Aside0.mk (Kd.R_below (by (with_reducible repeat (first | apply Kd.R_alloc | apply Kd.R_drewN | apply Kd.R_drew));exact HO299.out) hb);have n1_:=Aside0.mk (Kd.R_lower ho0 (below_size (by repeat (first | (with_reducible first | exact HB.out | apply below_alloc | apply pw_below_drewN | apply below_drew1) | exact HB.out))));have n2_:=Aside0.mk (below_step (by repeat (first | (with_reducible first | exact HB.out | apply below_alloc | apply pw_below_drewN | apply below_drew1) | exact HB.out)) hb);clear HO299;clear HB;have HO299:=n0_;have HO302:=n1_;have HB:=n2_;clear n0_ n1_ n2_;(try clear hb);(try clear hb2);(try clear hk);(try clear hi);(try clear ho0);obtain ⟨Ao18,co18,eo18⟩:=Kd.R_slice HO299.out;subst eo18) | ((with_reducible refine gate_callee (f:=11) rfl ?_);refine goesL_ (some 40) rfl rfl Try.func11 (by kernel_rfl) rfl #[.slice Ao18 t296.length co18] rfl (by (try simp only [List.map_toArray,List.map_cons,List.map_nil]);first | done | rfl | (simp only [List.length_drop,List.length_take];rfl)) ?_;(with_reducible refine (thwartlaw05_to.calls kj4 _ _ t296 t303 _ ?side1 ?side2 A12.out).mono ?_);(case side1 => repeat (first | exact (Kd.R_reads' HO299.out).2.2 | (with_reducible refine Kd.C_alloc ?_ _) | (with_reducible refine Kd.C_drewN ?_ _) | (with_reducible refine Kd.C_drew ?_)));(case side2 => exact (Kd.R_reads' HO299.out).2.1);rintro e w19 ⟨v304,rfl,ho0,hb⟩;refine ⟨_,rfl,?_⟩;have n0_:=Aside0.mk (Kd.R_below (by (with_reducible repeat (first | apply Kd.R_alloc | apply Kd.R_drewN | apply Kd.R_drew));exact HO299.out) hb);have n1_:=Aside0.mk (Kd.R_elder' (by (with_reducible repeat (first | apply Kd.R_alloc | apply Kd.R_drewN | apply Kd.R_drew));exact HO302.out) (Kd.R_base ho0) hb);have n2_:=Aside0.mk (Kd.R_lower (Kd.R_new' ho0 (Kd.R_lt (by (with_reducible repeat (first | apply Kd.R_alloc | apply Kd.R_drewN | apply Kd.R_drew));exact HO302.out))) (below_size (by repeat (first | (with_reducible first | exact HB.out | apply below_alloc | apply pw_below_drewN | apply below_drew1) | exact HB.out))));have n3_:=Aside0.mk (below_step (by repeat (first | (with_reducible first | exact HB.out | apply below_alloc | apply pw_below_drewN | apply below_drew1) | exact HB.out)) hb);clear HO299;clear HO302;clear HB;have HO299:=n0_;have HO302:=n1_;have HO305:=n2_;have HB:=n3_;clear n0_ n1_ n2_ n3_;(try clear hb);(try clear hb2);(try clear hk);(try clear hi);(try clear ho0);obtain ⟨Ao20,co20,eo20⟩:=Kd.R_slice HO302.out;subst eo20;obtain ⟨Ao21,co21,eo21⟩:=Kd.R_slice HO305.out;subst eo21) | ((with_reducible refine gate_callee (f:=14) rfl ?_);refine goesL_ (some 41) rfl rfl Try.func14 (by kernel_rfl) rfl #[.slice Ao20 t300.length co20,.slice Ao21 t303.length co21] rfl (by (try simp only [List.map_toArray,List.map_cons,List.map_nil]);first | done | rfl | (simp only [List.length_drop,List.length_take];rfl)) ?_;(with_reducible refine (thwartref05_Same.calls kj4 _ _ t300 _ _ t303 t306 _ ?side1 ?side2 ?side3 ?side4 A13.out).mono ?_);(case side1 => repeat (first | exact (Kd.R_reads' HO302.out).2.2 | (with_reducible refine Kd.C_alloc ?_ _) | (with_reducible refine Kd.C_drewN ?_ _) | (with_reducible refine Kd.C_drew ?_)));(case side2 => exact (Kd.R_reads' HO302.out).2.1);(case side3 => repeat (first | exact (Kd.R_reads' HO305.out).2.2 | (with_reducible refine Kd.C_alloc ?_ _) | (with_reducible refine Kd.C_drewN ?_ _) | (with_reducible refine Kd.C_drew ?_)));(case side4 => exact (Kd.R_reads' HO305.out).2.1);rintro e w' ⟨rfl,⟨nd,rfl⟩⟩;refine ⟨_,rfl,?_⟩))
    (try simp only [Act.put,List.setIfInBounds_toArray,List.set_cons_zero,List.set_cons_succ])
    go_cut [51] (fun v51 wc => ∃ (kq : Nat) (x51_13 : Bool),v51 = .bool x51_13 ∧ Aside0 (thwartlaw05_HintBack.j1 kq a1 t292 x51_13 = some r) ∧ Aside0 (kq ≤ kj4) ∧ Aside0 (Below w.heap.size w wc))
    case first =>
     have H:=HC14.out
     clear HC14
     by_cases c22 : t295 = 0
     ·rw [if_pos c22] at H
      have c22b0 : (t295 == 0) = true:=beq_iff_eq.mpr c22
      have c22b1 : (t295 != 0) = false:=bne_eq_false_iff_eq.mpr c22
      clear c22
      (first | rw [c22b0] | (simp only [i64_w,i32_w];rw [c22b0]) | skip)
      by_cases c23 : t297 = 0
      ·rw [if_pos c23] at H
       have c23b0 : (t297 == 0) = true:=beq_iff_eq.mpr c23
       have c23b1 : (t297 != 0) = false:=bne_eq_false_iff_eq.mpr c23
       clear c23
       have H' := Aside0.mk H
       clear H
       go_wp2
       go_meet
       case rel => exact ⟨_,(!t306),(by first | rfl | (simp;done) | (simp [*];done)),H',⟨by have:=HJ4.out;first | omega | exact Nat.le_refl _⟩,⟨by repeat (first | (with_reducible first | exact HB.out | apply below_alloc | apply pw_below_drewN | apply below_drew1) | exact HB.out)⟩⟩
      ·rw [if_neg c23] at H
       have c23b0 : (t297 == 0) = false:=beq_eq_false_iff_ne.mpr c23
       have c23b1 : (t297 != 0) = true:=bne_iff_ne.mpr c23
       have H' := Aside0.mk H
       clear H
       go_wp2
       go_meet
       case rel => exact ⟨_,(true),(by first | rfl | (simp;done) | (simp [*];done)),H',⟨by have:=HJ4.out;first | omega | exact Nat.le_refl _⟩,⟨by repeat (first | (with_reducible first | exact HB.out | apply below_alloc | apply pw_below_drewN | apply below_drew1) | exact HB.out)⟩⟩
     ·rw [if_neg c22] at H
      have c22b0 : (t295 == 0) = false:=beq_eq_false_iff_ne.mpr c22
      have c22b1 : (t295 != 0) = true:=bne_iff_ne.mpr c22
      (first | rw [c22b0] | (simp only [i64_w,i32_w];rw [c22b0]) | skip)
      have H' := Aside0.mk H
      clear H
      go_wp2
      go_meet
      case rel => exact ⟨_,(false),(by first | rfl | (simp;done) | (simp [*];done)),H',⟨by have:=HJ4.out;first | omega | exact Nat.le_refl _⟩,⟨by repeat (first | (with_reducible first | exact HB.out | apply below_alloc | apply pw_below_drewN | apply below_drew1) | exact HB.out)⟩⟩
    case rest =>
     clear HC14
     try clear c1
     try clear c2
     try clear p2
     try clear c5
     try clear c7
     try clear c8
     try clear c9
     try clear c11
     try clear c12
     try clear c14
     try clear c22
     try clear c22b0
     try clear c22b1
     try clear c23
     try clear c23b0
     try clear c23b1
     try clear p2
     obtain ⟨kq,x51_13,rfl,HA,HJ13,HB⟩:=hcut
     cases kq with
     | zero => exact absurd HA.out (by simp [thwartlaw05_HintBack.j1])
     | succ kj13 =>
      have H:=HA.out
      clear HA
      simp only [thwartlaw05_HintBack.j1] at H
      by_cases c24 : x51_13 = true
      ·subst c24
       have H1 : (none) = some r:=by rw [if_pos rfl] at H;exact H
       clear H
       have H:=H1
       clear H1
       exact absurd H (by simp)
      ·replace c24:=Bool.eq_false_iff.mpr c24
       subst c24
       have H1 : ((hint_Read.f kj13 a1).bind fun bt307 => ((hint_Bytes.f kj13 bt307.1).bind fun bt311 => (if t292 = true then (if bt307.2 = 0 then (if bt311.2 = 0 then (some (bt311.1.toList == a1.toList)) else (none)) else (some true)) else (none)))) = some r:=by rw [if_neg (show ¬ (false = true) by decide)] at H;exact H
       clear H
       have H:=H1
       clear H1
       replace H:=Option.bind_eq_some_iff.mp H
       obtain ⟨⟨t307,t308⟩,A250,H⟩:=H
       replace H : ((hint_Bytes.f kj13 t307).bind fun bt311 => (if t292 = true then (if t308 = 0 then (if bt311.2 = 0 then (some (bt311.1.toList == a1.toList)) else (none)) else (some true)) else (none))) = some r:=H
       have A25:=Aside0.mk A250
       clear A250
       replace H:=Option.bind_eq_some_iff.mp H
       obtain ⟨⟨t311,t312⟩,A260,H⟩:=H
       replace H : (if t292 = true then (if t308 = 0 then (if t312 = 0 then (some (t311.toList == a1.toList)) else (none)) else (some true)) else (none)) = some r:=H
       have A26:=Aside0.mk A260
       clear A260
       by_cases c27 : t292 = true
       ·subst c27
        have H1 : (if t308 = 0 then (if t312 = 0 then (some (t311.toList == a1.toList)) else (none)) else (some true)) = some r:=by rw [if_pos rfl] at H;exact H
        clear H
        have H:=H1
        clear H1
        by_cases c28 : t308 = 0
        ·rw [if_pos c28] at H
         have c28b0 : (t308 == 0) = true:=beq_iff_eq.mpr c28
         have c28b1 : (t308 != 0) = false:=bne_eq_false_iff_eq.mpr c28
         clear c28
         by_cases c29 : t312 = 0
         ·rw [if_pos c29] at H
          have c29b0 : (t312 == 0) = true:=beq_iff_eq.mpr c29
          have c29b1 : (t312 != 0) = false:=bne_eq_false_iff_eq.mpr c29
          clear c29
          obtain rfl:=Option.some.inj H
          go_wp2_with (first | ((with_reducible refine gate_callee (f:=12) rfl ?_);refine goesL_ (some 54) rfl rfl Try.func12 (by kernel_rfl) rfl #[.string a1] rfl (by (try simp only [List.map_toArray,List.map_cons,List.map_nil]);first | done | rfl | (simp only [List.length_drop,List.length_take];rfl)) ?_;(with_reducible refine (hint_Read.calls kj13 a1 t307 t308 _ A25.out).mono ?_);rintro e w30 ⟨v309,rfl,ho0,hb⟩;refine ⟨_,rfl,?_⟩;have n0_:=Aside0.mk (Kd.R_lower ho0 (below_size (by repeat (first | (with_reducible first | exact HB.out | apply below_alloc | apply pw_below_drewN | apply below_drew1) | exact HB.out))));have n1_:=Aside0.mk (below_step (by repeat (first | (with_reducible first | exact HB.out | apply below_alloc | apply pw_below_drewN | apply below_drew1) | exact HB.out)) hb);clear HB;have HO310:=n0_;have HB:=n1_;clear n0_ n1_;(try clear hb);(try clear hb2);(try clear hk);(try clear hi);(try clear ho0);obtain ⟨Ao31,co31,eo31⟩:=Kd.R_slice HO310.out;subst eo31) | ((with_reducible refine gate_callee (f:=9) rfl ?_);refine goesL_ (some 59) rfl rfl Try.func9 (by kernel_rfl) rfl #[.slice Ao31 t307.length co31] rfl (by (try simp only [List.map_toArray,List.map_cons,List.map_nil]);first | done | rfl | (simp only [List.length_drop,List.length_take];rfl)) ?_;(with_reducible refine (hint_Bytes.calls kj13 _ _ t307 t311 t312 _ ?side1 ?side2 A26.out).mono ?_);(case side1 => repeat (first | exact (Kd.R_reads' HO310.out).2.2 | (with_reducible refine Kd.C_alloc ?_ _) | (with_reducible refine Kd.C_drewN ?_ _) | (with_reducible refine Kd.C_drew ?_)));(case side2 => exact (Kd.R_reads' HO310.out).2.1);rintro e w32 ⟨rfl,hb⟩;refine ⟨_,rfl,?_⟩;have n0_:=Aside0.mk (Kd.R_below (by (with_reducible repeat (first | apply Kd.R_alloc | apply Kd.R_drewN | apply Kd.R_drew));exact HO310.out) hb);have n1_:=Aside0.mk (below_step (by repeat (first | (with_reducible first | exact HB.out | apply below_alloc | apply pw_below_drewN | apply below_drew1) | exact HB.out)) hb);clear HO310;clear HB;have HO310:=n0_;have HB:=n1_;clear n0_ n1_;(try clear hb);(try clear hb2);(try clear hk);(try clear hi)))
          go_ret
          exact ⟨by first | rfl | (simp [errW_none,errW_some] <;> rfl) | (simp [*,errW_none,errW_some] <;> rfl) | (simp [errW_none,errW_some];exact isEmpty_bne _),by repeat (first | (with_reducible first | exact HB.out | apply below_alloc | apply pw_below_drewN | apply below_drew1) | exact HB.out)⟩
         ·rw [if_neg c29] at H
          exact absurd H (by simp)
        ·rw [if_neg c28] at H
         have c28b0 : (t308 == 0) = false:=beq_eq_false_iff_ne.mpr c28
         have c28b1 : (t308 != 0) = true:=bne_iff_ne.mpr c28
         obtain rfl:=Option.some.inj H
         go_wp2_with (first | ((with_reducible refine gate_callee (f:=12) rfl ?_);refine goesL_ (some 54) rfl rfl Try.func12 (by kernel_rfl) rfl #[.string a1] rfl (by (try simp only [List.map_toArray,List.map_cons,List.map_nil]);first | done | rfl | (simp only [List.length_drop,List.length_take];rfl)) ?_;(with_reducible refine (hint_Read.calls kj13 a1 t307 t308 _ A25.out).mono ?_);rintro e w33 ⟨v309,rfl,ho0,hb⟩;refine ⟨_,rfl,?_⟩;have n0_:=Aside0.mk (Kd.R_lower ho0 (below_size (by repeat (first | (with_reducible first | exact HB.out | apply below_alloc | apply pw_below_drewN | apply below_drew1) | exact HB.out))));have n1_:=Aside0.mk (below_step (by repeat (first | (with_reducible first | exact HB.out | apply below_alloc | apply pw_below_drewN | apply below_drew1) | exact HB.out)) hb);clear HB;have HO310:=n0_;have HB:=n1_;clear n0_ n1_;(try clear hb);(try clear hb2);(try clear hk);(try clear hi);(try clear ho0);obtain ⟨Ao34,co34,eo34⟩:=Kd.R_slice HO310.out;subst eo34) | ((with_reducible refine gate_callee (f:=9) rfl ?_);refine goesL_ (some 59) rfl rfl Try.func9 (by kernel_rfl) rfl #[.slice Ao34 t307.length co34] rfl (by (try simp only [List.map_toArray,List.map_cons,List.map_nil]);first | done | rfl | (simp only [List.length_drop,List.length_take];rfl)) ?_;(with_reducible refine (hint_Bytes.calls kj13 _ _ t307 t311 t312 _ ?side1 ?side2 A26.out).mono ?_);(case side1 => repeat (first | exact (Kd.R_reads' HO310.out).2.2 | (with_reducible refine Kd.C_alloc ?_ _) | (with_reducible refine Kd.C_drewN ?_ _) | (with_reducible refine Kd.C_drew ?_)));(case side2 => exact (Kd.R_reads' HO310.out).2.1);rintro e w35 ⟨rfl,hb⟩;refine ⟨_,rfl,?_⟩;have n0_:=Aside0.mk (Kd.R_below (by (with_reducible repeat (first | apply Kd.R_alloc | apply Kd.R_drewN | apply Kd.R_drew));exact HO310.out) hb);have n1_:=Aside0.mk (below_step (by repeat (first | (with_reducible first | exact HB.out | apply below_alloc | apply pw_below_drewN | apply below_drew1) | exact HB.out)) hb);clear HO310;clear HB;have HO310:=n0_;have HB:=n1_;clear n0_ n1_;(try clear hb);(try clear hb2);(try clear hk);(try clear hi)))
         go_ret
         exact ⟨by first | rfl | (simp [errW_none,errW_some] <;> rfl) | (simp [*,errW_none,errW_some] <;> rfl) | (simp [errW_none,errW_some];exact isEmpty_bne _),by repeat (first | (with_reducible first | exact HB.out | apply below_alloc | apply pw_below_drewN | apply below_drew1) | exact HB.out)⟩
       ·replace c27:=Bool.eq_false_iff.mpr c27
        subst c27
        have H1 : (none) = some r:=by rw [if_neg (show ¬ (false = true) by decide)] at H;exact H
        clear H
        have H:=H1
        clear H1
        exact absurd H (by simp)

/-- THE ONE PURE STATEMENT of thwartlaw05_HintBack: yours. -/
def thwartlaw05_HintBack.Pure : Prop := ∀ (l0 : List (S39)) (a1 : ByteArray),l0.length * 48 ≤ 140737488351232 → (l0.length ≤ 9223372036854775807 ∧ ∀ e313 ∈ l0,(e313.f0.size ≤ 9223372036854775807 ∧ (Lit.int .i64 e313.f1).wf = true ∧ (Lit.int .i64 e313.f2).wf = true ∧ (Lit.int .u64 e313.f3).wf = true ∧ True)) → a1.size ≤ 140737488351232 → ∃ k,thwartlaw05_HintBack.f k l0 a1 = some true
theorem thwartlaw05_HintBack.walk (P : thwartlaw05_HintBack.Pure) (A0 : Option Addr) (n0 c0 : Nat) (l0 : List (S39)) (a1 : ByteArray) (w : World) (K0 : (Kd.slice 39 k39).K w l0 [.slice A0 n0 c0]) (y0 : n0 * 48 ≤ 140737488351232) (G0 : (l0.length ≤ 9223372036854775807 ∧ ∀ e313 ∈ l0,(e313.f0.size ≤ 9223372036854775807 ∧ (Lit.int .i64 e313.f1).wf = true ∧ (Lit.int .i64 e313.f2).wf = true ∧ (Lit.int .u64 e313.f3).wf = true ∧ True))) (w1 : a1.size ≤ 140737488351232) :
  Calls Try.prog 5 #[.slice A0 n0 c0,.string a1] w fun e w' => e = .returned (.bool true) ∧ Below w.heap.size w w' := by
 obtain ⟨A0_,c0_,e0,hc0,hr0⟩:=K0
 simp only [List.cons.injEq,Value.slice.injEq,and_true] at e0
 obtain ⟨rfl,rfl,rfl⟩:=e0
 obtain ⟨k,h⟩:=P l0 a1 y0 G0 w1
 refine (thwartlaw05_HintBack.calls k _ _ l0 a1 true w hr0 hc0 h).mono ?_
 rintro e w' ⟨rfl,hd⟩
 exact ⟨rfl,hd⟩

end Go.Proofs.Ytdjkkceamldmjaa.Print
