/- Written by a program of mine (give.py, over the kit's print) out of the translation: contracts of the Go functions. Lean checks it. -/
import Derived.Test.YtlfhnpecfkhcpaaPrint0
import Derived.Test.YtlfhnpecfkhcpaaPrint2
import Derived.Test.YtlfhnpecfkhcpaaPrint3
namespace Go.Proofs.Ytlfhnpecfkhcpaa.Print
open Go.RowKit Go.Proofs.YtlfhnpecfkhcpaaW.PrintWords Go.Proofs.YtlfhnpecfkhcpaaW.PrintLast Go.Proofs.YtlfhnpecfkhcpaaW.PrintMore
attribute [local go_sem] max2_int min2_int max_two min_two max_three min_three max_four min_four   -- for this text's walks alone
set_option linter.unusedVariables false
set_option linter.unusedSimpArgs false

/-! ### thwartref04_Light: function 20 -/
mutual
def thwartref04_Light.l0 : Nat → List (List (S36)) → Int → Int → Option (Bool)
 | 0,_,_,_ => none
 | k + 1,x0,x3,x4 => if x4 < (x0.length : Int) then (thwartref04_Light.j1 k x0 x3 x4 (decide (x4 < 30))) else (thwartref04_Light.j1 k x0 x3 x4 false)
def thwartref04_Light.j1 : Nat → List (List (S36)) → Int → Int → Bool → Option (Bool)
 | 0,_,_,_,_ => none
 | k + 1,x0,x3,x4,x12 => if x12 = true then (if 0 ≤ x4 then (if x4 < (x0.length : Int) then ((thwartref03_Light.f k (rd_L4 x0 x4)).bind fun t110 => (if t110 = true then (thwartref04_Light.l0 k x0 (wrap64 (x3 + ((rd_L4 x0 x4).length : Int))) (wrap64 (x4 + 1))) else (some false))) else (none)) else (none)) else (if (x0.length : Int) ≤ 20 then (some (decide (x3 ≤ 60))) else (some false))
end
def thwartref04_Light.f (k : Nat) (l0 : List (List (S36))) : Option (Bool):=thwartref04_Light.l0 k l0 0 0
theorem thwartref04_Light.mono_l : ∀ k,(∀ y0 y1 y2,LeO (thwartref04_Light.l0 k y0 y1 y2) (thwartref04_Light.l0 (k + 1) y0 y1 y2)) ∧ (∀ y0 y1 y2 y3,LeO (thwartref04_Light.j1 k y0 y1 y2 y3) (thwartref04_Light.j1 (k + 1) y0 y1 y2 y3))
 | 0 => ⟨fun _ _ _ r h => by simp [thwartref04_Light.l0] at h,fun _ _ _ _ r h => by simp [thwartref04_Light.j1] at h⟩
 | k + 1 => by
  obtain ⟨ih0,ih1⟩:=thwartref04_Light.mono_l k
  refine ⟨?_,?_⟩
  ·intro y0 y1 y2
   unfold thwartref04_Light.l0
   repeat' first
   | (with_reducible exact ih0 _ _ _)
   | (with_reducible exact ih1 _ _ _ _)
   | (with_reducible exact thwartref03_Light.mono _ _)
   | (with_reducible exact LeO.refl _)
   | (with_reducible exact LeO.none _)
   | (with_reducible refine LeO.ite ?_ ?_)
   | (with_reducible refine LeO.bind ?_ (fun _ => ?_))
   | exact ih0 _ _ _
   | exact ih1 _ _ _ _
   | exact thwartref03_Light.mono _ _
   | exact LeO.none _
   | refine LeO.ite ?_ ?_
   | refine LeO.bind ?_ (fun _ => ?_)
  ·intro y0 y1 y2 y3
   unfold thwartref04_Light.j1
   repeat' first
   | (with_reducible exact ih0 _ _ _)
   | (with_reducible exact ih1 _ _ _ _)
   | (with_reducible exact thwartref03_Light.mono _ _)
   | (with_reducible exact LeO.refl _)
   | (with_reducible exact LeO.none _)
   | (with_reducible refine LeO.ite ?_ ?_)
   | (with_reducible refine LeO.bind ?_ (fun _ => ?_))
   | exact ih0 _ _ _
   | exact ih1 _ _ _ _
   | exact thwartref03_Light.mono _ _
   | exact LeO.none _
   | refine LeO.ite ?_ ?_
   | refine LeO.bind ?_ (fun _ => ?_)
theorem thwartref04_Light.mono : ∀ a0 k,LeO (thwartref04_Light.f k a0) (thwartref04_Light.f (k + 1) a0):=by
 intro a0 k
 obtain ⟨ih0,ih1⟩:=thwartref04_Light.mono_l k
 unfold thwartref04_Light.f
 repeat' first
   | (with_reducible exact ih0 _ _ _)
   | (with_reducible exact ih1 _ _ _ _)
   | (with_reducible exact thwartref03_Light.mono _ _)
   | (with_reducible exact LeO.refl _)
   | (with_reducible exact LeO.none _)
   | (with_reducible refine LeO.ite ?_ ?_)
   | (with_reducible refine LeO.bind ?_ (fun _ => ?_))
   | exact ih0 _ _ _
   | exact ih1 _ _ _ _
   | exact thwartref03_Light.mono _ _
   | exact LeO.none _
   | refine LeO.ite ?_ ?_
   | refine LeO.bind ?_ (fun _ => ?_)
set_option maxHeartbeats 8000000 in
set_option maxRecDepth 100000 in
theorem thwartref04_Light.calls (k : Nat) (A0 : Option Addr) (c0 : Nat) (l0 : List (List (S36))) (r : Bool) (w : World) (hr0 : Kd.C (Kd.slice 36 k36) w A0 l0.length l0) (hc0 : l0.length ≤ c0) (h : thwartref04_Light.f k l0 = some r) :
  Calls Try.prog 20 #[.slice A0 l0.length c0] w fun e w' => e = .returned (.bool r) ∧ Below w.heap.size w w' := by
 have HR0:=Aside0.mk hr0
 have HC0:=Aside0.mk hc0
 clear hr0 hc0
 have HB:=Aside0.mk (Below.refl w.heap.size w)
 have H : (thwartref04_Light.l0 k l0 0 0) = some r:=h
 clear h
 have H' := Aside0.mk H
 clear H
 go_enter Try.func20,Try.ntmps20
 go_wp2
 go_loopg [3,4] k (fun kq v3 v4 w' => ∃ (x3_1 : Int) (x4_1 : Int),v3 = .int .i64 x3_1 ∧ v4 = .int .i64 x4_1 ∧ Aside0 (thwartref04_Light.l0 kq l0 x3_1 x4_1 = some r) ∧ Aside0 (kq ≤ k) ∧ Aside0 (Below w.heap.size w w'))
 case atStart => exact ⟨(0),(0),(by first | rfl | (simp;done) | (simp [*];done)),(by first | rfl | (simp;done) | (simp [*];done)),H',⟨Nat.le_refl _⟩,⟨by repeat (first | (with_reducible first | exact HB.out | apply below_alloc | apply pw_below_drewN | apply below_drew1) | exact HB.out)⟩⟩
 case round =>
  clear H'
  obtain ⟨x3_1,x4_1,rfl,rfl,HA,HK1,HB⟩:=hrel
  cases gk with
  | zero => exact absurd HA.out (by simp [thwartref04_Light.l0])
  | succ k1 =>
   have H:=HA.out
   clear HA
   simp only [thwartref04_Light.l0] at H
   have HC2:=Aside0.mk H
   clear H
   go_upto_region 3 with (fail)
   go_cut [12] (fun v12 wc => ∃ (kq : Nat) (x12_1 : Bool),v12 = .bool x12_1 ∧ Aside0 (thwartref04_Light.j1 kq l0 x3_1 x4_1 x12_1 = some r) ∧ Aside0 (kq ≤ k1) ∧ Aside0 (Below w.heap.size w wc))
   case first =>
    have H:=HC2.out
    clear HC2
    by_cases c3 : x4_1 < (l0.length : Int)
    ·rw [if_pos c3] at H
     have c3b0 : decide (x4_1 < (l0.length : Int)) = true:=decide_eq_true c3
     clear c3
     (first | rw [c3b0] | (simp only [i64_w,i32_w];rw [c3b0]) | skip)
     have H' := Aside0.mk H
     clear H
     go_wp2
     go_meet
     case rel => exact ⟨_,(decide (x4_1 < 30)),(by first | rfl | (simp;done) | (simp [*];done)),H',⟨by have:=HK1.out;first | omega | exact Nat.le_refl _⟩,⟨by repeat (first | (with_reducible first | exact HB.out | apply below_alloc | apply pw_below_drewN | apply below_drew1) | exact HB.out)⟩⟩
    ·rw [if_neg c3] at H
     have c3b0 : decide (x4_1 < (l0.length : Int)) = false:=decide_eq_false c3
     clear c3
     (first | rw [c3b0] | (simp only [i64_w,i32_w];rw [c3b0]) | skip)
     have H' := Aside0.mk H
     clear H
     go_wp2
     go_meet
     case rel => exact ⟨_,(false),(by first | rfl | (simp;done) | (simp [*];done)),H',⟨by have:=HK1.out;first | omega | exact Nat.le_refl _⟩,⟨by repeat (first | (with_reducible first | exact HB.out | apply below_alloc | apply pw_below_drewN | apply below_drew1) | exact HB.out)⟩⟩
   case rest =>
    clear HC2
    try clear c2
    try clear p2
    try clear c3
    try clear c3b0
    obtain ⟨kq,x12_1,rfl,HA,HJ1,HB⟩:=hcut
    cases kq with
    | zero => exact absurd HA.out (by simp [thwartref04_Light.j1])
    | succ kj1 =>
     have H:=HA.out
     clear HA
     simp only [thwartref04_Light.j1] at H
     by_cases c4 : x12_1 = true
     ·subst c4
      have H1 : (if 0 ≤ x4_1 then (if x4_1 < (l0.length : Int) then ((thwartref03_Light.f kj1 (rd_L4 l0 x4_1)).bind fun t110 => (if t110 = true then (thwartref04_Light.l0 kj1 l0 (wrap64 (x3_1 + ((rd_L4 l0 x4_1).length : Int))) (wrap64 (x4_1 + 1))) else (some false))) else (none)) else (none)) = some r:=by rw [if_pos rfl] at H;exact H
      clear H
      have H:=H1
      clear H1
      by_cases c5 : 0 ≤ x4_1
      ·rw [if_pos c5] at H
       have c5b0 : decide (0 ≤ x4_1) = true:=decide_eq_true c5
       clear c5
       by_cases c6 : x4_1 < (l0.length : Int)
       ·rw [if_pos c6] at H
        have c6b0 : decide (x4_1 < (l0.length : Int)) = true:=decide_eq_true c6
        clear c6
        replace H:=Option.bind_eq_some_iff.mp H
        obtain ⟨t110,A70,H⟩:=H
        replace H : (if t110 = true then (thwartref04_Light.l0 kj1 l0 (wrap64 (x3_1 + ((rd_L4 l0 x4_1).length : Int))) (wrap64 (x4_1 + 1))) else (some false)) = some r:=H
        have A7:=Aside0.mk A70
        clear A70
        by_cases c8 : t110 = true
        ·subst c8
         have H1 : (thwartref04_Light.l0 kj1 l0 (wrap64 (x3_1 + ((rd_L4 l0 x4_1).length : Int))) (wrap64 (x4_1 + 1))) = some r:=by rw [if_pos rfl] at H;exact H
         clear H
         have H:=H1
         clear H1
         have H' := Aside0.mk H
         clear H
         have p109 : 0 ≤ (x4_1 : Int):=of_decide_eq_true (by first | (with_reducible assumption) | assumption)
         have q109 : x4_1 < (l0.length : Int):=of_decide_eq_true (by first | (with_reducible assumption) | assumption)
         obtain ⟨ad109,A109_0,c109_0,e109,hx109_0,hl109_0,hi109_0⟩:=at_L4 HR0.out x4_1 p109 q109
         cases e109
         replace hx109_0:=(HB.out.cell (World.block_lt_of_cell? w _ hx109_0)).trans hx109_0
         have HR109_0:=Aside0.mk hi109_0
         have HC109_0:=Aside0.mk hl109_0
         clear hi109_0 hl109_0
         replace p109:=eq_true p109
         replace q109:=eq_true q109
         go_wp2_with (first | ((with_reducible refine gate_callee (f:=28) rfl ?_);refine goesL_ (some 19) rfl rfl Try.func28 (by kernel_rfl) rfl #[.slice A109_0 (rd_L4 l0 x4_1).length c109_0] rfl (by (try simp only [List.map_toArray,List.map_cons,List.map_nil]);first | done | rfl | (simp only [List.length_drop,List.length_take];rfl)) ?_;(with_reducible refine (thwartref03_Light.calls kj1 _ _ (rd_L4 l0 x4_1) true _ ?side1 ?side2 A7.out).mono ?_);(case side1 => repeat (first | exact (Kd.C_below HR109_0.out HB.out) | (with_reducible refine Kd.C_alloc ?_ _) | (with_reducible refine Kd.C_drewN ?_ _) | (with_reducible refine Kd.C_drew ?_)));(case side2 => exact HC109_0.out);rintro e w9 ⟨rfl,hb⟩;refine ⟨_,rfl,?_⟩;have n0_:=Aside0.mk (below_step (by repeat (first | (with_reducible first | exact HB.out | apply below_alloc | apply pw_below_drewN | apply below_drew1) | exact HB.out)) hb);clear HB;have HB:=n0_;clear n0_;(try clear hb);(try clear hb2);(try clear hk);(try clear hi);have p111 : 0 ≤ (x4_1 : Int):=of_decide_eq_true (by first | (with_reducible assumption) | assumption);have q111 : x4_1 < (l0.length : Int):=of_decide_eq_true (by first | (with_reducible assumption) | assumption);obtain ⟨ad111,A111_0,c111_0,e111,hx111_0,hl111_0,hi111_0⟩:=at_L4 HR0.out x4_1 p111 q111;obtain rfl : ad109 = ad111:=(by injection e111);replace hx111_0:=(HB.out.cell (World.block_lt_of_cell? w _ hx111_0)).trans hx111_0;have HR111_0:=Aside0.mk hi111_0;have HC111_0:=Aside0.mk hl111_0;clear hi111_0 hl111_0;replace p111:=eq_true p111;replace q111:=eq_true q111))
         go_roundg kj1
         case measure => have:=HK1.out;have:=HJ1.out;omega
         case rel => exact ⟨(wrap64 (x3_1 + ((rd_L4 l0 x4_1).length : Int))),(wrap64 (x4_1 + 1)),(by first | rfl | (simp;done) | (simp [*];done)),(by first | rfl | (simp;done) | (simp [*];done)),H',⟨by have:=HK1.out;have:=HJ1.out;omega⟩,⟨by repeat (first | (with_reducible first | exact HB.out | apply below_alloc | apply pw_below_drewN | apply below_drew1) | exact HB.out)⟩⟩
        ·replace c8:=Bool.eq_false_iff.mpr c8
         subst c8
         have H1 : (some false) = some r:=by rw [if_neg (show ¬ (false = true) by decide)] at H;exact H
         clear H
         have H:=H1
         clear H1
         obtain rfl:=Option.some.inj H
         have p109 : 0 ≤ (x4_1 : Int):=of_decide_eq_true (by first | (with_reducible assumption) | assumption)
         have q109 : x4_1 < (l0.length : Int):=of_decide_eq_true (by first | (with_reducible assumption) | assumption)
         obtain ⟨ad109,A109_0,c109_0,e109,hx109_0,hl109_0,hi109_0⟩:=at_L4 HR0.out x4_1 p109 q109
         cases e109
         replace hx109_0:=(HB.out.cell (World.block_lt_of_cell? w _ hx109_0)).trans hx109_0
         have HR109_0:=Aside0.mk hi109_0
         have HC109_0:=Aside0.mk hl109_0
         clear hi109_0 hl109_0
         replace p109:=eq_true p109
         replace q109:=eq_true q109
         go_wp2_with (first | ((with_reducible refine gate_callee (f:=28) rfl ?_);refine goesL_ (some 19) rfl rfl Try.func28 (by kernel_rfl) rfl #[.slice A109_0 (rd_L4 l0 x4_1).length c109_0] rfl (by (try simp only [List.map_toArray,List.map_cons,List.map_nil]);first | done | rfl | (simp only [List.length_drop,List.length_take];rfl)) ?_;(with_reducible refine (thwartref03_Light.calls kj1 _ _ (rd_L4 l0 x4_1) false _ ?side1 ?side2 A7.out).mono ?_);(case side1 => repeat (first | exact (Kd.C_below HR109_0.out HB.out) | (with_reducible refine Kd.C_alloc ?_ _) | (with_reducible refine Kd.C_drewN ?_ _) | (with_reducible refine Kd.C_drew ?_)));(case side2 => exact HC109_0.out);rintro e w10 ⟨rfl,hb⟩;refine ⟨_,rfl,?_⟩;have n0_:=Aside0.mk (below_step (by repeat (first | (with_reducible first | exact HB.out | apply below_alloc | apply pw_below_drewN | apply below_drew1) | exact HB.out)) hb);clear HB;have HB:=n0_;clear n0_;(try clear hb);(try clear hb2);(try clear hk);(try clear hi)))
         go_ret
         exact ⟨by first | rfl | (simp [errW_none,errW_some] <;> rfl) | (simp [*,errW_none,errW_some] <;> rfl) | (simp [errW_none,errW_some];exact isEmpty_bne _),by repeat (first | (with_reducible first | exact HB.out | apply below_alloc | apply pw_below_drewN | apply below_drew1) | exact HB.out)⟩
       ·rw [if_neg c6] at H
        exact absurd H (by simp)
      ·rw [if_neg c5] at H
       exact absurd H (by simp)
     ·replace c4:=Bool.eq_false_iff.mpr c4
      subst c4
      have H1 : (if (l0.length : Int) ≤ 20 then (some (decide (x3_1 ≤ 60))) else (some false)) = some r:=by rw [if_neg (show ¬ (false = true) by decide)] at H;exact H
      clear H
      have H:=H1
      clear H1
      by_cases c11 : (l0.length : Int) ≤ 20
      ·rw [if_pos c11] at H
       have c11b0 : decide ((l0.length : Int) ≤ 20) = true:=decide_eq_true c11
       have c11b1 : decide (l0.length ≤ 20) = true:=decide_eq_true (by omega)
       clear c11
       obtain rfl:=Option.some.inj H
       go_wp2
       go_ret
       exact ⟨by first | rfl | (simp [errW_none,errW_some] <;> rfl) | (simp [*,errW_none,errW_some] <;> rfl) | (simp [errW_none,errW_some];exact isEmpty_bne _),by repeat (first | (with_reducible first | exact HB.out | apply below_alloc | apply pw_below_drewN | apply below_drew1) | exact HB.out)⟩
      ·rw [if_neg c11] at H
       have c11b0 : decide ((l0.length : Int) ≤ 20) = false:=decide_eq_false c11
       have c11b1 : decide (l0.length ≤ 20) = false:=decide_eq_false (by omega)
       clear c11
       obtain rfl:=Option.some.inj H
       go_wp2
       go_ret
       exact ⟨by first | rfl | (simp [errW_none,errW_some] <;> rfl) | (simp [*,errW_none,errW_some] <;> rfl) | (simp [errW_none,errW_some];exact isEmpty_bne _),by repeat (first | (with_reducible first | exact HB.out | apply below_alloc | apply pw_below_drewN | apply below_drew1) | exact HB.out)⟩

/-! ### thwartlaw15_light: function 10 -/
def thwartlaw15_light.f (k : Nat) (l0 : List (List (S36))) : Option (Bool):=(thwartref04_Light.f k l0).bind fun t112 => (some t112)
theorem thwartlaw15_light.mono : ∀ a0 k,LeO (thwartlaw15_light.f k a0) (thwartlaw15_light.f (k + 1) a0):=by
 intro a0 k
 unfold thwartlaw15_light.f
 repeat' first
   | (with_reducible exact thwartref04_Light.mono _ _)
   | (with_reducible exact LeO.refl _)
   | (with_reducible exact LeO.none _)
   | (with_reducible refine LeO.ite ?_ ?_)
   | (with_reducible refine LeO.bind ?_ (fun _ => ?_))
   | exact thwartref04_Light.mono _ _
   | exact LeO.none _
   | refine LeO.ite ?_ ?_
   | refine LeO.bind ?_ (fun _ => ?_)
set_option maxHeartbeats 8000000 in
set_option maxRecDepth 100000 in
theorem thwartlaw15_light.calls (k : Nat) (A0 : Option Addr) (c0 : Nat) (l0 : List (List (S36))) (r : Bool) (w : World) (hr0 : Kd.C (Kd.slice 36 k36) w A0 l0.length l0) (hc0 : l0.length ≤ c0) (h : thwartlaw15_light.f k l0 = some r) :
  Calls Try.prog 10 #[.slice A0 l0.length c0] w fun e w' => e = .returned (.bool r) ∧ Below w.heap.size w w' := by
 have HR0:=Aside0.mk hr0
 have HC0:=Aside0.mk hc0
 clear hr0 hc0
 have HB:=Aside0.mk (Below.refl w.heap.size w)
 have H : ((thwartref04_Light.f k l0).bind fun t112 => (some t112)) = some r:=h
 clear h
 replace H:=Option.bind_eq_some_iff.mp H
 obtain ⟨t112,A20,H⟩:=H
 replace H : (some t112) = some r:=H
 have A2:=Aside0.mk A20
 clear A20
 obtain rfl:=Option.some.inj H
 go_enter Try.func10,Try.ntmps10
 go_wp2_with (first | ((with_reducible refine gate_callee (f:=20) rfl ?_);refine goesL_ (some 4) rfl rfl Try.func20 (by kernel_rfl) rfl #[.slice A0 l0.length c0] rfl (by (try simp only [List.map_toArray,List.map_cons,List.map_nil]);first | done | rfl | (simp only [List.length_drop,List.length_take];rfl)) ?_;(with_reducible refine (thwartref04_Light.calls k _ _ l0 t112 _ ?side1 ?side2 A2.out).mono ?_);(case side1 => repeat (first | exact HR0.out | (with_reducible refine Kd.C_alloc ?_ _) | (with_reducible refine Kd.C_drewN ?_ _) | (with_reducible refine Kd.C_drew ?_)));(case side2 => exact HC0.out);rintro e w3 ⟨rfl,hb⟩;refine ⟨_,rfl,?_⟩;have n0_:=Aside0.mk (below_step (by repeat (first | (with_reducible first | exact HB.out | apply below_alloc | apply pw_below_drewN | apply below_drew1) | exact HB.out)) hb);clear HB;have HB:=n0_;clear n0_;(try clear hb);(try clear hb2);(try clear hk);(try clear hi)))
 go_ret
 exact ⟨by first | rfl | (simp [errW_none,errW_some] <;> rfl) | (simp [*,errW_none,errW_some] <;> rfl) | (simp [errW_none,errW_some];exact isEmpty_bne _),by repeat (first | (with_reducible first | exact HB.out | apply below_alloc | apply pw_below_drewN | apply below_drew1) | exact HB.out)⟩

/-! ### merge_Merge: function 15 -/
def merge_Merge.f (k : Nat) (a0 : Bool) (l1 : List (List (S36))) : Option ((List (S36))):=if a0 = true then ((merge_Newest.f k l1).bind fun t113 => (some t113)) else ((merge_Live.f k l1).bind fun t116 => (some t116))
theorem merge_Merge.mono : ∀ a0 a1 k,LeO (merge_Merge.f k a0 a1) (merge_Merge.f (k + 1) a0 a1):=by
 intro a0 a1 k
 unfold merge_Merge.f
 repeat' first
   | (with_reducible exact merge_Live.mono _ _)
   | (with_reducible exact merge_Newest.mono _ _)
   | (with_reducible exact LeO.refl _)
   | (with_reducible exact LeO.none _)
   | (with_reducible refine LeO.ite ?_ ?_)
   | (with_reducible refine LeO.bind ?_ (fun _ => ?_))
   | exact merge_Live.mono _ _
   | exact merge_Newest.mono _ _
   | exact LeO.none _
   | refine LeO.ite ?_ ?_
   | refine LeO.bind ?_ (fun _ => ?_)
set_option maxHeartbeats 8000000 in
set_option maxRecDepth 100000 in
theorem merge_Merge.calls (k : Nat) (a0 : Bool) (A1 : Option Addr) (c1 : Nat) (l1 : List (List (S36))) (r : List (S36)) (w : World) (hr1 : Kd.C (Kd.slice 36 k36) w A1 l1.length l1) (hc1 : l1.length ≤ c1) (h : merge_Merge.f k a0 l1 = some r) :
  Calls Try.prog 15 #[.bool a0,.slice A1 l1.length c1] w fun e w' => ∃ v0_ : Value,e = .returned (v0_) ∧ Kd.R k36 36 w' w.heap.size (fun _ => True) v0_ r ∧ Below w.heap.size w w' := by
 have HR1:=Aside0.mk hr1
 have HC1:=Aside0.mk hc1
 clear hr1 hc1
 have HB:=Aside0.mk (Below.refl w.heap.size w)
 have H : (if a0 = true then ((merge_Newest.f k l1).bind fun t113 => (some t113)) else ((merge_Live.f k l1).bind fun t116 => (some t116))) = some r:=h
 clear h
 by_cases c3 : a0 = true
 ·subst c3
  have H1 : ((merge_Newest.f k l1).bind fun t113 => (some t113)) = some r:=by rw [if_pos rfl] at H;exact H
  clear H
  have H:=H1
  clear H1
  replace H:=Option.bind_eq_some_iff.mp H
  obtain ⟨t113,A40,H⟩:=H
  replace H : (some t113) = some r:=H
  have A4:=Aside0.mk A40
  clear A40
  obtain rfl:=Option.some.inj H
  go_enter Try.func15,Try.ntmps15
  go_wp2_with (first | ((with_reducible refine gate_callee (f:=13) rfl ?_);refine goesL_ (some 7) rfl rfl Try.func13 (by kernel_rfl) rfl #[.slice A1 l1.length c1] rfl (by (try simp only [List.map_toArray,List.map_cons,List.map_nil]);first | done | rfl | (simp only [List.length_drop,List.length_take];rfl)) ?_;(with_reducible refine (merge_Newest.calls k _ _ l1 t113 _ ?side1 ?side2 A4.out).mono ?_);(case side1 => repeat (first | exact HR1.out | (with_reducible refine Kd.C_alloc ?_ _) | (with_reducible refine Kd.C_drewN ?_ _) | (with_reducible refine Kd.C_drew ?_)));(case side2 => exact HC1.out);rintro e w5 ⟨v114,rfl,ho0,hb⟩;refine ⟨_,rfl,?_⟩;have n0_:=Aside0.mk (Kd.R_lower ho0 (below_size (by repeat (first | (with_reducible first | exact HB.out | apply below_alloc | apply pw_below_drewN | apply below_drew1) | exact HB.out))));have n1_:=Aside0.mk (below_step (by repeat (first | (with_reducible first | exact HB.out | apply below_alloc | apply pw_below_drewN | apply below_drew1) | exact HB.out)) hb);clear HB;have HO115:=n0_;have HB:=n1_;clear n0_ n1_;(try clear hb);(try clear hb2);(try clear hk);(try clear hi);(try clear ho0)))
  go_ret
  exact ⟨_,by first | rfl | (simp [errW_none,errW_some] <;> rfl) | (simp [*,errW_none,errW_some] <;> rfl) | (simp [errW_none,errW_some];exact isEmpty_bne _),by (with_reducible repeat (first | apply Kd.R_alloc | apply Kd.R_drewN | apply Kd.R_drew));exact HO115.out,by repeat (first | (with_reducible first | exact HB.out | apply below_alloc | apply pw_below_drewN | apply below_drew1) | exact HB.out)⟩
 ·replace c3:=Bool.eq_false_iff.mpr c3
  subst c3
  have H1 : ((merge_Live.f k l1).bind fun t116 => (some t116)) = some r:=by rw [if_neg (show ¬ (false = true) by decide)] at H;exact H
  clear H
  have H:=H1
  clear H1
  replace H:=Option.bind_eq_some_iff.mp H
  obtain ⟨t116,A60,H⟩:=H
  replace H : (some t116) = some r:=H
  have A6:=Aside0.mk A60
  clear A60
  obtain rfl:=Option.some.inj H
  go_enter Try.func15,Try.ntmps15
  go_wp2_with (first | ((with_reducible refine gate_callee (f:=14) rfl ?_);refine goesL_ (some 9) rfl rfl Try.func14 (by kernel_rfl) rfl #[.slice A1 l1.length c1] rfl (by (try simp only [List.map_toArray,List.map_cons,List.map_nil]);first | done | rfl | (simp only [List.length_drop,List.length_take];rfl)) ?_;(with_reducible refine (merge_Live.calls k _ _ l1 t116 _ ?side1 ?side2 A6.out).mono ?_);(case side1 => repeat (first | exact HR1.out | (with_reducible refine Kd.C_alloc ?_ _) | (with_reducible refine Kd.C_drewN ?_ _) | (with_reducible refine Kd.C_drew ?_)));(case side2 => exact HC1.out);rintro e w7 ⟨v117,rfl,ho0,hb⟩;refine ⟨_,rfl,?_⟩;have n0_:=Aside0.mk (Kd.R_lower ho0 (below_size (by repeat (first | (with_reducible first | exact HB.out | apply below_alloc | apply pw_below_drewN | apply below_drew1) | exact HB.out))));have n1_:=Aside0.mk (below_step (by repeat (first | (with_reducible first | exact HB.out | apply below_alloc | apply pw_below_drewN | apply below_drew1) | exact HB.out)) hb);clear HB;have HO118:=n0_;have HB:=n1_;clear n0_ n1_;(try clear hb);(try clear hb2);(try clear hk);(try clear hi);(try clear ho0)))
  go_ret
  exact ⟨_,by first | rfl | (simp [errW_none,errW_some] <;> rfl) | (simp [*,errW_none,errW_some] <;> rfl) | (simp [errW_none,errW_some];exact isEmpty_bne _),by (with_reducible repeat (first | apply Kd.R_alloc | apply Kd.R_drewN | apply Kd.R_drew));exact HO118.out,by repeat (first | (with_reducible first | exact HB.out | apply below_alloc | apply pw_below_drewN | apply below_drew1) | exact HB.out)⟩

/-! ### thwartlaw15_MergeElder: function 6 -/
def thwartlaw15_MergeElder.rises (xs : List (S36)) : Bool := xs.isEmpty || (List.range (xs.length - 1)).all fun i => Op.bytesLess (rd_T36 xs (i : Int)).f1.toList (rd_T36 xs ((i + 1 : Nat) : Int)).f1.toList
def thwartlaw15_MergeElder.f (k : Nat) (l0 l1 : List (List (S36))) : Option Bool :=
  (thwartlaw15_awake.f k).bind fun up => (thwartlaw15_light.f k l1).bind fun one => (thwartlaw15_light.f k l0).bind fun two =>
  if up = true then
    if one = true ∧ two = true then
      if l0.length ≤ 20 ∧ l1.length ≤ 20 then
        (merge_Merge.f k true l1).bind fun m =>
        if thwartlaw15_MergeElder.rises m = true then
          (merge_Live.f k ([] ++ l0 ++ [m])).bind fun x1 => (merge_Live.f k ([] ++ l0 ++ l1)).bind fun x2 => (thwartref03_Same.f k x1 x2).bind fun a =>
          if a = true then some true else none
        else none
      else none
    else some true
  else none
theorem thwartlaw15_MergeElder.mono : ∀ a0 a1 k, LeO (thwartlaw15_MergeElder.f k a0 a1) (thwartlaw15_MergeElder.f (k + 1) a0 a1) := by
  intro a0 a1 k
  unfold thwartlaw15_MergeElder.f
  repeat' first
      | (with_reducible exact thwartlaw15_awake.mono _)
      | (with_reducible exact thwartlaw15_light.mono _ _)
      | (with_reducible exact merge_Merge.mono _ _ _)
      | (with_reducible exact merge_Live.mono _ _)
      | (with_reducible exact thwartref03_Same.mono _ _ _)
      | (with_reducible exact LeO.refl _)
      | (with_reducible refine LeO.ite ?_ ?_)
      | (with_reducible refine LeO.bind ?_ (fun _ => ?_))
theorem thwartlaw15_MergeElder.info : (Try.prog.info? 22).map (fun i => (i.zero, i.size, i.bytes)) = some (some (.slice none 0 0), 1, 24) := by kernel_rfl
theorem thwartlaw15_MergeElder.key {w : World} {A : Option Addr} {xs : List (S36)} (h : Kd.C k36 w A xs.length xs) (j : Nat) (hj : j < xs.length) : ∃ ad, A = some ad ∧ w.cell? ⟨(ad.add (j * 4)).block, (ad.add (j * 4)).off + 1, none⟩ = some (.string (rd_T36 xs (j : Int)).f1) := by
  obtain ⟨ad, e, x0, x1, x2, x3⟩ := at_T36 h (j : Int) (by omega) (by omega)
  exact ⟨ad, e, x1⟩
set_option maxHeartbeats 6400000 in
set_option maxRecDepth 100000 in
theorem thwartlaw15_MergeElder.calls (k : Nat) (A0 : Option Addr) (c0 : Nat) (l0 : List (List (S36))) (A1 : Option Addr) (c1 : Nat) (l1 : List (List (S36))) (r : Bool) (w : World) (hr0 : Kd.C (Kd.slice 36 k36) w A0 l0.length l0) (hc0 : l0.length ≤ c0) (hr1 : Kd.C (Kd.slice 36 k36) w A1 l1.length l1) (hc1 : l1.length ≤ c1) (h : thwartlaw15_MergeElder.f k l0 l1 = some r) :
    Calls Try.prog 6 #[.slice A0 l0.length c0, .slice A1 l1.length c1] w fun e w' => e = .returned (.bool r) ∧ Below w.heap.size w w' := by
  have R0 := Aside0.mk hr0
  have R1 := Aside0.mk hr1
  have C0 := Aside0.mk hc0
  have C1 := Aside0.mk hc1
  clear hr0 hr1 hc0 hc1
  unfold thwartlaw15_MergeElder.f at h
  replace h := Option.bind_eq_some_iff.mp h
  obtain ⟨up, HU, h⟩ := h
  replace h := Option.bind_eq_some_iff.mp h
  obtain ⟨one, HO1, h⟩ := h
  replace h := Option.bind_eq_some_iff.mp h
  obtain ⟨two, HO2, h⟩ := h
  by_cases hup : up = true
  case neg => rw [if_neg hup] at h; cases h
  rw [if_pos hup] at h
  subst hup
  have HU := Aside0.mk HU
  have HO1 := Aside0.mk HO1
  have HO2 := Aside0.mk HO2
  have H := Aside0.mk h
  clear h
  go_enter Try.func6, Try.ntmps6
  go_wp2_with fail
  refine (thwartlaw15_awake.calls k true _ HU.out).mono ?_
  rintro e w1 ⟨rfl, hb1⟩
  have B1 := Aside0.mk hb1
  clear hb1
  go_wp2_with fail
  refine (thwartlaw15_light.calls k A1 c1 l1 one _ (Kd.C_below R1.out B1.out) C1.out HO1.out).mono ?_
  rintro e w2 ⟨rfl, hb2⟩
  have B2 := Aside0.mk (B1.out.trans (hb2.mono B1.out.size))
  clear hb2 B1
  go_wp2_with fail
  refine (thwartlaw15_light.calls k A0 c0 l0 two _ (Kd.C_below R0.out B2.out) C0.out HO2.out).mono ?_
  rintro e w3 ⟨rfl, hb3⟩
  have HB := Aside0.mk (B2.out.trans (hb3.mono B2.out.size))
  clear hb3 B2
  cases hone : one with
  | false =>
    subst hone
    have h := H.out
    rw [if_neg (by simp)] at h
    cases h
    clear H
    go_wp2_with fail
    go_ret
    exact ⟨rfl, HB.out⟩
  | true =>
  subst hone
  cases htwo : two with
  | false =>
    subst htwo
    have h := H.out
    rw [if_neg (by simp)] at h
    cases h
    clear H
    go_wp2_with fail
    go_ret
    exact ⟨rfl, HB.out⟩
  | true =>
  subst htwo
  have h := H.out
  rw [if_pos ⟨rfl, rfl⟩] at h
  clear H
  by_cases hlen : l0.length ≤ 20 ∧ l1.length ≤ 20
  case neg => rw [if_neg hlen] at h; cases h
  rw [if_pos hlen] at h
  have L01 := Aside0.mk hlen
  clear hlen
  replace h := Option.bind_eq_some_iff.mp h
  obtain ⟨m, hm1, h⟩ := h
  split at h
  case isFalse => cases h
  rename_i hrise
  replace h := Option.bind_eq_some_iff.mp h
  obtain ⟨x1, hx1, h⟩ := h
  replace h := Option.bind_eq_some_iff.mp h
  obtain ⟨x2, hx2, h⟩ := h
  replace h := Option.bind_eq_some_iff.mp h
  obtain ⟨sa, hsa, h⟩ := h
  split at h
  case isFalse => cases h
  rename_i hab
  subst hab
  cases h
  have M1 := Aside0.mk hm1
  have RI := Aside0.mk hrise
  have X1 := Aside0.mk hx1
  have X2 := Aside0.mk hx2
  have SA := Aside0.mk hsa
  clear hm1 hrise hx1 hx2 hsa
  go_wp2_with (first | (at_builtin; refine Kd.R_append_rows (Thw.fixedK w k36) (w0 := w) w.heap.size rfl (.tmp 25) (.tmp 26) 24 22 (.slice none 0 0) 24 rfl Try.underlying24 thwartlaw15_MergeElder.info rfl Nat.one_pos (by omega) _ [] l0 A0 l0.length c0 (fun _ => True) (fun _ => False) rfl rfl (Thw.fixed_none w _ _ _ _ HB.out.size) (Thw.C_fixed_in R0.out (HB.out.alloc HB.out.size _)) (fun x cs h => h) (fun _ h => h.elim) (fun _ _ => trivial) (HB.out.alloc HB.out.size _) (HB.out.alloc HB.out.size _).size (by have := L01.out; simp; omega) ?_; intro v1 w5 hR hB hg hat; obtain ⟨A5, c5, rfl⟩ := Kd.R_slice hR; have R5 := Aside0.mk hR; have B5 := Aside0.mk hB; clear hR hB hg hat) | (at_builtin; refine Kd.R_append_rows (Thw.fixedK w k36) (w0 := w) w.heap.size rfl (.tmp 27) (.tmp 28) 24 22 (.slice none 0 0) 24 rfl Try.underlying24 thwartlaw15_MergeElder.info rfl Nat.one_pos (by omega) (.slice A5 ([] ++ l0).length c5) ([] ++ l0) l1 A1 l1.length c1 (fun _ => True) (fun _ => False) rfl rfl R5.out (Thw.C_fixed_in R1.out B5.out) (fun x cs h => h) (fun _ h => h.elim) (fun _ _ => trivial) B5.out B5.out.size (by have := L01.out; simp; omega) ?_; intro v1 w6 hR hB hg hat; obtain ⟨A6, c6, rfl⟩ := Kd.R_slice hR; obtain ⟨nA, hnA⟩ : ∃ n_ : Nat, ([] ++ l0 ++ l1).length = n_ := ⟨_, rfl⟩; rw [hnA] at hR ⊢; have NA := Aside0.mk hnA; clear hnA; have RA := Aside0.mk hR; have BA := Aside0.mk hB; clear hR hB hg hat R5 B5 HB))
  have DA := Aside0.mk BA.out
  refine (merge_Merge.calls k true A1 c1 l1 m _ (Kd.C_below R1.out BA.out) C1.out M1.out).mono ?_
  rintro e w7 ⟨v7, rfl, hR7, hB7⟩
  obtain ⟨Am, cm, rfl, hcm, hCm⟩ := Kd.R_reads hR7
  replace BA := Aside0.mk (BA.out.trans (hB7.mono BA.out.size))
  replace DA := Aside0.mk (DA.out.trans (hB7.mono DA.out.size))
  replace RA := Aside0.mk (Kd.R_below RA.out hB7)
  have Cm := Aside0.mk hCm
  have Hm := Aside0.mk hcm
  clear hR7 hB7 hCm hcm
  go_wp2_with (first | (at_builtin; refine Kd.R_append_rows (Thw.fixedK w7 k36) (w0 := w7) w7.heap.size rfl (.tmp 32) (.tmp 33) 24 22 (.slice none 0 0) 24 rfl Try.underlying24 thwartlaw15_MergeElder.info rfl Nat.one_pos (by omega) _ [] l0 A0 l0.length c0 (fun _ => True) (fun _ => False) rfl rfl (Thw.fixed_none w7 _ _ _ _ (Nat.le_refl _)) (Thw.C_fixed_in (Kd.C_below R0.out BA.out) (below_alloc (Below.refl _ _) _)) (fun x cs h => h) (fun _ h => h.elim) (fun _ _ => trivial) (below_alloc (Below.refl _ _) _) (below_alloc (Below.refl _ _) _).size (by have := L01.out; simp; omega) ?_; intro v1 w8 hR hB hg hat; obtain ⟨A8, c8, rfl⟩ := Kd.R_slice hR; have R8 := Aside0.mk hR; have B8 := Aside0.mk hB; clear hR hB hg hat) | (at_builtin; refine Kd.R_append (Thw.fixedK w7 k36) (w0 := w7) w7.heap.size rfl (.tmp 34) (.tmp 36) 24 22 (.slice none 0 0) 24 rfl Try.underlying24 thwartlaw15_MergeElder.info rfl Nat.one_pos (by omega) (.slice A8 ([] ++ l0).length c8) ([] ++ l0) m [.slice Am m.length cm] (fun _ => True) (fun _ => False) rfl rfl ⟨Am, cm, rfl, Hm.out, Cm.out⟩ (fun _ hk => hk.elim) (fun _ _ => trivial) R8.out B8.out B8.out.size (by have := L01.out; simp; omega) ?_; intro v1 w9 hR hB hg hat; obtain ⟨Aw, cw, rfl⟩ := Kd.R_slice hR; obtain ⟨nW, hnW⟩ : ∃ n_ : Nat, ([] ++ l0 ++ [m]).length = n_ := ⟨_, rfl⟩; rw [hnW] at hR ⊢; have NW := Aside0.mk hnW; clear hnW; have RW := Aside0.mk hR; have DW := Aside0.mk hB; clear hR hB hg hat R8 B8))
  replace BA := Aside0.mk (BA.out.trans (DW.out.mono BA.out.size))
  replace DA := Aside0.mk (DA.out.trans (DW.out.mono DA.out.size))
  replace RA := Aside0.mk (Kd.R_below RA.out DW.out)
  replace Cm := Aside0.mk (Kd.C_below Cm.out DW.out)
  have HM := Aside0.mk Cm.out.2.1
  go_loopw [11] (fun v11 wr => ∃ i : Nat, 1 ≤ i ∧ (i ≤ m.length ∨ i = 1) ∧ v11 = .int .i64 i ∧ Aside0 (Below w9.heap.size w9 wr)) (fun v11 _ => m.length - (intOf v11).toNat)
  case atStart => exact ⟨1, by omega, Or.inr rfl, rfl, ⟨Below.refl _ _⟩⟩
  case round =>
    obtain ⟨i, hi1, hi, rfl, HL⟩ := hrel
    have hmm := HM.out
    by_cases hlt : i < m.length
    · have d1 : decide ((i : Int) < (m.length : Int)) = true := decide_eq_true (by omega)
      obtain ⟨j, hij⟩ : ∃ j, i = j + 1 := ⟨i - 1, by omega⟩
      obtain ⟨ad, rfl, q0⟩ := thwartlaw15_MergeElder.key (Kd.C_below Cm.out HL.out) j (by omega)
      obtain ⟨ad', e', q1⟩ := thwartlaw15_MergeElder.key (Kd.C_below Cm.out HL.out) i hlt
      obtain rfl : ad = ad' := by injection e'
      have hless : Op.bytesLess (rd_T36 m (j : Int)).f1.toList (rd_T36 m (i : Int)).f1.toList = true := by
        have h := RI.out
        unfold thwartlaw15_MergeElder.rises at h
        rw [Bool.or_eq_true] at h
        rcases h with h | h
        · rw [List.isEmpty_iff] at h
          rw [h] at hlt
          simp at hlt
        · rw [hij]
          exact List.all_eq_true.1 h j (List.mem_range.2 (by omega))
      obtain ⟨y0, hy0⟩ : ∃ y, (rd_T36 m (j : Int)).f1 = y := ⟨_, rfl⟩
      obtain ⟨y1, hy1⟩ : ∃ y, (rd_T36 m (i : Int)).f1 = y := ⟨_, rfl⟩
      rw [hy0] at q0 hless
      rw [hy1] at q1 hless
      clear hy0 hy1 e'
      have hsub : IntKind.i64.wrap ((i : Int) - 1) = (j : Int) := by rw [i64_w]; unfold wrap64; omega
      have i0 : 0 ≤ (j : Int) := by omega
      have i1 : (j : Int) < (m.length : Int) := by omega
      have i2 : 0 ≤ (i : Int) := by omega
      have i3 : (i : Int) < (m.length : Int) := by omega
      have Q0 := Aside0.mk q0
      have Q1 := Aside0.mk q1
      have HIJ := Aside0.mk hij
      clear q0 q1 hij
      go_upto_region 12 with (fail)
      refine Thw.region_still (by kernel_rfl) (by kernel_rfl) (fun W => W.cell? ⟨(ad.add (j * 4)).block, (ad.add (j * 4)).off + 1, none⟩ = some (.string y0) ∧ W.cell? ⟨(ad.add (i * 4)).block, (ad.add (i * 4)).off + 1, none⟩ = some (.string y1) ∧ Below w9.heap.size w9 W) ⟨Q0.out, Q1.out, HL.out.drew⟩ ?_
      rintro w10 ⟨q0, q1, b10⟩
      have B10 := Aside0.mk b10
      clear b10
      repeat still_step
      refine wpStill_nil ?_
      clear q0 q1
      go_wp2_with fail
      go_roundw
      case rel => exact ⟨i + 1, by omega, Or.inl (by omega), by go_num, B10⟩
      case measure => simp [intOf]; omega
    · have d1 : decide ((i : Int) < (m.length : Int)) = false := decide_eq_false (by omega)

      have hB7 := HL.out
      replace BA := Aside0.mk (BA.out.trans (hB7.mono BA.out.size))
      replace DA := Aside0.mk (DA.out.trans (hB7.mono DA.out.size))
      replace DW := Aside0.mk (DW.out.trans (hB7.mono DW.out.size))
      replace RA := Aside0.mk (Kd.R_below RA.out hB7)
      replace RW := Aside0.mk (Kd.R_below RW.out hB7)
      clear hB7 HL
      go_wp2_with fail
      have hkey := merge_Live.calls k Aw cw ([] ++ l0 ++ [m]) x1 _ (Thw.fixed_C (Kd.R_reads' RW.out).2.2 DW.out) (by rw [NW.out]; exact (Kd.R_reads' RW.out).2.1) X1.out
      rw [NW.out] at hkey
      refine hkey.mono ?_
      clear hkey
      rintro e w11 ⟨v7, rfl, hR7, hB7⟩
      obtain ⟨Ax1, cx1, rfl, hcx1, hCx1⟩ := Kd.R_reads hR7
      replace BA := Aside0.mk (BA.out.trans (hB7.mono BA.out.size))
      replace DA := Aside0.mk (DA.out.trans (hB7.mono DA.out.size))
      replace DW := Aside0.mk (DW.out.trans (hB7.mono DW.out.size))
      replace RA := Aside0.mk (Kd.R_below RA.out hB7)
      have Cx1 := Aside0.mk hCx1
      have Hx1 := Aside0.mk hcx1
      clear hR7 hB7 hCx1 hcx1
      go_wp2_with fail
      have hkey := merge_Live.calls k A6 c6 ([] ++ l0 ++ l1) x2 _ (Thw.fixed_C (Kd.R_reads' RA.out).2.2 DA.out) (by rw [NA.out]; exact (Kd.R_reads' RA.out).2.1) X2.out
      rw [NA.out] at hkey
      refine hkey.mono ?_
      clear hkey
      rintro e w12 ⟨v7, rfl, hR7, hB7⟩
      obtain ⟨Ax2, cx2, rfl, hcx2, hCx2⟩ := Kd.R_reads hR7
      replace BA := Aside0.mk (BA.out.trans (hB7.mono BA.out.size))
      replace DA := Aside0.mk (DA.out.trans (hB7.mono DA.out.size))
      replace DW := Aside0.mk (DW.out.trans (hB7.mono DW.out.size))
      replace Cx1 := Aside0.mk (Kd.C_below Cx1.out hB7)
      have Cx2 := Aside0.mk hCx2
      have Hx2 := Aside0.mk hcx2
      clear hR7 hB7 hCx2 hcx2
      go_wp2_with fail
      refine (thwartref03_Same.calls k Ax1 cx1 x1 Ax2 cx2 x2 true _ Cx1.out Hx1.out Cx2.out Hx2.out SA.out).mono ?_
      rintro e w13 ⟨rfl, hd7⟩
      have hB7 := hd7.below
      replace BA := Aside0.mk (BA.out.trans (hB7.mono BA.out.size))
      replace DA := Aside0.mk (DA.out.trans (hB7.mono DA.out.size))
      replace DW := Aside0.mk (DW.out.trans (hB7.mono DW.out.size))
      clear hd7 hB7
      go_wp2_with fail
      go_ret
      exact ⟨rfl, BA.out⟩

/-- THE ONE PURE STATEMENT of thwartlaw15_MergeElder: yours. -/
def thwartlaw15_MergeElder.Pure : Prop := ∀ (l0 : List (List (S36))) (l1 : List (List (S36))), l0.length * 24 ≤ 140737488351232 → (l0.length ≤ 9223372036854775807 ∧ ∀ e119 ∈ l0, (e119.length ≤ 9223372036854775807 ∧ ∀ e120 ∈ e119, ((Lit.int .u64 e120.f0).wf = true ∧ e120.f1.size ≤ 9223372036854775807 ∧ e120.f2.size ≤ 9223372036854775807 ∧ True))) → l1.length * 24 ≤ 140737488351232 → (l1.length ≤ 9223372036854775807 ∧ ∀ e121 ∈ l1, (e121.length ≤ 9223372036854775807 ∧ ∀ e122 ∈ e121, ((Lit.int .u64 e122.f0).wf = true ∧ e122.f1.size ≤ 9223372036854775807 ∧ e122.f2.size ≤ 9223372036854775807 ∧ True))) → ∃ k, thwartlaw15_MergeElder.f k l0 l1 = some true
theorem thwartlaw15_MergeElder.walk (P : thwartlaw15_MergeElder.Pure) (A0 : Option Addr) (n0 c0 : Nat) (l0 : List (List (S36))) (A1 : Option Addr) (n1 c1 : Nat) (l1 : List (List (S36))) (w : World) (K0 : (Kd.slice 22 (Kd.slice 36 k36)).K w l0 [.slice A0 n0 c0]) (y0 : n0 * 24 ≤ 140737488351232) (G0 : (l0.length ≤ 9223372036854775807 ∧ ∀ e119 ∈ l0, (e119.length ≤ 9223372036854775807 ∧ ∀ e120 ∈ e119, ((Lit.int .u64 e120.f0).wf = true ∧ e120.f1.size ≤ 9223372036854775807 ∧ e120.f2.size ≤ 9223372036854775807 ∧ True)))) (K1 : (Kd.slice 22 (Kd.slice 36 k36)).K w l1 [.slice A1 n1 c1]) (y1 : n1 * 24 ≤ 140737488351232) (G1 : (l1.length ≤ 9223372036854775807 ∧ ∀ e121 ∈ l1, (e121.length ≤ 9223372036854775807 ∧ ∀ e122 ∈ e121, ((Lit.int .u64 e122.f0).wf = true ∧ e122.f1.size ≤ 9223372036854775807 ∧ e122.f2.size ≤ 9223372036854775807 ∧ True)))) :
    Calls Try.prog 6 #[.slice A0 n0 c0, .slice A1 n1 c1] w fun e w' => e = .returned (.bool true) ∧ Below w.heap.size w w' := by
  obtain ⟨A0_, c0_, e0, hc0, hr0⟩ := K0
  simp only [List.cons.injEq, Value.slice.injEq, and_true] at e0
  obtain ⟨rfl, rfl, rfl⟩ := e0
  obtain ⟨A1_, c1_, e1, hc1, hr1⟩ := K1
  simp only [List.cons.injEq, Value.slice.injEq, and_true] at e1
  obtain ⟨rfl, rfl, rfl⟩ := e1
  obtain ⟨k, h⟩ := P l0 l1 y0 G0 y1 G1
  refine (thwartlaw15_MergeElder.calls k _ _ l0 _ _ l1 true w hr0 hc0 hr1 hc1 h).mono ?_
  rintro e w' ⟨rfl, hd⟩
  exact ⟨rfl, hd⟩

end Go.Proofs.Ytlfhnpecfkhcpaa.Print
