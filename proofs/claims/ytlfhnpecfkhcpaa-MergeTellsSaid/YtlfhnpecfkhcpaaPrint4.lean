/- Written by a program of mine (give.py, over the kit's print) out of the translation: contracts of the Go functions. Lean checks it. -/
import Derived.Test.YtlfhnpecfkhcpaaPrint0
import Derived.Test.YtlfhnpecfkhcpaaPrint3
namespace Go.Proofs.Ytlfhnpecfkhcpaa.Print
open Go.RowKit Go.Proofs.YtlfhnpecfkhcpaaW.PrintWords Go.Proofs.YtlfhnpecfkhcpaaW.PrintLast Go.Proofs.YtlfhnpecfkhcpaaW.PrintMore
attribute [local go_sem] max2_int min2_int max_two min_two max_three min_three max_four min_four   -- for this text's walks alone
set_option linter.unusedVariables false
set_option linter.unusedSimpArgs false

/-! ### thwartref04_Light: function 20 -/
mutual
def thwartref04_Light.l0 : Nat → List (List (S36)) → Int → Int → Option (Bool)
 | 0,_,_,_ => none
 | k + 1,x0,x3,x4 => if x4 < (x0.length : Int) then (thwartref04_Light.j1 k x0 x3 x4 (decide (x4 < 30))) else (thwartref04_Light.j1 k x0 x3 x4 false)
def thwartref04_Light.j1 : Nat → List (List (S36)) → Int → Int → Bool → Option (Bool)
 | 0,_,_,_,_ => none
 | k + 1,x0,x3,x4,x12 => if x12 = true then (if 0 ≤ x4 then (if x4 < (x0.length : Int) then ((thwartref03_Light.f k (rd_L4 x0 x4)).bind fun t110 => (if t110 = true then (thwartref04_Light.l0 k x0 (wrap64 (x3 + ((rd_L4 x0 x4).length : Int))) (wrap64 (x4 + 1))) else (some false))) else (none)) else (none)) else (if (x0.length : Int) ≤ 20 then (some (decide (x3 ≤ 60))) else (some false))
end
def thwartref04_Light.f (k : Nat) (l0 : List (List (S36))) : Option (Bool):=thwartref04_Light.l0 k l0 0 0
theorem thwartref04_Light.mono_l : ∀ k,(∀ y0 y1 y2,LeO (thwartref04_Light.l0 k y0 y1 y2) (thwartref04_Light.l0 (k + 1) y0 y1 y2)) ∧ (∀ y0 y1 y2 y3,LeO (thwartref04_Light.j1 k y0 y1 y2 y3) (thwartref04_Light.j1 (k + 1) y0 y1 y2 y3))
 | 0 => ⟨fun _ _ _ r h => by simp [thwartref04_Light.l0] at h,fun _ _ _ _ r h => by simp [thwartref04_Light.j1] at h⟩
 | k + 1 => by
  obtain ⟨ih0,ih1⟩:=thwartref04_Light.mono_l k
  refine ⟨?_,?_⟩
  ·intro y0 y1 y2
   unfold thwartref04_Light.l0
   repeat' first
   | (with_reducible exact ih0 _ _ _)
   | (with_reducible exact ih1 _ _ _ _)
   | (with_reducible exact thwartref03_Light.mono _ _)
   | (with_reducible exact LeO.refl _)
   | (with_reducible exact LeO.none _)
   | (with_reducible refine LeO.ite ?_ ?_)
   | (with_reducible refine LeO.bind ?_ (fun _ => ?_))
   | exact ih0 _ _ _
   | exact ih1 _ _ _ _
   | exact thwartref03_Light.mono _ _
   | exact LeO.none _
   | refine LeO.ite ?_ ?_
   | refine LeO.bind ?_ (fun _ => ?_)
  ·intro y0 y1 y2 y3
   unfold thwartref04_Light.j1
   repeat' first
   | (with_reducible exact ih0 _ _ _)
   | (with_reducible exact ih1 _ _ _ _)
   | (with_reducible exact thwartref03_Light.mono _ _)
   | (with_reducible exact LeO.refl _)
   | (with_reducible exact LeO.none _)
   | (with_reducible refine LeO.ite ?_ ?_)
   | (with_reducible refine LeO.bind ?_ (fun _ => ?_))
   | exact ih0 _ _ _
   | exact ih1 _ _ _ _
   | exact thwartref03_Light.mono _ _
   | exact LeO.none _
   | refine LeO.ite ?_ ?_
   | refine LeO.bind ?_ (fun _ => ?_)
theorem thwartref04_Light.mono : ∀ a0 k,LeO (thwartref04_Light.f k a0) (thwartref04_Light.f (k + 1) a0):=by
 intro a0 k
 obtain ⟨ih0,ih1⟩:=thwartref04_Light.mono_l k
 unfold thwartref04_Light.f
 repeat' first
   | (with_reducible exact ih0 _ _ _)
   | (with_reducible exact ih1 _ _ _ _)
   | (with_reducible exact thwartref03_Light.mono _ _)
   | (with_reducible exact LeO.refl _)
   | (with_reducible exact LeO.none _)
   | (with_reducible refine LeO.ite ?_ ?_)
   | (with_reducible refine LeO.bind ?_ (fun _ => ?_))
   | exact ih0 _ _ _
   | exact ih1 _ _ _ _
   | exact thwartref03_Light.mono _ _
   | exact LeO.none _
   | refine LeO.ite ?_ ?_
   | refine LeO.bind ?_ (fun _ => ?_)
set_option maxHeartbeats 8000000 in
set_option maxRecDepth 100000 in
theorem thwartref04_Light.calls (k : Nat) (A0 : Option Addr) (c0 : Nat) (l0 : List (List (S36))) (r : Bool) (w : World) (hr0 : Kd.C (Kd.slice 36 k36) w A0 l0.length l0) (hc0 : l0.length ≤ c0) (h : thwartref04_Light.f k l0 = some r) :
  Calls Try.prog 20 #[.slice A0 l0.length c0] w fun e w' => e = .returned (.bool r) ∧ Below w.heap.size w w' := by
 have HR0:=Aside0.mk hr0
 have HC0:=Aside0.mk hc0
 clear hr0 hc0
 have HB:=Aside0.mk (Below.refl w.heap.size w)
 have H : (thwartref04_Light.l0 k l0 0 0) = some r:=h
 clear h
 have H' := Aside0.mk H
 clear H
 go_enter Try.func20,Try.ntmps20
 go_wp2
 go_loopg [3,4] k (fun kq v3 v4 w' => ∃ (x3_1 : Int) (x4_1 : Int),v3 = .int .i64 x3_1 ∧ v4 = .int .i64 x4_1 ∧ Aside0 (thwartref04_Light.l0 kq l0 x3_1 x4_1 = some r) ∧ Aside0 (kq ≤ k) ∧ Aside0 (Below w.heap.size w w'))
 case atStart => exact ⟨(0),(0),(by first | rfl | (simp;done) | (simp [*];done)),(by first | rfl | (simp;done) | (simp [*];done)),H',⟨Nat.le_refl _⟩,⟨by repeat (first | (with_reducible first | exact HB.out | apply below_alloc | apply pw_below_drewN | apply below_drew1) | exact HB.out)⟩⟩
 case round =>
  clear H'
  obtain ⟨x3_1,x4_1,rfl,rfl,HA,HK1,HB⟩:=hrel
  cases gk with
  | zero => exact absurd HA.out (by simp [thwartref04_Light.l0])
  | succ k1 =>
   have H:=HA.out
   clear HA
   simp only [thwartref04_Light.l0] at H
   have HC2:=Aside0.mk H
   clear H
   go_upto_region 3 with (fail)
   go_cut [12] (fun v12 wc => ∃ (kq : Nat) (x12_1 : Bool),v12 = .bool x12_1 ∧ Aside0 (thwartref04_Light.j1 kq l0 x3_1 x4_1 x12_1 = some r) ∧ Aside0 (kq ≤ k1) ∧ Aside0 (Below w.heap.size w wc))
   case first =>
    have H:=HC2.out
    clear HC2
    by_cases c3 : x4_1 < (l0.length : Int)
    ·rw [if_pos c3] at H
     have c3b0 : decide (x4_1 < (l0.length : Int)) = true:=decide_eq_true c3
     clear c3
     (first | rw [c3b0] | (simp only [i64_w,i32_w];rw [c3b0]) | skip)
     have H' := Aside0.mk H
     clear H
     go_wp2
     go_meet
     case rel => exact ⟨_,(decide (x4_1 < 30)),(by first | rfl | (simp;done) | (simp [*];done)),H',⟨by have:=HK1.out;first | omega | exact Nat.le_refl _⟩,⟨by repeat (first | (with_reducible first | exact HB.out | apply below_alloc | apply pw_below_drewN | apply below_drew1) | exact HB.out)⟩⟩
    ·rw [if_neg c3] at H
     have c3b0 : decide (x4_1 < (l0.length : Int)) = false:=decide_eq_false c3
     clear c3
     (first | rw [c3b0] | (simp only [i64_w,i32_w];rw [c3b0]) | skip)
     have H' := Aside0.mk H
     clear H
     go_wp2
     go_meet
     case rel => exact ⟨_,(false),(by first | rfl | (simp;done) | (simp [*];done)),H',⟨by have:=HK1.out;first | omega | exact Nat.le_refl _⟩,⟨by repeat (first | (with_reducible first | exact HB.out | apply below_alloc | apply pw_below_drewN | apply below_drew1) | exact HB.out)⟩⟩
   case rest =>
    clear HC2
    try clear c2
    try clear p2
    try clear c3
    try clear c3b0
    obtain ⟨kq,x12_1,rfl,HA,HJ1,HB⟩:=hcut
    cases kq with
    | zero => exact absurd HA.out (by simp [thwartref04_Light.j1])
    | succ kj1 =>
     have H:=HA.out
     clear HA
     simp only [thwartref04_Light.j1] at H
     by_cases c4 : x12_1 = true
     ·subst c4
      have H1 : (if 0 ≤ x4_1 then (if x4_1 < (l0.length : Int) then ((thwartref03_Light.f kj1 (rd_L4 l0 x4_1)).bind fun t110 => (if t110 = true then (thwartref04_Light.l0 kj1 l0 (wrap64 (x3_1 + ((rd_L4 l0 x4_1).length : Int))) (wrap64 (x4_1 + 1))) else (some false))) else (none)) else (none)) = some r:=by rw [if_pos rfl] at H;exact H
      clear H
      have H:=H1
      clear H1
      by_cases c5 : 0 ≤ x4_1
      ·rw [if_pos c5] at H
       have c5b0 : decide (0 ≤ x4_1) = true:=decide_eq_true c5
       clear c5
       by_cases c6 : x4_1 < (l0.length : Int)
       ·rw [if_pos c6] at H
        have c6b0 : decide (x4_1 < (l0.length : Int)) = true:=decide_eq_true c6
        clear c6
        replace H:=Option.bind_eq_some_iff.mp H
        obtain ⟨t110,A70,H⟩:=H
        replace H : (if t110 = true then (thwartref04_Light.l0 kj1 l0 (wrap64 (x3_1 + ((rd_L4 l0 x4_1).length : Int))) (wrap64 (x4_1 + 1))) else (some false)) = some r:=H
        have A7:=Aside0.mk A70
        clear A70
        by_cases c8 : t110 = true
        ·subst c8
         have H1 : (thwartref04_Light.l0 kj1 l0 (wrap64 (x3_1 + ((rd_L4 l0 x4_1).length : Int))) (wrap64 (x4_1 + 1))) = some r:=by rw [if_pos rfl] at H;exact H
         clear H
         have H:=H1
         clear H1
         have H' := Aside0.mk H
         clear H
         have p109 : 0 ≤ (x4_1 : Int):=of_decide_eq_true (by first | (with_reducible assumption) | assumption)
         have q109 : x4_1 < (l0.length : Int):=of_decide_eq_true (by first | (with_reducible assumption) | assumption)
         obtain ⟨ad109,A109_0,c109_0,e109,hx109_0,hl109_0,hi109_0⟩:=at_L4 HR0.out x4_1 p109 q109
         cases e109
         replace hx109_0:=(HB.out.cell (World.block_lt_of_cell? w _ hx109_0)).trans hx109_0
         have HR109_0:=Aside0.mk hi109_0
         have HC109_0:=Aside0.mk hl109_0
         clear hi109_0 hl109_0
         replace p109:=eq_true p109
         replace q109:=eq_true q109
         go_wp2_with (first | ((with_reducible refine gate_callee (f:=28) rfl ?_);refine goesL_ (some 19) rfl rfl Try.func28 (by kernel_rfl) rfl #[.slice A109_0 (rd_L4 l0 x4_1).length c109_0] rfl (by (try simp only [List.map_toArray,List.map_cons,List.map_nil]);first | done | rfl | (simp only [List.length_drop,List.length_take];rfl)) ?_;(with_reducible refine (thwartref03_Light.calls kj1 _ _ (rd_L4 l0 x4_1) true _ ?side1 ?side2 A7.out).mono ?_);(case side1 => repeat (first | exact (Kd.C_below HR109_0.out HB.out) | (with_reducible refine Kd.C_alloc ?_ _) | (with_reducible refine Kd.C_drewN ?_ _) | (with_reducible refine Kd.C_drew ?_)));(case side2 => exact HC109_0.out);rintro e w9 ⟨rfl,hb⟩;refine ⟨_,rfl,?_⟩;have n0_:=Aside0.mk (below_step (by repeat (first | (with_reducible first | exact HB.out | apply below_alloc | apply pw_below_drewN | apply below_drew1) | exact HB.out)) hb);clear HB;have HB:=n0_;clear n0_;(try clear hb);(try clear hb2);(try clear hk);(try clear hi);have p111 : 0 ≤ (x4_1 : Int):=of_decide_eq_true (by first | (with_reducible assumption) | assumption);have q111 : x4_1 < (l0.length : Int):=of_decide_eq_true (by first | (with_reducible assumption) | assumption);obtain ⟨ad111,A111_0,c111_0,e111,hx111_0,hl111_0,hi111_0⟩:=at_L4 HR0.out x4_1 p111 q111;obtain rfl : ad109 = ad111:=(by injection e111);replace hx111_0:=(HB.out.cell (World.block_lt_of_cell? w _ hx111_0)).trans hx111_0;have HR111_0:=Aside0.mk hi111_0;have HC111_0:=Aside0.mk hl111_0;clear hi111_0 hl111_0;replace p111:=eq_true p111;replace q111:=eq_true q111))
         go_roundg kj1
         case measure => have:=HK1.out;have:=HJ1.out;omega
         case rel => exact ⟨(wrap64 (x3_1 + ((rd_L4 l0 x4_1).length : Int))),(wrap64 (x4_1 + 1)),(by first | rfl | (simp;done) | (simp [*];done)),(by first | rfl | (simp;done) | (simp [*];done)),H',⟨by have:=HK1.out;have:=HJ1.out;omega⟩,⟨by repeat (first | (with_reducible first | exact HB.out | apply below_alloc | apply pw_below_drewN | apply below_drew1) | exact HB.out)⟩⟩
        ·replace c8:=Bool.eq_false_iff.mpr c8
         subst c8
         have H1 : (some false) = some r:=by rw [if_neg (show ¬ (false = true) by decide)] at H;exact H
         clear H
         have H:=H1
         clear H1
         obtain rfl:=Option.some.inj H
         have p109 : 0 ≤ (x4_1 : Int):=of_decide_eq_true (by first | (with_reducible assumption) | assumption)
         have q109 : x4_1 < (l0.length : Int):=of_decide_eq_true (by first | (with_reducible assumption) | assumption)
         obtain ⟨ad109,A109_0,c109_0,e109,hx109_0,hl109_0,hi109_0⟩:=at_L4 HR0.out x4_1 p109 q109
         cases e109
         replace hx109_0:=(HB.out.cell (World.block_lt_of_cell? w _ hx109_0)).trans hx109_0
         have HR109_0:=Aside0.mk hi109_0
         have HC109_0:=Aside0.mk hl109_0
         clear hi109_0 hl109_0
         replace p109:=eq_true p109
         replace q109:=eq_true q109
         go_wp2_with (first | ((with_reducible refine gate_callee (f:=28) rfl ?_);refine goesL_ (some 19) rfl rfl Try.func28 (by kernel_rfl) rfl #[.slice A109_0 (rd_L4 l0 x4_1).length c109_0] rfl (by (try simp only [List.map_toArray,List.map_cons,List.map_nil]);first | done | rfl | (simp only [List.length_drop,List.length_take];rfl)) ?_;(with_reducible refine (thwartref03_Light.calls kj1 _ _ (rd_L4 l0 x4_1) false _ ?side1 ?side2 A7.out).mono ?_);(case side1 => repeat (first | exact (Kd.C_below HR109_0.out HB.out) | (with_reducible refine Kd.C_alloc ?_ _) | (with_reducible refine Kd.C_drewN ?_ _) | (with_reducible refine Kd.C_drew ?_)));(case side2 => exact HC109_0.out);rintro e w10 ⟨rfl,hb⟩;refine ⟨_,rfl,?_⟩;have n0_:=Aside0.mk (below_step (by repeat (first | (with_reducible first | exact HB.out | apply below_alloc | apply pw_below_drewN | apply below_drew1) | exact HB.out)) hb);clear HB;have HB:=n0_;clear n0_;(try clear hb);(try clear hb2);(try clear hk);(try clear hi)))
         go_ret
         exact ⟨by first | rfl | (simp [errW_none,errW_some] <;> rfl) | (simp [*,errW_none,errW_some] <;> rfl) | (simp [errW_none,errW_some];exact isEmpty_bne _),by repeat (first | (with_reducible first | exact HB.out | apply below_alloc | apply pw_below_drewN | apply below_drew1) | exact HB.out)⟩
       ·rw [if_neg c6] at H
        exact absurd H (by simp)
      ·rw [if_neg c5] at H
       exact absurd H (by simp)
     ·replace c4:=Bool.eq_false_iff.mpr c4
      subst c4
      have H1 : (if (l0.length : Int) ≤ 20 then (some (decide (x3_1 ≤ 60))) else (some false)) = some r:=by rw [if_neg (show ¬ (false = true) by decide)] at H;exact H
      clear H
      have H:=H1
      clear H1
      by_cases c11 : (l0.length : Int) ≤ 20
      ·rw [if_pos c11] at H
       have c11b0 : decide ((l0.length : Int) ≤ 20) = true:=decide_eq_true c11
       have c11b1 : decide (l0.length ≤ 20) = true:=decide_eq_true (by omega)
       clear c11
       obtain rfl:=Option.some.inj H
       go_wp2
       go_ret
       exact ⟨by first | rfl | (simp [errW_none,errW_some] <;> rfl) | (simp [*,errW_none,errW_some] <;> rfl) | (simp [errW_none,errW_some];exact isEmpty_bne _),by repeat (first | (with_reducible first | exact HB.out | apply below_alloc | apply pw_below_drewN | apply below_drew1) | exact HB.out)⟩
      ·rw [if_neg c11] at H
       have c11b0 : decide ((l0.length : Int) ≤ 20) = false:=decide_eq_false c11
       have c11b1 : decide (l0.length ≤ 20) = false:=decide_eq_false (by omega)
       clear c11
       obtain rfl:=Option.some.inj H
       go_wp2
       go_ret
       exact ⟨by first | rfl | (simp [errW_none,errW_some] <;> rfl) | (simp [*,errW_none,errW_some] <;> rfl) | (simp [errW_none,errW_some];exact isEmpty_bne _),by repeat (first | (with_reducible first | exact HB.out | apply below_alloc | apply pw_below_drewN | apply below_drew1) | exact HB.out)⟩

/-! ### thwartlaw15_light: function 10 -/
def thwartlaw15_light.f (k : Nat) (l0 : List (List (S36))) : Option (Bool):=(thwartref04_Light.f k l0).bind fun t112 => (some t112)
theorem thwartlaw15_light.mono : ∀ a0 k,LeO (thwartlaw15_light.f k a0) (thwartlaw15_light.f (k + 1) a0):=by
 intro a0 k
 unfold thwartlaw15_light.f
 repeat' first
   | (with_reducible exact thwartref04_Light.mono _ _)
   | (with_reducible exact LeO.refl _)
   | (with_reducible exact LeO.none _)
   | (with_reducible refine LeO.ite ?_ ?_)
   | (with_reducible refine LeO.bind ?_ (fun _ => ?_))
   | exact thwartref04_Light.mono _ _
   | exact LeO.none _
   | refine LeO.ite ?_ ?_
   | refine LeO.bind ?_ (fun _ => ?_)
set_option maxHeartbeats 8000000 in
set_option maxRecDepth 100000 in
theorem thwartlaw15_light.calls (k : Nat) (A0 : Option Addr) (c0 : Nat) (l0 : List (List (S36))) (r : Bool) (w : World) (hr0 : Kd.C (Kd.slice 36 k36) w A0 l0.length l0) (hc0 : l0.length ≤ c0) (h : thwartlaw15_light.f k l0 = some r) :
  Calls Try.prog 10 #[.slice A0 l0.length c0] w fun e w' => e = .returned (.bool r) ∧ Below w.heap.size w w' := by
 have HR0:=Aside0.mk hr0
 have HC0:=Aside0.mk hc0
 clear hr0 hc0
 have HB:=Aside0.mk (Below.refl w.heap.size w)
 have H : ((thwartref04_Light.f k l0).bind fun t112 => (some t112)) = some r:=h
 clear h
 replace H:=Option.bind_eq_some_iff.mp H
 obtain ⟨t112,A20,H⟩:=H
 replace H : (some t112) = some r:=H
 have A2:=Aside0.mk A20
 clear A20
 obtain rfl:=Option.some.inj H
 go_enter Try.func10,Try.ntmps10
 go_wp2_with (first | ((with_reducible refine gate_callee (f:=20) rfl ?_);refine goesL_ (some 4) rfl rfl Try.func20 (by kernel_rfl) rfl #[.slice A0 l0.length c0] rfl (by (try simp only [List.map_toArray,List.map_cons,List.map_nil]);first | done | rfl | (simp only [List.length_drop,List.length_take];rfl)) ?_;(with_reducible refine (thwartref04_Light.calls k _ _ l0 t112 _ ?side1 ?side2 A2.out).mono ?_);(case side1 => repeat (first | exact HR0.out | (with_reducible refine Kd.C_alloc ?_ _) | (with_reducible refine Kd.C_drewN ?_ _) | (with_reducible refine Kd.C_drew ?_)));(case side2 => exact HC0.out);rintro e w3 ⟨rfl,hb⟩;refine ⟨_,rfl,?_⟩;have n0_:=Aside0.mk (below_step (by repeat (first | (with_reducible first | exact HB.out | apply below_alloc | apply pw_below_drewN | apply below_drew1) | exact HB.out)) hb);clear HB;have HB:=n0_;clear n0_;(try clear hb);(try clear hb2);(try clear hk);(try clear hi)))
 go_ret
 exact ⟨by first | rfl | (simp [errW_none,errW_some] <;> rfl) | (simp [*,errW_none,errW_some] <;> rfl) | (simp [errW_none,errW_some];exact isEmpty_bne _),by repeat (first | (with_reducible first | exact HB.out | apply below_alloc | apply pw_below_drewN | apply below_drew1) | exact HB.out)⟩

end Go.Proofs.Ytlfhnpecfkhcpaa.Print
