/- Written by a program of mine (give.py, over the kit's print) out of the translation: contracts of the Go functions. Lean checks it. -/
import Derived.Test.YtnhmhdconmollaaPrint0
import Derived.Test.YtnhmhdconmollaaPrint2
import Derived.Test.YtnhmhdconmollaaPrint3
import Derived.Test.YtnhmhdconmollaaPrint5
import Derived.Test.YtnhmhdconmollaaPrint7
import Derived.Test.YtnhmhdconmollaaPrint8
namespace Go.Proofs.Ytnhmhdconmollaa.Print
open Go.RowKit Go.Proofs.YtnhmhdconmollaaW.PrintWords Go.Proofs.YtnhmhdconmollaaW.PrintLast Go.Proofs.YtnhmhdconmollaaW.PrintMore
attribute [local go_sem] max2_int min2_int max_two min_two max_three min_three max_four min_four   -- for this text's walks alone
set_option linter.unusedVariables false
set_option linter.unusedSimpArgs false

/-! ### thwartlaw04_FrameTakes: function 7 -/
def thwartlaw04_FrameTakes.j0 : Nat → List (S24) → ByteArray → Bool → Bool → Option (Bool)
 | 0,_,_,_,_ => none
 | k + 1,x0,x1,x5,x32 => if x32 = true then (some x5) else ((frame_Bytes.f k x0).bind fun bt249 => ((thwartref04_Bytes.f k x0).bind fun bt251 => ((frame_Take.f k x1).bind fun bt253 => ((thwartref04_Take.f k x1).bind fun bt258 => ((frame_Scan.f k x1).bind fun bt263 => ((thwartref04_Scan.f k x1).bind fun bt267 => ((thwartref03_Same.f k bt253.1 bt258.1).bind fun t271 => ((thwartref04_Same.f k bt263.1 bt267.1).bind fun t272 => (if x5 = true then (if bt249.1.toList = bt251.1.toList then (if bt249.2 = bt251.2 then (if t271 = true then (if bt253.2.1 = bt258.2.1 then (if bt253.2.2 = bt258.2.2 then (if t272 = true then (some (bt263.2 == bt267.2)) else (none)) else (none)) else (none)) else (none)) else (none)) else (none)) else (none))))))))))
def thwartlaw04_FrameTakes.f (k : Nat) (l0 : List (S24)) (a1 : ByteArray) : Option (Bool):=(thwartlaw04_awake.f k).bind fun t247 => ((thwartref03_Light.f k l0).bind fun t248 => (if t248 = true then (thwartlaw04_FrameTakes.j0 k l0 a1 t247 (decide ((a1.size : Int) > 4000))) else (thwartlaw04_FrameTakes.j0 k l0 a1 t247 true)))
theorem thwartlaw04_FrameTakes.mono_l : ∀ k,(∀ y0 y1 y2 y3,LeO (thwartlaw04_FrameTakes.j0 k y0 y1 y2 y3) (thwartlaw04_FrameTakes.j0 (k + 1) y0 y1 y2 y3))
 | 0 => fun _ _ _ _ r h => by simp [thwartlaw04_FrameTakes.j0] at h
 | k + 1 => by
  have ih0:=thwartlaw04_FrameTakes.mono_l k
  ·intro y0 y1 y2 y3
   unfold thwartlaw04_FrameTakes.j0
   repeat' first
   | (with_reducible exact ih0 _ _ _ _)
   | (with_reducible exact frame_Bytes.mono _ _)
   | (with_reducible exact frame_Scan.mono _ _)
   | (with_reducible exact frame_Take.mono _ _)
   | (with_reducible exact thwartlaw04_awake.mono _)
   | (with_reducible exact thwartref03_Light.mono _ _)
   | (with_reducible exact thwartref03_Same.mono _ _ _)
   | (with_reducible exact thwartref04_Bytes.mono _ _)
   | (with_reducible exact thwartref04_Same.mono _ _ _)
   | (with_reducible exact thwartref04_Scan.mono _ _)
   | (with_reducible exact thwartref04_Take.mono _ _)
   | (with_reducible exact LeO.refl _)
   | (with_reducible exact LeO.none _)
   | (with_reducible refine LeO.ite ?_ ?_)
   | (with_reducible refine LeO.bind ?_ (fun _ => ?_))
   | exact ih0 _ _ _ _
   | exact frame_Bytes.mono _ _
   | exact frame_Scan.mono _ _
   | exact frame_Take.mono _ _
   | exact thwartlaw04_awake.mono _
   | exact thwartref03_Light.mono _ _
   | exact thwartref03_Same.mono _ _ _
   | exact thwartref04_Bytes.mono _ _
   | exact thwartref04_Same.mono _ _ _
   | exact thwartref04_Scan.mono _ _
   | exact thwartref04_Take.mono _ _
   | exact LeO.none _
   | refine LeO.ite ?_ ?_
   | refine LeO.bind ?_ (fun _ => ?_)
theorem thwartlaw04_FrameTakes.mono : ∀ a0 a1 k,LeO (thwartlaw04_FrameTakes.f k a0 a1) (thwartlaw04_FrameTakes.f (k + 1) a0 a1):=by
 intro a0 a1 k
 have ih0:=thwartlaw04_FrameTakes.mono_l k
 unfold thwartlaw04_FrameTakes.f
 repeat' first
   | (with_reducible exact ih0 _ _ _ _)
   | (with_reducible exact frame_Bytes.mono _ _)
   | (with_reducible exact frame_Scan.mono _ _)
   | (with_reducible exact frame_Take.mono _ _)
   | (with_reducible exact thwartlaw04_awake.mono _)
   | (with_reducible exact thwartref03_Light.mono _ _)
   | (with_reducible exact thwartref03_Same.mono _ _ _)
   | (with_reducible exact thwartref04_Bytes.mono _ _)
   | (with_reducible exact thwartref04_Same.mono _ _ _)
   | (with_reducible exact thwartref04_Scan.mono _ _)
   | (with_reducible exact thwartref04_Take.mono _ _)
   | (with_reducible exact LeO.refl _)
   | (with_reducible exact LeO.none _)
   | (with_reducible refine LeO.ite ?_ ?_)
   | (with_reducible refine LeO.bind ?_ (fun _ => ?_))
   | exact ih0 _ _ _ _
   | exact frame_Bytes.mono _ _
   | exact frame_Scan.mono _ _
   | exact frame_Take.mono _ _
   | exact thwartlaw04_awake.mono _
   | exact thwartref03_Light.mono _ _
   | exact thwartref03_Same.mono _ _ _
   | exact thwartref04_Bytes.mono _ _
   | exact thwartref04_Same.mono _ _ _
   | exact thwartref04_Scan.mono _ _
   | exact thwartref04_Take.mono _ _
   | exact LeO.none _
   | refine LeO.ite ?_ ?_
   | refine LeO.bind ?_ (fun _ => ?_)
set_option maxHeartbeats 8000000 in
set_option maxRecDepth 100000 in
theorem thwartlaw04_FrameTakes.calls (k : Nat) (A0 : Option Addr) (c0 : Nat) (l0 : List (S24)) (a1 : ByteArray) (r : Bool) (w : World) (hr0 : Kd.C k24 w A0 l0.length l0) (hc0 : l0.length ≤ c0) (h : thwartlaw04_FrameTakes.f k l0 a1 = some r) :
  Calls Try.prog 7 #[.slice A0 l0.length c0,.string a1] w fun e w' => e = .returned (.bool r) ∧ Below w.heap.size w w' := by
 have HR0:=Aside0.mk hr0
 have HC0:=Aside0.mk hc0
 clear hr0 hc0
 have HB:=Aside0.mk (Below.refl w.heap.size w)
 have H : ((thwartlaw04_awake.f k).bind fun t247 => ((thwartref03_Light.f k l0).bind fun t248 => (if t248 = true then (thwartlaw04_FrameTakes.j0 k l0 a1 t247 (decide ((a1.size : Int) > 4000))) else (thwartlaw04_FrameTakes.j0 k l0 a1 t247 true)))) = some r:=h
 clear h
 replace H:=Option.bind_eq_some_iff.mp H
 obtain ⟨t247,A30,H⟩:=H
 replace H : ((thwartref03_Light.f k l0).bind fun t248 => (if t248 = true then (thwartlaw04_FrameTakes.j0 k l0 a1 t247 (decide ((a1.size : Int) > 4000))) else (thwartlaw04_FrameTakes.j0 k l0 a1 t247 true))) = some r:=H
 have A3:=Aside0.mk A30
 clear A30
 replace H:=Option.bind_eq_some_iff.mp H
 obtain ⟨t248,A40,H⟩:=H
 replace H : (if t248 = true then (thwartlaw04_FrameTakes.j0 k l0 a1 t247 (decide ((a1.size : Int) > 4000))) else (thwartlaw04_FrameTakes.j0 k l0 a1 t247 true)) = some r:=H
 have A4:=Aside0.mk A40
 clear A40
 have HC5:=Aside0.mk H
 clear H
 go_enter Try.func7,Try.ntmps7
 go_upto_region 3 with (first | ((with_reducible refine gate_callee (f:=23) rfl ?_);refine goesL_ (some 23) rfl rfl Try.func23 (by kernel_rfl) rfl #[] rfl (by (try simp only [List.map_toArray,List.map_cons,List.map_nil]);first | done | rfl | (simp only [List.length_drop,List.length_take];rfl)) ?_;(with_reducible refine (thwartlaw04_awake.calls k  t247 _ A3.out).mono ?_);rintro e w6 ⟨rfl,hb⟩;refine ⟨_,rfl,?_⟩;have n0_:=Aside0.mk (below_step (by repeat (first | (with_reducible first | exact HB.out | apply below_alloc | apply pw_below_drewN | apply below_drew1) | exact HB.out)) hb);clear HB;have HB:=n0_;clear n0_;(try clear hb);(try clear hb2);(try clear hk);(try clear hi)) | ((with_reducible refine gate_callee (f:=17) rfl ?_);refine goesL_ (some 25) rfl rfl Try.func17 (by kernel_rfl) rfl #[.slice A0 l0.length c0] rfl (by (try simp only [List.map_toArray,List.map_cons,List.map_nil]);first | done | rfl | (simp only [List.length_drop,List.length_take];rfl)) ?_;(with_reducible refine (thwartref03_Light.calls k _ _ l0 t248 _ ?side1 ?side2 A4.out).mono ?_);(case side1 => repeat (first | exact (Kd.C_below HR0.out HB.out) | (with_reducible refine Kd.C_alloc ?_ _) | (with_reducible refine Kd.C_drewN ?_ _) | (with_reducible refine Kd.C_drew ?_)));(case side2 => exact HC0.out);rintro e w7 ⟨rfl,hb⟩;refine ⟨_,rfl,?_⟩;have n0_:=Aside0.mk (below_step (by repeat (first | (with_reducible first | exact HB.out | apply below_alloc | apply pw_below_drewN | apply below_drew1) | exact HB.out)) hb);clear HB;have HB:=n0_;clear n0_;(try clear hb);(try clear hb2);(try clear hk);(try clear hi)))
 (try simp only [Act.put,List.setIfInBounds_toArray,List.set_cons_zero,List.set_cons_succ])
 go_cut [32] (fun v32 wc => ∃ (kq : Nat) (x32_4 : Bool),v32 = .bool x32_4 ∧ Aside0 (thwartlaw04_FrameTakes.j0 kq l0 a1 t247 x32_4 = some r) ∧ Aside0 (kq ≤ k) ∧ Aside0 (Below w.heap.size w wc))
 case first =>
  have H:=HC5.out
  clear HC5
  by_cases c8 : t248 = true
  ·subst c8
   have H1 : (thwartlaw04_FrameTakes.j0 k l0 a1 t247 (decide ((a1.size : Int) > 4000))) = some r:=by rw [if_pos rfl] at H;exact H
   clear H
   have H:=H1
   clear H1
   have H' := Aside0.mk H
   clear H
   go_wp2
   go_meet
   case rel => exact ⟨_,(decide ((a1.size : Int) > 4000)),(by first | rfl | (simp;done) | (simp [*];done)),H',⟨by first | omega | exact Nat.le_refl _⟩,⟨by repeat (first | (with_reducible first | exact HB.out | apply below_alloc | apply pw_below_drewN | apply below_drew1) | exact HB.out)⟩⟩
  ·replace c8:=Bool.eq_false_iff.mpr c8
   subst c8
   have H1 : (thwartlaw04_FrameTakes.j0 k l0 a1 t247 true) = some r:=by rw [if_neg (show ¬ (false = true) by decide)] at H;exact H
   clear H
   have H:=H1
   clear H1
   have H' := Aside0.mk H
   clear H
   go_wp2
   go_meet
   case rel => exact ⟨_,(true),(by first | rfl | (simp;done) | (simp [*];done)),H',⟨by first | omega | exact Nat.le_refl _⟩,⟨by repeat (first | (with_reducible first | exact HB.out | apply below_alloc | apply pw_below_drewN | apply below_drew1) | exact HB.out)⟩⟩
 case rest =>
  clear HC5
  try clear c1
  try clear c2
  try clear p2
  try clear c7
  try clear c8
  obtain ⟨kq,x32_4,rfl,HA,HJ4,HB⟩:=hcut
  cases kq with
  | zero => exact absurd HA.out (by simp [thwartlaw04_FrameTakes.j0])
  | succ kj4 =>
   have H:=HA.out
   clear HA
   simp only [thwartlaw04_FrameTakes.j0] at H
   by_cases c9 : x32_4 = true
   ·subst c9
    have H1 : (some t247) = some r:=by rw [if_pos rfl] at H;exact H
    clear H
    have H:=H1
    clear H1
    obtain rfl:=Option.some.inj H
    go_wp2
    go_ret
    exact ⟨by first | rfl | (simp [errW_none,errW_some] <;> rfl) | (simp [*,errW_none,errW_some] <;> rfl) | (simp [errW_none,errW_some];exact isEmpty_bne _),by repeat (first | (with_reducible first | exact HB.out | apply below_alloc | apply pw_below_drewN | apply below_drew1) | exact HB.out)⟩
   ·replace c9:=Bool.eq_false_iff.mpr c9
    subst c9
    have H1 : ((frame_Bytes.f kj4 l0).bind fun bt249 => ((thwartref04_Bytes.f kj4 l0).bind fun bt251 => ((frame_Take.f kj4 a1).bind fun bt253 => ((thwartref04_Take.f kj4 a1).bind fun bt258 => ((frame_Scan.f kj4 a1).bind fun bt263 => ((thwartref04_Scan.f kj4 a1).bind fun bt267 => ((thwartref03_Same.f kj4 bt253.1 bt258.1).bind fun t271 => ((thwartref04_Same.f kj4 bt263.1 bt267.1).bind fun t272 => (if t247 = true then (if bt249.1.toList = bt251.1.toList then (if bt249.2 = bt251.2 then (if t271 = true then (if bt253.2.1 = bt258.2.1 then (if bt253.2.2 = bt258.2.2 then (if t272 = true then (some (bt263.2 == bt267.2)) else (none)) else (none)) else (none)) else (none)) else (none)) else (none)) else (none)))))))))) = some r:=by rw [if_neg (show ¬ (false = true) by decide)] at H;exact H
    clear H
    have H:=H1
    clear H1
    replace H:=Option.bind_eq_some_iff.mp H
    obtain ⟨⟨t249,t250⟩,A100,H⟩:=H
    replace H : ((thwartref04_Bytes.f kj4 l0).bind fun bt251 => ((frame_Take.f kj4 a1).bind fun bt253 => ((thwartref04_Take.f kj4 a1).bind fun bt258 => ((frame_Scan.f kj4 a1).bind fun bt263 => ((thwartref04_Scan.f kj4 a1).bind fun bt267 => ((thwartref03_Same.f kj4 bt253.1 bt258.1).bind fun t271 => ((thwartref04_Same.f kj4 bt263.1 bt267.1).bind fun t272 => (if t247 = true then (if t249.toList = bt251.1.toList then (if t250 = bt251.2 then (if t271 = true then (if bt253.2.1 = bt258.2.1 then (if bt253.2.2 = bt258.2.2 then (if t272 = true then (some (bt263.2 == bt267.2)) else (none)) else (none)) else (none)) else (none)) else (none)) else (none)) else (none))))))))) = some r:=H
    have A10:=Aside0.mk A100
    clear A100
    replace H:=Option.bind_eq_some_iff.mp H
    obtain ⟨⟨t251,t252⟩,A110,H⟩:=H
    replace H : ((frame_Take.f kj4 a1).bind fun bt253 => ((thwartref04_Take.f kj4 a1).bind fun bt258 => ((frame_Scan.f kj4 a1).bind fun bt263 => ((thwartref04_Scan.f kj4 a1).bind fun bt267 => ((thwartref03_Same.f kj4 bt253.1 bt258.1).bind fun t271 => ((thwartref04_Same.f kj4 bt263.1 bt267.1).bind fun t272 => (if t247 = true then (if t249.toList = t251.toList then (if t250 = t252 then (if t271 = true then (if bt253.2.1 = bt258.2.1 then (if bt253.2.2 = bt258.2.2 then (if t272 = true then (some (bt263.2 == bt267.2)) else (none)) else (none)) else (none)) else (none)) else (none)) else (none)) else (none)))))))) = some r:=H
    have A11:=Aside0.mk A110
    clear A110
    replace H:=Option.bind_eq_some_iff.mp H
    obtain ⟨⟨t253,t254,t255⟩,A120,H⟩:=H
    replace H : ((thwartref04_Take.f kj4 a1).bind fun bt258 => ((frame_Scan.f kj4 a1).bind fun bt263 => ((thwartref04_Scan.f kj4 a1).bind fun bt267 => ((thwartref03_Same.f kj4 t253 bt258.1).bind fun t271 => ((thwartref04_Same.f kj4 bt263.1 bt267.1).bind fun t272 => (if t247 = true then (if t249.toList = t251.toList then (if t250 = t252 then (if t271 = true then (if t254 = bt258.2.1 then (if t255 = bt258.2.2 then (if t272 = true then (some (bt263.2 == bt267.2)) else (none)) else (none)) else (none)) else (none)) else (none)) else (none)) else (none))))))) = some r:=H
    have A12:=Aside0.mk A120
    clear A120
    replace H:=Option.bind_eq_some_iff.mp H
    obtain ⟨⟨t258,t259,t260⟩,A130,H⟩:=H
    replace H : ((frame_Scan.f kj4 a1).bind fun bt263 => ((thwartref04_Scan.f kj4 a1).bind fun bt267 => ((thwartref03_Same.f kj4 t253 t258).bind fun t271 => ((thwartref04_Same.f kj4 bt263.1 bt267.1).bind fun t272 => (if t247 = true then (if t249.toList = t251.toList then (if t250 = t252 then (if t271 = true then (if t254 = t259 then (if t255 = t260 then (if t272 = true then (some (bt263.2 == bt267.2)) else (none)) else (none)) else (none)) else (none)) else (none)) else (none)) else (none)))))) = some r:=H
    have A13:=Aside0.mk A130
    clear A130
    replace H:=Option.bind_eq_some_iff.mp H
    obtain ⟨⟨t263,t264⟩,A140,H⟩:=H
    replace H : ((thwartref04_Scan.f kj4 a1).bind fun bt267 => ((thwartref03_Same.f kj4 t253 t258).bind fun t271 => ((thwartref04_Same.f kj4 t263 bt267.1).bind fun t272 => (if t247 = true then (if t249.toList = t251.toList then (if t250 = t252 then (if t271 = true then (if t254 = t259 then (if t255 = t260 then (if t272 = true then (some (t264 == bt267.2)) else (none)) else (none)) else (none)) else (none)) else (none)) else (none)) else (none))))) = some r:=H
    have A14:=Aside0.mk A140
    clear A140
    replace H:=Option.bind_eq_some_iff.mp H
    obtain ⟨⟨t267,t268⟩,A150,H⟩:=H
    replace H : ((thwartref03_Same.f kj4 t253 t258).bind fun t271 => ((thwartref04_Same.f kj4 t263 t267).bind fun t272 => (if t247 = true then (if t249.toList = t251.toList then (if t250 = t252 then (if t271 = true then (if t254 = t259 then (if t255 = t260 then (if t272 = true then (some (t264 == t268)) else (none)) else (none)) else (none)) else (none)) else (none)) else (none)) else (none)))) = some r:=H
    have A15:=Aside0.mk A150
    clear A150
    replace H:=Option.bind_eq_some_iff.mp H
    obtain ⟨t271,A160,H⟩:=H
    replace H : ((thwartref04_Same.f kj4 t263 t267).bind fun t272 => (if t247 = true then (if t249.toList = t251.toList then (if t250 = t252 then (if t271 = true then (if t254 = t259 then (if t255 = t260 then (if t272 = true then (some (t264 == t268)) else (none)) else (none)) else (none)) else (none)) else (none)) else (none)) else (none))) = some r:=H
    have A16:=Aside0.mk A160
    clear A160
    replace H:=Option.bind_eq_some_iff.mp H
    obtain ⟨t272,A170,H⟩:=H
    replace H : (if t247 = true then (if t249.toList = t251.toList then (if t250 = t252 then (if t271 = true then (if t254 = t259 then (if t255 = t260 then (if t272 = true then (some (t264 == t268)) else (none)) else (none)) else (none)) else (none)) else (none)) else (none)) else (none)) = some r:=H
    have A17:=Aside0.mk A170
    clear A170
    by_cases c18 : t247 = true
    ·subst c18
     have H1 : (if t249.toList = t251.toList then (if t250 = t252 then (if t271 = true then (if t254 = t259 then (if t255 = t260 then (if t272 = true then (some (t264 == t268)) else (none)) else (none)) else (none)) else (none)) else (none)) else (none)) = some r:=by rw [if_pos rfl] at H;exact H
     clear H
     have H:=H1
     clear H1
     by_cases c19 : t249.toList = t251.toList
     ·rw [if_pos c19] at H
      have c19b0 : (t249.toList == t251.toList) = true:=beq_iff_eq.mpr c19
      have c19b1 : (t249.toList != t251.toList) = false:=bne_eq_false_iff_eq.mpr c19
      clear c19
      by_cases c20 : t250 = t252
      ·rw [if_pos c20] at H
       have c20b0 : (t250 == t252) = true:=beq_iff_eq.mpr c20
       have c20b1 : (t250 != t252) = false:=bne_eq_false_iff_eq.mpr c20
       clear c20
       by_cases c21 : t271 = true
       ·subst c21
        have H1 : (if t254 = t259 then (if t255 = t260 then (if t272 = true then (some (t264 == t268)) else (none)) else (none)) else (none)) = some r:=by rw [if_pos rfl] at H;exact H
        clear H
        have H:=H1
        clear H1
        by_cases c22 : t254 = t259
        ·rw [if_pos c22] at H
         have c22b0 : (t254 == t259) = true:=beq_iff_eq.mpr c22
         have c22b1 : (t254 != t259) = false:=bne_eq_false_iff_eq.mpr c22
         clear c22
         by_cases c23 : t255 = t260
         ·rw [if_pos c23] at H
          have c23b0 : (t255 == t260) = true:=beq_iff_eq.mpr c23
          have c23b1 : (t255 != t260) = false:=bne_eq_false_iff_eq.mpr c23
          clear c23
          by_cases c24 : t272 = true
          ·subst c24
           have H1 : (some (t264 == t268)) = some r:=by rw [if_pos rfl] at H;exact H
           clear H
           have H:=H1
           clear H1
           obtain rfl:=Option.some.inj H
           go_wp2_with (first | ((with_reducible refine gate_callee (f:=24) rfl ?_);refine goesL_ (some 36) rfl rfl Try.func24 (by kernel_rfl) rfl #[.slice A0 l0.length c0] rfl (by (try simp only [List.map_toArray,List.map_cons,List.map_nil]);first | done | rfl | (simp only [List.length_drop,List.length_take];rfl)) ?_;(with_reducible refine (frame_Bytes.calls kj4 _ _ l0 t249 t250 _ ?side1 ?side2 A10.out).mono ?_);(case side1 => repeat (first | exact (Kd.C_below HR0.out HB.out) | (with_reducible refine Kd.C_alloc ?_ _) | (with_reducible refine Kd.C_drewN ?_ _) | (with_reducible refine Kd.C_drew ?_)));(case side2 => exact HC0.out);rintro e w25 ⟨rfl,hb⟩;refine ⟨_,rfl,?_⟩;have n0_:=Aside0.mk (below_step (by repeat (first | (with_reducible first | exact HB.out | apply below_alloc | apply pw_below_drewN | apply below_drew1) | exact HB.out)) hb);clear HB;have HB:=n0_;clear n0_;(try clear hb);(try clear hb2);(try clear hk);(try clear hi)) | ((with_reducible refine gate_callee (f:=25) rfl ?_);refine goesL_ (some 41) rfl rfl Try.func25 (by kernel_rfl) rfl #[.slice A0 l0.length c0] rfl (by (try simp only [List.map_toArray,List.map_cons,List.map_nil]);first | done | rfl | (simp only [List.length_drop,List.length_take];rfl)) ?_;(with_reducible refine (thwartref04_Bytes.calls kj4 _ _ l0 t251 t252 _ ?side1 ?side2 A11.out).mono ?_);(case side1 => repeat (first | exact (Kd.C_below HR0.out HB.out) | (with_reducible refine Kd.C_alloc ?_ _) | (with_reducible refine Kd.C_drewN ?_ _) | (with_reducible refine Kd.C_drew ?_)));(case side2 => exact HC0.out);rintro e w26 ⟨rfl,hb⟩;refine ⟨_,rfl,?_⟩;have n0_:=Aside0.mk (below_step (by repeat (first | (with_reducible first | exact HB.out | apply below_alloc | apply pw_below_drewN | apply below_drew1) | exact HB.out)) hb);clear HB;have HB:=n0_;clear n0_;(try clear hb);(try clear hb2);(try clear hk);(try clear hi)) | ((with_reducible refine gate_callee (f:=26) rfl ?_);refine goesL_ (some 46) rfl rfl Try.func26 (by kernel_rfl) rfl #[.string a1] rfl (by (try simp only [List.map_toArray,List.map_cons,List.map_nil]);first | done | rfl | (simp only [List.length_drop,List.length_take];rfl)) ?_;(with_reducible refine (frame_Take.calls kj4 a1 t253 t254 t255 _ A12.out).mono ?_);rintro e w27 ⟨v256,rfl,ho0,hb⟩;refine ⟨_,rfl,?_⟩;have n0_:=Aside0.mk (Kd.R_lower ho0 (below_size (by repeat (first | (with_reducible first | exact HB.out | apply below_alloc | apply pw_below_drewN | apply below_drew1) | exact HB.out))));have n1_:=Aside0.mk (below_step (by repeat (first | (with_reducible first | exact HB.out | apply below_alloc | apply pw_below_drewN | apply below_drew1) | exact HB.out)) hb);clear HB;have HO257:=n0_;have HB:=n1_;clear n0_ n1_;(try clear hb);(try clear hb2);(try clear hk);(try clear hi);(try clear ho0)) | ((with_reducible refine gate_callee (f:=27) rfl ?_);refine goesL_ (some 52) rfl rfl Try.func27 (by kernel_rfl) rfl #[.string a1] rfl (by (try simp only [List.map_toArray,List.map_cons,List.map_nil]);first | done | rfl | (simp only [List.length_drop,List.length_take];rfl)) ?_;(with_reducible refine (thwartref04_Take.calls kj4 a1 t258 t259 t260 _ A13.out).mono ?_);rintro e w28 ⟨v261,rfl,ho0,hb⟩;refine ⟨_,rfl,?_⟩;have n0_:=Aside0.mk (Kd.R_elder' (by (with_reducible repeat (first | apply Kd.R_alloc | apply Kd.R_drewN | apply Kd.R_drew));exact HO257.out) (Kd.R_base ho0) hb);have n1_:=Aside0.mk (Kd.R_lower (Kd.R_new' ho0 (Kd.R_lt (by (with_reducible repeat (first | apply Kd.R_alloc | apply Kd.R_drewN | apply Kd.R_drew));exact HO257.out))) (below_size (by repeat (first | (with_reducible first | exact HB.out | apply below_alloc | apply pw_below_drewN | apply below_drew1) | exact HB.out))));have n2_:=Aside0.mk (below_step (by repeat (first | (with_reducible first | exact HB.out | apply below_alloc | apply pw_below_drewN | apply below_drew1) | exact HB.out)) hb);clear HO257;clear HB;have HO257:=n0_;have HO262:=n1_;have HB:=n2_;clear n0_ n1_ n2_;(try clear hb);(try clear hb2);(try clear hk);(try clear hi);(try clear ho0)) | ((with_reducible refine gate_callee (f:=28) rfl ?_);refine goesL_ (some 58) rfl rfl Try.func28 (by kernel_rfl) rfl #[.string a1] rfl (by (try simp only [List.map_toArray,List.map_cons,List.map_nil]);first | done | rfl | (simp only [List.length_drop,List.length_take];rfl)) ?_;(with_reducible refine (frame_Scan.calls kj4 a1 t263 t264 _ A14.out).mono ?_);rintro e w29 ⟨v265,rfl,ho0,hb⟩;refine ⟨_,rfl,?_⟩;have n0_:=Aside0.mk (Kd.R_below (by (with_reducible repeat (first | apply Kd.R_alloc | apply Kd.R_drewN | apply Kd.R_drew));exact HO257.out) hb);have n1_:=Aside0.mk (Kd.R_below (by (with_reducible repeat (first | apply Kd.R_alloc | apply Kd.R_drewN | apply Kd.R_drew));exact HO262.out) hb);have n2_:=Aside0.mk (Kd.S_lower (Kd.S_new' (Kd.S_new' ho0 (Kd.R_lt (by (with_reducible repeat (first | apply Kd.R_alloc | apply Kd.R_drewN | apply Kd.R_drew));exact HO257.out))) (Kd.R_lt (by (with_reducible repeat (first | apply Kd.R_alloc | apply Kd.R_drewN | apply Kd.R_drew));exact HO262.out))) (below_size (by repeat (first | (with_reducible first | exact HB.out | apply below_alloc | apply pw_below_drewN | apply below_drew1) | exact HB.out))));have n3_:=Aside0.mk (below_step (by repeat (first | (with_reducible first | exact HB.out | apply below_alloc | apply pw_below_drewN | apply below_drew1) | exact HB.out)) hb);clear HO257;clear HO262;clear HB;have HO257:=n0_;have HO262:=n1_;have HO266:=n2_;have HB:=n3_;clear n0_ n1_ n2_ n3_;(try clear hb);(try clear hb2);(try clear hk);(try clear hi);(try clear ho0)) | ((with_reducible refine gate_callee (f:=29) rfl ?_);refine goesL_ (some 63) rfl rfl Try.func29 (by kernel_rfl) rfl #[.string a1] rfl (by (try simp only [List.map_toArray,List.map_cons,List.map_nil]);first | done | rfl | (simp only [List.length_drop,List.length_take];rfl)) ?_;(with_reducible refine (thwartref04_Scan.calls kj4 a1 t267 t268 _ A15.out).mono ?_);rintro e w30 ⟨v269,rfl,ho0,hb⟩;refine ⟨_,rfl,?_⟩;have n0_:=Aside0.mk (Kd.R_below (by (with_reducible repeat (first | apply Kd.R_alloc | apply Kd.R_drewN | apply Kd.R_drew));exact HO257.out) hb);have n1_:=Aside0.mk (Kd.R_below (by (with_reducible repeat (first | apply Kd.R_alloc | apply Kd.R_drewN | apply Kd.R_drew));exact HO262.out) hb);have n2_:=Aside0.mk (Kd.S_elder' (by (with_reducible repeat (first | apply Kd.S_alloc | apply Kd.S_drewN | apply Kd.S_drew));exact HO266.out) (Kd.S_base ho0) hb);have n3_:=Aside0.mk (Kd.S_lower (Kd.S_new' (Kd.S_new' (Kd.S_new' ho0 (Kd.R_lt (by (with_reducible repeat (first | apply Kd.R_alloc | apply Kd.R_drewN | apply Kd.R_drew));exact HO257.out))) (Kd.R_lt (by (with_reducible repeat (first | apply Kd.R_alloc | apply Kd.R_drewN | apply Kd.R_drew));exact HO262.out))) (Kd.S_lt (by (with_reducible repeat (first | apply Kd.S_alloc | apply Kd.S_drewN | apply Kd.S_drew));exact HO266.out))) (below_size (by repeat (first | (with_reducible first | exact HB.out | apply below_alloc | apply pw_below_drewN | apply below_drew1) | exact HB.out))));have n4_:=Aside0.mk (below_step (by repeat (first | (with_reducible first | exact HB.out | apply below_alloc | apply pw_below_drewN | apply below_drew1) | exact HB.out)) hb);clear HO257;clear HO262;clear HO266;clear HB;have HO257:=n0_;have HO262:=n1_;have HO266:=n2_;have HO270:=n3_;have HB:=n4_;clear n0_ n1_ n2_ n3_ n4_;(try clear hb);(try clear hb2);(try clear hk);(try clear hi);(try clear ho0);obtain ⟨Ao31,co31,eo31⟩:=Kd.R_slice HO257.out;subst eo31;obtain ⟨Ao32,co32,eo32⟩:=Kd.R_slice HO262.out;subst eo32) | ((with_reducible refine gate_callee (f:=22) rfl ?_);refine goesL_ (some 68) rfl rfl Try.func22 (by kernel_rfl) rfl #[.slice Ao31 t253.length co31,.slice Ao32 t258.length co32] rfl (by (try simp only [List.map_toArray,List.map_cons,List.map_nil]);first | done | rfl | (simp only [List.length_drop,List.length_take];rfl)) ?_;(with_reducible refine (thwartref03_Same.calls kj4 _ _ t253 _ _ t258 true _ ?side1 ?side2 ?side3 ?side4 A16.out).mono ?_);(case side1 => repeat (first | exact (Kd.R_reads' HO257.out).2.2 | (with_reducible refine Kd.C_alloc ?_ _) | (with_reducible refine Kd.C_drewN ?_ _) | (with_reducible refine Kd.C_drew ?_)));(case side2 => exact (Kd.R_reads' HO257.out).2.1);(case side3 => repeat (first | exact (Kd.R_reads' HO262.out).2.2 | (with_reducible refine Kd.C_alloc ?_ _) | (with_reducible refine Kd.C_drewN ?_ _) | (with_reducible refine Kd.C_drew ?_)));(case side4 => exact (Kd.R_reads' HO262.out).2.1);rintro e w' ⟨rfl,⟨nd,rfl⟩⟩;refine ⟨_,rfl,?_⟩;obtain ⟨Ao33,co33,eo33⟩:=Kd.S_slice HO266.out;subst eo33;obtain ⟨Ao34,co34,eo34⟩:=Kd.S_slice HO270.out;subst eo34) | ((with_reducible refine gate_callee (f:=30) rfl ?_);refine goesL_ (some 71) rfl rfl Try.func30 (by kernel_rfl) rfl #[.slice Ao33 t263.length co33,.slice Ao34 t267.length co34] rfl (by (try simp only [List.map_toArray,List.map_cons,List.map_nil]);first | done | rfl | (simp only [List.length_drop,List.length_take];rfl)) ?_;(with_reducible refine (thwartref04_Same.calls kj4 _ _ t263 _ _ t267 true _ ?side1 ?side2 ?side3 ?side4 A17.out).mono ?_);(case side1 => repeat (first | exact (Kd.S_reads' HO266.out).2.2 | (with_reducible refine Kd.C_alloc ?_ _) | (with_reducible refine Kd.C_drewN ?_ _) | (with_reducible refine Kd.C_drew ?_)));(case side2 => exact (Kd.S_reads' HO266.out).2.1);(case side3 => repeat (first | exact (Kd.S_reads' HO270.out).2.2 | (with_reducible refine Kd.C_alloc ?_ _) | (with_reducible refine Kd.C_drewN ?_ _) | (with_reducible refine Kd.C_drew ?_)));(case side4 => exact (Kd.S_reads' HO270.out).2.1);rintro e w' ⟨rfl,⟨nd,rfl⟩⟩;refine ⟨_,rfl,?_⟩))
           go_ret
           exact ⟨by first | rfl | (simp [errW_none,errW_some] <;> rfl) | (simp [*,errW_none,errW_some] <;> rfl) | (simp [errW_none,errW_some];exact isEmpty_bne _),by repeat (first | (with_reducible first | exact HB.out | apply below_alloc | apply pw_below_drewN | apply below_drew1) | exact HB.out)⟩
          ·replace c24:=Bool.eq_false_iff.mpr c24
           subst c24
           have H1 : (none) = some r:=by rw [if_neg (show ¬ (false = true) by decide)] at H;exact H
           clear H
           have H:=H1
           clear H1
           exact absurd H (by simp)
         ·rw [if_neg c23] at H
          exact absurd H (by simp)
        ·rw [if_neg c22] at H
         exact absurd H (by simp)
       ·replace c21:=Bool.eq_false_iff.mpr c21
        subst c21
        have H1 : (none) = some r:=by rw [if_neg (show ¬ (false = true) by decide)] at H;exact H
        clear H
        have H:=H1
        clear H1
        exact absurd H (by simp)
      ·rw [if_neg c20] at H
       exact absurd H (by simp)
     ·rw [if_neg c19] at H
      exact absurd H (by simp)
    ·replace c18:=Bool.eq_false_iff.mpr c18
     subst c18
     have H1 : (none) = some r:=by rw [if_neg (show ¬ (false = true) by decide)] at H;exact H
     clear H
     have H:=H1
     clear H1
     exact absurd H (by simp)

/-- THE ONE PURE STATEMENT of thwartlaw04_FrameTakes: yours. -/
def thwartlaw04_FrameTakes.Pure : Prop := ∀ (l0 : List (S24)) (a1 : ByteArray),l0.length * 48 ≤ 140737488351232 → (l0.length ≤ 9223372036854775807 ∧ ∀ e273 ∈ l0,((Lit.int .u64 e273.f0).wf = true ∧ e273.f1.size ≤ 9223372036854775807 ∧ e273.f2.size ≤ 9223372036854775807 ∧ True)) → a1.size ≤ 140737488351232 → ∃ k,thwartlaw04_FrameTakes.f k l0 a1 = some true
theorem thwartlaw04_FrameTakes.walk (P : thwartlaw04_FrameTakes.Pure) (A0 : Option Addr) (n0 c0 : Nat) (l0 : List (S24)) (a1 : ByteArray) (w : World) (K0 : (Kd.slice 24 k24).K w l0 [.slice A0 n0 c0]) (y0 : n0 * 48 ≤ 140737488351232) (G0 : (l0.length ≤ 9223372036854775807 ∧ ∀ e273 ∈ l0,((Lit.int .u64 e273.f0).wf = true ∧ e273.f1.size ≤ 9223372036854775807 ∧ e273.f2.size ≤ 9223372036854775807 ∧ True))) (w1 : a1.size ≤ 140737488351232) :
  Calls Try.prog 7 #[.slice A0 n0 c0,.string a1] w fun e w' => e = .returned (.bool true) ∧ Below w.heap.size w w' := by
 obtain ⟨A0_,c0_,e0,hc0,hr0⟩:=K0
 simp only [List.cons.injEq,Value.slice.injEq,and_true] at e0
 obtain ⟨rfl,rfl,rfl⟩:=e0
 obtain ⟨k,h⟩:=P l0 a1 y0 G0 w1
 refine (thwartlaw04_FrameTakes.calls k _ _ l0 a1 true w hr0 hc0 h).mono ?_
 rintro e w' ⟨rfl,hd⟩
 exact ⟨rfl,hd⟩

/-! ### thwartref04_Light: function 31 -/
mutual
def thwartref04_Light.l0 : Nat → List (List (S24)) → Int → Int → Option (Bool)
 | 0,_,_,_ => none
 | k + 1,x0,x3,x4 => if x4 < (x0.length : Int) then (thwartref04_Light.j1 k x0 x3 x4 (decide (x4 < 30))) else (thwartref04_Light.j1 k x0 x3 x4 false)
def thwartref04_Light.j1 : Nat → List (List (S24)) → Int → Int → Bool → Option (Bool)
 | 0,_,_,_,_ => none
 | k + 1,x0,x3,x4,x12 => if x12 = true then (if 0 ≤ x4 then (if x4 < (x0.length : Int) then ((thwartref03_Light.f k (rd_L6 x0 x4)).bind fun t275 => (if t275 = true then (thwartref04_Light.l0 k x0 (wrap64 (x3 + ((rd_L6 x0 x4).length : Int))) (wrap64 (x4 + 1))) else (some false))) else (none)) else (none)) else (if (x0.length : Int) ≤ 20 then (some (decide (x3 ≤ 60))) else (some false))
end
def thwartref04_Light.f (k : Nat) (l0 : List (List (S24))) : Option (Bool):=thwartref04_Light.l0 k l0 0 0
theorem thwartref04_Light.mono_l : ∀ k,(∀ y0 y1 y2,LeO (thwartref04_Light.l0 k y0 y1 y2) (thwartref04_Light.l0 (k + 1) y0 y1 y2)) ∧ (∀ y0 y1 y2 y3,LeO (thwartref04_Light.j1 k y0 y1 y2 y3) (thwartref04_Light.j1 (k + 1) y0 y1 y2 y3))
 | 0 => ⟨fun _ _ _ r h => by simp [thwartref04_Light.l0] at h,fun _ _ _ _ r h => by simp [thwartref04_Light.j1] at h⟩
 | k + 1 => by
  obtain ⟨ih0,ih1⟩:=thwartref04_Light.mono_l k
  refine ⟨?_,?_⟩
  ·intro y0 y1 y2
   unfold thwartref04_Light.l0
   repeat' first
   | (with_reducible exact ih0 _ _ _)
   | (with_reducible exact ih1 _ _ _ _)
   | (with_reducible exact thwartref03_Light.mono _ _)
   | (with_reducible exact LeO.refl _)
   | (with_reducible exact LeO.none _)
   | (with_reducible refine LeO.ite ?_ ?_)
   | (with_reducible refine LeO.bind ?_ (fun _ => ?_))
   | exact ih0 _ _ _
   | exact ih1 _ _ _ _
   | exact thwartref03_Light.mono _ _
   | exact LeO.none _
   | refine LeO.ite ?_ ?_
   | refine LeO.bind ?_ (fun _ => ?_)
  ·intro y0 y1 y2 y3
   unfold thwartref04_Light.j1
   repeat' first
   | (with_reducible exact ih0 _ _ _)
   | (with_reducible exact ih1 _ _ _ _)
   | (with_reducible exact thwartref03_Light.mono _ _)
   | (with_reducible exact LeO.refl _)
   | (with_reducible exact LeO.none _)
   | (with_reducible refine LeO.ite ?_ ?_)
   | (with_reducible refine LeO.bind ?_ (fun _ => ?_))
   | exact ih0 _ _ _
   | exact ih1 _ _ _ _
   | exact thwartref03_Light.mono _ _
   | exact LeO.none _
   | refine LeO.ite ?_ ?_
   | refine LeO.bind ?_ (fun _ => ?_)
theorem thwartref04_Light.mono : ∀ a0 k,LeO (thwartref04_Light.f k a0) (thwartref04_Light.f (k + 1) a0):=by
 intro a0 k
 obtain ⟨ih0,ih1⟩:=thwartref04_Light.mono_l k
 unfold thwartref04_Light.f
 repeat' first
   | (with_reducible exact ih0 _ _ _)
   | (with_reducible exact ih1 _ _ _ _)
   | (with_reducible exact thwartref03_Light.mono _ _)
   | (with_reducible exact LeO.refl _)
   | (with_reducible exact LeO.none _)
   | (with_reducible refine LeO.ite ?_ ?_)
   | (with_reducible refine LeO.bind ?_ (fun _ => ?_))
   | exact ih0 _ _ _
   | exact ih1 _ _ _ _
   | exact thwartref03_Light.mono _ _
   | exact LeO.none _
   | refine LeO.ite ?_ ?_
   | refine LeO.bind ?_ (fun _ => ?_)
set_option maxHeartbeats 8000000 in
set_option maxRecDepth 100000 in
theorem thwartref04_Light.calls (k : Nat) (A0 : Option Addr) (c0 : Nat) (l0 : List (List (S24))) (r : Bool) (w : World) (hr0 : Kd.C (Kd.slice 24 k24) w A0 l0.length l0) (hc0 : l0.length ≤ c0) (h : thwartref04_Light.f k l0 = some r) :
  Calls Try.prog 31 #[.slice A0 l0.length c0] w fun e w' => e = .returned (.bool r) ∧ Below w.heap.size w w' := by
 have HR0:=Aside0.mk hr0
 have HC0:=Aside0.mk hc0
 clear hr0 hc0
 have HB:=Aside0.mk (Below.refl w.heap.size w)
 have H : (thwartref04_Light.l0 k l0 0 0) = some r:=h
 clear h
 have H' := Aside0.mk H
 clear H
 go_enter Try.func31,Try.ntmps31
 go_wp2
 go_loopg [3,4] k (fun kq v3 v4 w' => ∃ (x3_1 : Int) (x4_1 : Int),v3 = .int .i64 x3_1 ∧ v4 = .int .i64 x4_1 ∧ Aside0 (thwartref04_Light.l0 kq l0 x3_1 x4_1 = some r) ∧ Aside0 (kq ≤ k) ∧ Aside0 (Below w.heap.size w w'))
 case atStart => exact ⟨(0),(0),(by first | rfl | (simp;done) | (simp [*];done)),(by first | rfl | (simp;done) | (simp [*];done)),H',⟨Nat.le_refl _⟩,⟨by repeat (first | (with_reducible first | exact HB.out | apply below_alloc | apply pw_below_drewN | apply below_drew1) | exact HB.out)⟩⟩
 case round =>
  clear H'
  obtain ⟨x3_1,x4_1,rfl,rfl,HA,HK1,HB⟩:=hrel
  cases gk with
  | zero => exact absurd HA.out (by simp [thwartref04_Light.l0])
  | succ k1 =>
   have H:=HA.out
   clear HA
   simp only [thwartref04_Light.l0] at H
   have HC2:=Aside0.mk H
   clear H
   go_upto_region 3 with (fail)
   go_cut [12] (fun v12 wc => ∃ (kq : Nat) (x12_1 : Bool),v12 = .bool x12_1 ∧ Aside0 (thwartref04_Light.j1 kq l0 x3_1 x4_1 x12_1 = some r) ∧ Aside0 (kq ≤ k1) ∧ Aside0 (Below w.heap.size w wc))
   case first =>
    have H:=HC2.out
    clear HC2
    by_cases c3 : x4_1 < (l0.length : Int)
    ·rw [if_pos c3] at H
     have c3b0 : decide (x4_1 < (l0.length : Int)) = true:=decide_eq_true c3
     clear c3
     (first | rw [c3b0] | (simp only [i64_w,i32_w];rw [c3b0]) | skip)
     have H' := Aside0.mk H
     clear H
     go_wp2
     go_meet
     case rel => exact ⟨_,(decide (x4_1 < 30)),(by first | rfl | (simp;done) | (simp [*];done)),H',⟨by have:=HK1.out;first | omega | exact Nat.le_refl _⟩,⟨by repeat (first | (with_reducible first | exact HB.out | apply below_alloc | apply pw_below_drewN | apply below_drew1) | exact HB.out)⟩⟩
    ·rw [if_neg c3] at H
     have c3b0 : decide (x4_1 < (l0.length : Int)) = false:=decide_eq_false c3
     clear c3
     (first | rw [c3b0] | (simp only [i64_w,i32_w];rw [c3b0]) | skip)
     have H' := Aside0.mk H
     clear H
     go_wp2
     go_meet
     case rel => exact ⟨_,(false),(by first | rfl | (simp;done) | (simp [*];done)),H',⟨by have:=HK1.out;first | omega | exact Nat.le_refl _⟩,⟨by repeat (first | (with_reducible first | exact HB.out | apply below_alloc | apply pw_below_drewN | apply below_drew1) | exact HB.out)⟩⟩
   case rest =>
    clear HC2
    try clear p2
    try clear c3
    try clear c3b0
    obtain ⟨kq,x12_1,rfl,HA,HJ1,HB⟩:=hcut
    cases kq with
    | zero => exact absurd HA.out (by simp [thwartref04_Light.j1])
    | succ kj1 =>
     have H:=HA.out
     clear HA
     simp only [thwartref04_Light.j1] at H
     by_cases c4 : x12_1 = true
     ·subst c4
      have H1 : (if 0 ≤ x4_1 then (if x4_1 < (l0.length : Int) then ((thwartref03_Light.f kj1 (rd_L6 l0 x4_1)).bind fun t275 => (if t275 = true then (thwartref04_Light.l0 kj1 l0 (wrap64 (x3_1 + ((rd_L6 l0 x4_1).length : Int))) (wrap64 (x4_1 + 1))) else (some false))) else (none)) else (none)) = some r:=by rw [if_pos rfl] at H;exact H
      clear H
      have H:=H1
      clear H1
      by_cases c5 : 0 ≤ x4_1
      ·rw [if_pos c5] at H
       have c5b0 : decide (0 ≤ x4_1) = true:=decide_eq_true c5
       clear c5
       by_cases c6 : x4_1 < (l0.length : Int)
       ·rw [if_pos c6] at H
        have c6b0 : decide (x4_1 < (l0.length : Int)) = true:=decide_eq_true c6
        clear c6
        replace H:=Option.bind_eq_some_iff.mp H
        obtain ⟨t275,A70,H⟩:=H
        replace H : (if t275 = true then (thwartref04_Light.l0 kj1 l0 (wrap64 (x3_1 + ((rd_L6 l0 x4_1).length : Int))) (wrap64 (x4_1 + 1))) else (some false)) = some r:=H
        have A7:=Aside0.mk A70
        clear A70
        by_cases c8 : t275 = true
        ·subst c8
         have H1 : (thwartref04_Light.l0 kj1 l0 (wrap64 (x3_1 + ((rd_L6 l0 x4_1).length : Int))) (wrap64 (x4_1 + 1))) = some r:=by rw [if_pos rfl] at H;exact H
         clear H
         have H:=H1
         clear H1
         have H' := Aside0.mk H
         clear H
         have p274 : 0 ≤ (x4_1 : Int):=of_decide_eq_true (by first | (with_reducible assumption) | assumption)
         have q274 : x4_1 < (l0.length : Int):=of_decide_eq_true (by first | (with_reducible assumption) | assumption)
         obtain ⟨ad274,A274_0,c274_0,e274,hx274_0,hl274_0,hi274_0⟩:=at_L6 HR0.out x4_1 p274 q274
         cases e274
         replace hx274_0:=(HB.out.cell (World.block_lt_of_cell? w _ hx274_0)).trans hx274_0
         have HR274_0:=Aside0.mk hi274_0
         have HC274_0:=Aside0.mk hl274_0
         clear hi274_0 hl274_0
         replace p274:=eq_true p274
         replace q274:=eq_true q274
         go_wp2_with (first | ((with_reducible refine gate_callee (f:=17) rfl ?_);refine goesL_ (some 19) rfl rfl Try.func17 (by kernel_rfl) rfl #[.slice A274_0 (rd_L6 l0 x4_1).length c274_0] rfl (by (try simp only [List.map_toArray,List.map_cons,List.map_nil]);first | done | rfl | (simp only [List.length_drop,List.length_take];rfl)) ?_;(with_reducible refine (thwartref03_Light.calls kj1 _ _ (rd_L6 l0 x4_1) true _ ?side1 ?side2 A7.out).mono ?_);(case side1 => repeat (first | exact (Kd.C_below HR274_0.out HB.out) | (with_reducible refine Kd.C_alloc ?_ _) | (with_reducible refine Kd.C_drewN ?_ _) | (with_reducible refine Kd.C_drew ?_)));(case side2 => exact HC274_0.out);rintro e w9 ⟨rfl,hb⟩;refine ⟨_,rfl,?_⟩;have n0_:=Aside0.mk (below_step (by repeat (first | (with_reducible first | exact HB.out | apply below_alloc | apply pw_below_drewN | apply below_drew1) | exact HB.out)) hb);clear HB;have HB:=n0_;clear n0_;(try clear hb);(try clear hb2);(try clear hk);(try clear hi);have p276 : 0 ≤ (x4_1 : Int):=of_decide_eq_true (by first | (with_reducible assumption) | assumption);have q276 : x4_1 < (l0.length : Int):=of_decide_eq_true (by first | (with_reducible assumption) | assumption);obtain ⟨ad276,A276_0,c276_0,e276,hx276_0,hl276_0,hi276_0⟩:=at_L6 HR0.out x4_1 p276 q276;obtain rfl : ad274 = ad276:=(by injection e276);replace hx276_0:=(HB.out.cell (World.block_lt_of_cell? w _ hx276_0)).trans hx276_0;have HR276_0:=Aside0.mk hi276_0;have HC276_0:=Aside0.mk hl276_0;clear hi276_0 hl276_0;replace p276:=eq_true p276;replace q276:=eq_true q276))
         go_roundg kj1
         case measure => have:=HK1.out;have:=HJ1.out;omega
         case rel => exact ⟨(wrap64 (x3_1 + ((rd_L6 l0 x4_1).length : Int))),(wrap64 (x4_1 + 1)),(by first | rfl | (simp;done) | (simp [*];done)),(by first | rfl | (simp;done) | (simp [*];done)),H',⟨by have:=HK1.out;have:=HJ1.out;omega⟩,⟨by repeat (first | (with_reducible first | exact HB.out | apply below_alloc | apply pw_below_drewN | apply below_drew1) | exact HB.out)⟩⟩
        ·replace c8:=Bool.eq_false_iff.mpr c8
         subst c8
         have H1 : (some false) = some r:=by rw [if_neg (show ¬ (false = true) by decide)] at H;exact H
         clear H
         have H:=H1
         clear H1
         obtain rfl:=Option.some.inj H
         have p274 : 0 ≤ (x4_1 : Int):=of_decide_eq_true (by first | (with_reducible assumption) | assumption)
         have q274 : x4_1 < (l0.length : Int):=of_decide_eq_true (by first | (with_reducible assumption) | assumption)
         obtain ⟨ad274,A274_0,c274_0,e274,hx274_0,hl274_0,hi274_0⟩:=at_L6 HR0.out x4_1 p274 q274
         cases e274
         replace hx274_0:=(HB.out.cell (World.block_lt_of_cell? w _ hx274_0)).trans hx274_0
         have HR274_0:=Aside0.mk hi274_0
         have HC274_0:=Aside0.mk hl274_0
         clear hi274_0 hl274_0
         replace p274:=eq_true p274
         replace q274:=eq_true q274
         go_wp2_with (first | ((with_reducible refine gate_callee (f:=17) rfl ?_);refine goesL_ (some 19) rfl rfl Try.func17 (by kernel_rfl) rfl #[.slice A274_0 (rd_L6 l0 x4_1).length c274_0] rfl (by (try simp only [List.map_toArray,List.map_cons,List.map_nil]);first | done | rfl | (simp only [List.length_drop,List.length_take];rfl)) ?_;(with_reducible refine (thwartref03_Light.calls kj1 _ _ (rd_L6 l0 x4_1) false _ ?side1 ?side2 A7.out).mono ?_);(case side1 => repeat (first | exact (Kd.C_below HR274_0.out HB.out) | (with_reducible refine Kd.C_alloc ?_ _) | (with_reducible refine Kd.C_drewN ?_ _) | (with_reducible refine Kd.C_drew ?_)));(case side2 => exact HC274_0.out);rintro e w10 ⟨rfl,hb⟩;refine ⟨_,rfl,?_⟩;have n0_:=Aside0.mk (below_step (by repeat (first | (with_reducible first | exact HB.out | apply below_alloc | apply pw_below_drewN | apply below_drew1) | exact HB.out)) hb);clear HB;have HB:=n0_;clear n0_;(try clear hb);(try clear hb2);(try clear hk);(try clear hi)))
         go_ret
         exact ⟨by first | rfl | (simp [errW_none,errW_some] <;> rfl) | (simp [*,errW_none,errW_some] <;> rfl) | (simp [errW_none,errW_some];exact isEmpty_bne _),by repeat (first | (with_reducible first | exact HB.out | apply below_alloc | apply pw_below_drewN | apply below_drew1) | exact HB.out)⟩
       ·rw [if_neg c6] at H
        exact absurd H (by simp)
      ·rw [if_neg c5] at H
       exact absurd H (by simp)
     ·replace c4:=Bool.eq_false_iff.mpr c4
      subst c4
      have H1 : (if (l0.length : Int) ≤ 20 then (some (decide (x3_1 ≤ 60))) else (some false)) = some r:=by rw [if_neg (show ¬ (false = true) by decide)] at H;exact H
      clear H
      have H:=H1
      clear H1
      by_cases c11 : (l0.length : Int) ≤ 20
      ·rw [if_pos c11] at H
       have c11b0 : decide ((l0.length : Int) ≤ 20) = true:=decide_eq_true c11
       have c11b1 : decide (l0.length ≤ 20) = true:=decide_eq_true (by omega)
       clear c11
       obtain rfl:=Option.some.inj H
       go_wp2
       go_ret
       exact ⟨by first | rfl | (simp [errW_none,errW_some] <;> rfl) | (simp [*,errW_none,errW_some] <;> rfl) | (simp [errW_none,errW_some];exact isEmpty_bne _),by repeat (first | (with_reducible first | exact HB.out | apply below_alloc | apply pw_below_drewN | apply below_drew1) | exact HB.out)⟩
      ·rw [if_neg c11] at H
       have c11b0 : decide ((l0.length : Int) ≤ 20) = false:=decide_eq_false c11
       have c11b1 : decide (l0.length ≤ 20) = false:=decide_eq_false (by omega)
       clear c11
       obtain rfl:=Option.some.inj H
       go_wp2
       go_ret
       exact ⟨by first | rfl | (simp [errW_none,errW_some] <;> rfl) | (simp [*,errW_none,errW_some] <;> rfl) | (simp [errW_none,errW_some];exact isEmpty_bne _),by repeat (first | (with_reducible first | exact HB.out | apply below_alloc | apply pw_below_drewN | apply below_drew1) | exact HB.out)⟩

end Go.Proofs.Ytnhmhdconmollaa.Print
