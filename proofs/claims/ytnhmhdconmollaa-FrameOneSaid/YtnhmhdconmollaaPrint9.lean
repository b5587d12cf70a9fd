/- Written by a program of mine (give.py, over the kit's print) out of the translation: contracts of the Go functions. Lean checks it. -/
import Derived.Test.YtnhmhdconmollaaPrint0
import Derived.Test.YtnhmhdconmollaaPrint2
import Derived.Test.YtnhmhdconmollaaPrint3
import Derived.Test.YtnhmhdconmollaaPrint5
import Derived.Test.YtnhmhdconmollaaPrint7
import Derived.Test.YtnhmhdconmollaaPrint8
namespace Go.Proofs.Ytnhmhdconmollaa.Print
open Go.RowKit Go.Proofs.YtnhmhdconmollaaW.PrintWords Go.Proofs.YtnhmhdconmollaaW.PrintLast Go.Proofs.YtnhmhdconmollaaW.PrintMore
attribute [local go_sem] max2_int min2_int max_two min_two max_three min_three max_four min_four   -- for this text's walks alone
set_option linter.unusedVariables false
set_option linter.unusedSimpArgs false

/-! ### thwartlaw04_FrameTakes: function 7 -/
def thwartlaw04_FrameTakes.j0 : Nat → List (S24) → ByteArray → Bool → Bool → Option (Bool)
 | 0,_,_,_,_ => none
 | k + 1,x0,x1,x5,x32 => if x32 = true then (some x5) else ((frame_Bytes.f k x0).bind fun bt249 => ((thwartref04_Bytes.f k x0).bind fun bt251 => ((frame_Take.f k x1).bind fun bt253 => ((thwartref04_Take.f k x1).bind fun bt258 => ((frame_Scan.f k x1).bind fun bt263 => ((thwartref04_Scan.f k x1).bind fun bt267 => ((thwartref03_Same.f k bt253.1 bt258.1).bind fun t271 => ((thwartref04_Same.f k bt263.1 bt267.1).bind fun t272 => (if x5 = true then (if bt249.1.toList = bt251.1.toList then (if bt249.2 = bt251.2 then (if t271 = true then (if bt253.2.1 = bt258.2.1 then (if bt253.2.2 = bt258.2.2 then (if t272 = true then (some (bt263.2 == bt267.2)) else (none)) else (none)) else (none)) else (none)) else (none)) else (none)) else (none))))))))))
def thwartlaw04_FrameTakes.f (k : Nat) (l0 : List (S24)) (a1 : ByteArray) : Option (Bool):=(thwartlaw04_awake.f k).bind fun t247 => ((thwartref03_Light.f k l0).bind fun t248 => (if t248 = true then (thwartlaw04_FrameTakes.j0 k l0 a1 t247 (decide ((a1.size : Int) > 4000))) else (thwartlaw04_FrameTakes.j0 k l0 a1 t247 true)))
theorem thwartlaw04_FrameTakes.mono_l : ∀ k,(∀ y0 y1 y2 y3,LeO (thwartlaw04_FrameTakes.j0 k y0 y1 y2 y3) (thwartlaw04_FrameTakes.j0 (k + 1) y0 y1 y2 y3))
 | 0 => fun _ _ _ _ r h => by simp [thwartlaw04_FrameTakes.j0] at h
 | k + 1 => by
  have ih0:=thwartlaw04_FrameTakes.mono_l k
  ·intro y0 y1 y2 y3
   unfold thwartlaw04_FrameTakes.j0
   repeat' first
   | (with_reducible exact ih0 _ _ _ _)
   | (with_reducible exact frame_Bytes.mono _ _)
   | (with_reducible exact frame_Scan.mono _ _)
   | (with_reducible exact frame_Take.mono _ _)
   | (with_reducible exact thwartlaw04_awake.mono _)
   | (with_reducible exact thwartref03_Light.mono _ _)
   | (with_reducible exact thwartref03_Same.mono _ _ _)
   | (with_reducible exact thwartref04_Bytes.mono _ _)
   | (with_reducible exact thwartref04_Same.mono _ _ _)
   | (with_reducible exact thwartref04_Scan.mono _ _)
   | (with_reducible exact thwartref04_Take.mono _ _)
   | (with_reducible exact LeO.refl _)
   | (with_reducible exact LeO.none _)
   | (with_reducible refine LeO.ite ?_ ?_)
   | (with_reducible refine LeO.bind ?_ (fun _ => ?_))
   | exact ih0 _ _ _ _
   | exact frame_Bytes.mono _ _
   | exact frame_Scan.mono _ _
   | exact frame_Take.mono _ _
   | exact thwartlaw04_awake.mono _
   | exact thwartref03_Light.mono _ _
   | exact thwartref03_Same.mono _ _ _
   | exact thwartref04_Bytes.mono _ _
   | exact thwartref04_Same.mono _ _ _
   | exact thwartref04_Scan.mono _ _
   | exact thwartref04_Take.mono _ _
   | exact LeO.none _
   | refine LeO.ite ?_ ?_
   | refine LeO.bind ?_ (fun _ => ?_)
theorem thwartlaw04_FrameTakes.mono : ∀ a0 a1 k,LeO (thwartlaw04_FrameTakes.f k a0 a1) (thwartlaw04_FrameTakes.f (k + 1) a0 a1):=by
 intro a0 a1 k
 have ih0:=thwartlaw04_FrameTakes.mono_l k
 unfold thwartlaw04_FrameTakes.f
 repeat' first
   | (with_reducible exact ih0 _ _ _ _)
   | (with_reducible exact frame_Bytes.mono _ _)
   | (with_reducible exact frame_Scan.mono _ _)
   | (with_reducible exact frame_Take.mono _ _)
   | (with_reducible exact thwartlaw04_awake.mono _)
   | (with_reducible exact thwartref03_Light.mono _ _)
   | (with_reducible exact thwartref03_Same.mono _ _ _)
   | (with_reducible exact thwartref04_Bytes.mono _ _)
   | (with_reducible exact thwartref04_Same.mono _ _ _)
   | (with_reducible exact thwartref04_Scan.mono _ _)
   | (with_reducible exact thwartref04_Take.mono _ _)
   | (with_reducible exact LeO.refl _)
   | (with_reducible exact LeO.none _)
   | (with_reducible refine LeO.ite ?_ ?_)
   | (with_reducible refine LeO.bind ?_ (fun _ => ?_))
   | exact ih0 _ _ _ _
   | exact frame_Bytes.mono _ _
   | exact frame_Scan.mono _ _
   | exact frame_Take.mono _ _
   | exact thwartlaw04_awake.mono _
   | exact thwartref03_Light.mono _ _
   | exact thwartref03_Same.mono _ _ _
   | exact thwartref04_Bytes.mono _ _
   | exact thwartref04_Same.mono _ _ _
   | exact thwartref04_Scan.mono _ _
   | exact thwartref04_Take.mono _ _
   | exact LeO.none _
   | refine LeO.ite ?_ ?_
   | refine LeO.bind ?_ (fun _ => ?_)
set_option maxHeartbeats 8000000 in
set_option maxRecDepth 100000 in
theorem thwartlaw04_FrameTakes.calls (k : Nat) (A0 : Option Addr) (c0 : Nat) (l0 : List (S24)) (a1 : ByteArray) (r : Bool) (w : World) (hr0 : Kd.C k24 w A0 l0.length l0) (hc0 : l0.length ≤ c0) (h : thwartlaw04_FrameTakes.f k l0 a1 = some r) :
  Calls Try.prog 7 #[.slice A0 l0.length c0,.string a1] w fun e w' => e = .returned (.bool r) ∧ Below w.heap.size w w' := by
 have HR0:=Aside0.mk hr0
 have HC0:=Aside0.mk hc0
 clear hr0 hc0
 have HB:=Aside0.mk (Below.refl w.heap.size w)
 have H : ((thwartlaw04_awake.f k).bind fun t247 => ((thwartref03_Light.f k l0).bind fun t248 => (if t248 = true then (thwartlaw04_FrameTakes.j0 k l0 a1 t247 (decide ((a1.size : Int) > 4000))) else (thwartlaw04_FrameTakes.j0 k l0 a1 t247 true)))) = some r:=h
 clear h
 replace H:=Option.bind_eq_some_iff.mp H
 obtain ⟨t247,A30,H⟩:=H
 replace H : ((thwartref03_Light.f k l0).bind fun t248 => (if t248 = true then (thwartlaw04_FrameTakes.j0 k l0 a1 t247 (decide ((a1.size : Int) > 4000))) else (thwartlaw04_FrameTakes.j0 k l0 a1 t247 true))) = some r:=H
 have A3:=Aside0.mk A30
 clear A30
 replace H:=Option.bind_eq_some_iff.mp H
 obtain ⟨t248,A40,H⟩:=H
 replace H : (if t248 = true then (thwartlaw04_FrameTakes.j0 k l0 a1 t247 (decide ((a1.size : Int) > 4000))) else (thwartlaw04_FrameTakes.j0 k l0 a1 t247 true)) = some r:=H
 have A4:=Aside0.mk A40
 clear A40
 have HC5:=Aside0.mk H
 clear H
 go_enter Try.func7,Try.ntmps7
 go_upto_region 3 with (first | ((with_reducible refine gate_callee (f:=23) rfl ?_);refine goesL_ (some 23) rfl rfl Try.func23 (by kernel_rfl) rfl #[] rfl (by (try simp only [List.map_toArray,List.map_cons,List.map_nil]);first | done | rfl | (simp only [List.length_drop,List.length_take];rfl)) ?_;(with_reducible refine (thwartlaw04_awake.calls k  t247 _ A3.out).mono ?_);rintro e w6 ⟨rfl,hb⟩;refine ⟨_,rfl,?_⟩;have n0_:=Aside0.mk (below_step (by repeat (first | (with_reducible first | exact HB.out | apply below_alloc | apply pw_below_drewN | apply below_drew1) | exact HB.out)) hb);clear HB;have HB:=n0_;clear n0_;(try clear hb);(try clear hb2);(try clear hk);(try clear hi)) | ((with_reducible refine gate_callee (f:=17) rfl ?_);refine goesL_ (some 25) rfl rfl Try.func17 (by kernel_rfl) rfl #[.slice A0 l0.length c0] rfl (by (try simp only [List.map_toArray,List.map_cons,List.map_nil]);first | done | rfl | (simp only [List.length_drop,List.length_take];rfl)) ?_;(with_reducible refine (thwartref03_Light.calls k _ _ l0 t248 _ ?side1 ?side2 A4.out).mono ?_);(case side1 => repeat (first | exact (Kd.C_below HR0.out HB.out) | (with_reducible refine Kd.C_alloc ?_ _) | (with_reducible refine Kd.C_drewN ?_ _) | (with_reducible refine Kd.C_drew ?_)));(case side2 => exact HC0.out);rintro e w7 ⟨rfl,hb⟩;refine ⟨_,rfl,?_⟩;have n0_:=Aside0.mk (below_step (by repeat (first | (with_reducible first | exact HB.out | apply below_alloc | apply pw_below_drewN | apply below_drew1) | exact HB.out)) hb);clear HB;have HB:=n0_;clear n0_;(try clear hb);(try clear hb2);(try clear hk);(try clear hi)))
 (try simp only [Act.put,List.setIfInBounds_toArray,List.set_cons_zero,List.set_cons_succ])
 go_cut [32] (fun v32 wc => ∃ (kq : Nat) (x32_4 : Bool),v32 = .bool x32_4 ∧ Aside0 (thwartlaw04_FrameTakes.j0 kq l0 a1 t247 x32_4 = some r) ∧ Aside0 (kq ≤ k) ∧ Aside0 (Below w.heap.size w wc))
 case first =>
  have H:=HC5.out
  clear HC5
  by_cases c8 : t248 = true
  ·subst c8
   have H1 : (thwartlaw04_FrameTakes.j0 k l0 a1 t247 (decide ((a1.size : Int) > 4000))) = some r:=by rw [if_pos rfl] at H;exact H
   clear H
   have H:=H1
   clear H1
   have H' := Aside0.mk H
   clear H
   go_wp2
   go_meet
   case rel => exact ⟨_,(decide ((a1.size : Int) > 4000)),(by first | rfl | (simp;done) | (simp [*];done)),H',⟨by first | omega | exact Nat.le_refl _⟩,⟨by repeat (first | (with_reducible first | exact HB.out | apply below_alloc | apply pw_below_drewN | apply below_drew1) | exact HB.out)⟩⟩
  ·replace c8:=Bool.eq_false_iff.mpr c8
   subst c8
   have H1 : (thwartlaw04_FrameTakes.j0 k l0 a1 t247 true) = some r:=by rw [if_neg (show ¬ (false = true) by decide)] at H;exact H
   clear H
   have H:=H1
   clear H1
   have H' := Aside0.mk H
   clear H
   go_wp2
   go_meet
   case rel => exact ⟨_,(true),(by first | rfl | (simp;done) | (simp [*];done)),H',⟨by first | omega | exact Nat.le_refl _⟩,⟨by repeat (first | (with_reducible first | exact HB.out | apply below_alloc | apply pw_below_drewN | apply below_drew1) | exact HB.out)⟩⟩
 case rest =>
  clear HC5
  try clear c1
  try clear c2
  try clear p2
  try clear c7
  try clear c8
  obtain ⟨kq,x32_4,rfl,HA,HJ4,HB⟩:=hcut
  cases kq with
  | zero => exact absurd HA.out (by simp [thwartlaw04_FrameTakes.j0])
  | succ kj4 =>
   have H:=HA.out
   clear HA
   simp only [thwartlaw04_FrameTakes.j0] at H
   by_cases c9 : x32_4 = true
   ·subst c9
    have H1 : (some t247) = some r:=by rw [if_pos rfl] at H;exact H
    clear H
    have H:=H1
    clear H1
    obtain rfl:=Option.some.inj H
    go_wp2
    go_ret
    exact ⟨by first | rfl | (simp [errW_none,errW_some] <;> rfl) | (simp [*,errW_none,errW_some] <;> rfl) | (simp [errW_none,errW_some];exact isEmpty_bne _),by repeat (first | (with_reducible first | exact HB.out | apply below_alloc | apply pw_below_drewN | apply below_drew1) | exact HB.out)⟩
   ·replace c9:=Bool.eq_false_iff.mpr c9
    subst c9
    have H1 : ((frame_Bytes.f kj4 l0).bind fun bt249 => ((thwartref04_Bytes.f kj4 l0).bind fun bt251 => ((frame_Take.f kj4 a1).bind fun bt253 => ((thwartref04_Take.f kj4 a1).bind fun bt258 => ((frame_Scan.f kj4 a1).bind fun bt263 => ((thwartref04_Scan.f kj4 a1).bind fun bt267 => ((thwartref03_Same.f kj4 bt253.1 bt258.1).bind fun t271 => ((thwartref04_Same.f kj4 bt263.1 bt267.1).bind fun t272 => (if t247 = true then (if bt249.1.toList = bt251.1.toList then (if bt249.2 = bt251.2 then (if t271 = true then (if bt253.2.1 = bt258.2.1 then (if bt253.2.2 = bt258.2.2 then (if t272 = true then (some (bt263.2 == bt267.2)) else (none)) else (none)) else (none)) else (none)) else (none)) else (none)) else (none)))))))))) = some r:=by rw [if_neg (show ¬ (false = true) by decide)] at H;exact H
    clear H
    have H:=H1
    clear H1
    replace H:=Option.bind_eq_some_iff.mp H
    obtain ⟨⟨t249,t250⟩,A100,H⟩:=H
    replace H : ((thwartref04_Bytes.f kj4 l0).bind fun bt251 => ((frame_Take.f kj4 a1).bind fun bt253 => ((thwartref04_Take.f kj4 a1).bind fun bt258 => ((frame_Scan.f kj4 a1).bind fun bt263 => ((thwartref04_Scan.f kj4 a1).bind fun bt267 => ((thwartref03_Same.f kj4 bt253.1 bt258.1).bind fun t271 => ((thwartref04_Same.f kj4 bt263.1 bt267.1).bind fun t272 => (if t247 = true then (if t249.toList = bt251.1.toList then (if t250 = bt251.2 then (if t271 = true then (if bt253.2.1 = bt258.2.1 then (if bt253.2.2 = bt258.2.2 then (if t272 = true then (some (bt263.2 == bt267.2)) else (none)) else (none)) else (none)) else (none)) else (none)) else (none)) else (none))))))))) = some r:=H
    have A10:=Aside0.mk A100
    clear A100
    replace H:=Option.bind_eq_some_iff.mp H
    obtain ⟨⟨t251,t252⟩,A110,H⟩:=H
    replace H : ((frame_Take.f kj4 a1).bind fun bt253 => ((thwartref04_Take.f kj4 a1).bind fun bt258 => ((frame_Scan.f kj4 a1).bind fun bt263 => ((thwartref04_Scan.f kj4 a1).bind fun bt267 => ((thwartref03_Same.f kj4 bt253.1 bt258.1).bind fun t271 => ((thwartref04_Same.f kj4 bt263.1 bt267.1).bind fun t272 => (if t247 = true then (if t249.toList = t251.toList then (if t250 = t252 then (if t271 = true then (if bt253.2.1 = bt258.2.1 then (if bt253.2.2 = bt258.2.2 then (if t272 = true then (some (bt263.2 == bt267.2)) else (none)) else (none)) else (none)) else (none)) else (none)) else (none)) else (none)))))))) = some r:=H
    have A11:=Aside0.mk A110
    clear A110
    replace H:=Option.bind_eq_some_iff.mp H
    obtain ⟨⟨t253,t254,t255⟩,A120,H⟩:=H
    replace H : ((thwartref04_Take.f kj4 a1).bind fun bt258 => ((frame_Scan.f kj4 a1).bind fun bt263 => ((thwartref04_Scan.f kj4 a1).bind fun bt267 => ((thwartref03_Same.f kj4 t253 bt258.1).bind fun t271 => ((thwartref04_Same.f kj4 bt263.1 bt267.1).bind fun t272 => (if t247 = true then (if t249.toList = t251.toList then (if t250 = t252 then (if t271 = true then (if t254 = bt258.2.1 then (if t255 = bt258.2.2 then (if t272 = true then (some (bt263.2 == bt267.2)) else (none)) else (none)) else (none)) else (none)) else (none)) else (none)) else (none))))))) = some r:=H
    have A12:=Aside0.mk A120
    clear A120
    replace H:=Option.bind_eq_some_iff.mp H
    obtain ⟨⟨t258,t259,t260⟩,A130,H⟩:=H
    replace H : ((frame_Scan.f kj4 a1).bind fun bt263 => ((thwartref04_Scan.f kj4 a1).bind fun bt267 => ((thwartref03_Same.f kj4 t253 t258).bind fun t271 => ((thwartref04_Same.f kj4 bt263.1 bt267.1).bind fun t272 => (if t247 = true then (if t249.toList = t251.toList then (if t250 = t252 then (if t271 = true then (if t254 = t259 then (if t255 = t260 then (if t272 = true then (some (bt263.2 == bt267.2)) else (none)) else (none)) else (none)) else (none)) else (none)) else (none)) else (none)))))) = some r:=H
    have A13:=Aside0.mk A130
    clear A130
    replace H:=Option.bind_eq_some_iff.mp H
    obtain ⟨⟨t263,t264⟩,A140,H⟩:=H
    replace H : ((thwartref04_Scan.f kj4 a1).bind fun bt267 => ((thwartref03_Same.f kj4 t253 t258).bind fun t271 => ((thwartref04_Same.f kj4 t263 bt267.1).bind fun t272 => (if t247 = true then (if t249.toList = t251.toList then (if t250 = t252 then (if t271 = true then (if t254 = t259 then (if t255 = t260 then (if t272 = true then (some (t264 == bt267.2)) else (none)) else (none)) else (none)) else (none)) else (none)) else (none)) else (none))))) = some r:=H
    have A14:=Aside0.mk A140
    clear A140
    replace H:=Option.bind_eq_some_iff.mp H
    obtain ⟨⟨t267,t268⟩,A150,H⟩:=H
    replace H : ((thwartref03_Same.f kj4 t253 t258).bind fun t271 => ((thwartref04_Same.f kj4 t263 t267).bind fun t272 => (if t247 = true then (if t249.toList = t251.toList then (if t250 = t252 then (if t271 = true then (if t254 = t259 then (if t255 = t260 then (if t272 = true then (some (t264 == t268)) else (none)) else (none)) else (none)) else (none)) else (none)) else (none)) else (none)))) = some r:=H
    have A15:=Aside0.mk A150
    clear A150
    replace H:=Option.bind_eq_some_iff.mp H
    obtain ⟨t271,A160,H⟩:=H
    replace H : ((thwartref04_Same.f kj4 t263 t267).bind fun t272 => (if t247 = true then (if t249.toList = t251.toList then (if t250 = t252 then (if t271 = true then (if t254 = t259 then (if t255 = t260 then (if t272 = true then (some (t264 == t268)) else (none)) else (none)) else (none)) else (none)) else (none)) else (none)) else (none))) = some r:=H
    have A16:=Aside0.mk A160
    clear A160
    replace H:=Option.bind_eq_some_iff.mp H
    obtain ⟨t272,A170,H⟩:=H
    replace H : (if t247 = true then (if t249.toList = t251.toList then (if t250 = t252 then (if t271 = true then (if t254 = t259 then (if t255 = t260 then (if t272 = true then (some (t264 == t268)) else (none)) else (none)) else (none)) else (none)) else (none)) else (none)) else (none)) = some r:=H
    have A17:=Aside0.mk A170
    clear A170
    by_cases c18 : t247 = true
    ·subst c18
     have H1 : (if t249.toList = t251.toList then (if t250 = t252 then (if t271 = true then (if t254 = t259 then (if t255 = t260 then (if t272 = true then (some (t264 == t268)) else (none)) else (none)) else (none)) else (none)) else (none)) else (none)) = some r:=by rw [if_pos rfl] at H;exact H
     clear H
     have H:=H1
     clear H1
     by_cases c19 : t249.toList = t251.toList
     ·rw [if_pos c19] at H
      have c19b0 : (t249.toList == t251.toList) = true:=beq_iff_eq.mpr c19
      have c19b1 : (t249.toList != t251.toList) = false:=bne_eq_false_iff_eq.mpr c19
      clear c19
      by_cases c20 : t250 = t252
      ·rw [if_pos c20] at H
       have c20b0 : (t250 == t252) = true:=beq_iff_eq.mpr c20
       have c20b1 : (t250 != t252) = false:=bne_eq_false_iff_eq.mpr c20
       clear c20
       by_cases c21 : t271 = true
       ·subst c21
        have H1 : (if t254 = t259 then (if t255 = t260 then (if t272 = true then (some (t264 == t268)) else (none)) else (none)) else (none)) = some r:=by rw [if_pos rfl] at H;exact H
        clear H
        have H:=H1
        clear H1
        by_cases c22 : t254 = t259
        ·rw [if_pos c22] at H
         have c22b0 : (t254 == t259) = true:=beq_iff_eq.mpr c22
         have c22b1 : (t254 != t259) = false:=bne_eq_false_iff_eq.mpr c22
         clear c22
         by_cases c23 : t255 = t260
         ·rw [if_pos c23] at H
          have c23b0 : (t255 == t260) = true:=beq_iff_eq.mpr c23
          have c23b1 : (t255 != t260) = false:=bne_eq_false_iff_eq.mpr c23
          clear c23
          by_cases c24 : t272 = true
          ·subst c24
           have H1 : (some (t264 == t268)) = some r:=by rw [if_pos rfl] at H;exact H
           clear H
           have H:=H1
           clear H1
           obtain rfl:=Option.some.inj H
           go_wp2_with (first | ((with_reducible refine gate_callee (f:=24) rfl ?_);refine goesL_ (some 36) rfl rfl Try.func24 (by kernel_rfl) rfl #[.slice A0 l0.length c0] rfl (by (try simp only [List.map_toArray,List.map_cons,List.map_nil]);first | done | rfl | (simp only [List.length_drop,List.length_take];rfl)) ?_;(with_reducible refine (frame_Bytes.calls kj4 _ _ l0 t249 t250 _ ?side1 ?side2 A10.out).mono ?_);(case side1 => repeat (first | exact (Kd.C_below HR0.out HB.out) | (with_reducible refine Kd.C_alloc ?_ _) | (with_reducible refine Kd.C_drewN ?_ _) | (with_reducible refine Kd.C_drew ?_)));(case side2 => exact HC0.out);rintro e w25 ⟨rfl,hb⟩;refine ⟨_,rfl,?_⟩;have n0_:=Aside0.mk (below_step (by repeat (first | (with_reducible first | exact HB.out | apply below_alloc | apply pw_below_drewN | apply below_drew1) | exact HB.out)) hb);clear HB;have HB:=n0_;clear n0_;(try clear hb);(try clear hb2);(try clear hk);(try clear hi)) | ((with_reducible refine gate_callee (f:=25) rfl ?_);refine goesL_ (some 41) rfl rfl Try.func25 (by kernel_rfl) rfl #[.slice A0 l0.length c0] rfl (by (try simp only [List.map_toArray,List.map_cons,List.map_nil]);first | done | rfl | (simp only [List.length_drop,List.length_take];rfl)) ?_;(with_reducible refine (thwartref04_Bytes.calls kj4 _ _ l0 t251 t252 _ ?side1 ?side2 A11.out).mono ?_);(case side1 => repeat (first | exact (Kd.C_below HR0.out HB.out) | (with_reducible refine Kd.C_alloc ?_ _) | (with_reducible refine Kd.C_drewN ?_ _) | (with_reducible refine Kd.C_drew ?_)));(case side2 => exact HC0.out);rintro e w26 ⟨rfl,hb⟩;refine ⟨_,rfl,?_⟩;have n0_:=Aside0.mk (below_step (by repeat (first | (with_reducible first | exact HB.out | apply below_alloc | apply pw_below_drewN | apply below_drew1) | exact HB.out)) hb);clear HB;have HB:=n0_;clear n0_;(try clear hb);(try clear hb2);(try clear hk);(try clear hi)) | ((with_reducible refine gate_callee (f:=26) rfl ?_);refine goesL_ (some 46) rfl rfl Try.func26 (by kernel_rfl) rfl #[.string a1] rfl (by (try simp only [List.map_toArray,List.map_cons,List.map_nil]);first | done | rfl | (simp only [List.length_drop,List.length_take];rfl)) ?_;(with_reducible refine (frame_Take.calls kj4 a1 t253 t254 t255 _ A12.out).mono ?_);rintro e w27 ⟨v256,rfl,ho0,hb⟩;refine ⟨_,rfl,?_⟩;have n0_:=Aside0.mk (Kd.R_lower ho0 (below_size (by repeat (first | (with_reducible first | exact HB.out | apply below_alloc | apply pw_below_drewN | apply below_drew1) | exact HB.out))));have n1_:=Aside0.mk (below_step (by repeat (first | (with_reducible first | exact HB.out | apply below_alloc | apply pw_below_drewN | apply below_drew1) | exact HB.out)) hb);clear HB;have HO257:=n0_;have HB:=n1_;clear n0_ n1_;(try clear hb);(try clear hb2);(try clear hk);(try clear hi);(try clear ho0)) | ((with_reducible refine gate_callee (f:=27) rfl ?_);refine goesL_ (some 52) rfl rfl Try.func27 (by kernel_rfl) rfl #[.string a1] rfl (by (try simp only [List.map_toArray,List.map_cons,List.map_nil]);first | done | rfl | (simp only [List.length_drop,List.length_take];rfl)) ?_;(with_reducible refine (thwartref04_Take.calls kj4 a1 t258 t259 t260 _ A13.out).mono ?_);rintro e w28 ⟨v261,rfl,ho0,hb⟩;refine ⟨_,rfl,?_⟩;have n0_:=Aside0.mk (Kd.R_elder' (by (with_reducible repeat (first | apply Kd.R_alloc | apply Kd.R_drewN | apply Kd.R_drew));exact HO257.out) (Kd.R_base ho0) hb);have n1_:=Aside0.mk (Kd.R_lower (Kd.R_new' ho0 (Kd.R_lt (by (with_reducible repeat (first | apply Kd.R_alloc | apply Kd.R_drewN | apply Kd.R_drew));exact HO257.out))) (below_size (by repeat (first | (with_reducible first | exact HB.out | apply below_alloc | apply pw_below_drewN | apply below_drew1) | exact HB.out))));have n2_:=Aside0.mk (below_step (by repeat (first | (with_reducible first | exact HB.out | apply below_alloc | apply pw_below_drewN | apply below_drew1) | exact HB.out)) hb);clear HO257;clear HB;have HO257:=n0_;have HO262:=n1_;have HB:=n2_;clear n0_ n1_ n2_;(try clear hb);(try clear hb2);(try clear hk);(try clear hi);(try clear ho0)) | ((with_reducible refine gate_callee (f:=28) rfl ?_);refine goesL_ (some 58) rfl rfl Try.func28 (by kernel_rfl) rfl #[.string a1] rfl (by (try simp only [List.map_toArray,List.map_cons,List.map_nil]);first | done | rfl | (simp only [List.length_drop,List.length_take];rfl)) ?_;(with_reducible refine (frame_Scan.calls kj4 a1 t263 t264 _ A14.out).mono ?_);rintro e w29 ⟨v265,rfl,ho0,hb⟩;refine ⟨_,rfl,?_⟩;have n0_:=Aside0.mk (Kd.R_below (by (with_reducible repeat (first | apply Kd.R_alloc | apply Kd.R_drewN | apply Kd.R_drew));exact HO257.out) hb);have n1_:=Aside0.mk (Kd.R_below (by (with_reducible repeat (first | apply Kd.R_alloc | apply Kd.R_drewN | apply Kd.R_drew));exact HO262.out) hb);have n2_:=Aside0.mk (Kd.S_lower (Kd.S_new' (Kd.S_new' ho0 (Kd.R_lt (by (with_reducible repeat (first | apply Kd.R_alloc | apply Kd.R_drewN | apply Kd.R_drew));exact HO257.out))) (Kd.R_lt (by (with_reducible repeat (first | apply Kd.R_alloc | apply Kd.R_drewN | apply Kd.R_drew));exact HO262.out))) (below_size (by repeat (first | (with_reducible first | exact HB.out | apply below_alloc | apply pw_below_drewN | apply below_drew1) | exact HB.out))));have n3_:=Aside0.mk (below_step (by repeat (first | (with_reducible first | exact HB.out | apply below_alloc | apply pw_below_drewN | apply below_drew1) | exact HB.out)) hb);clear HO257;clear HO262;clear HB;have HO257:=n0_;have HO262:=n1_;have HO266:=n2_;have HB:=n3_;clear n0_ n1_ n2_ n3_;(try clear hb);(try clear hb2);(try clear hk);(try clear hi);(try clear ho0)) | ((with_reducible refine gate_callee (f:=29) rfl ?_);refine goesL_ (some 63) rfl rfl Try.func29 (by kernel_rfl) rfl #[.string a1] rfl (by (try simp only [List.map_toArray,List.map_cons,List.map_nil]);first | done | rfl | (simp only [List.length_drop,List.length_take];rfl)) ?_;(with_reducible refine (thwartref04_Scan.calls kj4 a1 t267 t268 _ A15.out).mono ?_);rintro e w30 ⟨v269,rfl,ho0,hb⟩;refine ⟨_,rfl,?_⟩;have n0_:=Aside0.mk (Kd.R_below (by (with_reducible repeat (first | apply Kd.R_alloc | apply Kd.R_drewN | apply Kd.R_drew));exact HO257.out) hb);have n1_:=Aside0.mk (Kd.R_below (by (with_reducible repeat (first | apply Kd.R_alloc | apply Kd.R_drewN | apply Kd.R_drew));exact HO262.out) hb);have n2_:=Aside0.mk (Kd.S_elder' (by (with_reducible repeat (first | apply Kd.S_alloc | apply Kd.S_drewN | apply Kd.S_drew));exact HO266.out) (Kd.S_base ho0) hb);have n3_:=Aside0.mk (Kd.S_lower (Kd.S_new' (Kd.S_new' (Kd.S_new' ho0 (Kd.R_lt (by (with_reducible repeat (first | apply Kd.R_alloc | apply Kd.R_drewN | apply Kd.R_drew));exact HO257.out))) (Kd.R_lt (by (with_reducible repeat (first | apply Kd.R_alloc | apply Kd.R_drewN | apply Kd.R_drew));exact HO262.out))) (Kd.S_lt (by (with_reducible repeat (first | apply Kd.S_alloc | apply Kd.S_drewN | apply Kd.S_drew));exact HO266.out))) (below_size (by repeat (first | (with_reducible first | exact HB.out | apply below_alloc | apply pw_below_drewN | apply below_drew1) | exact HB.out))));have n4_:=Aside0.mk (below_step (by repeat (first | (with_reducible first | exact HB.out | apply below_alloc | apply pw_below_drewN | apply below_drew1) | exact HB.out)) hb);clear HO257;clear HO262;clear HO266;clear HB;have HO257:=n0_;have HO262:=n1_;have HO266:=n2_;have HO270:=n3_;have HB:=n4_;clear n0_ n1_ n2_ n3_ n4_;(try clear hb);(try clear hb2);(try clear hk);(try clear hi);(try clear ho0);obtain ⟨Ao31,co31,eo31⟩:=Kd.R_slice HO257.out;subst eo31;obtain ⟨Ao32,co32,eo32⟩:=Kd.R_slice HO262.out;subst eo32) | ((with_reducible refine gate_callee (f:=22) rfl ?_);refine goesL_ (some 68) rfl rfl Try.func22 (by kernel_rfl) rfl #[.slice Ao31 t253.length co31,.slice Ao32 t258.length co32] rfl (by (try simp only [List.map_toArray,List.map_cons,List.map_nil]);first | done | rfl | (simp only [List.length_drop,List.length_take];rfl)) ?_;(with_reducible refine (thwartref03_Same.calls kj4 _ _ t253 _ _ t258 true _ ?side1 ?side2 ?side3 ?side4 A16.out).mono ?_);(case side1 => repeat (first | exact (Kd.R_reads' HO257.out).2.2 | (with_reducible refine Kd.C_alloc ?_ _) | (with_reducible refine Kd.C_drewN ?_ _) | (with_reducible refine Kd.C_drew ?_)));(case side2 => exact (Kd.R_reads' HO257.out).2.1);(case side3 => repeat (first | exact (Kd.R_reads' HO262.out).2.2 | (with_reducible refine Kd.C_alloc ?_ _) | (with_reducible refine Kd.C_drewN ?_ _) | (with_reducible refine Kd.C_drew ?_)));(case side4 => exact (Kd.R_reads' HO262.out).2.1);rintro e w' ⟨rfl,⟨nd,rfl⟩⟩;refine ⟨_,rfl,?_⟩;obtain ⟨Ao33,co33,eo33⟩:=Kd.S_slice HO266.out;subst eo33;obtain ⟨Ao34,co34,eo34⟩:=Kd.S_slice HO270.out;subst eo34) | ((with_reducible refine gate_callee (f:=30) rfl ?_);refine goesL_ (some 71) rfl rfl Try.func30 (by kernel_rfl) rfl #[.slice Ao33 t263.length co33,.slice Ao34 t267.length co34] rfl (by (try simp only [List.map_toArray,List.map_cons,List.map_nil]);first | done | rfl | (simp only [List.length_drop,List.length_take];rfl)) ?_;(with_reducible refine (thwartref04_Same.calls kj4 _ _ t263 _ _ t267 true _ ?side1 ?side2 ?side3 ?side4 A17.out).mono ?_);(case side1 => repeat (first | exact (Kd.S_reads' HO266.out).2.2 | (with_reducible refine Kd.C_alloc ?_ _) | (with_reducible refine Kd.C_drewN ?_ _) | (with_reducible refine Kd.C_drew ?_)));(case side2 => exact (Kd.S_reads' HO266.out).2.1);(case side3 => repeat (first | exact (Kd.S_reads' HO270.out).2.2 | (with_reducible refine Kd.C_alloc ?_ _) | (with_reducible refine Kd.C_drewN ?_ _) | (with_reducible refine Kd.C_drew ?_)));(case side4 => exact (Kd.S_reads' HO270.out).2.1);rintro e w' ⟨rfl,⟨nd,rfl⟩⟩;refine ⟨_,rfl,?_⟩))
           go_ret
           exact ⟨by first | rfl | (simp [errW_none,errW_some] <;> rfl) | (simp [*,errW_none,errW_some] <;> rfl) | (simp [errW_none,errW_some];exact isEmpty_bne _),by repeat (first | (with_reducible first | exact HB.out | apply below_alloc | apply pw_below_drewN | apply below_drew1) | exact HB.out)⟩
          ·replace c24:=Bool.eq_false_iff.mpr c24
           subst c24
           have H1 : (none) = some r:=by rw [if_neg (show ¬ (false = true) by decide)] at H;exact H
           clear H
           have H:=H1
           clear H1
           exact absurd H (by simp)
         ·rw [if_neg c23] at H
          exact absurd H (by simp)
        ·rw [if_neg c22] at H
         exact absurd H (by simp)
       ·replace c21:=Bool.eq_false_iff.mpr c21
        subst c21
        have H1 : (none) = some r:=by rw [if_neg (show ¬ (false = true) by decide)] at H;exact H
        clear H
        have H:=H1
        clear H1
        exact absurd H (by simp)
      ·rw [if_neg c20] at H
       exact absurd H (by simp)
     ·rw [if_neg c19] at H
      exact absurd H (by simp)
    ·replace c18:=Bool.eq_false_iff.mpr c18
     subst c18
     have H1 : (none) = some r:=by rw [if_neg (show ¬ (false = true) by decide)] at H;exact H
     clear H
     have H:=H1
     clear H1
     exact absurd H (by simp)

/-- THE ONE PURE STATEMENT of thwartlaw04_FrameTakes: yours. -/
def thwartlaw04_FrameTakes.Pure : Prop := ∀ (l0 : List (S24)) (a1 : ByteArray),l0.length * 48 ≤ 140737488351232 → (l0.length ≤ 9223372036854775807 ∧ ∀ e273 ∈ l0,((Lit.int .u64 e273.f0).wf = true ∧ e273.f1.size ≤ 9223372036854775807 ∧ e273.f2.size ≤ 9223372036854775807 ∧ True)) → a1.size ≤ 140737488351232 → ∃ k,thwartlaw04_FrameTakes.f k l0 a1 = some true
theorem thwartlaw04_FrameTakes.walk (P : thwartlaw04_FrameTakes.Pure) (A0 : Option Addr) (n0 c0 : Nat) (l0 : List (S24)) (a1 : ByteArray) (w : World) (K0 : (Kd.slice 24 k24).K w l0 [.slice A0 n0 c0]) (y0 : n0 * 48 ≤ 140737488351232) (G0 : (l0.length ≤ 9223372036854775807 ∧ ∀ e273 ∈ l0,((Lit.int .u64 e273.f0).wf = true ∧ e273.f1.size ≤ 9223372036854775807 ∧ e273.f2.size ≤ 9223372036854775807 ∧ True))) (w1 : a1.size ≤ 140737488351232) :
  Calls Try.prog 7 #[.slice A0 n0 c0,.string a1] w fun e w' => e = .returned (.bool true) ∧ Below w.heap.size w w' := by
 obtain ⟨A0_,c0_,e0,hc0,hr0⟩:=K0
 simp only [List.cons.injEq,Value.slice.injEq,and_true] at e0
 obtain ⟨rfl,rfl,rfl⟩:=e0
 obtain ⟨k,h⟩:=P l0 a1 y0 G0 w1
 refine (thwartlaw04_FrameTakes.calls k _ _ l0 a1 true w hr0 hc0 h).mono ?_
 rintro e w' ⟨rfl,hd⟩
 exact ⟨rfl,hd⟩

/-! ### thwartlaw04_FrameOne: function 9 -/
def thwartlaw04_FrameOne.f (k : Nat) (l0 : List (S24)) (a1 : ByteArray) (a2 : Int) : Option Bool :=
  (thwartlaw04_awake.f k).bind fun up => (thwartref03_Light.f k l0).bind fun ok => (frame_Bytes.f k l0).bind fun se =>
    (if up = true then
      (if ok = true ∧ se.2 = 0 ∧ a1.size ≤ 300 ∧ 0 ≤ a2 then
        (if (8 ≤ se.1.size ∧ se.1.size ≤ 8000) ∧ a2 ≤ 9223372036854775807 then
          (frame_Take.f k (se.1 ++ a1)).bind fun m => (thwartref03_Same.f k l0 m.1).bind fun same => (frame_Take.f k (Thw.turnS se.1 a2.toNat ++ a1)).bind fun m2 =>
            (if m.2.2 = 0 ∧ same = true ∧ m.2.1 = (se.1.size : Int) ∧ m2.2.2 = 4 then some true else none)
        else none)
      else some true)
    else none)
theorem thwartlaw04_FrameOne.mono : ∀ a0 a1 a2 k, LeO (thwartlaw04_FrameOne.f k a0 a1 a2) (thwartlaw04_FrameOne.f (k + 1) a0 a1 a2) := by
  intro a0 a1 a2 k
  unfold thwartlaw04_FrameOne.f
  repeat' first
      | (with_reducible exact thwartlaw04_awake.mono _)
      | (with_reducible exact frame_Take.mono _ _)
      | (with_reducible exact frame_Bytes.mono _ _)
      | (with_reducible exact thwartref03_Light.mono _ _)
      | (with_reducible exact thwartref03_Same.mono _ _ _)
      | (with_reducible exact LeO.refl _)
      | (with_reducible exact LeO.none _)
      | (with_reducible refine LeO.ite ?_ ?_)
      | (with_reducible refine LeO.bind ?_ (fun _ => ?_))
set_option maxHeartbeats 12800000 in
set_option maxRecDepth 100000 in
theorem thwartlaw04_FrameOne.calls (k : Nat) (A0 : Option Addr) (c0 : Nat) (l0 : List (S24)) (a1 : ByteArray) (a2 : Int) (r : Bool) (w : World) (hr0 : Kd.C k24 w A0 l0.length l0) (hc0 : l0.length ≤ c0) (h : thwartlaw04_FrameOne.f k l0 a1 a2 = some r) :
    Calls Try.prog 9 #[.slice A0 l0.length c0, .string a1, .int .i64 a2] w fun e w' => e = .returned (.bool r) ∧ Below w.heap.size w w' := by
  unfold thwartlaw04_FrameOne.f at h
  replace h := Option.bind_eq_some_iff.mp h
  obtain ⟨up, HUP, h⟩ := h
  replace h := Option.bind_eq_some_iff.mp h
  obtain ⟨ok, HOK, h⟩ := h
  replace h := Option.bind_eq_some_iff.mp h
  obtain ⟨⟨s, er⟩, HSE, h⟩ := h
  by_cases hup : up = true
  case neg => rw [if_neg hup] at h; cases h
  rw [if_pos hup] at h
  subst hup
  simp only [] at h
  replace HUP := Aside0.mk HUP
  replace HOK := Aside0.mk HOK
  replace HSE := Aside0.mk HSE
  have HR := Aside0.mk hr0
  have HC := Aside0.mk hc0
  have H := Aside0.mk h
  clear h hr0 hc0
  have hpb := fun (s : ByteArray) (W : World) => print_bytes (P := Try.prog) 9 52 5 Try.underlying9 Try.underlying52 Try.underlying5 s W
  go_enter Try.func9, Try.ntmps9
  go_wp2_with fail
  refine (thwartlaw04_awake.calls k true _ HUP.out).mono ?_
  rintro e w1 ⟨rfl, b1⟩
  have B1 := Aside0.mk ((Below.refl w.heap.size w).trans b1)
  clear b1
  go_wp2_with fail
  refine (thwartref03_Light.calls k A0 c0 l0 ok w1 (Kd.C_below HR.out B1.out) HC.out HOK.out).mono ?_
  rintro e w2 ⟨rfl, b2⟩
  have B2 := Aside0.mk (B1.out.trans (b2.mono B1.out.size))
  clear b2
  go_wp2_with fail
  refine (frame_Bytes.calls k A0 c0 l0 s er w2 (Kd.C_below HR.out B2.out) HC.out HSE.out).mono ?_
  rintro e w3 ⟨rfl, b3⟩
  have B3 := Aside0.mk (B2.out.trans (b3.mono B2.out.size))
  clear b3
  have STOP := Aside0.mk (show ¬ (ok = true ∧ er = 0 ∧ a1.size ≤ 300 ∧ 0 ≤ a2) → r = true from fun hn => by
    have := H.out
    rw [if_neg hn] at this
    exact (Option.some.inj this).symm)
  cases ok with
  | false =>
    obtain rfl : r = true := STOP.out (by simp)
    clear STOP
    by_cases he : er = 0
    · subst he
      go_wp2_with fail
      go_ret
      exact ⟨rfl, B3.out⟩
    · have e1 : (er != 0) = true := bne_iff_ne.mpr he
      go_wp2_with fail
      go_ret
      exact ⟨rfl, B3.out⟩
  | true =>
    by_cases he : er = 0
    case neg =>
      obtain rfl : r = true := STOP.out (by simp [he])
      clear STOP
      have e1 : (er != 0) = true := bne_iff_ne.mpr he
      go_wp2_with fail
      go_ret
      exact ⟨rfl, B3.out⟩
    subst he
    by_cases h3 : a1.size ≤ 300
    case neg =>
      obtain rfl : r = true := STOP.out (by simp [h3])
      clear STOP
      have e1 : decide ((300 : Int) < (a1.size : Int)) = true := decide_eq_true (by omega)
      go_wp2_with fail
      go_ret
      exact ⟨rfl, B3.out⟩
    have e1 : decide ((300 : Int) < (a1.size : Int)) = false := decide_eq_false (by omega)
    by_cases h4 : 0 ≤ a2
    case neg =>
      obtain rfl : r = true := STOP.out (by simp [h4])
      clear STOP
      have e2 : decide (a2 < 0) = true := decide_eq_true (by omega)
      go_wp2_with fail
      go_ret
      exact ⟨rfl, B3.out⟩
    have e2 : decide (a2 < 0) = false := decide_eq_false (by omega)
    have h := H.out
    clear STOP H
    rw [if_pos ⟨rfl, rfl, h3, h4⟩] at h
    by_cases h5 : (8 ≤ s.size ∧ s.size ≤ 8000) ∧ a2 ≤ 9223372036854775807
    case neg => rw [if_neg h5] at h; cases h
    rw [if_pos h5] at h
    replace h := Option.bind_eq_some_iff.mp h
    obtain ⟨⟨m, n, f⟩, HT, h⟩ := h
    replace h := Option.bind_eq_some_iff.mp h
    obtain ⟨same, HS, h⟩ := h
    replace h := Option.bind_eq_some_iff.mp h
    obtain ⟨⟨m2, n2, f2⟩, HT2, h⟩ := h
    simp only [] at HT HS HT2 h
    split at h
    case isFalse => cases h
    rename_i hall
    cases h
    obtain ⟨rfl, rfl, rfl, rfl⟩ := hall
    replace HT := Aside0.mk HT
    replace HS := Aside0.mk HS
    replace HT2 := Aside0.mk HT2
    obtain ⟨a, rfl⟩ : ∃ a : Nat, a2 = (a : Int) := ⟨a2.toNat, by omega⟩
    simp only [Int.toNat_natCast] at HT2
    have e3 : decide ((s.size : Int) < 8) = false := decide_eq_false (by omega)
    go_wp2_with fail
    refine (frame_Take.calls k _ m _ _ w3 HT.out).mono ?_
    rintro e w4 ⟨v, rfl, ho4, b4⟩
    obtain ⟨A4, c4, rfl, l4, k4⟩ := Kd.R_reads ho4
    have B4 := Aside0.mk (B3.out.trans (b4.mono B3.out.size))
    have L4 := Aside0.mk l4
    have K4 := Aside0.mk k4
    clear b4 ho4 l4 k4
    go_wp2_with fail
    refine (thwartref03_Same.calls k A0 c0 l0 A4 c4 m true w4 (Kd.C_below HR.out B4.out) HC.out K4.out L4.out HS.out).mono ?_
    rintro e w5 ⟨rfl, d5, rfl⟩
    have B5 := Aside0.mk (show Below w.heap.size w (w4.drewN d5) by apply pw_below_drewN; exact B4.out)
    go_upto_if 80 with (fail)
    go_cut [15] from 78 to 81 (fun v15 wx => v15 = .int .i64 (Thw.headS s.size : Nat) ∧ Aside0 (Below w.heap.size w wx))
    case first =>
      by_cases h129 : 129 < s.size
      · have e4 : decide ((129 : Int) < (s.size : Int)) = true := decide_eq_true (by omega)
        go_wp2_with fail
        go_meet
        case rel => exact ⟨by unfold Thw.headS; rw [if_pos h129]; rfl, B5⟩
      · have e4 : decide ((129 : Int) < (s.size : Int)) = false := decide_eq_false (by omega)
        go_wp2_with fail
        go_meet
        case rel => exact ⟨by unfold Thw.headS; rw [if_neg h129]; rfl, B5⟩
    case rest =>
      obtain ⟨rfl, BC⟩ := hcut
      obtain ⟨hd, hhd⟩ : ∃ hd, Thw.headS s.size = hd := ⟨_, rfl⟩
      have hd2 : 1 ≤ hd ∧ hd ≤ 2 := by rw [← hhd]; unfold Thw.headS; split <;> omega
      obtain ⟨hpl1, hpl2⟩ := Thw.placeS_lt s.size a (by omega)
      obtain ⟨pl, hpl⟩ : ∃ pl, Thw.placeS s.size a = pl := ⟨_, rfl⟩
      have hpe : pl = hd + a / 8 % (s.size - hd) := by rw [← hpl, ← hhd]; rfl
      rw [hpl] at hpl1 hpl2
      rw [hhd] at hpl1 ⊢
      have HPL := Aside0.mk hpl
      clear hhd hpl
      go_upto_region 12 with (fail)
      have R3 := Aside0.mk (Thw.ByR.new wc s)
      have B7 := Aside0.mk (bytes_below BC.out BC.out.size 5 s)
      generalize Lib.bytesWorld wc 5 s = wd at R3 B7 ⊢
      obtain ⟨cap, hcap⟩ : ∃ cap, grownCap wc s.size 0 5 = cap := ⟨_, rfl⟩
      rw [hcap]
      obtain ⟨g, hg⟩ : ∃ g, wc.heap.size = g := ⟨_, rfl⟩
      rw [hg] at R3 ⊢
      have HGN := Aside0.mk (show w.heap.size ≤ g by rw [← hg]; exact BC.out.size)
      have q1 : ((a : Int).tdiv 8) = ((a / 8 : Nat) : Int) := by rw [Int.tdiv_eq_ediv_of_nonneg (by omega)]; rfl
      have q2 : IntKind.i64.wrap ((s.size : Int) - (hd : Int)) = ((s.size - hd : Nat) : Int) := by rw [IntWalk.i64_in _ (by omega)]; omega
      have q3 : (((a / 8 : Nat) : Int).tmod ((s.size - hd : Nat) : Int)) = ((a / 8 % (s.size - hd) : Nat) : Int) := by rw [Int.tmod_eq_emod_of_nonneg (by omega)]; rfl
      have q4 : IntKind.i64.wrap ((hd : Int) + ((a / 8 % (s.size - hd) : Nat) : Int)) = (pl : Int) := by rw [IntWalk.i64_in _ (by omega)]; omega
      have q5 : (((s.size - hd : Nat) : Int) == 0) = false := beq_eq_false_iff_ne.mpr (by omega)
      clear hcap hg
      go_upto_region 13 with (fail)
      rw [show wrap64 ((hd : Int) + (a : Int) / 8 % ((s.size - hd : Nat) : Int)) = (pl : Int) by
        rw [show (a : Int) / 8 % ((s.size - hd : Nat) : Int) = ((a / 8 % (s.size - hd) : Nat) : Int) from rfl, Thw.wrap64_in (by omega) (by omega)]
        omega]
      have hlen : (Thw.L s).length = s.size := Thw.L_length s
      have HLEN := Aside0.mk hlen
      have hpn : pl < (Thw.L s).length := by omega
      have HPN := Aside0.mk hpn
      obtain ⟨x, hx⟩ : ∃ x, (Thw.L s)[pl]'(HPN.out) = x := ⟨_, rfl⟩
      have HX := Aside0.mk hx
      have k0 : 0 ≤ (pl : Int) := by omega
      have k1 : (pl : Int) < (s.size : Int) := by omega
      clear q1 q2 q3 q4 q5 hpe hx hpn hlen hpl1 hpl2
      refine Thw.region_tail 11 (by kernel_rfl) (by kernel_rfl) (fun W => Thw.ByR W g (Thw.L s) ∧ Below w.heap.size w W) ⟨R3.out, B7.out.drew⟩ ?_
      rintro w8 ⟨r8, b8⟩
      obtain ⟨c8, z8⟩ := r8.cell HPN.out
      rw [HX.out] at c8
      have R8 := Aside0.mk r8
      have B8 := Aside0.mk b8
      clear r8 b8
      simp only [List.take_succ_cons, List.take_zero, List.drop_succ_cons, List.drop_zero]
      have q7 : ((a : Int).tmod 8) = ((a % 8 : Nat) : Int) := by rw [Int.tmod_eq_emod_of_nonneg (by omega)]; rfl
      repeat still_step
      refine wpStill_nil ?_
      go_upto_region 14 with (fail)
      rw [Thw.bit_xor x (a % 8) (by omega)]
      have R9 := Aside0.mk (R8.out.set HPN.out (x ^^^ Thw.bitS (a % 8)))
      have B9 := Aside0.mk (show Below w.heap.size w (w8.setCell ⟨g, pl, none⟩ (.int .u8 ((x ^^^ Thw.bitS (a % 8)).toNat : Int))) from B8.out.setCell HGN.out _)
      generalize w8.setCell ⟨g, pl, none⟩ (.int .u8 ((x ^^^ Thw.bitS (a % 8)).toNat : Int)) = w9 at R9 B9 ⊢
      have ht9 := R9.out.text cap
      rw [List.length_set, HLEN.out, ← Thw.turnS_eq s a pl x HPL.out HPN.out HX.out] at ht9
      have hts : (Thw.turnS s a).size ≤ 8000 := by rw [Thw.turnS_size]; omega
      clear c8 z8 q7 k0 k1
      go_wp2_with fail
      refine (frame_Take.calls k _ m2 n2 4 w9 HT2.out).mono ?_
      rintro e wz ⟨v, rfl, ho, bz⟩
      obtain ⟨Az, cz, rfl, _, _⟩ := Kd.R_reads ho
      have BZ := Aside0.mk (B9.out.trans (bz.mono B9.out.size))
      clear bz ho ht9
      have e5 : ((s.size : Int) == (s.size : Int)) = true := beq_self_eq_true _
      go_wp2_with fail
      go_ret
      exact ⟨rfl, BZ.out⟩

/-- THE ONE PURE STATEMENT of thwartlaw04_FrameOne: yours. -/
def thwartlaw04_FrameOne.Pure : Prop := ∀ (l0 : List (S24)) (a1 : ByteArray) (a2 : Int), l0.length * 48 ≤ 140737488351232 → (l0.length ≤ 9223372036854775807 ∧ ∀ e274 ∈ l0, ((Lit.int .u64 e274.f0).wf = true ∧ e274.f1.size ≤ 9223372036854775807 ∧ e274.f2.size ≤ 9223372036854775807 ∧ True)) → a1.size ≤ 140737488351232 → (Lit.int .i64 a2).wf = true → ∃ k, thwartlaw04_FrameOne.f k l0 a1 a2 = some true
theorem thwartlaw04_FrameOne.walk (P : thwartlaw04_FrameOne.Pure) (A0 : Option Addr) (n0 c0 : Nat) (l0 : List (S24)) (a1 : ByteArray) (a2 : Int) (w : World) (K0 : (Kd.slice 24 k24).K w l0 [.slice A0 n0 c0]) (y0 : n0 * 48 ≤ 140737488351232) (G0 : (l0.length ≤ 9223372036854775807 ∧ ∀ e274 ∈ l0, ((Lit.int .u64 e274.f0).wf = true ∧ e274.f1.size ≤ 9223372036854775807 ∧ e274.f2.size ≤ 9223372036854775807 ∧ True))) (w1 : a1.size ≤ 140737488351232) (w2 : (Lit.int .i64 a2).wf = true) :
    Calls Try.prog 9 #[.slice A0 n0 c0, .string a1, .int .i64 a2] w fun e w' => e = .returned (.bool true) ∧ Below w.heap.size w w' := by
  obtain ⟨A0_, c0_, e0, hc0, hr0⟩ := K0
  simp only [List.cons.injEq, Value.slice.injEq, and_true] at e0
  obtain ⟨rfl, rfl, rfl⟩ := e0
  obtain ⟨k, h⟩ := P l0 a1 a2 y0 G0 w1 w2
  refine (thwartlaw04_FrameOne.calls k _ _ l0 a1 a2 true w hr0 hc0 h).mono ?_
  rintro e w' ⟨rfl, hd⟩
  exact ⟨rfl, hd⟩

end Go.Proofs.Ytnhmhdconmollaa.Print
