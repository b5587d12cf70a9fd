/- Written by a program of mine (give.py, over the kit's print) out of the translation: contracts of the Go functions. Lean checks it. -/
import Derived.Test.YtnhmhdconmollaaPrint0
import Derived.Test.YtnhmhdconmollaaPrint3
import Derived.Test.YtnhmhdconmollaaPrint5
import Derived.Test.YtnhmhdconmollaaPrint8
import Derived.Test.YtnhmhdconmollaaPrint9
namespace Go.Proofs.Ytnhmhdconmollaa.Print
open Go.RowKit Go.Proofs.YtnhmhdconmollaaW.PrintWords Go.Proofs.YtnhmhdconmollaaW.PrintLast Go.Proofs.YtnhmhdconmollaaW.PrintMore
attribute [local go_sem] max2_int min2_int max_two min_two max_three min_three max_four min_four   -- for this text's walks alone
set_option linter.unusedVariables false
set_option linter.unusedSimpArgs false

/-! ### thwartlaw04_FrameCuts: function 8 -/
mutual
def thwartlaw04_FrameCuts.j0 : Nat → List (List (S24)) → Int → Bool → Bool → Option (Bool)
 | 0,_,_,_,_ => none
 | k + 1,x0,x1,x5,x25 => if x25 = true then (some x5) else (if 0 ≤ (x0.length : Int) then (if ((x0.length : Int) : Int).toNat ≤ 35184372088832 then (thwartlaw04_FrameCuts.l0 k x0 x1 x5 (⟨#[]⟩ : ByteArray) (List.replicate ((x0.length : Int) : Int).toNat 0) 0) else (none)) else (none))
def thwartlaw04_FrameCuts.l0 : Nat → List (List (S24)) → Int → Bool → ByteArray → List Int → Int → Option (Bool)
 | 0,_,_,_,_,_,_ => none
 | k + 1,x0,x1,x5,x7,x8,x9 => if x9 < (x0.length : Int) then (if 0 ≤ x9 then ((frame_Bytes.f k (rd_L6 x0 x9)).bind fun bt283 => (if bt283.2 = 0 then (if x7.size + bt283.1.size ≤ 9223372036854775807 then (if x9 < (x8.length : Int) then (thwartlaw04_FrameCuts.l0 k x0 x1 x5 (x7 ++ bt283.1) (x8.set (x9 : Int).toNat ((x7 ++ bt283.1).size : Int)) (wrap64 (x9 + 1))) else (none)) else (none)) else (if x5 = true then (if bt283.1.toList = ([] : List UInt8) then (some (bt283.2 == 1)) else (none)) else (none)))) else (none)) else (if (wrap64 ((x7.size : Int) + 1)) = 0 then (none) else (thwartlaw04_FrameCuts.l1 k x0 x5 x7 x8 (Int.tmod x1 (wrap64 ((x7.size : Int) + 1))) 0))
def thwartlaw04_FrameCuts.j3 : Nat → List (List (S24)) → Bool → ByteArray → List Int → Int → Int → Option (Bool)
 | 0,_,_,_,_,_,_ => none
 | k + 1,x0,x5,x7,x8,x12,x13 => if 0 ≤ x12 then (if x12 ≤ (x7.size : Int) then ((frame_Scan.f k (x7.extract 0 (x12 : Int).toNat)).bind fun bt287 => (if (bt287.1.length : Int) = x13 then (if x13 > 0 then (if 0 ≤ (wrap64 (x13 - 1)) then (if (wrap64 (x13 - 1)) < (x8.length : Int) then (if bt287.2 = (rd x8 (wrap64 (x13 - 1))) then (if x13 = 0 then (if bt287.2 = 0 then (if 0 ≤ x13 then (if x13 ≤ (x0.length : Int) then ((thwartref04_Same.f k bt287.1 (x0.take (x13 : Int).toNat)).bind fun t296 => (if x5 = true then (some t296) else (none))) else (none)) else (none)) else (none)) else (if 0 ≤ x13 then (if x13 ≤ (x0.length : Int) then ((thwartref04_Same.f k bt287.1 (x0.take (x13 : Int).toNat)).bind fun t301 => (if x5 = true then (some t301) else (none))) else (none)) else (none))) else (none)) else (none)) else (none)) else (if x13 = 0 then (if bt287.2 = 0 then (if 0 ≤ x13 then (if x13 ≤ (x0.length : Int) then ((thwartref04_Same.f k bt287.1 (x0.take (x13 : Int).toNat)).bind fun t306 => (if x5 = true then (some t306) else (none))) else (none)) else (none)) else (none)) else (if 0 ≤ x13 then (if x13 ≤ (x0.length : Int) then ((thwartref04_Same.f k bt287.1 (x0.take (x13 : Int).toNat)).bind fun t311 => (if x5 = true then (some t311) else (none))) else (none)) else (none)))) else (none))) else (none)) else (none)
def thwartlaw04_FrameCuts.l1 : Nat → List (List (S24)) → Bool → ByteArray → List Int → Int → Int → Option (Bool)
 | 0,_,_,_,_,_,_ => none
 | k + 1,x0,x5,x7,x8,x12,x13 => if x13 < (x0.length : Int) then (if 0 ≤ x13 then (if x13 < (x8.length : Int) then (if (rd x8 x13) ≤ x12 then (thwartlaw04_FrameCuts.l1 k x0 x5 x7 x8 x12 (wrap64 (x13 + 1))) else (thwartlaw04_FrameCuts.j3 k x0 x5 x7 x8 x12 x13)) else (none)) else (none)) else (thwartlaw04_FrameCuts.j3 k x0 x5 x7 x8 x12 x13)
end
def thwartlaw04_FrameCuts.f (k : Nat) (l0 : List (List (S24))) (a1 : Int) : Option (Bool):=(thwartlaw04_awake.f k).bind fun t277 => ((thwartref04_Light.f k l0).bind fun t278 => (if t278 = true then (thwartlaw04_FrameCuts.j0 k l0 a1 t277 (decide (a1 < 0))) else (thwartlaw04_FrameCuts.j0 k l0 a1 t277 true)))
theorem thwartlaw04_FrameCuts.mono_l : ∀ k,(∀ y0 y1 y2 y3,LeO (thwartlaw04_FrameCuts.j0 k y0 y1 y2 y3) (thwartlaw04_FrameCuts.j0 (k + 1) y0 y1 y2 y3)) ∧ (∀ y0 y1 y2 y3 y4 y5,LeO (thwartlaw04_FrameCuts.l0 k y0 y1 y2 y3 y4 y5) (thwartlaw04_FrameCuts.l0 (k + 1) y0 y1 y2 y3 y4 y5)) ∧ (∀ y0 y1 y2 y3 y4 y5,LeO (thwartlaw04_FrameCuts.j3 k y0 y1 y2 y3 y4 y5) (thwartlaw04_FrameCuts.j3 (k + 1) y0 y1 y2 y3 y4 y5)) ∧ (∀ y0 y1 y2 y3 y4 y5,LeO (thwartlaw04_FrameCuts.l1 k y0 y1 y2 y3 y4 y5) (thwartlaw04_FrameCuts.l1 (k + 1) y0 y1 y2 y3 y4 y5))
 | 0 => ⟨fun _ _ _ _ r h => by simp [thwartlaw04_FrameCuts.j0] at h,fun _ _ _ _ _ _ r h => by simp [thwartlaw04_FrameCuts.l0] at h,fun _ _ _ _ _ _ r h => by simp [thwartlaw04_FrameCuts.j3] at h,fun _ _ _ _ _ _ r h => by simp [thwartlaw04_FrameCuts.l1] at h⟩
 | k + 1 => by
  obtain ⟨ih0,ih1,ih2,ih3⟩:=thwartlaw04_FrameCuts.mono_l k
  refine ⟨?_,?_,?_,?_⟩
  ·intro y0 y1 y2 y3
   unfold thwartlaw04_FrameCuts.j0
   repeat' first
   | (with_reducible exact ih0 _ _ _ _)
   | (with_reducible exact ih1 _ _ _ _ _ _)
   | (with_reducible exact ih2 _ _ _ _ _ _)
   | (with_reducible exact ih3 _ _ _ _ _ _)
   | (with_reducible exact frame_Bytes.mono _ _)
   | (with_reducible exact frame_Scan.mono _ _)
   | (with_reducible exact thwartlaw04_awake.mono _)
   | (with_reducible exact thwartref04_Light.mono _ _)
   | (with_reducible exact thwartref04_Same.mono _ _ _)
   | (with_reducible exact LeO.refl _)
   | (with_reducible exact LeO.none _)
   | (with_reducible refine LeO.ite ?_ ?_)
   | (with_reducible refine LeO.bind ?_ (fun _ => ?_))
   | exact ih0 _ _ _ _
   | exact ih1 _ _ _ _ _ _
   | exact ih2 _ _ _ _ _ _
   | exact ih3 _ _ _ _ _ _
   | exact frame_Bytes.mono _ _
   | exact frame_Scan.mono _ _
   | exact thwartlaw04_awake.mono _
   | exact thwartref04_Light.mono _ _
   | exact thwartref04_Same.mono _ _ _
   | exact LeO.none _
   | refine LeO.ite ?_ ?_
   | refine LeO.bind ?_ (fun _ => ?_)
  ·intro y0 y1 y2 y3 y4 y5
   unfold thwartlaw04_FrameCuts.l0
   repeat' first
   | (with_reducible exact ih0 _ _ _ _)
   | (with_reducible exact ih1 _ _ _ _ _ _)
   | (with_reducible exact ih2 _ _ _ _ _ _)
   | (with_reducible exact ih3 _ _ _ _ _ _)
   | (with_reducible exact frame_Bytes.mono _ _)
   | (with_reducible exact frame_Scan.mono _ _)
   | (with_reducible exact thwartlaw04_awake.mono _)
   | (with_reducible exact thwartref04_Light.mono _ _)
   | (with_reducible exact thwartref04_Same.mono _ _ _)
   | (with_reducible exact LeO.refl _)
   | (with_reducible exact LeO.none _)
   | (with_reducible refine LeO.ite ?_ ?_)
   | (with_reducible refine LeO.bind ?_ (fun _ => ?_))
   | exact ih0 _ _ _ _
   | exact ih1 _ _ _ _ _ _
   | exact ih2 _ _ _ _ _ _
   | exact ih3 _ _ _ _ _ _
   | exact frame_Bytes.mono _ _
   | exact frame_Scan.mono _ _
   | exact thwartlaw04_awake.mono _
   | exact thwartref04_Light.mono _ _
   | exact thwartref04_Same.mono _ _ _
   | exact LeO.none _
   | refine LeO.ite ?_ ?_
   | refine LeO.bind ?_ (fun _ => ?_)
  ·intro y0 y1 y2 y3 y4 y5
   unfold thwartlaw04_FrameCuts.j3
   repeat' first
   | (with_reducible exact ih0 _ _ _ _)
   | (with_reducible exact ih1 _ _ _ _ _ _)
   | (with_reducible exact ih2 _ _ _ _ _ _)
   | (with_reducible exact ih3 _ _ _ _ _ _)
   | (with_reducible exact frame_Bytes.mono _ _)
   | (with_reducible exact frame_Scan.mono _ _)
   | (with_reducible exact thwartlaw04_awake.mono _)
   | (with_reducible exact thwartref04_Light.mono _ _)
   | (with_reducible exact thwartref04_Same.mono _ _ _)
   | (with_reducible exact LeO.refl _)
   | (with_reducible exact LeO.none _)
   | (with_reducible refine LeO.ite ?_ ?_)
   | (with_reducible refine LeO.bind ?_ (fun _ => ?_))
   | exact ih0 _ _ _ _
   | exact ih1 _ _ _ _ _ _
   | exact ih2 _ _ _ _ _ _
   | exact ih3 _ _ _ _ _ _
   | exact frame_Bytes.mono _ _
   | exact frame_Scan.mono _ _
   | exact thwartlaw04_awake.mono _
   | exact thwartref04_Light.mono _ _
   | exact thwartref04_Same.mono _ _ _
   | exact LeO.none _
   | refine LeO.ite ?_ ?_
   | refine LeO.bind ?_ (fun _ => ?_)
  ·intro y0 y1 y2 y3 y4 y5
   unfold thwartlaw04_FrameCuts.l1
   repeat' first
   | (with_reducible exact ih0 _ _ _ _)
   | (with_reducible exact ih1 _ _ _ _ _ _)
   | (with_reducible exact ih2 _ _ _ _ _ _)
   | (with_reducible exact ih3 _ _ _ _ _ _)
   | (with_reducible exact frame_Bytes.mono _ _)
   | (with_reducible exact frame_Scan.mono _ _)
   | (with_reducible exact thwartlaw04_awake.mono _)
   | (with_reducible exact thwartref04_Light.mono _ _)
   | (with_reducible exact thwartref04_Same.mono _ _ _)
   | (with_reducible exact LeO.refl _)
   | (with_reducible exact LeO.none _)
   | (with_reducible refine LeO.ite ?_ ?_)
   | (with_reducible refine LeO.bind ?_ (fun _ => ?_))
   | exact ih0 _ _ _ _
   | exact ih1 _ _ _ _ _ _
   | exact ih2 _ _ _ _ _ _
   | exact ih3 _ _ _ _ _ _
   | exact frame_Bytes.mono _ _
   | exact frame_Scan.mono _ _
   | exact thwartlaw04_awake.mono _
   | exact thwartref04_Light.mono _ _
   | exact thwartref04_Same.mono _ _ _
   | exact LeO.none _
   | refine LeO.ite ?_ ?_
   | refine LeO.bind ?_ (fun _ => ?_)
theorem thwartlaw04_FrameCuts.mono : ∀ a0 a1 k,LeO (thwartlaw04_FrameCuts.f k a0 a1) (thwartlaw04_FrameCuts.f (k + 1) a0 a1):=by
 intro a0 a1 k
 obtain ⟨ih0,ih1,ih2,ih3⟩:=thwartlaw04_FrameCuts.mono_l k
 unfold thwartlaw04_FrameCuts.f
 repeat' first
   | (with_reducible exact ih0 _ _ _ _)
   | (with_reducible exact ih1 _ _ _ _ _ _)
   | (with_reducible exact ih2 _ _ _ _ _ _)
   | (with_reducible exact ih3 _ _ _ _ _ _)
   | (with_reducible exact frame_Bytes.mono _ _)
   | (with_reducible exact frame_Scan.mono _ _)
   | (with_reducible exact thwartlaw04_awake.mono _)
   | (with_reducible exact thwartref04_Light.mono _ _)
   | (with_reducible exact thwartref04_Same.mono _ _ _)
   | (with_reducible exact LeO.refl _)
   | (with_reducible exact LeO.none _)
   | (with_reducible refine LeO.ite ?_ ?_)
   | (with_reducible refine LeO.bind ?_ (fun _ => ?_))
   | exact ih0 _ _ _ _
   | exact ih1 _ _ _ _ _ _
   | exact ih2 _ _ _ _ _ _
   | exact ih3 _ _ _ _ _ _
   | exact frame_Bytes.mono _ _
   | exact frame_Scan.mono _ _
   | exact thwartlaw04_awake.mono _
   | exact thwartref04_Light.mono _ _
   | exact thwartref04_Same.mono _ _ _
   | exact LeO.none _
   | refine LeO.ite ?_ ?_
   | refine LeO.bind ?_ (fun _ => ?_)
set_option maxHeartbeats 8000000 in
set_option maxRecDepth 100000 in
theorem thwartlaw04_FrameCuts.calls (k : Nat) (A0 : Option Addr) (c0 : Nat) (l0 : List (List (S24))) (a1 : Int) (r : Bool) (w : World) (hr0 : Kd.C (Kd.slice 24 k24) w A0 l0.length l0) (hc0 : l0.length ≤ c0) (h : thwartlaw04_FrameCuts.f k l0 a1 = some r) :
  Calls Try.prog 8 #[.slice A0 l0.length c0,.int .i64 a1] w fun e w' => e = .returned (.bool r) ∧ Below w.heap.size w w' := by
 have HR0:=Aside0.mk hr0
 have HC0:=Aside0.mk hc0
 clear hr0 hc0
 have HB:=Aside0.mk (Below.refl w.heap.size w)
 have H : ((thwartlaw04_awake.f k).bind fun t277 => ((thwartref04_Light.f k l0).bind fun t278 => (if t278 = true then (thwartlaw04_FrameCuts.j0 k l0 a1 t277 (decide (a1 < 0))) else (thwartlaw04_FrameCuts.j0 k l0 a1 t277 true)))) = some r:=h
 clear h
 replace H:=Option.bind_eq_some_iff.mp H
 obtain ⟨t277,A30,H⟩:=H
 replace H : ((thwartref04_Light.f k l0).bind fun t278 => (if t278 = true then (thwartlaw04_FrameCuts.j0 k l0 a1 t277 (decide (a1 < 0))) else (thwartlaw04_FrameCuts.j0 k l0 a1 t277 true))) = some r:=H
 have A3:=Aside0.mk A30
 clear A30
 replace H:=Option.bind_eq_some_iff.mp H
 obtain ⟨t278,A40,H⟩:=H
 replace H : (if t278 = true then (thwartlaw04_FrameCuts.j0 k l0 a1 t277 (decide (a1 < 0))) else (thwartlaw04_FrameCuts.j0 k l0 a1 t277 true)) = some r:=H
 have A4:=Aside0.mk A40
 clear A40
 have HC5:=Aside0.mk H
 clear H
 go_enter Try.func8,Try.ntmps8
 go_upto_region 3 with (first | ((with_reducible refine gate_callee (f:=23) rfl ?_);refine goesL_ (some 17) rfl rfl Try.func23 (by kernel_rfl) rfl #[] rfl (by (try simp only [List.map_toArray,List.map_cons,List.map_nil]);first | done | rfl | (simp only [List.length_drop,List.length_take];rfl)) ?_;(with_reducible refine (thwartlaw04_awake.calls k  t277 _ A3.out).mono ?_);rintro e w6 ⟨rfl,hb⟩;refine ⟨_,rfl,?_⟩;have n0_:=Aside0.mk (below_step (by repeat (first | (with_reducible first | exact HB.out | apply below_alloc | apply pw_below_drewN | apply below_drew1) | exact HB.out)) hb);clear HB;have HB:=n0_;clear n0_;(try clear hb);(try clear hb2);(try clear hk);(try clear hi)) | ((with_reducible refine gate_callee (f:=31) rfl ?_);refine goesL_ (some 19) rfl rfl Try.func31 (by kernel_rfl) rfl #[.slice A0 l0.length c0] rfl (by (try simp only [List.map_toArray,List.map_cons,List.map_nil]);first | done | rfl | (simp only [List.length_drop,List.length_take];rfl)) ?_;(with_reducible refine (thwartref04_Light.calls k _ _ l0 t278 _ ?side1 ?side2 A4.out).mono ?_);(case side1 => repeat (first | exact (Kd.C_below HR0.out HB.out) | (with_reducible refine Kd.C_alloc ?_ _) | (with_reducible refine Kd.C_drewN ?_ _) | (with_reducible refine Kd.C_drew ?_)));(case side2 => exact HC0.out);rintro e w7 ⟨rfl,hb⟩;refine ⟨_,rfl,?_⟩;have n0_:=Aside0.mk (below_step (by repeat (first | (with_reducible first | exact HB.out | apply below_alloc | apply pw_below_drewN | apply below_drew1) | exact HB.out)) hb);clear HB;have HB:=n0_;clear n0_;(try clear hb);(try clear hb2);(try clear hk);(try clear hi)))
 (try simp only [Act.put,List.setIfInBounds_toArray,List.set_cons_zero,List.set_cons_succ])
 go_cut [25] (fun v25 wc => ∃ (kq : Nat) (x25_4 : Bool),v25 = .bool x25_4 ∧ Aside0 (thwartlaw04_FrameCuts.j0 kq l0 a1 t277 x25_4 = some r) ∧ Aside0 (kq ≤ k) ∧ Aside0 (Below w.heap.size w wc))
 case first =>
  have H:=HC5.out
  clear HC5
  by_cases c8 : t278 = true
  ·subst c8
   have H1 : (thwartlaw04_FrameCuts.j0 k l0 a1 t277 (decide (a1 < 0))) = some r:=by rw [if_pos rfl] at H;exact H
   clear H
   have H:=H1
   clear H1
   have H' := Aside0.mk H
   clear H
   go_wp2
   go_meet
   case rel => exact ⟨_,(decide (a1 < 0)),(by first | rfl | (simp;done) | (simp [*];done)),H',⟨by first | omega | exact Nat.le_refl _⟩,⟨by repeat (first | (with_reducible first | exact HB.out | apply below_alloc | apply pw_below_drewN | apply below_drew1) | exact HB.out)⟩⟩
  ·replace c8:=Bool.eq_false_iff.mpr c8
   subst c8
   have H1 : (thwartlaw04_FrameCuts.j0 k l0 a1 t277 true) = some r:=by rw [if_neg (show ¬ (false = true) by decide)] at H;exact H
   clear H
   have H:=H1
   clear H1
   have H' := Aside0.mk H
   clear H
   go_wp2
   go_meet
   case rel => exact ⟨_,(true),(by first | rfl | (simp;done) | (simp [*];done)),H',⟨by first | omega | exact Nat.le_refl _⟩,⟨by repeat (first | (with_reducible first | exact HB.out | apply below_alloc | apply pw_below_drewN | apply below_drew1) | exact HB.out)⟩⟩
 case rest =>
  clear HC5
  try clear c2
  try clear p2
  try clear c3
  try clear c8
  obtain ⟨kq,x25_4,rfl,HA,HJ4,HB⟩:=hcut
  cases kq with
  | zero => exact absurd HA.out (by simp [thwartlaw04_FrameCuts.j0])
  | succ kj4 =>
   have H:=HA.out
   clear HA
   simp only [thwartlaw04_FrameCuts.j0] at H
   by_cases c9 : x25_4 = true
   ·subst c9
    have H1 : (some t277) = some r:=by rw [if_pos rfl] at H;exact H
    clear H
    have H:=H1
    clear H1
    obtain rfl:=Option.some.inj H
    go_wp2
    go_ret
    exact ⟨by first | rfl | (simp [errW_none,errW_some] <;> rfl) | (simp [*,errW_none,errW_some] <;> rfl) | (simp [errW_none,errW_some];exact isEmpty_bne _),by repeat (first | (with_reducible first | exact HB.out | apply below_alloc | apply pw_below_drewN | apply below_drew1) | exact HB.out)⟩
   ·replace c9:=Bool.eq_false_iff.mpr c9
    subst c9
    have H1 : (if 0 ≤ (l0.length : Int) then (if ((l0.length : Int) : Int).toNat ≤ 35184372088832 then (thwartlaw04_FrameCuts.l0 kj4 l0 a1 t277 (⟨#[]⟩ : ByteArray) (List.replicate ((l0.length : Int) : Int).toNat 0) 0) else (none)) else (none)) = some r:=by rw [if_neg (show ¬ (false = true) by decide)] at H;exact H
    clear H
    have H:=H1
    clear H1
    by_cases c10 : 0 ≤ (l0.length : Int)
    ·rw [if_pos c10] at H
     have c10b0:=eq_true c10
     have c10b1 : decide (0 ≤ (l0.length : Int)) = true:=decide_eq_true c10
     clear c10
     by_cases c11 : ((l0.length : Int) : Int).toNat ≤ 35184372088832
     ·rw [if_pos c11] at H
      have c11b0:=eq_true c11
      have c11b1 : decide (((l0.length : Int) : Int).toNat ≤ 35184372088832) = true:=decide_eq_true c11
      clear c11
      obtain ⟨y279,hy279⟩ : ∃ y_ : List Int,y_ = (List.replicate ((l0.length : Int) : Int).toNat 0):=⟨_,rfl⟩
      replace H : (thwartlaw04_FrameCuts.l0 kj4 l0 a1 t277 (⟨#[]⟩ : ByteArray) y279 0) = some r:=by first | (rw [hy279];with_reducible exact H) | (have H2_:=(Option.bind_some _ _).symm.trans H;rw [hy279];with_reducible exact H2_) | (have H2_:=(Option.bind_some _ _).symm.trans H;with_reducible exact H2_) | with_reducible exact H | (rw [hy279];exact H) | exact H
      have Ny279:=Aside0.mk hy279
      clear hy279
      have H' := Aside0.mk H
      clear H
      go_wp2_with (first | ((with_reducible refine gate_dst (N:=29) rfl ?_);refine Kd.R_make (Kd.int .i64) _ 3 rfl (N:=29) rfl 50 _ _ rfl (l0.length : Int) rfl rfl Try.underlying50 (.int .i64 0) 8 info3 rfl (by decide) (by omega) 0 (ok:=fun _ => True) (okp:=fun _ => True) rfl (fun _ hk => hk) trivial (of_decide_eq_true (by first | (with_reducible assumption) | assumption)) (Nat.le_trans (Nat.mul_le_mul_right _ (of_decide_eq_true (by first | (with_reducible assumption) | assumption) : (l0.length : Int).toNat ≤ 35184372088832)) (by omega)) (Below.refl _ _) (Nat.le_refl _) ?_;intro v280 w12 ho13 hb hg_ hnew_;clear hg_ hnew_;(first | rw [← Ny279.out] at ho13 | (simp only [Int.reduceToNat] at ho13;rw [← Ny279.out] at ho13));have n0_:=Aside0.mk (Kd.R_lower ho13 (below_size (by repeat (first | (with_reducible first | exact HB.out | apply below_alloc | apply pw_below_drewN | apply below_drew1) | exact HB.out))));have n1_:=Aside0.mk (below_step (by repeat (first | (with_reducible first | exact HB.out | apply below_alloc | apply pw_below_drewN | apply below_drew1) | exact HB.out)) hb);clear HB;have HO281:=n0_;have HB:=n1_;clear n0_ n1_;clear hb ho13))
      go_loopg [7,9] kj4 (fun kq v7 v9 w' => ∃ (x7_2 : ByteArray) (x8_2 : List Int) (x9_2 : Int),v7 = .string x7_2 ∧ v9 = .int .i64 x9_2 ∧ Aside0 (thwartlaw04_FrameCuts.l0 kq l0 a1 t277 x7_2 x8_2 x9_2 = some r) ∧ Aside0 (kq ≤ kj4) ∧ Aside0 (Kd.R (Kd.int .i64) 3 w' w.heap.size (fun _ => True) v280 x8_2) ∧ Aside0 (Below w.heap.size w w'))
      case atStart => exact ⟨((⟨#[]⟩ : ByteArray)),(y279),(0),(by first | rfl | (simp;done) | (simp [*];done)),(by first | rfl | (simp;done) | (simp [*];done)),H',⟨Nat.le_refl _⟩,⟨by (with_reducible repeat (first | apply Kd.R_alloc | apply Kd.R_drewN | apply Kd.R_drew));exact HO281.out⟩,⟨by repeat (first | (with_reducible first | exact HB.out | apply below_alloc | apply pw_below_drewN | apply below_drew1) | exact HB.out)⟩⟩
      case round =>
       clear H'
       try clear c1
       try clear c2
       try clear p2
       try clear c3
       try clear c8
       try clear c9
       try clear c10
       try clear c10b0
       try clear c10b1
       try clear c11
       try clear c11b0
       try clear c11b1
       try clear p2
       obtain ⟨x7_2,x8_2,x9_2,rfl,rfl,HA,HK2,HO_8,HB⟩:=hrel
       cases gk with
       | zero => exact absurd HA.out (by simp [thwartlaw04_FrameCuts.l0])
       | succ k2 =>
        have H:=HA.out
        clear HA
        simp only [thwartlaw04_FrameCuts.l0] at H
        by_cases c14 : x9_2 < (l0.length : Int)
        ·rw [if_pos c14] at H
         have c14b0 : decide (x9_2 < (l0.length : Int)) = true:=decide_eq_true c14
         clear c14
         by_cases c15 : 0 ≤ x9_2
         ·rw [if_pos c15] at H
          have c15b0 : decide (0 ≤ x9_2) = true:=decide_eq_true c15
          clear c15
          replace H:=Option.bind_eq_some_iff.mp H
          obtain ⟨⟨t283,t284⟩,A160,H⟩:=H
          replace H : (if t284 = 0 then (if x7_2.size + t283.size ≤ 9223372036854775807 then (if x9_2 < (x8_2.length : Int) then (thwartlaw04_FrameCuts.l0 k2 l0 a1 t277 (x7_2 ++ t283) (x8_2.set (x9_2 : Int).toNat ((x7_2 ++ t283).size : Int)) (wrap64 (x9_2 + 1))) else (none)) else (none)) else (if t277 = true then (if t283.toList = ([] : List UInt8) then (some (t284 == 1)) else (none)) else (none))) = some r:=H
          have A16:=Aside0.mk A160
          clear A160
          by_cases c17 : t284 = 0
          ·rw [if_pos c17] at H
           have c17b0 : (t284 == 0) = true:=beq_iff_eq.mpr c17
           have c17b1 : (t284 != 0) = false:=bne_eq_false_iff_eq.mpr c17
           clear c17
           by_cases c18 : x7_2.size + t283.size ≤ 9223372036854775807
           ·rw [if_pos c18] at H
            have c18b0:=eq_true c18
            have c18b1 : decide (x7_2.size + t283.size ≤ 9223372036854775807) = true:=decide_eq_true c18
            try have c18b2 : (9223372036854775807 < x7_2.size + t283.size) = False:=eq_false (Nat.not_lt.2 c18)
            by_cases c19 : x9_2 < (x8_2.length : Int)
            ·rw [if_pos c19] at H
             have c19b0 : decide (x9_2 < (x8_2.length : Int)) = true:=decide_eq_true c19
             clear c19
             obtain ⟨y285,hy285⟩ : ∃ y_ : List Int,y_ = (x8_2.set (x9_2 : Int).toNat ((x7_2 ++ t283).size : Int)):=⟨_,rfl⟩
             replace H : (thwartlaw04_FrameCuts.l0 k2 l0 a1 t277 (x7_2 ++ t283) y285 (wrap64 (x9_2 + 1))) = some r:=by first | (rw [hy285];with_reducible exact H) | (have H2_:=(Option.bind_some _ _).symm.trans H;rw [hy285];with_reducible exact H2_) | (have H2_:=(Option.bind_some _ _).symm.trans H;with_reducible exact H2_) | with_reducible exact H | (rw [hy285];exact H) | exact H
             have Ny285:=Aside0.mk hy285
             clear hy285
             have H' := Aside0.mk H
             clear H
             have p282 : 0 ≤ (x9_2 : Int):=of_decide_eq_true (by first | (with_reducible assumption) | assumption)
             have q282 : x9_2 < (l0.length : Int):=of_decide_eq_true (by first | (with_reducible assumption) | assumption)
             obtain ⟨ad282,A282_0,c282_0,e282,hx282_0,hl282_0,hi282_0⟩:=at_L6 HR0.out x9_2 p282 q282
             cases e282
             replace hx282_0:=(HB.out.cell (World.block_lt_of_cell? w _ hx282_0)).trans hx282_0
             have HR282_0:=Aside0.mk hi282_0
             have HC282_0:=Aside0.mk hl282_0
             clear hi282_0 hl282_0
             replace p282:=eq_true p282
             replace q282:=eq_true q282
             go_wp2_with (first | ((with_reducible refine gate_callee (f:=24) rfl ?_);refine goesL_ (some 41) rfl rfl Try.func24 (by kernel_rfl) rfl #[.slice A282_0 (rd_L6 l0 x9_2).length c282_0] rfl (by (try simp only [List.map_toArray,List.map_cons,List.map_nil]);first | done | rfl | (simp only [List.length_drop,List.length_take];rfl)) ?_;(with_reducible refine (frame_Bytes.calls k2 _ _ (rd_L6 l0 x9_2) t283 t284 _ ?side1 ?side2 A16.out).mono ?_);(case side1 => repeat (first | exact (Kd.C_below HR282_0.out HB.out) | (with_reducible refine Kd.C_alloc ?_ _) | (with_reducible refine Kd.C_drewN ?_ _) | (with_reducible refine Kd.C_drew ?_)));(case side2 => exact HC282_0.out);rintro e w21 ⟨rfl,hb⟩;refine ⟨_,rfl,?_⟩;have n0_:=Aside0.mk (Kd.R_below (by (with_reducible repeat (first | apply Kd.R_alloc | apply Kd.R_drewN | apply Kd.R_drew));exact HO_8.out) hb);have n1_:=Aside0.mk (below_step (by repeat (first | (with_reducible first | exact HB.out | apply below_alloc | apply pw_below_drewN | apply below_drew1) | exact HB.out)) hb);clear HO_8;clear HB;have HO_8:=n0_;have HB:=n1_;clear n0_ n1_;(try clear hb);(try clear hb2);(try clear hk);(try clear hi);have p20 : 0 ≤ (x9_2 : Int):=of_decide_eq_true (by first | (with_reducible assumption) | assumption);have q20 : (x9_2 : Int) < ((x8_2.length : Int) : Int):=of_decide_eq_true (by first | (with_reducible assumption) | assumption);obtain ⟨go20,co20,eo20,gb20,gl20,cl20,HG20⟩:=Kd.R_form HO_8.out (by omega);(first | cases eo20 | (injection eo20 with ea_ en_ ec_;(first | subst ea_ | (injection ea_ with ea_;subst ea_));subst ec_;clear en_));have GB20:=Aside0.mk gb20;have GG20:=Aside0.mk HG20;clear gb20 gl20 HG20;obtain ⟨hx20_0,hf20_0⟩:=Kd.R_celln 0 HO_8.out (x9_2 : Int) p20 q20;replace p20:=eq_true p20;replace q20:=eq_true q20;obtain ⟨hy22_,hz22_⟩:=Kd.R_celln 0 HO_8.out (x9_2 : Int) (of_decide_eq_true (by first | (with_reducible assumption) | assumption)) (of_decide_eq_true (by first | (with_reducible assumption) | assumption));have HP22:=Kd.R_putg HO_8.out (x9_2 : Int) ((x7_2 ++ t283).size : Int)) | ((with_reducible refine gate_store (t:=3) (p:=62) rfl ?_);refine store_event (t:=3) (p:=62) (v := ?vo_w23) (w1:=(w21.setCell ⟨go20,(x9_2 : Int).toNat,none⟩ (.int .i64 ((x7_2 ++ t283).size : Int)))) ?hg ?ho ?hn ?hr ?_;(case ho => rfl);(case hg => rfl);(case hn => rfl);(case hr => first | (go_simp;done) | (go_simp;rfl));intro w23 hw;have hg : w21.grownBy w23 (some go20):=(by rw [hw];exact HP22.2);have hp_ : Kd.R (Kd.int .i64) 3 w23 w.heap.size (fun _ => True) (.slice (some ⟨go20,0,none⟩) x8_2.length co20) y285:=(by rw [hw,Ny285.out];exact HP22.1);clear HP22;have n0_:=Aside0.mk (hp_);have n1_:=Aside0.mk ((by rw [hw];exact below_set (HB.out) GB20.out : Below w.heap.size w w23));clear HO_8;clear HB;have HO_8:=n0_;have HB:=n1_;clear n0_ n1_;clear hg hw hp_))
             go_roundg k2
             case measure => have:=HJ4.out;have:=HK2.out;omega
             case rel => exact ⟨(x7_2 ++ t283),(y285),(wrap64 (x9_2 + 1)),(by first | rfl | (simp;done) | (simp [*];done)),(by first | rfl | (simp;done) | (simp [*];done)),H',⟨by have:=HJ4.out;have:=HK2.out;omega⟩,⟨by (with_reducible repeat (first | apply Kd.R_alloc | apply Kd.R_drewN | apply Kd.R_drew));exact HO_8.out⟩,⟨by repeat (first | (with_reducible first | exact HB.out | apply below_alloc | apply pw_below_drewN | apply below_drew1) | exact HB.out)⟩⟩
            ·rw [if_neg c19] at H
             exact absurd H (by simp)
           ·rw [if_neg c18] at H
            exact absurd H (by simp)
          ·rw [if_neg c17] at H
           have c17b0 : (t284 == 0) = false:=beq_eq_false_iff_ne.mpr c17
           have c17b1 : (t284 != 0) = true:=bne_iff_ne.mpr c17
           by_cases c24 : t277 = true
           ·subst c24
            have H1 : (if t283.toList = ([] : List UInt8) then (some (t284 == 1)) else (none)) = some r:=by rw [if_pos rfl] at H;exact H
            clear H
            have H:=H1
            clear H1
            by_cases c25 : t283.toList = ([] : List UInt8)
            ·rw [if_pos c25] at H
             have c25b0 : (t283.toList == ([] : List UInt8)) = true:=beq_iff_eq.mpr c25
             have c25b1 : (t283.toList != ([] : List UInt8)) = false:=bne_eq_false_iff_eq.mpr c25
             clear c25
             obtain rfl:=Option.some.inj H
             have p282 : 0 ≤ (x9_2 : Int):=of_decide_eq_true (by first | (with_reducible assumption) | assumption)
             have q282 : x9_2 < (l0.length : Int):=of_decide_eq_true (by first | (with_reducible assumption) | assumption)
             obtain ⟨ad282,A282_0,c282_0,e282,hx282_0,hl282_0,hi282_0⟩:=at_L6 HR0.out x9_2 p282 q282
             cases e282
             replace hx282_0:=(HB.out.cell (World.block_lt_of_cell? w _ hx282_0)).trans hx282_0
             have HR282_0:=Aside0.mk hi282_0
             have HC282_0:=Aside0.mk hl282_0
             clear hi282_0 hl282_0
             replace p282:=eq_true p282
             replace q282:=eq_true q282
             go_wp2_with (first | ((with_reducible refine gate_callee (f:=24) rfl ?_);refine goesL_ (some 41) rfl rfl Try.func24 (by kernel_rfl) rfl #[.slice A282_0 (rd_L6 l0 x9_2).length c282_0] rfl (by (try simp only [List.map_toArray,List.map_cons,List.map_nil]);first | done | rfl | (simp only [List.length_drop,List.length_take];rfl)) ?_;(with_reducible refine (frame_Bytes.calls k2 _ _ (rd_L6 l0 x9_2) t283 t284 _ ?side1 ?side2 A16.out).mono ?_);(case side1 => repeat (first | exact (Kd.C_below HR282_0.out HB.out) | (with_reducible refine Kd.C_alloc ?_ _) | (with_reducible refine Kd.C_drewN ?_ _) | (with_reducible refine Kd.C_drew ?_)));(case side2 => exact HC282_0.out);rintro e w26 ⟨rfl,hb⟩;refine ⟨_,rfl,?_⟩;have n0_:=Aside0.mk (Kd.R_below (by (with_reducible repeat (first | apply Kd.R_alloc | apply Kd.R_drewN | apply Kd.R_drew));exact HO_8.out) hb);have n1_:=Aside0.mk (below_step (by repeat (first | (with_reducible first | exact HB.out | apply below_alloc | apply pw_below_drewN | apply below_drew1) | exact HB.out)) hb);clear HO_8;clear HB;have HO_8:=n0_;have HB:=n1_;clear n0_ n1_;(try clear hb);(try clear hb2);(try clear hk);(try clear hi)))
             go_ret
             exact ⟨by first | rfl | (simp [errW_none,errW_some] <;> rfl) | (simp [*,errW_none,errW_some] <;> rfl) | (simp [errW_none,errW_some];exact isEmpty_bne _),by repeat (first | (with_reducible first | exact HB.out | apply below_alloc | apply pw_below_drewN | apply below_drew1) | exact HB.out)⟩
            ·rw [if_neg c25] at H
             exact absurd H (by simp)
           ·replace c24:=Bool.eq_false_iff.mpr c24
            subst c24
            have H1 : (none) = some r:=by rw [if_neg (show ¬ (false = true) by decide)] at H;exact H
            clear H
            have H:=H1
            clear H1
            exact absurd H (by simp)
         ·rw [if_neg c15] at H
          exact absurd H (by simp)
        ·rw [if_neg c14] at H
         have c14b0 : decide (x9_2 < (l0.length : Int)) = false:=decide_eq_false c14
         clear c14
         by_cases c27 : (wrap64 ((x7_2.size : Int) + 1)) = 0
         ·rw [if_pos c27] at H
          exact absurd H (by simp)
         ·rw [if_neg c27] at H
          have c27b0 : ((wrap64 ((x7_2.size : Int) + 1)) == 0) = false:=beq_eq_false_iff_ne.mpr c27
          have c27b1 : ((wrap64 ((x7_2.size : Int) + 1)) != 0) = true:=bne_iff_ne.mpr c27
          have HC28:=Aside0.mk H
          clear H
          go_upto_block 2 with (fail)
          go_cut [13] (fun v13 wc => ∃ (kq : Nat) (x13_27 : Int),v13 = .int .i64 x13_27 ∧ Aside0 (thwartlaw04_FrameCuts.j3 kq l0 t277 x7_2 x8_2 (Int.tmod a1 (wrap64 ((x7_2.size : Int) + 1))) x13_27 = some r) ∧ Aside0 (kq ≤ k2) ∧ Aside0 (Kd.R (Kd.int .i64) 3 wc w.heap.size (fun _ => True) v280 x8_2) ∧ Aside0 (Below w.heap.size w wc))
          case first =>
           have H:=HC28.out
           clear HC28
           have H' := Aside0.mk H
           clear H
           go_wp2
           go_loopg [13] k2 (fun kq v13 w' => ∃ (x13_3 : Int),v13 = .int .i64 x13_3 ∧ Aside0 (thwartlaw04_FrameCuts.l1 kq l0 t277 x7_2 x8_2 (Int.tmod a1 (wrap64 ((x7_2.size : Int) + 1))) x13_3 = some r) ∧ Aside0 (kq ≤ k2) ∧ Aside0 (Kd.R (Kd.int .i64) 3 w' w.heap.size (fun _ => True) v280 x8_2) ∧ Aside0 (Below w.heap.size w w'))
           case atStart => exact ⟨(0),(by first | rfl | (simp;done) | (simp [*];done)),H',⟨Nat.le_refl _⟩,⟨by (with_reducible repeat (first | apply Kd.R_alloc | apply Kd.R_drewN | apply Kd.R_drew));exact HO_8.out⟩,⟨by repeat (first | (with_reducible first | exact HB.out | apply below_alloc | apply pw_below_drewN | apply below_drew1) | exact HB.out)⟩⟩
           case round =>
            clear H'
            try clear c1
            try clear c2
            try clear p2
            try clear q2
            try clear hx2
            try clear hf2
            try clear c3
            try clear p6
            try clear c8
            try clear c9
            try clear c10
            try clear c10b0
            try clear c10b1
            try clear c11
            try clear c11b0
            try clear c11b1
            try clear c14
            try clear c14b0
            try clear c15
            try clear c15b0
            try clear c17
            try clear c17b0
            try clear c17b1
            try clear c18
            try clear c18b0
            try clear c18b1
            try clear c18b2
            try clear c19
            try clear c19b0
            try clear p20
            try clear q20
            try clear hx20
            try clear hf20
            try clear c23
            try clear c24
            try clear c25
            try clear c25b0
            try clear c25b1
            try clear c27
            try clear c27b0
            try clear c27b1
            try clear c28
            try clear p28
            try clear q28
            try clear hx28
            try clear hx20_0
            try clear hx282_0
            try clear p2
            try clear p20
            try clear p282
            try clear q20
            try clear q282
            obtain ⟨x13_3,rfl,HA,HK3,HO_8,HB⟩:=hrel
            cases gk with
            | zero => exact absurd HA.out (by simp [thwartlaw04_FrameCuts.l1])
            | succ k3 =>
             have H:=HA.out
             clear HA
             simp only [thwartlaw04_FrameCuts.l1] at H
             by_cases c29 : x13_3 < (l0.length : Int)
             ·rw [if_pos c29] at H
              have c29b0 : decide (x13_3 < (l0.length : Int)) = true:=decide_eq_true c29
              clear c29
              (first | rw [c29b0] | (simp only [i64_w,i32_w];rw [c29b0]) | skip)
              by_cases c30 : 0 ≤ x13_3
              ·rw [if_pos c30] at H
               have c30b0 : decide (0 ≤ x13_3) = true:=decide_eq_true c30
               clear c30
               by_cases c31 : x13_3 < (x8_2.length : Int)
               ·rw [if_pos c31] at H
                have c31b0 : decide (x13_3 < (x8_2.length : Int)) = true:=decide_eq_true c31
                clear c31
                by_cases c32 : (rd x8_2 x13_3) ≤ (Int.tmod a1 (wrap64 ((x7_2.size : Int) + 1)))
                ·rw [if_pos c32] at H
                 have c32b0 : decide ((rd x8_2 x13_3) ≤ (Int.tmod a1 (wrap64 ((x7_2.size : Int) + 1)))) = true:=decide_eq_true c32
                 clear c32
                 have H' := Aside0.mk H
                 clear H
                 obtain ⟨Ao33,co33,eo33⟩:=Kd.R_slice HO_8.out
                 subst eo33
                 have p286 : 0 ≤ (x13_3 : Int):=of_decide_eq_true (by first | (with_reducible assumption) | assumption)
                 have q286 : x13_3 < (x8_2.length : Int):=of_decide_eq_true (by first | (with_reducible assumption) | assumption)
                 obtain ⟨ad286,e286,hx286_0⟩:=Kd.at_int (Kd.R_reads' HO_8.out).2.2 x13_3 p286 q286
                 cases e286
                 replace p286:=eq_true p286
                 replace q286:=eq_true q286
                 go_wp2
                 go_roundg k3
                 case measure => have:=HJ4.out;have:=HK2.out;have:=HK3.out;omega
                 case rel => exact ⟨(wrap64 (x13_3 + 1)),(by first | rfl | (simp;done) | (simp [*];done)),H',⟨by have:=HJ4.out;have:=HK2.out;have:=HK3.out;omega⟩,⟨by (with_reducible repeat (first | apply Kd.R_alloc | apply Kd.R_drewN | apply Kd.R_drew));exact HO_8.out⟩,⟨by repeat (first | (with_reducible first | exact HB.out | apply below_alloc | apply pw_below_drewN | apply below_drew1) | exact HB.out)⟩⟩
                ·rw [if_neg c32] at H
                 have c32b0 : decide ((rd x8_2 x13_3) ≤ (Int.tmod a1 (wrap64 ((x7_2.size : Int) + 1)))) = false:=decide_eq_false c32
                 clear c32
                 have H' := Aside0.mk H
                 clear H
                 obtain ⟨Ao34,co34,eo34⟩:=Kd.R_slice HO_8.out
                 subst eo34
                 have p286 : 0 ≤ (x13_3 : Int):=of_decide_eq_true (by first | (with_reducible assumption) | assumption)
                 have q286 : x13_3 < (x8_2.length : Int):=of_decide_eq_true (by first | (with_reducible assumption) | assumption)
                 obtain ⟨ad286,e286,hx286_0⟩:=Kd.at_int (Kd.R_reads' HO_8.out).2.2 x13_3 p286 q286
                 cases e286
                 replace p286:=eq_true p286
                 replace q286:=eq_true q286
                 go_wp2
                 go_meet
                 case rel => exact ⟨_,(x13_3),(by first | rfl | (simp;done) | (simp [*];done)),H',⟨by have:=HJ4.out;have:=HK2.out;have:=HK3.out;first | omega | exact Nat.le_refl _⟩,⟨by (with_reducible repeat (first | apply Kd.R_alloc | apply Kd.R_drewN | apply Kd.R_drew));exact HO_8.out⟩,⟨by repeat (first | (with_reducible first | exact HB.out | apply below_alloc | apply pw_below_drewN | apply below_drew1) | exact HB.out)⟩⟩
               ·rw [if_neg c31] at H
                exact absurd H (by simp)
              ·rw [if_neg c30] at H
               exact absurd H (by simp)
             ·rw [if_neg c29] at H
              have c29b0 : decide (x13_3 < (l0.length : Int)) = false:=decide_eq_false c29
              clear c29
              (first | rw [c29b0] | (simp only [i64_w,i32_w];rw [c29b0]) | skip)
              have H' := Aside0.mk H
              clear H
              go_wp2
              go_meet
              case rel => exact ⟨_,(x13_3),(by first | rfl | (simp;done) | (simp [*];done)),H',⟨by have:=HJ4.out;have:=HK2.out;have:=HK3.out;first | omega | exact Nat.le_refl _⟩,⟨by (with_reducible repeat (first | apply Kd.R_alloc | apply Kd.R_drewN | apply Kd.R_drew));exact HO_8.out⟩,⟨by repeat (first | (with_reducible first | exact HB.out | apply below_alloc | apply pw_below_drewN | apply below_drew1) | exact HB.out)⟩⟩
          case rest =>
           clear HC28
           try clear c1
           try clear c2
           try clear p2
           try clear q2
           try clear hx2
           try clear hf2
           try clear c3
           try clear p6
           try clear c8
           try clear c9
           try clear c10
           try clear c10b0
           try clear c10b1
           try clear c11
           try clear c11b0
           try clear c11b1
           try clear c14
           try clear c14b0
           try clear c15
           try clear c15b0
           try clear c17
           try clear c17b0
           try clear c17b1
           try clear c18
           try clear c18b0
           try clear c18b1
           try clear c18b2
           try clear c19
           try clear c19b0
           try clear p20
           try clear q20
           try clear hx20
           try clear hf20
           try clear c23
           try clear c24
           try clear c25
           try clear c25b0
           try clear c25b1
           try clear c27
           try clear c27b0
           try clear c27b1
           try clear c28
           try clear p28
           try clear q28
           try clear hx28
           try clear c29
           try clear c29b0
           try clear c30
           try clear c30b0
           try clear c31
           try clear c31b0
           try clear c32
           try clear c32b0
           try clear hx20_0
           try clear hx282_0
           try clear hx286_0
           try clear p2
           try clear p20
           try clear p28
           try clear p282
           try clear p286
           try clear p6
           try clear q2
           try clear q20
           try clear q28
           try clear q282
           try clear q286
           obtain ⟨kq,x13_27,rfl,HA,HJ27,HO_8,HB⟩:=hcut
           cases kq with
           | zero => exact absurd HA.out (by simp [thwartlaw04_FrameCuts.j3])
           | succ kj27 =>
            have H:=HA.out
            clear HA
            simp only [thwartlaw04_FrameCuts.j3] at H
            obtain ⟨ji35,hji35⟩ : ∃ j_ : Int,(Int.tmod a1 (wrap64 ((x7_2.size : Int) + 1))) = j_:=⟨_,rfl⟩
            replace H : (if 0 ≤ (ji35) then (if (ji35) ≤ (x7_2.size : Int) then ((frame_Scan.f kj27 (x7_2.extract 0 ((ji35) : Int).toNat)).bind fun bt287 => (if (bt287.1.length : Int) = x13_27 then (if x13_27 > 0 then (if 0 ≤ (wrap64 (x13_27 - 1)) then (if (wrap64 (x13_27 - 1)) < (x8_2.length : Int) then (if bt287.2 = (rd x8_2 (wrap64 (x13_27 - 1))) then (if x13_27 = 0 then (if bt287.2 = 0 then (if 0 ≤ x13_27 then (if x13_27 ≤ (l0.length : Int) then ((thwartref04_Same.f kj27 bt287.1 (l0.take (x13_27 : Int).toNat)).bind fun t296 => (if t277 = true then (some t296) else (none))) else (none)) else (none)) else (none)) else (if 0 ≤ x13_27 then (if x13_27 ≤ (l0.length : Int) then ((thwartref04_Same.f kj27 bt287.1 (l0.take (x13_27 : Int).toNat)).bind fun t301 => (if t277 = true then (some t301) else (none))) else (none)) else (none))) else (none)) else (none)) else (none)) else (if x13_27 = 0 then (if bt287.2 = 0 then (if 0 ≤ x13_27 then (if x13_27 ≤ (l0.length : Int) then ((thwartref04_Same.f kj27 bt287.1 (l0.take (x13_27 : Int).toNat)).bind fun t306 => (if t277 = true then (some t306) else (none))) else (none)) else (none)) else (none)) else (if 0 ≤ x13_27 then (if x13_27 ≤ (l0.length : Int) then ((thwartref04_Same.f kj27 bt287.1 (l0.take (x13_27 : Int).toNat)).bind fun t311 => (if t277 = true then (some t311) else (none))) else (none)) else (none)))) else (none))) else (none)) else (none)) = some r:=by first | (rw [hji35] at H;exact H) | (simp only [hji35] at H ⊢;exact H)
            by_cases c36 : 0 ≤ (ji35)
            ·rw [if_pos c36] at H
             have c36b0:=eq_true c36
             have c36b1 : decide (0 ≤ (ji35)) = true:=decide_eq_true c36
             clear c36
             by_cases c37 : (ji35) ≤ (x7_2.size : Int)
             ·rw [if_pos c37] at H
              have c37b0:=eq_true c37
              have c37b1 : decide ((ji35) ≤ (x7_2.size : Int)) = true:=decide_eq_true c37
              clear c37
              replace H:=Option.bind_eq_some_iff.mp H
              obtain ⟨⟨t287,t288⟩,A380,H⟩:=H
              replace H : (if (t287.length : Int) = x13_27 then (if x13_27 > 0 then (if 0 ≤ (wrap64 (x13_27 - 1)) then (if (wrap64 (x13_27 - 1)) < (x8_2.length : Int) then (if t288 = (rd x8_2 (wrap64 (x13_27 - 1))) then (if x13_27 = 0 then (if t288 = 0 then (if 0 ≤ x13_27 then (if x13_27 ≤ (l0.length : Int) then ((thwartref04_Same.f kj27 t287 (l0.take (x13_27 : Int).toNat)).bind fun t296 => (if t277 = true then (some t296) else (none))) else (none)) else (none)) else (none)) else (if 0 ≤ x13_27 then (if x13_27 ≤ (l0.length : Int) then ((thwartref04_Same.f kj27 t287 (l0.take (x13_27 : Int).toNat)).bind fun t301 => (if t277 = true then (some t301) else (none))) else (none)) else (none))) else (none)) else (none)) else (none)) else (if x13_27 = 0 then (if t288 = 0 then (if 0 ≤ x13_27 then (if x13_27 ≤ (l0.length : Int) then ((thwartref04_Same.f kj27 t287 (l0.take (x13_27 : Int).toNat)).bind fun t306 => (if t277 = true then (some t306) else (none))) else (none)) else (none)) else (none)) else (if 0 ≤ x13_27 then (if x13_27 ≤ (l0.length : Int) then ((thwartref04_Same.f kj27 t287 (l0.take (x13_27 : Int).toNat)).bind fun t311 => (if t277 = true then (some t311) else (none))) else (none)) else (none)))) else (none)) = some r:=H
              have A38:=Aside0.mk A380
              clear A380
              by_cases c39 : (t287.length : Int) = x13_27
              ·rw [if_pos c39] at H
               have c39b0 : ((t287.length : Int) == x13_27) = true:=beq_iff_eq.mpr c39
               have c39b1 : ((t287.length : Int) != x13_27) = false:=bne_eq_false_iff_eq.mpr c39
               clear c39
               by_cases c40 : x13_27 > 0
               ·rw [if_pos c40] at H
                have c40b0 : decide (0 < x13_27) = true:=decide_eq_true c40
                clear c40
                obtain ⟨ji41,hji41⟩ : ∃ j_ : Int,(wrap64 (x13_27 - 1)) = j_:=⟨_,rfl⟩
                replace H : (if 0 ≤ (ji41) then (if (ji41) < (x8_2.length : Int) then (if t288 = (rd x8_2 (ji41)) then (if x13_27 = 0 then (if t288 = 0 then (if 0 ≤ x13_27 then (if x13_27 ≤ (l0.length : Int) then ((thwartref04_Same.f kj27 t287 (l0.take (x13_27 : Int).toNat)).bind fun t296 => (if t277 = true then (some t296) else (none))) else (none)) else (none)) else (none)) else (if 0 ≤ x13_27 then (if x13_27 ≤ (l0.length : Int) then ((thwartref04_Same.f kj27 t287 (l0.take (x13_27 : Int).toNat)).bind fun t301 => (if t277 = true then (some t301) else (none))) else (none)) else (none))) else (none)) else (none)) else (none)) = some r:=by first | (rw [hji41] at H;exact H) | (simp only [hji41] at H ⊢;exact H)
                (try rw [hji41] at A38)
                have hji41w : (IntKind.i64.wrap (x13_27 - 1)) = ji41:=(i64_w _).trans hji41
                by_cases c42 : 0 ≤ (ji41)
                ·rw [if_pos c42] at H
                 have c42b0 : decide (0 ≤ (ji41)) = true:=decide_eq_true c42
                 clear c42
                 by_cases c43 : (ji41) < (x8_2.length : Int)
                 ·rw [if_pos c43] at H
                  have c43b0 : decide ((ji41) < (x8_2.length : Int)) = true:=decide_eq_true c43
                  clear c43
                  by_cases c44 : t288 = (rd x8_2 (ji41))
                  ·rw [if_pos c44] at H
                   have c44b0 : (t288 == (rd x8_2 (ji41))) = true:=beq_iff_eq.mpr c44
                   have c44b1 : (t288 != (rd x8_2 (ji41))) = false:=bne_eq_false_iff_eq.mpr c44
                   clear c44
                   by_cases c45 : x13_27 = 0
                   ·rw [if_pos c45] at H
                    have c45b0 : (x13_27 == 0) = true:=beq_iff_eq.mpr c45
                    have c45b1 : (x13_27 != 0) = false:=bne_eq_false_iff_eq.mpr c45
                    clear c45
                    by_cases c46 : t288 = 0
                    ·rw [if_pos c46] at H
                     have c46b0 : (t288 == 0) = true:=beq_iff_eq.mpr c46
                     have c46b1 : (t288 != 0) = false:=bne_eq_false_iff_eq.mpr c46
                     clear c46
                     by_cases c47 : 0 ≤ x13_27
                     ·rw [if_pos c47] at H
                      have c47b0:=eq_true c47
                      have c47b1 : decide (0 ≤ x13_27) = true:=decide_eq_true c47
                      clear c47
                      by_cases c48 : x13_27 ≤ (l0.length : Int)
                      ·rw [if_pos c48] at H
                       have c48b0:=eq_true c48
                       have c48b1 : decide (x13_27 ≤ (l0.length : Int)) = true:=decide_eq_true c48
                       clear c48
                       obtain ⟨y292,hy292⟩ : ∃ y_ : List (List (S24)),y_ = (l0.take (x13_27 : Int).toNat):=⟨_,rfl⟩
                       replace H : ((thwartref04_Same.f kj27 t287 y292).bind fun t296 => (if t277 = true then (some t296) else (none))) = some r:=by first | (rw [hy292];with_reducible exact H) | (have H2_:=(Option.bind_some _ _).symm.trans H;rw [hy292];with_reducible exact H2_) | (have H2_:=(Option.bind_some _ _).symm.trans H;with_reducible exact H2_) | with_reducible exact H | (rw [hy292];exact H) | exact H
                       have Ny292:=Aside0.mk hy292
                       clear hy292
                       replace H:=Option.bind_eq_some_iff.mp H
                       obtain ⟨t296,A490,H⟩:=H
                       replace H : (if t277 = true then (some t296) else (none)) = some r:=H
                       have A49:=Aside0.mk A490
                       clear A490
                       by_cases c50 : t277 = true
                       ·subst c50
                        have H1 : (some t296) = some r:=by rw [if_pos rfl] at H;exact H
                        clear H
                        have H:=H1
                        clear H1
                        obtain rfl:=Option.some.inj H
                        go_wp2_with (first | ((with_reducible refine gate_callee (f:=28) rfl ?_);refine goesL_ (some 86) rfl rfl Try.func28 (by kernel_rfl) rfl #[.string (x7_2.extract 0 ((ji35) : Int).toNat)] rfl (by (try simp only [List.map_toArray,List.map_cons,List.map_nil]);first | done | (simp only [hji35];rfl) | rfl | (simp only [List.length_drop,List.length_take];rfl)) ?_;(with_reducible refine (frame_Scan.calls kj27 (x7_2.extract 0 ((ji35) : Int).toNat) t287 t288 _ A38.out).mono ?_);rintro e w51 ⟨v289,rfl,ho0,hb⟩;refine ⟨_,rfl,?_⟩;have n0_:=Aside0.mk (Kd.R_below (by (with_reducible repeat (first | apply Kd.R_alloc | apply Kd.R_drewN | apply Kd.R_drew));exact HO_8.out) hb);have n1_:=Aside0.mk (Kd.S_lower ho0 (below_size (by repeat (first | (with_reducible first | exact HB.out | apply below_alloc | apply pw_below_drewN | apply below_drew1) | exact HB.out))));have n2_:=Aside0.mk (below_step (by repeat (first | (with_reducible first | exact HB.out | apply below_alloc | apply pw_below_drewN | apply below_drew1) | exact HB.out)) hb);clear HO_8;clear HB;have HO_8:=n0_;have HO290:=n1_;have HB:=n2_;clear n0_ n1_ n2_;(try clear hb);(try clear hb2);(try clear hk);(try clear hi);(try clear ho0);obtain ⟨Ao52,co52,eo52⟩:=Kd.S_slice HO290.out;subst eo52;obtain ⟨Ao53,co53,eo53⟩:=Kd.R_slice HO_8.out;subst eo53;have p291 : 0 ≤ ((ji41) : Int):=of_decide_eq_true (by first | (with_reducible assumption) | assumption);have q291 : (ji41) < (x8_2.length : Int):=of_decide_eq_true (by first | (with_reducible assumption) | assumption);obtain ⟨ad291,e291,hx291_0⟩:=Kd.at_int (Kd.R_reads' HO_8.out).2.2 (ji41) p291 q291;cases e291;replace p291:=eq_true p291;replace q291:=eq_true q291;have q54 : (x13_27 : Int) ≤ ((l0.length : Int) : Int):=of_decide_eq_true (by first | (with_reducible assumption) | assumption);obtain ⟨i054,hi054,_,hsz54,_⟩:=info_parts info34;have hroom54 : l0.length ≤ c0:=HC0.out;have hC54 : Kd.C (Kd.slice 24 k24) _ A0 l0.length l0:=HR0.out;have hcut54:=cut_to (P:=Try.prog) 45 34 .i64 Try.underlying45 hi054 A0 l0.length c0 x13_27 (of_decide_eq_true (by first | (with_reducible assumption) | assumption)) q54 hroom54;have hr54:=Kd.C_take (m:=(x13_27 : Int).toNat) hC54 (by omega);have hy54 : y292.length = (x13_27 : Int).toNat:=(by rw [Ny292.out,List.length_take];omega);rw [← Ny292.out] at hr54;rw [← hy54] at hcut54;have HR295:=Aside0.mk hr54;have HC295:=Aside0.mk (show y292.length ≤ c0 from by omega);clear hr54 hC54 hroom54 hi054 hsz54;have KY54:=Aside0.mk hy54;clear hy54;replace q54:=eq_true q54) | ((with_reducible refine gate_callee (f:=30) rfl ?_);refine goesL_ (some 118) rfl rfl Try.func30 (by kernel_rfl) rfl #[.slice Ao52 t287.length co52,.slice A0 y292.length c0] rfl (by (try simp only [List.map_toArray,List.map_cons,List.map_nil]);first | done | rfl | (simp only [List.length_drop,List.length_take];rfl)) ?_;(with_reducible refine (thwartref04_Same.calls kj27 _ _ t287 _ _ y292 t296 _ ?side1 ?side2 ?side3 ?side4 A49.out).mono ?_);(case side1 => repeat (first | exact (Kd.S_reads' HO290.out).2.2 | (with_reducible refine Kd.C_alloc ?_ _) | (with_reducible refine Kd.C_drewN ?_ _) | (with_reducible refine Kd.C_drew ?_)));(case side2 => exact (Kd.S_reads' HO290.out).2.1);(case side3 => repeat (first | exact (Kd.C_below HR295.out HB.out) | (with_reducible refine Kd.C_alloc ?_ _) | (with_reducible refine Kd.C_drewN ?_ _) | (with_reducible refine Kd.C_drew ?_)));(case side4 => exact HC295.out);rintro e w' ⟨rfl,⟨nd,rfl⟩⟩;refine ⟨_,rfl,?_⟩))
                        go_ret
                        exact ⟨by first | rfl | (simp [errW_none,errW_some] <;> rfl) | (simp only [← hji35,← hji41];first | rfl | (simp [errW_none,errW_some] <;> rfl)) | (simp [*,errW_none,errW_some] <;> rfl) | (simp [errW_none,errW_some];exact isEmpty_bne _),by repeat (first | (with_reducible first | exact HB.out | apply below_alloc | apply pw_below_drewN | apply below_drew1) | exact HB.out)⟩
                       ·replace c50:=Bool.eq_false_iff.mpr c50
                        subst c50
                        have H1 : (none) = some r:=by rw [if_neg (show ¬ (false = true) by decide)] at H;exact H
                        clear H
                        have H:=H1
                        clear H1
                        exact absurd H (by simp)
                      ·rw [if_neg c48] at H
                       exact absurd H (by simp)
                     ·rw [if_neg c47] at H
                      exact absurd H (by simp)
                    ·rw [if_neg c46] at H
                     exact absurd H (by simp)
                   ·rw [if_neg c45] at H
                    have c45b0 : (x13_27 == 0) = false:=beq_eq_false_iff_ne.mpr c45
                    have c45b1 : (x13_27 != 0) = true:=bne_iff_ne.mpr c45
                    by_cases c55 : 0 ≤ x13_27
                    ·rw [if_pos c55] at H
                     have c55b0:=eq_true c55
                     have c55b1 : decide (0 ≤ x13_27) = true:=decide_eq_true c55
                     clear c55
                     by_cases c56 : x13_27 ≤ (l0.length : Int)
                     ·rw [if_pos c56] at H
                      have c56b0:=eq_true c56
                      have c56b1 : decide (x13_27 ≤ (l0.length : Int)) = true:=decide_eq_true c56
                      clear c56
                      obtain ⟨y297,hy297⟩ : ∃ y_ : List (List (S24)),y_ = (l0.take (x13_27 : Int).toNat):=⟨_,rfl⟩
                      replace H : ((thwartref04_Same.f kj27 t287 y297).bind fun t301 => (if t277 = true then (some t301) else (none))) = some r:=by first | (rw [hy297];with_reducible exact H) | (have H2_:=(Option.bind_some _ _).symm.trans H;rw [hy297];with_reducible exact H2_) | (have H2_:=(Option.bind_some _ _).symm.trans H;with_reducible exact H2_) | with_reducible exact H | (rw [hy297];exact H) | exact H
                      have Ny297:=Aside0.mk hy297
                      clear hy297
                      replace H:=Option.bind_eq_some_iff.mp H
                      obtain ⟨t301,A570,H⟩:=H
                      replace H : (if t277 = true then (some t301) else (none)) = some r:=H
                      have A57:=Aside0.mk A570
                      clear A570
                      by_cases c58 : t277 = true
                      ·subst c58
                       have H1 : (some t301) = some r:=by rw [if_pos rfl] at H;exact H
                       clear H
                       have H:=H1
                       clear H1
                       obtain rfl:=Option.some.inj H
                       go_wp2_with (first | ((with_reducible refine gate_callee (f:=28) rfl ?_);refine goesL_ (some 86) rfl rfl Try.func28 (by kernel_rfl) rfl #[.string (x7_2.extract 0 ((ji35) : Int).toNat)] rfl (by (try simp only [List.map_toArray,List.map_cons,List.map_nil]);first | done | (simp only [hji35];rfl) | rfl | (simp only [List.length_drop,List.length_take];rfl)) ?_;(with_reducible refine (frame_Scan.calls kj27 (x7_2.extract 0 ((ji35) : Int).toNat) t287 t288 _ A38.out).mono ?_);rintro e w59 ⟨v289,rfl,ho0,hb⟩;refine ⟨_,rfl,?_⟩;have n0_:=Aside0.mk (Kd.R_below (by (with_reducible repeat (first | apply Kd.R_alloc | apply Kd.R_drewN | apply Kd.R_drew));exact HO_8.out) hb);have n1_:=Aside0.mk (Kd.S_lower ho0 (below_size (by repeat (first | (with_reducible first | exact HB.out | apply below_alloc | apply pw_below_drewN | apply below_drew1) | exact HB.out))));have n2_:=Aside0.mk (below_step (by repeat (first | (with_reducible first | exact HB.out | apply below_alloc | apply pw_below_drewN | apply below_drew1) | exact HB.out)) hb);clear HO_8;clear HB;have HO_8:=n0_;have HO290:=n1_;have HB:=n2_;clear n0_ n1_ n2_;(try clear hb);(try clear hb2);(try clear hk);(try clear hi);(try clear ho0);obtain ⟨Ao60,co60,eo60⟩:=Kd.S_slice HO290.out;subst eo60;obtain ⟨Ao61,co61,eo61⟩:=Kd.R_slice HO_8.out;subst eo61;have p291 : 0 ≤ ((ji41) : Int):=of_decide_eq_true (by first | (with_reducible assumption) | assumption);have q291 : (ji41) < (x8_2.length : Int):=of_decide_eq_true (by first | (with_reducible assumption) | assumption);obtain ⟨ad291,e291,hx291_0⟩:=Kd.at_int (Kd.R_reads' HO_8.out).2.2 (ji41) p291 q291;cases e291;replace p291:=eq_true p291;replace q291:=eq_true q291;have q62 : (x13_27 : Int) ≤ ((l0.length : Int) : Int):=of_decide_eq_true (by first | (with_reducible assumption) | assumption);obtain ⟨i062,hi062,_,hsz62,_⟩:=info_parts info34;have hroom62 : l0.length ≤ c0:=HC0.out;have hC62 : Kd.C (Kd.slice 24 k24) _ A0 l0.length l0:=HR0.out;have hcut62:=cut_to (P:=Try.prog) 45 34 .i64 Try.underlying45 hi062 A0 l0.length c0 x13_27 (of_decide_eq_true (by first | (with_reducible assumption) | assumption)) q62 hroom62;have hr62:=Kd.C_take (m:=(x13_27 : Int).toNat) hC62 (by omega);have hy62 : y297.length = (x13_27 : Int).toNat:=(by rw [Ny297.out,List.length_take];omega);rw [← Ny297.out] at hr62;rw [← hy62] at hcut62;have HR300:=Aside0.mk hr62;have HC300:=Aside0.mk (show y297.length ≤ c0 from by omega);clear hr62 hC62 hroom62 hi062 hsz62;have KY62:=Aside0.mk hy62;clear hy62;replace q62:=eq_true q62) | ((with_reducible refine gate_callee (f:=30) rfl ?_);refine goesL_ (some 118) rfl rfl Try.func30 (by kernel_rfl) rfl #[.slice Ao60 t287.length co60,.slice A0 y297.length c0] rfl (by (try simp only [List.map_toArray,List.map_cons,List.map_nil]);first | done | rfl | (simp only [List.length_drop,List.length_take];rfl)) ?_;(with_reducible refine (thwartref04_Same.calls kj27 _ _ t287 _ _ y297 t301 _ ?side1 ?side2 ?side3 ?side4 A57.out).mono ?_);(case side1 => repeat (first | exact (Kd.S_reads' HO290.out).2.2 | (with_reducible refine Kd.C_alloc ?_ _) | (with_reducible refine Kd.C_drewN ?_ _) | (with_reducible refine Kd.C_drew ?_)));(case side2 => exact (Kd.S_reads' HO290.out).2.1);(case side3 => repeat (first | exact (Kd.C_below HR300.out HB.out) | (with_reducible refine Kd.C_alloc ?_ _) | (with_reducible refine Kd.C_drewN ?_ _) | (with_reducible refine Kd.C_drew ?_)));(case side4 => exact HC300.out);rintro e w' ⟨rfl,⟨nd,rfl⟩⟩;refine ⟨_,rfl,?_⟩))
                       go_ret
                       exact ⟨by first | rfl | (simp [errW_none,errW_some] <;> rfl) | (simp only [← hji35,← hji41];first | rfl | (simp [errW_none,errW_some] <;> rfl)) | (simp [*,errW_none,errW_some] <;> rfl) | (simp [errW_none,errW_some];exact isEmpty_bne _),by repeat (first | (with_reducible first | exact HB.out | apply below_alloc | apply pw_below_drewN | apply below_drew1) | exact HB.out)⟩
                      ·replace c58:=Bool.eq_false_iff.mpr c58
                       subst c58
                       have H1 : (none) = some r:=by rw [if_neg (show ¬ (false = true) by decide)] at H;exact H
                       clear H
                       have H:=H1
                       clear H1
                       exact absurd H (by simp)
                     ·rw [if_neg c56] at H
                      exact absurd H (by simp)
                    ·rw [if_neg c55] at H
                     exact absurd H (by simp)
                  ·rw [if_neg c44] at H
                   exact absurd H (by simp)
                 ·rw [if_neg c43] at H
                  exact absurd H (by simp)
                ·rw [if_neg c42] at H
                 exact absurd H (by simp)
               ·rw [if_neg c40] at H
                have c40b0 : decide (0 < x13_27) = false:=decide_eq_false c40
                clear c40
                by_cases c63 : x13_27 = 0
                ·rw [if_pos c63] at H
                 have c63b0 : (x13_27 == 0) = true:=beq_iff_eq.mpr c63
                 have c63b1 : (x13_27 != 0) = false:=bne_eq_false_iff_eq.mpr c63
                 clear c63
                 by_cases c64 : t288 = 0
                 ·rw [if_pos c64] at H
                  have c64b0 : (t288 == 0) = true:=beq_iff_eq.mpr c64
                  have c64b1 : (t288 != 0) = false:=bne_eq_false_iff_eq.mpr c64
                  clear c64
                  by_cases c65 : 0 ≤ x13_27
                  ·rw [if_pos c65] at H
                   have c65b0:=eq_true c65
                   have c65b1 : decide (0 ≤ x13_27) = true:=decide_eq_true c65
                   clear c65
                   by_cases c66 : x13_27 ≤ (l0.length : Int)
                   ·rw [if_pos c66] at H
                    have c66b0:=eq_true c66
                    have c66b1 : decide (x13_27 ≤ (l0.length : Int)) = true:=decide_eq_true c66
                    clear c66
                    obtain ⟨y302,hy302⟩ : ∃ y_ : List (List (S24)),y_ = (l0.take (x13_27 : Int).toNat):=⟨_,rfl⟩
                    replace H : ((thwartref04_Same.f kj27 t287 y302).bind fun t306 => (if t277 = true then (some t306) else (none))) = some r:=by first | (rw [hy302];with_reducible exact H) | (have H2_:=(Option.bind_some _ _).symm.trans H;rw [hy302];with_reducible exact H2_) | (have H2_:=(Option.bind_some _ _).symm.trans H;with_reducible exact H2_) | with_reducible exact H | (rw [hy302];exact H) | exact H
                    have Ny302:=Aside0.mk hy302
                    clear hy302
                    replace H:=Option.bind_eq_some_iff.mp H
                    obtain ⟨t306,A670,H⟩:=H
                    replace H : (if t277 = true then (some t306) else (none)) = some r:=H
                    have A67:=Aside0.mk A670
                    clear A670
                    by_cases c68 : t277 = true
                    ·subst c68
                     have H1 : (some t306) = some r:=by rw [if_pos rfl] at H;exact H
                     clear H
                     have H:=H1
                     clear H1
                     obtain rfl:=Option.some.inj H
                     go_wp2_with (first | ((with_reducible refine gate_callee (f:=28) rfl ?_);refine goesL_ (some 86) rfl rfl Try.func28 (by kernel_rfl) rfl #[.string (x7_2.extract 0 ((ji35) : Int).toNat)] rfl (by (try simp only [List.map_toArray,List.map_cons,List.map_nil]);first | done | (simp only [hji35];rfl) | rfl | (simp only [List.length_drop,List.length_take];rfl)) ?_;(with_reducible refine (frame_Scan.calls kj27 (x7_2.extract 0 ((ji35) : Int).toNat) t287 t288 _ A38.out).mono ?_);rintro e w69 ⟨v289,rfl,ho0,hb⟩;refine ⟨_,rfl,?_⟩;have n0_:=Aside0.mk (Kd.R_below (by (with_reducible repeat (first | apply Kd.R_alloc | apply Kd.R_drewN | apply Kd.R_drew));exact HO_8.out) hb);have n1_:=Aside0.mk (Kd.S_lower ho0 (below_size (by repeat (first | (with_reducible first | exact HB.out | apply below_alloc | apply pw_below_drewN | apply below_drew1) | exact HB.out))));have n2_:=Aside0.mk (below_step (by repeat (first | (with_reducible first | exact HB.out | apply below_alloc | apply pw_below_drewN | apply below_drew1) | exact HB.out)) hb);clear HO_8;clear HB;have HO_8:=n0_;have HO290:=n1_;have HB:=n2_;clear n0_ n1_ n2_;(try clear hb);(try clear hb2);(try clear hk);(try clear hi);(try clear ho0);obtain ⟨Ao70,co70,eo70⟩:=Kd.S_slice HO290.out;subst eo70;have q71 : (x13_27 : Int) ≤ ((l0.length : Int) : Int):=of_decide_eq_true (by first | (with_reducible assumption) | assumption);obtain ⟨i071,hi071,_,hsz71,_⟩:=info_parts info34;have hroom71 : l0.length ≤ c0:=HC0.out;have hC71 : Kd.C (Kd.slice 24 k24) _ A0 l0.length l0:=HR0.out;have hcut71:=cut_to (P:=Try.prog) 45 34 .i64 Try.underlying45 hi071 A0 l0.length c0 x13_27 (of_decide_eq_true (by first | (with_reducible assumption) | assumption)) q71 hroom71;have hr71:=Kd.C_take (m:=(x13_27 : Int).toNat) hC71 (by omega);have hy71 : y302.length = (x13_27 : Int).toNat:=(by rw [Ny302.out,List.length_take];omega);rw [← Ny302.out] at hr71;rw [← hy71] at hcut71;have HR305:=Aside0.mk hr71;have HC305:=Aside0.mk (show y302.length ≤ c0 from by omega);clear hr71 hC71 hroom71 hi071 hsz71;have KY71:=Aside0.mk hy71;clear hy71;replace q71:=eq_true q71) | ((with_reducible refine gate_callee (f:=30) rfl ?_);refine goesL_ (some 118) rfl rfl Try.func30 (by kernel_rfl) rfl #[.slice Ao70 t287.length co70,.slice A0 y302.length c0] rfl (by (try simp only [List.map_toArray,List.map_cons,List.map_nil]);first | done | rfl | (simp only [List.length_drop,List.length_take];rfl)) ?_;(with_reducible refine (thwartref04_Same.calls kj27 _ _ t287 _ _ y302 t306 _ ?side1 ?side2 ?side3 ?side4 A67.out).mono ?_);(case side1 => repeat (first | exact (Kd.S_reads' HO290.out).2.2 | (with_reducible refine Kd.C_alloc ?_ _) | (with_reducible refine Kd.C_drewN ?_ _) | (with_reducible refine Kd.C_drew ?_)));(case side2 => exact (Kd.S_reads' HO290.out).2.1);(case side3 => repeat (first | exact (Kd.C_below HR305.out HB.out) | (with_reducible refine Kd.C_alloc ?_ _) | (with_reducible refine Kd.C_drewN ?_ _) | (with_reducible refine Kd.C_drew ?_)));(case side4 => exact HC305.out);rintro e w' ⟨rfl,⟨nd,rfl⟩⟩;refine ⟨_,rfl,?_⟩))
                     go_ret
                     exact ⟨by first | rfl | (simp [errW_none,errW_some] <;> rfl) | (simp only [← hji35];first | rfl | (simp [errW_none,errW_some] <;> rfl)) | (simp [*,errW_none,errW_some] <;> rfl) | (simp [errW_none,errW_some];exact isEmpty_bne _),by repeat (first | (with_reducible first | exact HB.out | apply below_alloc | apply pw_below_drewN | apply below_drew1) | exact HB.out)⟩
                    ·replace c68:=Bool.eq_false_iff.mpr c68
                     subst c68
                     have H1 : (none) = some r:=by rw [if_neg (show ¬ (false = true) by decide)] at H;exact H
                     clear H
                     have H:=H1
                     clear H1
                     exact absurd H (by simp)
                   ·rw [if_neg c66] at H
                    exact absurd H (by simp)
                  ·rw [if_neg c65] at H
                   exact absurd H (by simp)
                 ·rw [if_neg c64] at H
                  exact absurd H (by simp)
                ·rw [if_neg c63] at H
                 have c63b0 : (x13_27 == 0) = false:=beq_eq_false_iff_ne.mpr c63
                 have c63b1 : (x13_27 != 0) = true:=bne_iff_ne.mpr c63
                 by_cases c72 : 0 ≤ x13_27
                 ·rw [if_pos c72] at H
                  have c72b0:=eq_true c72
                  have c72b1 : decide (0 ≤ x13_27) = true:=decide_eq_true c72
                  clear c72
                  by_cases c73 : x13_27 ≤ (l0.length : Int)
                  ·rw [if_pos c73] at H
                   have c73b0:=eq_true c73
                   have c73b1 : decide (x13_27 ≤ (l0.length : Int)) = true:=decide_eq_true c73
                   clear c73
                   obtain ⟨y307,hy307⟩ : ∃ y_ : List (List (S24)),y_ = (l0.take (x13_27 : Int).toNat):=⟨_,rfl⟩
                   replace H : ((thwartref04_Same.f kj27 t287 y307).bind fun t311 => (if t277 = true then (some t311) else (none))) = some r:=by first | (rw [hy307];with_reducible exact H) | (have H2_:=(Option.bind_some _ _).symm.trans H;rw [hy307];with_reducible exact H2_) | (have H2_:=(Option.bind_some _ _).symm.trans H;with_reducible exact H2_) | with_reducible exact H | (rw [hy307];exact H) | exact H
                   have Ny307:=Aside0.mk hy307
                   clear hy307
                   replace H:=Option.bind_eq_some_iff.mp H
                   obtain ⟨t311,A740,H⟩:=H
                   replace H : (if t277 = true then (some t311) else (none)) = some r:=H
                   have A74:=Aside0.mk A740
                   clear A740
                   by_cases c75 : t277 = true
                   ·subst c75
                    have H1 : (some t311) = some r:=by rw [if_pos rfl] at H;exact H
                    clear H
                    have H:=H1
                    clear H1
                    obtain rfl:=Option.some.inj H
                    go_wp2_with (first | ((with_reducible refine gate_callee (f:=28) rfl ?_);refine goesL_ (some 86) rfl rfl Try.func28 (by kernel_rfl) rfl #[.string (x7_2.extract 0 ((ji35) : Int).toNat)] rfl (by (try simp only [List.map_toArray,List.map_cons,List.map_nil]);first | done | (simp only [hji35];rfl) | rfl | (simp only [List.length_drop,List.length_take];rfl)) ?_;(with_reducible refine (frame_Scan.calls kj27 (x7_2.extract 0 ((ji35) : Int).toNat) t287 t288 _ A38.out).mono ?_);rintro e w76 ⟨v289,rfl,ho0,hb⟩;refine ⟨_,rfl,?_⟩;have n0_:=Aside0.mk (Kd.R_below (by (with_reducible repeat (first | apply Kd.R_alloc | apply Kd.R_drewN | apply Kd.R_drew));exact HO_8.out) hb);have n1_:=Aside0.mk (Kd.S_lower ho0 (below_size (by repeat (first | (with_reducible first | exact HB.out | apply below_alloc | apply pw_below_drewN | apply below_drew1) | exact HB.out))));have n2_:=Aside0.mk (below_step (by repeat (first | (with_reducible first | exact HB.out | apply below_alloc | apply pw_below_drewN | apply below_drew1) | exact HB.out)) hb);clear HO_8;clear HB;have HO_8:=n0_;have HO290:=n1_;have HB:=n2_;clear n0_ n1_ n2_;(try clear hb);(try clear hb2);(try clear hk);(try clear hi);(try clear ho0);obtain ⟨Ao77,co77,eo77⟩:=Kd.S_slice HO290.out;subst eo77;have q78 : (x13_27 : Int) ≤ ((l0.length : Int) : Int):=of_decide_eq_true (by first | (with_reducible assumption) | assumption);obtain ⟨i078,hi078,_,hsz78,_⟩:=info_parts info34;have hroom78 : l0.length ≤ c0:=HC0.out;have hC78 : Kd.C (Kd.slice 24 k24) _ A0 l0.length l0:=HR0.out;have hcut78:=cut_to (P:=Try.prog) 45 34 .i64 Try.underlying45 hi078 A0 l0.length c0 x13_27 (of_decide_eq_true (by first | (with_reducible assumption) | assumption)) q78 hroom78;have hr78:=Kd.C_take (m:=(x13_27 : Int).toNat) hC78 (by omega);have hy78 : y307.length = (x13_27 : Int).toNat:=(by rw [Ny307.out,List.length_take];omega);rw [← Ny307.out] at hr78;rw [← hy78] at hcut78;have HR310:=Aside0.mk hr78;have HC310:=Aside0.mk (show y307.length ≤ c0 from by omega);clear hr78 hC78 hroom78 hi078 hsz78;have KY78:=Aside0.mk hy78;clear hy78;replace q78:=eq_true q78) | ((with_reducible refine gate_callee (f:=30) rfl ?_);refine goesL_ (some 118) rfl rfl Try.func30 (by kernel_rfl) rfl #[.slice Ao77 t287.length co77,.slice A0 y307.length c0] rfl (by (try simp only [List.map_toArray,List.map_cons,List.map_nil]);first | done | rfl | (simp only [List.length_drop,List.length_take];rfl)) ?_;(with_reducible refine (thwartref04_Same.calls kj27 _ _ t287 _ _ y307 t311 _ ?side1 ?side2 ?side3 ?side4 A74.out).mono ?_);(case side1 => repeat (first | exact (Kd.S_reads' HO290.out).2.2 | (with_reducible refine Kd.C_alloc ?_ _) | (with_reducible refine Kd.C_drewN ?_ _) | (with_reducible refine Kd.C_drew ?_)));(case side2 => exact (Kd.S_reads' HO290.out).2.1);(case side3 => repeat (first | exact (Kd.C_below HR310.out HB.out) | (with_reducible refine Kd.C_alloc ?_ _) | (with_reducible refine Kd.C_drewN ?_ _) | (with_reducible refine Kd.C_drew ?_)));(case side4 => exact HC310.out);rintro e w' ⟨rfl,⟨nd,rfl⟩⟩;refine ⟨_,rfl,?_⟩))
                    go_ret
                    exact ⟨by first | rfl | (simp [errW_none,errW_some] <;> rfl) | (simp only [← hji35];first | rfl | (simp [errW_none,errW_some] <;> rfl)) | (simp [*,errW_none,errW_some] <;> rfl) | (simp [errW_none,errW_some];exact isEmpty_bne _),by repeat (first | (with_reducible first | exact HB.out | apply below_alloc | apply pw_below_drewN | apply below_drew1) | exact HB.out)⟩
                   ·replace c75:=Bool.eq_false_iff.mpr c75
                    subst c75
                    have H1 : (none) = some r:=by rw [if_neg (show ¬ (false = true) by decide)] at H;exact H
                    clear H
                    have H:=H1
                    clear H1
                    exact absurd H (by simp)
                  ·rw [if_neg c73] at H
                   exact absurd H (by simp)
                 ·rw [if_neg c72] at H
                  exact absurd H (by simp)
              ·rw [if_neg c39] at H
               exact absurd H (by simp)
             ·rw [if_neg c37] at H
              exact absurd H (by simp)
            ·rw [if_neg c36] at H
             exact absurd H (by simp)
     ·rw [if_neg c11] at H
      exact absurd H (by simp)
    ·rw [if_neg c10] at H
     exact absurd H (by simp)

/-- THE ONE PURE STATEMENT of thwartlaw04_FrameCuts: yours. -/
def thwartlaw04_FrameCuts.Pure : Prop := ∀ (l0 : List (List (S24))) (a1 : Int),l0.length * 24 ≤ 140737488351232 → (l0.length ≤ 9223372036854775807 ∧ ∀ e312 ∈ l0,(e312.length ≤ 9223372036854775807 ∧ ∀ e313 ∈ e312,((Lit.int .u64 e313.f0).wf = true ∧ e313.f1.size ≤ 9223372036854775807 ∧ e313.f2.size ≤ 9223372036854775807 ∧ True))) → (Lit.int .i64 a1).wf = true → ∃ k,thwartlaw04_FrameCuts.f k l0 a1 = some true
theorem thwartlaw04_FrameCuts.walk (P : thwartlaw04_FrameCuts.Pure) (A0 : Option Addr) (n0 c0 : Nat) (l0 : List (List (S24))) (a1 : Int) (w : World) (K0 : (Kd.slice 34 (Kd.slice 24 k24)).K w l0 [.slice A0 n0 c0]) (y0 : n0 * 24 ≤ 140737488351232) (G0 : (l0.length ≤ 9223372036854775807 ∧ ∀ e312 ∈ l0,(e312.length ≤ 9223372036854775807 ∧ ∀ e313 ∈ e312,((Lit.int .u64 e313.f0).wf = true ∧ e313.f1.size ≤ 9223372036854775807 ∧ e313.f2.size ≤ 9223372036854775807 ∧ True)))) (w1 : (Lit.int .i64 a1).wf = true) :
  Calls Try.prog 8 #[.slice A0 n0 c0,.int .i64 a1] w fun e w' => e = .returned (.bool true) ∧ Below w.heap.size w w' := by
 obtain ⟨A0_,c0_,e0,hc0,hr0⟩:=K0
 simp only [List.cons.injEq,Value.slice.injEq,and_true] at e0
 obtain ⟨rfl,rfl,rfl⟩:=e0
 obtain ⟨k,h⟩:=P l0 a1 y0 G0 w1
 refine (thwartlaw04_FrameCuts.calls k _ _ l0 a1 true w hr0 hc0 h).mono ?_
 rintro e w' ⟨rfl,hd⟩
 exact ⟨rfl,hd⟩

end Go.Proofs.Ytnhmhdconmollaa.Print
