/- Written by a program of mine (give.py, over the kit's print) out of the translation: contracts of the Go functions. Lean checks it. -/
import Derived.Test.YtlfhnpecfkhcpaaPrint0
import Derived.Test.YtlfhnpecfkhcpaaPrint2
import Derived.Test.YtlfhnpecfkhcpaaPrint3
import Derived.Test.YtlfhnpecfkhcpaaPrint4
import Derived.Test.YtlfhnpecfkhcpaaPrint5
import Derived.Test.YtlfhnpecfkhcpaaPrint6
namespace Go.Proofs.Ytlfhnpecfkhcpaa.Print
open Go.RowKit Go.Proofs.YtlfhnpecfkhcpaaW.PrintWords Go.Proofs.YtlfhnpecfkhcpaaW.PrintLast Go.Proofs.YtlfhnpecfkhcpaaW.PrintMore
attribute [local go_sem] max2_int min2_int max_two min_two max_three min_three max_four min_four   -- for this text's walks alone
set_option linter.unusedVariables false
set_option linter.unusedSimpArgs false

/-! ### thwartlaw15_MergeTells: function 4 -/
def thwartlaw15_MergeTells.j0 : Nat → List (List (S36)) → Bool → Bool → List (S36) → Option (Bool)
 | 0,_,_,_,_ => none
 | k + 1,x0,x1,x5,x7 => (merge_Newest.f k x0).bind fun t146 => ((thwartref15_Newest.f x0).bind fun t149 => ((thwartref03_Same.f k t146 t149).bind fun t152 => ((merge_Live.f k x0).bind fun t153 => ((thwartref15_Live.f k x0).bind fun t156 => ((thwartref03_Same.f k t153 t156).bind fun t159 => ((merge_Merge.f k x1 x0).bind fun t160 => ((thwartref03_Same.f k t160 x7).bind fun t163 => (if (x0.length : Int) = 0 then (if x5 = true then (if t152 = true then (if t159 = true then (if t163 = true then (some true) else (none)) else (none)) else (none)) else (none)) else (if 0 < (x0.length : Int) then ((merge_Batches.f (rd_L4 x0 0)).bind fun t165 => ((thwartref15_Batches.f k (rd_L4 x0 0)).bind fun t169 => ((thwartref04_Same.f k t165 t169).bind fun t172 => (if x5 = true then (if t152 = true then (if t159 = true then (if t163 = true then (some t172) else (none)) else (none)) else (none)) else (none))))) else (none))))))))))
def thwartlaw15_MergeTells.f (k : Nat) (l0 : List (List (S36))) (a1 : Bool) : Option (Bool):=(thwartlaw15_awake.f k).bind fun t138 => ((thwartlaw15_light.f k l0).bind fun t139 => (if t139 = true then ((thwartref15_Live.f k l0).bind fun t140 => (if a1 = true then ((thwartref15_Newest.f l0).bind fun t143 => (thwartlaw15_MergeTells.j0 k l0 a1 t138 t143)) else (thwartlaw15_MergeTells.j0 k l0 a1 t138 t140))) else (some t138)))
theorem thwartlaw15_MergeTells.mono_l : ∀ k,(∀ y0 y1 y2 y3,LeO (thwartlaw15_MergeTells.j0 k y0 y1 y2 y3) (thwartlaw15_MergeTells.j0 (k + 1) y0 y1 y2 y3))
 | 0 => fun _ _ _ _ r h => by simp [thwartlaw15_MergeTells.j0] at h
 | k + 1 => by
  have ih0:=thwartlaw15_MergeTells.mono_l k
  ·intro y0 y1 y2 y3
   unfold thwartlaw15_MergeTells.j0
   repeat' first
   | (with_reducible exact ih0 _ _ _ _)
   | (with_reducible exact merge_Live.mono _ _)
   | (with_reducible exact merge_Merge.mono _ _ _)
   | (with_reducible exact merge_Newest.mono _ _)
   | (with_reducible exact thwartlaw15_awake.mono _)
   | (with_reducible exact thwartlaw15_light.mono _ _)
   | (with_reducible exact thwartref03_Same.mono _ _ _)
   | (with_reducible exact thwartref04_Same.mono _ _ _)
   | (with_reducible exact thwartref15_Batches.mono _ _)
   | (with_reducible exact thwartref15_Live.mono _ _)
   | (with_reducible exact LeO.refl _)
   | (with_reducible exact LeO.none _)
   | (with_reducible refine LeO.ite ?_ ?_)
   | (with_reducible refine LeO.bind ?_ (fun _ => ?_))
   | exact ih0 _ _ _ _
   | exact merge_Live.mono _ _
   | exact merge_Merge.mono _ _ _
   | exact merge_Newest.mono _ _
   | exact thwartlaw15_awake.mono _
   | exact thwartlaw15_light.mono _ _
   | exact thwartref03_Same.mono _ _ _
   | exact thwartref04_Same.mono _ _ _
   | exact thwartref15_Batches.mono _ _
   | exact thwartref15_Live.mono _ _
   | exact LeO.none _
   | refine LeO.ite ?_ ?_
   | refine LeO.bind ?_ (fun _ => ?_)
theorem thwartlaw15_MergeTells.mono : ∀ a0 a1 k,LeO (thwartlaw15_MergeTells.f k a0 a1) (thwartlaw15_MergeTells.f (k + 1) a0 a1):=by
 intro a0 a1 k
 have ih0:=thwartlaw15_MergeTells.mono_l k
 unfold thwartlaw15_MergeTells.f
 repeat' first
   | (with_reducible exact ih0 _ _ _ _)
   | (with_reducible exact merge_Live.mono _ _)
   | (with_reducible exact merge_Merge.mono _ _ _)
   | (with_reducible exact merge_Newest.mono _ _)
   | (with_reducible exact thwartlaw15_awake.mono _)
   | (with_reducible exact thwartlaw15_light.mono _ _)
   | (with_reducible exact thwartref03_Same.mono _ _ _)
   | (with_reducible exact thwartref04_Same.mono _ _ _)
   | (with_reducible exact thwartref15_Batches.mono _ _)
   | (with_reducible exact thwartref15_Live.mono _ _)
   | (with_reducible exact LeO.refl _)
   | (with_reducible exact LeO.none _)
   | (with_reducible refine LeO.ite ?_ ?_)
   | (with_reducible refine LeO.bind ?_ (fun _ => ?_))
   | exact ih0 _ _ _ _
   | exact merge_Live.mono _ _
   | exact merge_Merge.mono _ _ _
   | exact merge_Newest.mono _ _
   | exact thwartlaw15_awake.mono _
   | exact thwartlaw15_light.mono _ _
   | exact thwartref03_Same.mono _ _ _
   | exact thwartref04_Same.mono _ _ _
   | exact thwartref15_Batches.mono _ _
   | exact thwartref15_Live.mono _ _
   | exact LeO.none _
   | refine LeO.ite ?_ ?_
   | refine LeO.bind ?_ (fun _ => ?_)
def thwartlaw15_MergeTells.T11 : Bool × List (List Nat × List Nat):=(true,[([],[]),([0],[0]),([1],[1]),([2],[2]),([3],[3]),([4,3],[3,4]),([5,3],[3,5]),([6,3,3],[3,6]),([3],[3]),([8,3],[3,8]),([9,3],[3,9]),([10,7,3],[3,10]),([7,11,11,3],[3,7,11]),([3,12],[3,12]),([13,12,0,1,2,3,4,5,6,7,8,9,10,11,12,13],[13])])
def thwartlaw15_MergeTells.B11 : List Nat:=[0,1,3,7,15,31,63,127,15,271,783,2047,4095,8191,16383]
theorem thwartlaw15_MergeTells.tab11 : rtab .any (opsOf Try.f4 11) = thwartlaw15_MergeTells.T11:=by kernel_rfl
theorem thwartlaw15_MergeTells.bits11 : waitsOk thwartlaw15_MergeTells.T11.2 thwartlaw15_MergeTells.B11 = true:=by kernel_rfl
set_option maxHeartbeats 8000000 in
set_option maxRecDepth 100000 in
theorem thwartlaw15_MergeTells.calls (k : Nat) (A0 : Option Addr) (c0 : Nat) (l0 : List (List (S36))) (a1 : Bool) (r : Bool) (w : World) (hr0 : Kd.C (Kd.slice 36 k36) w A0 l0.length l0) (hc0 : l0.length ≤ c0) (h : thwartlaw15_MergeTells.f k l0 a1 = some r) :
  Calls Try.prog 4 #[.slice A0 l0.length c0,.bool a1] w fun e w' => e = .returned (.bool r) ∧ Below w.heap.size w w' := by
 have HR0:=Aside0.mk hr0
 have HC0:=Aside0.mk hc0
 clear hr0 hc0
 have HB:=Aside0.mk (Below.refl w.heap.size w)
 have H : ((thwartlaw15_awake.f k).bind fun t138 => ((thwartlaw15_light.f k l0).bind fun t139 => (if t139 = true then ((thwartref15_Live.f k l0).bind fun t140 => (if a1 = true then ((thwartref15_Newest.f l0).bind fun t143 => (thwartlaw15_MergeTells.j0 k l0 a1 t138 t143)) else (thwartlaw15_MergeTells.j0 k l0 a1 t138 t140))) else (some t138)))) = some r:=h
 clear h
 replace H:=Option.bind_eq_some_iff.mp H
 obtain ⟨t138,A30,H⟩:=H
 replace H : ((thwartlaw15_light.f k l0).bind fun t139 => (if t139 = true then ((thwartref15_Live.f k l0).bind fun t140 => (if a1 = true then ((thwartref15_Newest.f l0).bind fun t143 => (thwartlaw15_MergeTells.j0 k l0 a1 t138 t143)) else (thwartlaw15_MergeTells.j0 k l0 a1 t138 t140))) else (some t138))) = some r:=H
 have A3:=Aside0.mk A30
 clear A30
 replace H:=Option.bind_eq_some_iff.mp H
 obtain ⟨t139,A40,H⟩:=H
 replace H : (if t139 = true then ((thwartref15_Live.f k l0).bind fun t140 => (if a1 = true then ((thwartref15_Newest.f l0).bind fun t143 => (thwartlaw15_MergeTells.j0 k l0 a1 t138 t143)) else (thwartlaw15_MergeTells.j0 k l0 a1 t138 t140))) else (some t138)) = some r:=H
 have A4:=Aside0.mk A40
 clear A40
 by_cases c5 : t139 = true
 ·subst c5
  have H1 : ((thwartref15_Live.f k l0).bind fun t140 => (if a1 = true then ((thwartref15_Newest.f l0).bind fun t143 => (thwartlaw15_MergeTells.j0 k l0 a1 t138 t143)) else (thwartlaw15_MergeTells.j0 k l0 a1 t138 t140))) = some r:=by rw [if_pos rfl] at H;exact H
  clear H
  have H:=H1
  clear H1
  replace H:=Option.bind_eq_some_iff.mp H
  obtain ⟨t140,A60,H⟩:=H
  replace H : (if a1 = true then ((thwartref15_Newest.f l0).bind fun t143 => (thwartlaw15_MergeTells.j0 k l0 a1 t138 t143)) else (thwartlaw15_MergeTells.j0 k l0 a1 t138 t140)) = some r:=H
  have A6:=Aside0.mk A60
  clear A60
  have HC7:=Aside0.mk H
  clear H
  go_enter Try.func4,Try.ntmps4
  go_upto_if 20 with (first | ((with_reducible refine gate_callee (f:=7) rfl ?_);refine goesL_ (some 12) rfl rfl Try.func7 (by kernel_rfl) rfl #[] rfl (by (try simp only [List.map_toArray,List.map_cons,List.map_nil]);first | done | rfl | (simp only [List.length_drop,List.length_take];rfl)) ?_;(with_reducible refine (thwartlaw15_awake.calls k  t138 _ A3.out).mono ?_);rintro e w8 ⟨rfl,hb⟩;refine ⟨_,rfl,?_⟩;have n0_:=Aside0.mk (below_step (by repeat (first | (with_reducible first | exact HB.out | apply below_alloc | apply pw_below_drewN | apply below_drew1) | exact HB.out)) hb);clear HB;have HB:=n0_;clear n0_;(try clear hb);(try clear hb2);(try clear hk);(try clear hi)) | ((with_reducible refine gate_callee (f:=10) rfl ?_);refine goesL_ (some 14) rfl rfl Try.func10 (by kernel_rfl) rfl #[.slice A0 l0.length c0] rfl (by (try simp only [List.map_toArray,List.map_cons,List.map_nil]);first | done | rfl | (simp only [List.length_drop,List.length_take];rfl)) ?_;(with_reducible refine (thwartlaw15_light.calls k _ _ l0 true _ ?side1 ?side2 A4.out).mono ?_);(case side1 => repeat (first | exact (Kd.C_below HR0.out HB.out) | (with_reducible refine Kd.C_alloc ?_ _) | (with_reducible refine Kd.C_drewN ?_ _) | (with_reducible refine Kd.C_drew ?_)));(case side2 => exact HC0.out);rintro e w9 ⟨rfl,hb⟩;refine ⟨_,rfl,?_⟩;have n0_:=Aside0.mk (below_step (by repeat (first | (with_reducible first | exact HB.out | apply below_alloc | apply pw_below_drewN | apply below_drew1) | exact HB.out)) hb);clear HB;have HB:=n0_;clear n0_;(try clear hb);(try clear hb2);(try clear hk);(try clear hi)) | ((with_reducible refine gate_callee (f:=11) rfl ?_);refine goesL_ (some 19) rfl rfl Try.func11 (by kernel_rfl) rfl #[.slice A0 l0.length c0] rfl (by (try simp only [List.map_toArray,List.map_cons,List.map_nil]);first | done | rfl | (simp only [List.length_drop,List.length_take];rfl)) ?_;(with_reducible refine (thwartref15_Live.calls k _ _ l0 t140 _ ?side1 ?side2 A6.out).mono ?_);(case side1 => repeat (first | exact (Kd.C_below HR0.out HB.out) | (with_reducible refine Kd.C_alloc ?_ _) | (with_reducible refine Kd.C_drewN ?_ _) | (with_reducible refine Kd.C_drew ?_)));(case side2 => exact HC0.out);rintro e w10 ⟨v141,rfl,ho0,hb⟩;refine ⟨_,rfl,?_⟩;have n0_:=Aside0.mk (Kd.R_lower ho0 (below_size (by repeat (first | (with_reducible first | exact HB.out | apply below_alloc | apply pw_below_drewN | apply below_drew1) | exact HB.out))));have n1_:=Aside0.mk (below_step (by repeat (first | (with_reducible first | exact HB.out | apply below_alloc | apply pw_below_drewN | apply below_drew1) | exact HB.out)) hb);clear HB;have HO142:=n0_;have HB:=n1_;clear n0_ n1_;(try clear hb);(try clear hb2);(try clear hk);(try clear hi);(try clear ho0)))
  (try simp only [Act.put,List.setIfInBounds_toArray,List.set_cons_zero,List.set_cons_succ])
  go_cut [7] (fun v7 wc => ∃ (kq : Nat) (x7_6 : List (S36)),Aside0 (thwartlaw15_MergeTells.j0 kq l0 a1 t138 x7_6 = some r) ∧ Aside0 (kq ≤ k) ∧ Aside0 (Kd.R k36 36 wc w.heap.size (fun _ => True) v7 x7_6) ∧ Aside0 (Below w.heap.size w wc))
  case first =>
   have H:=HC7.out
   clear HC7
   by_cases c11 : a1 = true
   ·subst c11
    have H1 : ((thwartref15_Newest.f l0).bind fun t143 => (thwartlaw15_MergeTells.j0 k l0 true t138 t143)) = some r:=by rw [if_pos rfl] at H;exact H
    clear H
    have H:=H1
    clear H1
    replace H:=Option.bind_eq_some_iff.mp H
    obtain ⟨t143,A120,H⟩:=H
    replace H : (thwartlaw15_MergeTells.j0 k l0 true t138 t143) = some r:=H
    have A12:=Aside0.mk A120
    clear A120
    have H' := Aside0.mk H
    clear H
    go_wp2_with (first | ((with_reducible refine gate_callee (f:=12) rfl ?_);refine goesL_ (some 22) rfl rfl Try.func12 (by kernel_rfl) rfl #[.slice A0 l0.length c0] rfl (by (try simp only [List.map_toArray,List.map_cons,List.map_nil]);first | done | rfl | (simp only [List.length_drop,List.length_take];rfl)) ?_;(with_reducible refine (thwartref15_Newest.calls _ _ l0 t143 _ ?side1 ?side2 A12.out).mono ?_);(case side1 => repeat (first | exact (Kd.C_below HR0.out HB.out) | (with_reducible refine Kd.C_alloc ?_ _) | (with_reducible refine Kd.C_drewN ?_ _) | (with_reducible refine Kd.C_drew ?_)));(case side2 => exact HC0.out);rintro e w13 ⟨v144,rfl,ho0,hb⟩;refine ⟨_,rfl,?_⟩;have n0_:=Aside0.mk (Kd.R_elder' (by (with_reducible repeat (first | apply Kd.R_alloc | apply Kd.R_drewN | apply Kd.R_drew));exact HO142.out) (Kd.R_base ho0) hb);have n1_:=Aside0.mk (Kd.R_lower (Kd.R_new' ho0 (Kd.R_lt (by (with_reducible repeat (first | apply Kd.R_alloc | apply Kd.R_drewN | apply Kd.R_drew));exact HO142.out))) (below_size (by repeat (first | (with_reducible first | exact HB.out | apply below_alloc | apply pw_below_drewN | apply below_drew1) | exact HB.out))));have n2_:=Aside0.mk (below_step (by repeat (first | (with_reducible first | exact HB.out | apply below_alloc | apply pw_below_drewN | apply below_drew1) | exact HB.out)) hb);clear HO142;clear HB;have HO142:=n0_;have HO145:=n1_;have HB:=n2_;clear n0_ n1_ n2_;(try clear hb);(try clear hb2);(try clear hk);(try clear hi);(try clear ho0)))
    go_meet
    case rel => exact ⟨_,(t143),H',⟨by first | omega | exact Nat.le_refl _⟩,⟨by (with_reducible repeat (first | apply Kd.R_alloc | apply Kd.R_drewN | apply Kd.R_drew));exact Kd.R_mono HO145.out (fun _ hk => trivial)⟩,⟨by repeat (first | (with_reducible first | exact HB.out | apply below_alloc | apply pw_below_drewN | apply below_drew1) | exact HB.out)⟩⟩
   ·replace c11:=Bool.eq_false_iff.mpr c11
    subst c11
    have H1 : (thwartlaw15_MergeTells.j0 k l0 false t138 t140) = some r:=by rw [if_neg (show ¬ (false = true) by decide)] at H;exact H
    clear H
    have H:=H1
    clear H1
    have H' := Aside0.mk H
    clear H
    go_wp2
    go_meet
    case rel => exact ⟨_,(t140),H',⟨by first | omega | exact Nat.le_refl _⟩,⟨by (with_reducible repeat (first | apply Kd.R_alloc | apply Kd.R_drewN | apply Kd.R_drew));exact HO142.out⟩,⟨by repeat (first | (with_reducible first | exact HB.out | apply below_alloc | apply pw_below_drewN | apply below_drew1) | exact HB.out)⟩⟩
  case rest =>
   clear HC7
   try clear c1
   try clear p2
   try clear c4
   try clear c5
   try clear c7
   try clear c10
   try clear c11
   try clear c12
   obtain ⟨kq,x7_6,HA,HJ6,HO_7,HB⟩:=hcut
   cases kq with
   | zero => exact absurd HA.out (by simp [thwartlaw15_MergeTells.j0])
   | succ kj6 =>
    have H:=HA.out
    clear HA
    simp only [thwartlaw15_MergeTells.j0] at H
    replace H:=Option.bind_eq_some_iff.mp H
    obtain ⟨t146,A140,H⟩:=H
    replace H : ((thwartref15_Newest.f l0).bind fun t149 => ((thwartref03_Same.f kj6 t146 t149).bind fun t152 => ((merge_Live.f kj6 l0).bind fun t153 => ((thwartref15_Live.f kj6 l0).bind fun t156 => ((thwartref03_Same.f kj6 t153 t156).bind fun t159 => ((merge_Merge.f kj6 a1 l0).bind fun t160 => ((thwartref03_Same.f kj6 t160 x7_6).bind fun t163 => (if (l0.length : Int) = 0 then (if t138 = true then (if t152 = true then (if t159 = true then (if t163 = true then (some true) else (none)) else (none)) else (none)) else (none)) else (if 0 < (l0.length : Int) then ((merge_Batches.f (rd_L4 l0 0)).bind fun t165 => ((thwartref15_Batches.f kj6 (rd_L4 l0 0)).bind fun t169 => ((thwartref04_Same.f kj6 t165 t169).bind fun t172 => (if t138 = true then (if t152 = true then (if t159 = true then (if t163 = true then (some t172) else (none)) else (none)) else (none)) else (none))))) else (none)))))))))) = some r:=H
    have A14:=Aside0.mk A140
    clear A140
    replace H:=Option.bind_eq_some_iff.mp H
    obtain ⟨t149,A150,H⟩:=H
    replace H : ((thwartref03_Same.f kj6 t146 t149).bind fun t152 => ((merge_Live.f kj6 l0).bind fun t153 => ((thwartref15_Live.f kj6 l0).bind fun t156 => ((thwartref03_Same.f kj6 t153 t156).bind fun t159 => ((merge_Merge.f kj6 a1 l0).bind fun t160 => ((thwartref03_Same.f kj6 t160 x7_6).bind fun t163 => (if (l0.length : Int) = 0 then (if t138 = true then (if t152 = true then (if t159 = true then (if t163 = true then (some true) else (none)) else (none)) else (none)) else (none)) else (if 0 < (l0.length : Int) then ((merge_Batches.f (rd_L4 l0 0)).bind fun t165 => ((thwartref15_Batches.f kj6 (rd_L4 l0 0)).bind fun t169 => ((thwartref04_Same.f kj6 t165 t169).bind fun t172 => (if t138 = true then (if t152 = true then (if t159 = true then (if t163 = true then (some t172) else (none)) else (none)) else (none)) else (none))))) else (none))))))))) = some r:=H
    have A15:=Aside0.mk A150
    clear A150
    replace H:=Option.bind_eq_some_iff.mp H
    obtain ⟨t152,A160,H⟩:=H
    replace H : ((merge_Live.f kj6 l0).bind fun t153 => ((thwartref15_Live.f kj6 l0).bind fun t156 => ((thwartref03_Same.f kj6 t153 t156).bind fun t159 => ((merge_Merge.f kj6 a1 l0).bind fun t160 => ((thwartref03_Same.f kj6 t160 x7_6).bind fun t163 => (if (l0.length : Int) = 0 then (if t138 = true then (if t152 = true then (if t159 = true then (if t163 = true then (some true) else (none)) else (none)) else (none)) else (none)) else (if 0 < (l0.length : Int) then ((merge_Batches.f (rd_L4 l0 0)).bind fun t165 => ((thwartref15_Batches.f kj6 (rd_L4 l0 0)).bind fun t169 => ((thwartref04_Same.f kj6 t165 t169).bind fun t172 => (if t138 = true then (if t152 = true then (if t159 = true then (if t163 = true then (some t172) else (none)) else (none)) else (none)) else (none))))) else (none)))))))) = some r:=H
    have A16:=Aside0.mk A160
    clear A160
    replace H:=Option.bind_eq_some_iff.mp H
    obtain ⟨t153,A170,H⟩:=H
    replace H : ((thwartref15_Live.f kj6 l0).bind fun t156 => ((thwartref03_Same.f kj6 t153 t156).bind fun t159 => ((merge_Merge.f kj6 a1 l0).bind fun t160 => ((thwartref03_Same.f kj6 t160 x7_6).bind fun t163 => (if (l0.length : Int) = 0 then (if t138 = true then (if t152 = true then (if t159 = true then (if t163 = true then (some true) else (none)) else (none)) else (none)) else (none)) else (if 0 < (l0.length : Int) then ((merge_Batches.f (rd_L4 l0 0)).bind fun t165 => ((thwartref15_Batches.f kj6 (rd_L4 l0 0)).bind fun t169 => ((thwartref04_Same.f kj6 t165 t169).bind fun t172 => (if t138 = true then (if t152 = true then (if t159 = true then (if t163 = true then (some t172) else (none)) else (none)) else (none)) else (none))))) else (none))))))) = some r:=H
    have A17:=Aside0.mk A170
    clear A170
    replace H:=Option.bind_eq_some_iff.mp H
    obtain ⟨t156,A180,H⟩:=H
    replace H : ((thwartref03_Same.f kj6 t153 t156).bind fun t159 => ((merge_Merge.f kj6 a1 l0).bind fun t160 => ((thwartref03_Same.f kj6 t160 x7_6).bind fun t163 => (if (l0.length : Int) = 0 then (if t138 = true then (if t152 = true then (if t159 = true then (if t163 = true then (some true) else (none)) else (none)) else (none)) else (none)) else (if 0 < (l0.length : Int) then ((merge_Batches.f (rd_L4 l0 0)).bind fun t165 => ((thwartref15_Batches.f kj6 (rd_L4 l0 0)).bind fun t169 => ((thwartref04_Same.f kj6 t165 t169).bind fun t172 => (if t138 = true then (if t152 = true then (if t159 = true then (if t163 = true then (some t172) else (none)) else (none)) else (none)) else (none))))) else (none)))))) = some r:=H
    have A18:=Aside0.mk A180
    clear A180
    replace H:=Option.bind_eq_some_iff.mp H
    obtain ⟨t159,A190,H⟩:=H
    replace H : ((merge_Merge.f kj6 a1 l0).bind fun t160 => ((thwartref03_Same.f kj6 t160 x7_6).bind fun t163 => (if (l0.length : Int) = 0 then (if t138 = true then (if t152 = true then (if t159 = true then (if t163 = true then (some true) else (none)) else (none)) else (none)) else (none)) else (if 0 < (l0.length : Int) then ((merge_Batches.f (rd_L4 l0 0)).bind fun t165 => ((thwartref15_Batches.f kj6 (rd_L4 l0 0)).bind fun t169 => ((thwartref04_Same.f kj6 t165 t169).bind fun t172 => (if t138 = true then (if t152 = true then (if t159 = true then (if t163 = true then (some t172) else (none)) else (none)) else (none)) else (none))))) else (none))))) = some r:=H
    have A19:=Aside0.mk A190
    clear A190
    replace H:=Option.bind_eq_some_iff.mp H
    obtain ⟨t160,A200,H⟩:=H
    replace H : ((thwartref03_Same.f kj6 t160 x7_6).bind fun t163 => (if (l0.length : Int) = 0 then (if t138 = true then (if t152 = true then (if t159 = true then (if t163 = true then (some true) else (none)) else (none)) else (none)) else (none)) else (if 0 < (l0.length : Int) then ((merge_Batches.f (rd_L4 l0 0)).bind fun t165 => ((thwartref15_Batches.f kj6 (rd_L4 l0 0)).bind fun t169 => ((thwartref04_Same.f kj6 t165 t169).bind fun t172 => (if t138 = true then (if t152 = true then (if t159 = true then (if t163 = true then (some t172) else (none)) else (none)) else (none)) else (none))))) else (none)))) = some r:=H
    have A20:=Aside0.mk A200
    clear A200
    replace H:=Option.bind_eq_some_iff.mp H
    obtain ⟨t163,A210,H⟩:=H
    replace H : (if (l0.length : Int) = 0 then (if t138 = true then (if t152 = true then (if t159 = true then (if t163 = true then (some true) else (none)) else (none)) else (none)) else (none)) else (if 0 < (l0.length : Int) then ((merge_Batches.f (rd_L4 l0 0)).bind fun t165 => ((thwartref15_Batches.f kj6 (rd_L4 l0 0)).bind fun t169 => ((thwartref04_Same.f kj6 t165 t169).bind fun t172 => (if t138 = true then (if t152 = true then (if t159 = true then (if t163 = true then (some t172) else (none)) else (none)) else (none)) else (none))))) else (none))) = some r:=H
    have A21:=Aside0.mk A210
    clear A210
    by_cases c22 : (l0.length : Int) = 0
    ·rw [if_pos c22] at H
     have c22b0 : ((l0.length : Int) == 0) = true:=beq_iff_eq.mpr c22
     have c22b1 : ((l0.length : Int) != 0) = false:=bne_eq_false_iff_eq.mpr c22
     clear c22
     by_cases c23 : t138 = true
     ·subst c23
      have H1 : (if t152 = true then (if t159 = true then (if t163 = true then (some true) else (none)) else (none)) else (none)) = some r:=by rw [if_pos rfl] at H;exact H
      clear H
      have H:=H1
      clear H1
      by_cases c24 : t152 = true
      ·subst c24
       have H1 : (if t159 = true then (if t163 = true then (some true) else (none)) else (none)) = some r:=by rw [if_pos rfl] at H;exact H
       clear H
       have H:=H1
       clear H1
       by_cases c25 : t159 = true
       ·subst c25
        have H1 : (if t163 = true then (some true) else (none)) = some r:=by rw [if_pos rfl] at H;exact H
        clear H
        have H:=H1
        clear H1
        by_cases c26 : t163 = true
        ·subst c26
         have H1 : (some true) = some r:=by rw [if_pos rfl] at H;exact H
         clear H
         have H:=H1
         clear H1
         obtain rfl:=Option.some.inj H
         try go_wp2_with (first | ((with_reducible refine gate_callee (f:=13) rfl ?_);refine goesL_ (some 24) rfl rfl Try.func13 (by kernel_rfl) rfl #[.slice A0 l0.length c0] rfl (by (try simp only [List.map_toArray,List.map_cons,List.map_nil]);first | done | rfl | (simp only [List.length_drop,List.length_take];rfl)) ?_;(with_reducible refine (merge_Newest.calls kj6 _ _ l0 t146 _ ?side1 ?side2 A14.out).mono ?_);(case side1 => repeat (first | exact (Kd.C_below HR0.out HB.out) | (with_reducible refine Kd.C_alloc ?_ _) | (with_reducible refine Kd.C_drewN ?_ _) | (with_reducible refine Kd.C_drew ?_)));(case side2 => exact HC0.out);rintro e w27 ⟨v147,rfl,ho0,hb⟩;refine ⟨_,rfl,?_⟩;have n0_:=Aside0.mk (Kd.R_elder' (by (with_reducible repeat (first | apply Kd.R_alloc | apply Kd.R_drewN | apply Kd.R_drew));exact HO_7.out) (Kd.R_base ho0) hb);have n1_:=Aside0.mk (Kd.R_lower (Kd.R_new' ho0 (Kd.R_lt (by (with_reducible repeat (first | apply Kd.R_alloc | apply Kd.R_drewN | apply Kd.R_drew));exact HO_7.out))) (below_size (by repeat (first | (with_reducible first | exact HB.out | apply below_alloc | apply pw_below_drewN | apply below_drew1) | exact HB.out))));have n2_:=Aside0.mk (below_step (by repeat (first | (with_reducible first | exact HB.out | apply below_alloc | apply pw_below_drewN | apply below_drew1) | exact HB.out)) hb);clear HO_7;clear HB;have HO_7:=n0_;have HO148:=n1_;have HB:=n2_;clear n0_ n1_ n2_;(try clear hb);(try clear hb2);(try clear hk);(try clear hi);(try clear ho0)) | ((with_reducible refine gate_callee (f:=12) rfl ?_);refine goesL_ (some 26) rfl rfl Try.func12 (by kernel_rfl) rfl #[.slice A0 l0.length c0] rfl (by (try simp only [List.map_toArray,List.map_cons,List.map_nil]);first | done | rfl | (simp only [List.length_drop,List.length_take];rfl)) ?_;(with_reducible refine (thwartref15_Newest.calls _ _ l0 t149 _ ?side1 ?side2 A15.out).mono ?_);(case side1 => repeat (first | exact (Kd.C_below HR0.out HB.out) | (with_reducible refine Kd.C_alloc ?_ _) | (with_reducible refine Kd.C_drewN ?_ _) | (with_reducible refine Kd.C_drew ?_)));(case side2 => exact HC0.out);rintro e w28 ⟨v150,rfl,ho0,hb⟩;refine ⟨_,rfl,?_⟩;have n0_:=Aside0.mk (Kd.R_elder' (by (with_reducible repeat (first | apply Kd.R_alloc | apply Kd.R_drewN | apply Kd.R_drew));exact HO_7.out) (Kd.R_base ho0) hb);have n1_:=Aside0.mk (Kd.R_elder' (by (with_reducible repeat (first | apply Kd.R_alloc | apply Kd.R_drewN | apply Kd.R_drew));exact HO148.out) (Kd.R_base ho0) hb);have n2_:=Aside0.mk (Kd.R_lower (Kd.R_new' (Kd.R_new' ho0 (Kd.R_lt (by (with_reducible repeat (first | apply Kd.R_alloc | apply Kd.R_drewN | apply Kd.R_drew));exact HO_7.out))) (Kd.R_lt (by (with_reducible repeat (first | apply Kd.R_alloc | apply Kd.R_drewN | apply Kd.R_drew));exact HO148.out))) (below_size (by repeat (first | (with_reducible first | exact HB.out | apply below_alloc | apply pw_below_drewN | apply below_drew1) | exact HB.out))));have n3_:=Aside0.mk (below_step (by repeat (first | (with_reducible first | exact HB.out | apply below_alloc | apply pw_below_drewN | apply below_drew1) | exact HB.out)) hb);clear HO_7;clear HO148;clear HB;have HO_7:=n0_;have HO148:=n1_;have HO151:=n2_;have HB:=n3_;clear n0_ n1_ n2_ n3_;(try clear hb);(try clear hb2);(try clear hk);(try clear hi);(try clear ho0);obtain ⟨Ao29,co29,eo29⟩:=Kd.R_slice HO148.out;subst eo29;obtain ⟨Ao30,co30,eo30⟩:=Kd.R_slice HO151.out;subst eo30) | ((with_reducible refine gate_callee (f:=9) rfl ?_);refine goesL_ (some 27) rfl rfl Try.func9 (by kernel_rfl) rfl #[.slice Ao29 t146.length co29,.slice Ao30 t149.length co30] rfl (by (try simp only [List.map_toArray,List.map_cons,List.map_nil]);first | done | rfl | (simp only [List.length_drop,List.length_take];rfl)) ?_;(with_reducible refine (thwartref03_Same.calls kj6 _ _ t146 _ _ t149 true _ ?side1 ?side2 ?side3 ?side4 A16.out).mono ?_);(case side1 => repeat (first | exact (Kd.R_reads' HO148.out).2.2 | (with_reducible refine Kd.C_alloc ?_ _) | (with_reducible refine Kd.C_drewN ?_ _) | (with_reducible refine Kd.C_drew ?_)));(case side2 => exact (Kd.R_reads' HO148.out).2.1);(case side3 => repeat (first | exact (Kd.R_reads' HO151.out).2.2 | (with_reducible refine Kd.C_alloc ?_ _) | (with_reducible refine Kd.C_drewN ?_ _) | (with_reducible refine Kd.C_drew ?_)));(case side4 => exact (Kd.R_reads' HO151.out).2.1);rintro e w' ⟨rfl,⟨nd,rfl⟩⟩;refine ⟨_,rfl,?_⟩) | ((with_reducible refine gate_callee (f:=14) rfl ?_);refine goesL_ (some 29) rfl rfl Try.func14 (by kernel_rfl) rfl #[.slice A0 l0.length c0] rfl (by (try simp only [List.map_toArray,List.map_cons,List.map_nil]);first | done | rfl | (simp only [List.length_drop,List.length_take];rfl)) ?_;(with_reducible refine (merge_Live.calls kj6 _ _ l0 t153 _ ?side1 ?side2 A17.out).mono ?_);(case side1 => repeat (first | exact (Kd.C_below HR0.out (by repeat (first | (with_reducible first | exact HB.out | apply below_alloc | apply pw_below_drewN | apply below_drew1) | exact HB.out))) | (with_reducible refine Kd.C_alloc ?_ _) | (with_reducible refine Kd.C_drewN ?_ _) | (with_reducible refine Kd.C_drew ?_)));(case side2 => exact HC0.out);rintro e w31 ⟨v154,rfl,ho0,hb⟩;refine ⟨_,rfl,?_⟩;have n0_:=Aside0.mk (Kd.R_elder' (by (with_reducible repeat (first | apply Kd.R_alloc | apply Kd.R_drewN | apply Kd.R_drew));exact HO_7.out) (Kd.R_base ho0) hb);have n1_:=Aside0.mk (Kd.R_elder' (by (with_reducible repeat (first | apply Kd.R_alloc | apply Kd.R_drewN | apply Kd.R_drew));exact HO148.out) (Kd.R_base ho0) hb);have n2_:=Aside0.mk (Kd.R_elder' (by (with_reducible repeat (first | apply Kd.R_alloc | apply Kd.R_drewN | apply Kd.R_drew));exact HO151.out) (Kd.R_base ho0) hb);have n3_:=Aside0.mk (Kd.R_lower (Kd.R_new' (Kd.R_new' (Kd.R_new' ho0 (Kd.R_lt (by (with_reducible repeat (first | apply Kd.R_alloc | apply Kd.R_drewN | apply Kd.R_drew));exact HO_7.out))) (Kd.R_lt (by (with_reducible repeat (first | apply Kd.R_alloc | apply Kd.R_drewN | apply Kd.R_drew));exact HO148.out))) (Kd.R_lt (by (with_reducible repeat (first | apply Kd.R_alloc | apply Kd.R_drewN | apply Kd.R_drew));exact HO151.out))) (below_size (by repeat (first | (with_reducible first | exact HB.out | apply below_alloc | apply pw_below_drewN | apply below_drew1) | exact HB.out))));have n4_:=Aside0.mk (below_step (by repeat (first | (with_reducible first | exact HB.out | apply below_alloc | apply pw_below_drewN | apply below_drew1) | exact HB.out)) hb);clear HO_7;clear HO148;clear HO151;clear HB;have HO_7:=n0_;have HO148:=n1_;have HO151:=n2_;have HO155:=n3_;have HB:=n4_;clear n0_ n1_ n2_ n3_ n4_;(try clear hb);(try clear hb2);(try clear hk);(try clear hi);(try clear ho0)) | ((with_reducible refine gate_callee (f:=11) rfl ?_);refine goesL_ (some 31) rfl rfl Try.func11 (by kernel_rfl) rfl #[.slice A0 l0.length c0] rfl (by (try simp only [List.map_toArray,List.map_cons,List.map_nil]);first | done | rfl | (simp only [List.length_drop,List.length_take];rfl)) ?_;(with_reducible refine (thwartref15_Live.calls kj6 _ _ l0 t156 _ ?side1 ?side2 A18.out).mono ?_);(case side1 => repeat (first | exact (Kd.C_below HR0.out HB.out) | (with_reducible refine Kd.C_alloc ?_ _) | (with_reducible refine Kd.C_drewN ?_ _) | (with_reducible refine Kd.C_drew ?_)));(case side2 => exact HC0.out);rintro e w32 ⟨v157,rfl,ho0,hb⟩;refine ⟨_,rfl,?_⟩;have n0_:=Aside0.mk (Kd.R_elder' (by (with_reducible repeat (first | apply Kd.R_alloc | apply Kd.R_drewN | apply Kd.R_drew));exact HO_7.out) (Kd.R_base ho0) hb);have n1_:=Aside0.mk (Kd.R_elder' (by (with_reducible repeat (first | apply Kd.R_alloc | apply Kd.R_drewN | apply Kd.R_drew));exact HO148.out) (Kd.R_base ho0) hb);have n2_:=Aside0.mk (Kd.R_elder' (by (with_reducible repeat (first | apply Kd.R_alloc | apply Kd.R_drewN | apply Kd.R_drew));exact HO151.out) (Kd.R_base ho0) hb);have n3_:=Aside0.mk (Kd.R_elder' (by (with_reducible repeat (first | apply Kd.R_alloc | apply Kd.R_drewN | apply Kd.R_drew));exact HO155.out) (Kd.R_base ho0) hb);have n4_:=Aside0.mk (Kd.R_lower (Kd.R_new' (Kd.R_new' (Kd.R_new' (Kd.R_new' ho0 (Kd.R_lt (by (with_reducible repeat (first | apply Kd.R_alloc | apply Kd.R_drewN | apply Kd.R_drew));exact HO_7.out))) (Kd.R_lt (by (with_reducible repeat (first | apply Kd.R_alloc | apply Kd.R_drewN | apply Kd.R_drew));exact HO148.out))) (Kd.R_lt (by (with_reducible repeat (first | apply Kd.R_alloc | apply Kd.R_drewN | apply Kd.R_drew));exact HO151.out))) (Kd.R_lt (by (with_reducible repeat (first | apply Kd.R_alloc | apply Kd.R_drewN | apply Kd.R_drew));exact HO155.out))) (below_size (by repeat (first | (with_reducible first | exact HB.out | apply below_alloc | apply pw_below_drewN | apply below_drew1) | exact HB.out))));have n5_:=Aside0.mk (below_step (by repeat (first | (with_reducible first | exact HB.out | apply below_alloc | apply pw_below_drewN | apply below_drew1) | exact HB.out)) hb);clear HO_7;clear HO148;clear HO151;clear HO155;clear HB;have HO_7:=n0_;have HO148:=n1_;have HO151:=n2_;have HO155:=n3_;have HO158:=n4_;have HB:=n5_;clear n0_ n1_ n2_ n3_ n4_ n5_;(try clear hb);(try clear hb2);(try clear hk);(try clear hi);(try clear ho0);obtain ⟨Ao33,co33,eo33⟩:=Kd.R_slice HO155.out;subst eo33;obtain ⟨Ao34,co34,eo34⟩:=Kd.R_slice HO158.out;subst eo34) | ((with_reducible refine gate_callee (f:=9) rfl ?_);refine goesL_ (some 32) rfl rfl Try.func9 (by kernel_rfl) rfl #[.slice Ao33 t153.length co33,.slice Ao34 t156.length co34] rfl (by (try simp only [List.map_toArray,List.map_cons,List.map_nil]);first | done | rfl | (simp only [List.length_drop,List.length_take];rfl)) ?_;(with_reducible refine (thwartref03_Same.calls kj6 _ _ t153 _ _ t156 true _ ?side1 ?side2 ?side3 ?side4 A19.out).mono ?_);(case side1 => repeat (first | exact (Kd.R_reads' HO155.out).2.2 | (with_reducible refine Kd.C_alloc ?_ _) | (with_reducible refine Kd.C_drewN ?_ _) | (with_reducible refine Kd.C_drew ?_)));(case side2 => exact (Kd.R_reads' HO155.out).2.1);(case side3 => repeat (first | exact (Kd.R_reads' HO158.out).2.2 | (with_reducible refine Kd.C_alloc ?_ _) | (with_reducible refine Kd.C_drewN ?_ _) | (with_reducible refine Kd.C_drew ?_)));(case side4 => exact (Kd.R_reads' HO158.out).2.1);rintro e w' ⟨rfl,⟨nd,rfl⟩⟩;refine ⟨_,rfl,?_⟩) | ((with_reducible refine gate_callee (f:=15) rfl ?_);refine goesL_ (some 35) rfl rfl Try.func15 (by kernel_rfl) rfl #[.bool a1,.slice A0 l0.length c0] rfl (by (try simp only [List.map_toArray,List.map_cons,List.map_nil]);first | done | rfl | (simp only [List.length_drop,List.length_take];rfl)) ?_;(with_reducible refine (merge_Merge.calls kj6 a1 _ _ l0 t160 _ ?side1 ?side2 A20.out).mono ?_);(case side1 => repeat (first | exact (Kd.C_below HR0.out (by repeat (first | (with_reducible first | exact HB.out | apply below_alloc | apply pw_below_drewN | apply below_drew1) | exact HB.out))) | (with_reducible refine Kd.C_alloc ?_ _) | (with_reducible refine Kd.C_drewN ?_ _) | (with_reducible refine Kd.C_drew ?_)));(case side2 => exact HC0.out);rintro e w35 ⟨v161,rfl,ho0,hb⟩;refine ⟨_,rfl,?_⟩;have n0_:=Aside0.mk (Kd.R_elder' (by (with_reducible repeat (first | apply Kd.R_alloc | apply Kd.R_drewN | apply Kd.R_drew));exact HO_7.out) (Kd.R_base ho0) hb);have n1_:=Aside0.mk (Kd.R_elder' (by (with_reducible repeat (first | apply Kd.R_alloc | apply Kd.R_drewN | apply Kd.R_drew));exact HO148.out) (Kd.R_base ho0) hb);have n2_:=Aside0.mk (Kd.R_elder' (by (with_reducible repeat (first | apply Kd.R_alloc | apply Kd.R_drewN | apply Kd.R_drew));exact HO151.out) (Kd.R_base ho0) hb);have n3_:=Aside0.mk (Kd.R_elder' (by (with_reducible repeat (first | apply Kd.R_alloc | apply Kd.R_drewN | apply Kd.R_drew));exact HO155.out) (Kd.R_base ho0) hb);have n4_:=Aside0.mk (Kd.R_elder' (by (with_reducible repeat (first | apply Kd.R_alloc | apply Kd.R_drewN | apply Kd.R_drew));exact HO158.out) (Kd.R_base ho0) hb);have n5_:=Aside0.mk (Kd.R_lower (Kd.R_new' (Kd.R_new' (Kd.R_new' (Kd.R_new' (Kd.R_new' ho0 (Kd.R_lt (by (with_reducible repeat (first | apply Kd.R_alloc | apply Kd.R_drewN | apply Kd.R_drew));exact HO_7.out))) (Kd.R_lt (by (with_reducible repeat (first | apply Kd.R_alloc | apply Kd.R_drewN | apply Kd.R_drew));exact HO148.out))) (Kd.R_lt (by (with_reducible repeat (first | apply Kd.R_alloc | apply Kd.R_drewN | apply Kd.R_drew));exact HO151.out))) (Kd.R_lt (by (with_reducible repeat (first | apply Kd.R_alloc | apply Kd.R_drewN | apply Kd.R_drew));exact HO155.out))) (Kd.R_lt (by (with_reducible repeat (first | apply Kd.R_alloc | apply Kd.R_drewN | apply Kd.R_drew));exact HO158.out))) (below_size (by repeat (first | (with_reducible first | exact HB.out | apply below_alloc | apply pw_below_drewN | apply below_drew1) | exact HB.out))));have n6_:=Aside0.mk (below_step (by repeat (first | (with_reducible first | exact HB.out | apply below_alloc | apply pw_below_drewN | apply below_drew1) | exact HB.out)) hb);clear HO_7;clear HO148;clear HO151;clear HO155;clear HO158;clear HB;have HO_7:=n0_;have HO148:=n1_;have HO151:=n2_;have HO155:=n3_;have HO158:=n4_;have HO162:=n5_;have HB:=n6_;clear n0_ n1_ n2_ n3_ n4_ n5_ n6_;(try clear hb);(try clear hb2);(try clear hk);(try clear hi);(try clear ho0);obtain ⟨Ao36,co36,eo36⟩:=Kd.R_slice HO162.out;subst eo36;obtain ⟨Ao37,co37,eo37⟩:=Kd.R_slice HO_7.out;subst eo37) | ((with_reducible refine gate_callee (f:=9) rfl ?_);refine goesL_ (some 37) rfl rfl Try.func9 (by kernel_rfl) rfl #[.slice Ao36 t160.length co36,.slice Ao37 x7_6.length co37] rfl (by (try simp only [List.map_toArray,List.map_cons,List.map_nil]);first | done | rfl | (simp only [List.length_drop,List.length_take];rfl)) ?_;(with_reducible refine (thwartref03_Same.calls kj6 _ _ t160 _ _ x7_6 true _ ?side1 ?side2 ?side3 ?side4 A21.out).mono ?_);(case side1 => repeat (first | exact (Kd.R_reads' HO162.out).2.2 | (with_reducible refine Kd.C_alloc ?_ _) | (with_reducible refine Kd.C_drewN ?_ _) | (with_reducible refine Kd.C_drew ?_)));(case side2 => exact (Kd.R_reads' HO162.out).2.1);(case side3 => repeat (first | exact (Kd.R_reads' HO_7.out).2.2 | (with_reducible refine Kd.C_alloc ?_ _) | (with_reducible refine Kd.C_drewN ?_ _) | (with_reducible refine Kd.C_drew ?_)));(case side4 => exact (Kd.R_reads' HO_7.out).2.1);rintro e w' ⟨rfl,⟨nd,rfl⟩⟩;refine ⟨_,rfl,?_⟩))
         (try (rw [drewN_self w35];generalize hq_ : World.drewN w35 _ = w35;have n0_ : Aside0 (Kd.R k36 36 w35 w.heap.size (fun k_ => some k_ ≠ (.slice Ao30 t149.length co30 : Value).ownBlock ∧ some k_ ≠ (.slice Ao33 t153.length co33 : Value).ownBlock ∧ some k_ ≠ (.slice Ao34 t156.length co34 : Value).ownBlock ∧ some k_ ≠ (.slice Ao36 t160.length co36 : Value).ownBlock ∧ some k_ ≠ (.slice Ao37 x7_6.length co37 : Value).ownBlock) (.slice Ao29 t146.length co29) t146):=⟨by rw [← hq_];exact (by (with_reducible repeat (first | apply Kd.R_alloc | apply Kd.R_drewN | apply Kd.R_drew));exact Kd.R_mono HO148.out (fun _ hk => ⟨hk.1.1.1.2,⟨hk.1.1.2,⟨hk.1.2,⟨hk.2,hk.1.1.1.1.2⟩⟩⟩⟩))⟩;have n1_ : Aside0 (Kd.R k36 36 w35 w.heap.size (fun k_ => some k_ ≠ (.slice Ao29 t146.length co29 : Value).ownBlock ∧ some k_ ≠ (.slice Ao33 t153.length co33 : Value).ownBlock ∧ some k_ ≠ (.slice Ao34 t156.length co34 : Value).ownBlock ∧ some k_ ≠ (.slice Ao36 t160.length co36 : Value).ownBlock ∧ some k_ ≠ (.slice Ao37 x7_6.length co37 : Value).ownBlock) (.slice Ao30 t149.length co30) t149):=⟨by rw [← hq_];exact (by (with_reducible repeat (first | apply Kd.R_alloc | apply Kd.R_drewN | apply Kd.R_drew));exact Kd.R_mono HO151.out (fun _ hk => ⟨hk.1.1.1.2,⟨hk.1.1.2,⟨hk.1.2,⟨hk.2,hk.1.1.1.1.2⟩⟩⟩⟩))⟩;have n2_ : Aside0 (Kd.R k36 36 w35 w.heap.size (fun k_ => some k_ ≠ (.slice Ao29 t146.length co29 : Value).ownBlock ∧ some k_ ≠ (.slice Ao30 t149.length co30 : Value).ownBlock ∧ some k_ ≠ (.slice Ao34 t156.length co34 : Value).ownBlock ∧ some k_ ≠ (.slice Ao36 t160.length co36 : Value).ownBlock ∧ some k_ ≠ (.slice Ao37 x7_6.length co37 : Value).ownBlock) (.slice Ao33 t153.length co33) t153):=⟨by rw [← hq_];exact (by (with_reducible repeat (first | apply Kd.R_alloc | apply Kd.R_drewN | apply Kd.R_drew));exact Kd.R_mono HO155.out (fun _ hk => ⟨hk.1.1.1.2,⟨hk.1.1.2,⟨hk.1.2,⟨hk.2,hk.1.1.1.1.2⟩⟩⟩⟩))⟩;have n3_ : Aside0 (Kd.R k36 36 w35 w.heap.size (fun k_ => some k_ ≠ (.slice Ao29 t146.length co29 : Value).ownBlock ∧ some k_ ≠ (.slice Ao30 t149.length co30 : Value).ownBlock ∧ some k_ ≠ (.slice Ao33 t153.length co33 : Value).ownBlock ∧ some k_ ≠ (.slice Ao36 t160.length co36 : Value).ownBlock ∧ some k_ ≠ (.slice Ao37 x7_6.length co37 : Value).ownBlock) (.slice Ao34 t156.length co34) t156):=⟨by rw [← hq_];exact (by (with_reducible repeat (first | apply Kd.R_alloc | apply Kd.R_drewN | apply Kd.R_drew));exact Kd.R_mono HO158.out (fun _ hk => ⟨hk.1.1.1.2,⟨hk.1.1.2,⟨hk.1.2,⟨hk.2,hk.1.1.1.1.2⟩⟩⟩⟩))⟩;have n4_ : Aside0 (Kd.R k36 36 w35 w.heap.size (fun k_ => some k_ ≠ (.slice Ao29 t146.length co29 : Value).ownBlock ∧ some k_ ≠ (.slice Ao30 t149.length co30 : Value).ownBlock ∧ some k_ ≠ (.slice Ao33 t153.length co33 : Value).ownBlock ∧ some k_ ≠ (.slice Ao34 t156.length co34 : Value).ownBlock ∧ some k_ ≠ (.slice Ao37 x7_6.length co37 : Value).ownBlock) (.slice Ao36 t160.length co36) t160):=⟨by rw [← hq_];exact (by (with_reducible repeat (first | apply Kd.R_alloc | apply Kd.R_drewN | apply Kd.R_drew));exact Kd.R_mono HO162.out (fun _ hk => ⟨hk.1.1.1.2,⟨hk.1.1.2,⟨hk.1.2,⟨hk.2,hk.1.1.1.1.2⟩⟩⟩⟩))⟩;have n5_ : Aside0 (Kd.R k36 36 w35 w.heap.size (fun k_ => some k_ ≠ (.slice Ao29 t146.length co29 : Value).ownBlock ∧ some k_ ≠ (.slice Ao30 t149.length co30 : Value).ownBlock ∧ some k_ ≠ (.slice Ao33 t153.length co33 : Value).ownBlock ∧ some k_ ≠ (.slice Ao34 t156.length co34 : Value).ownBlock ∧ some k_ ≠ (.slice Ao36 t160.length co36 : Value).ownBlock) (.slice Ao37 x7_6.length co37) x7_6):=⟨by rw [← hq_];exact (by (with_reducible repeat (first | apply Kd.R_alloc | apply Kd.R_drewN | apply Kd.R_drew));exact Kd.R_mono HO_7.out (fun _ hk => ⟨hk.1.1.1.1.2,⟨hk.1.1.1.2,⟨hk.1.1.2,⟨hk.1.2,hk.2⟩⟩⟩⟩))⟩;have n6_ : Aside0 (Below w.heap.size w w35):=⟨by rw [← hq_];exact (by repeat (first | (with_reducible first | exact HB.out | apply below_alloc | apply pw_below_drewN | apply below_drew1) | exact HB.out))⟩;clear HO148 HO151 HO155 HO158 HO162 HO_7 HB hq_;have HO148:=n0_;have HO151:=n1_;have HO155:=n2_;have HO158:=n3_;have HO162:=n4_;have HO_7:=n5_;have HB:=n6_;clear n0_ n1_ n2_ n3_ n4_ n5_ n6_))
         have n0_:=Aside0.mk (Kd.R_drew HO_7.out)
         have n1_:=Aside0.mk (Kd.R_drew HO148.out)
         have n2_:=Aside0.mk (Kd.R_drew HO151.out)
         have n3_:=Aside0.mk (Kd.R_drew HO155.out)
         have n4_:=Aside0.mk (Kd.R_drew HO158.out)
         have n5_:=Aside0.mk (Kd.R_drew HO162.out)
         have n6_:=Aside0.mk (below_drew1 HB.out)
         clear HO_7
         clear HO148
         clear HO151
         clear HO155
         clear HO158
         clear HO162
         clear HB
         have HO_7:=n0_
         have HO148:=n1_
         have HO151:=n2_
         have HO155:=n3_
         have HO158:=n4_
         have HO162:=n5_
         have HB:=n6_
         clear n0_ n1_ n2_ n3_ n4_ n5_ n6_
         refine start_ (n:=15) (S:=fun w' => True) (ds:=[]) #[false,false,false,false,false,false,false,false,false,false,false,false,false,false,false] (by kernel_rfl) rfl rfl trivial (fun hHeld => ?_);refine with_tabW thwartlaw15_MergeTells.tab11 thwartlaw15_MergeTells.bits11 (fun HT_ HW_ => ?_)
         generalize w35.drew = w38 at HO_7 HO148 HO151 HO155 HO158 HO162 HB hHeld ⊢
         refine pure_ (i:=0) (N:=some 38) (v := ?_) (a' := ?_) #[true,false,false,false,false,false,false,false,false,false,false,false,false,false,false] rfl rfl (any_of HT_.out (by kernel_rfl)) (fun _ _ _ h => h) (Or.inl ⟨by rfl,?_⟩) ?_ ?_
         rotate_left
         ·intro w'
          go_simp
          with_reducible rfl
         rotate_left
         ·simp only [Act.put,List.setIfInBounds_toArray,List.set_cons_zero,List.set_cons_succ,i64_w,i32_w]
          rfl
         refine pure_ (i:=1) (N:=some 39) (v := ?_) (a' := ?_) #[true,true,false,false,false,false,false,false,false,false,false,false,false,false,false] rfl rfl (any_of HT_.out (by kernel_rfl)) (fun _ _ _ h => h) (Or.inl ⟨by rfl,?_⟩) ?_ ?_
         rotate_left
         ·intro w'
          go_simp
          with_reducible rfl
         rotate_left
         ·simp only [Act.put,List.setIfInBounds_toArray,List.set_cons_zero,List.set_cons_succ,i64_w,i32_w]
          rfl
         refine pure_ (i:=2) (N:=some 40) (v := ?_) (a' := ?_) #[true,true,true,false,false,false,false,false,false,false,false,false,false,false,false] rfl rfl (any_of HT_.out (by kernel_rfl)) (fun _ _ _ h => h) (Or.inl ⟨by rfl,?_⟩) ?_ ?_
         rotate_left
         ·intro w'
          go_simp
          with_reducible rfl
         rotate_left
         ·simp only [Act.put,List.setIfInBounds_toArray,List.set_cons_zero,List.set_cons_succ,i64_w,i32_w]
          rfl
         refine pure_ (i:=3) (N:=some 41) (v := ?_) (a' := ?_) #[true,true,true,true,false,false,false,false,false,false,false,false,false,false,false] rfl rfl (any_of HT_.out (by kernel_rfl)) (fun _ _ _ h => h) (Or.inl ⟨by rfl,?_⟩) ?_ ?_
         rotate_left
         ·intro w'
          go_simp
          with_reducible rfl
         rotate_left
         ·simp only [Act.put,List.setIfInBounds_toArray,List.set_cons_zero,List.set_cons_succ,i64_w,i32_w]
          rfl
         refine pure_ (i:=4) (N:=some 42) (v:=undef) (a' := ?_) #[true,true,true,true,true,false,false,false,false,false,false,false,false,false,false] rfl rfl (any_of HT_.out (by kernel_rfl)) (fun _ _ _ h => h) (Or.inr ⟨by rfl,rfl⟩) ?_ ?_
         rotate_left
         ·simp only [Act.put,List.setIfInBounds_toArray,List.set_cons_zero,List.set_cons_succ,i64_w,i32_w]
          rfl
         refine pure_ (i:=5) (N:=some 43) (v:=undef) (a' := ?_) #[true,true,true,true,true,true,false,false,false,false,false,false,false,false,false] rfl rfl (any_of HT_.out (by kernel_rfl)) (fun _ _ _ h => h) (Or.inr ⟨by rfl,rfl⟩) ?_ ?_
         rotate_left
         ·simp only [Act.put,List.setIfInBounds_toArray,List.set_cons_zero,List.set_cons_succ,i64_w,i32_w]
          rfl
         refine pure_ (i:=6) (N:=some 44) (v:=undef) (a' := ?_) #[true,true,true,true,true,true,true,false,false,false,false,false,false,false,false] rfl rfl (any_of HT_.out (by kernel_rfl)) (fun _ _ _ h => h) (Or.inr ⟨by rfl,rfl⟩) ?_ ?_
         rotate_left
         ·simp only [Act.put,List.setIfInBounds_toArray,List.set_cons_zero,List.set_cons_succ,i64_w,i32_w]
          rfl
         refine pure_ (i:=7) (N:=some 45) (v:=undef) (a' := ?_) #[true,true,true,true,true,true,true,true,false,false,false,false,false,false,false] rfl rfl (any_of HT_.out (by kernel_rfl)) (fun _ _ _ h => h) (Or.inr ⟨by rfl,rfl⟩) ?_ ?_
         rotate_left
         ·simp only [Act.put,List.setIfInBounds_toArray,List.set_cons_zero,List.set_cons_succ,i64_w,i32_w]
          rfl
         refine pure_ (i:=8) (N:=some 46) (v:=undef) (a' := ?_) #[true,true,true,true,true,true,true,true,true,false,false,false,false,false,false] rfl rfl (any_of HT_.out (by kernel_rfl)) (fun _ _ _ h => h) (Or.inr ⟨by rfl,rfl⟩) ?_ ?_
         rotate_left
         ·simp only [Act.put,List.setIfInBounds_toArray,List.set_cons_zero,List.set_cons_succ,i64_w,i32_w]
          rfl
         refine pure_ (i:=9) (N:=some 47) (v:=undef) (a' := ?_) #[true,true,true,true,true,true,true,true,true,true,false,false,false,false,false] rfl rfl (any_of HT_.out (by kernel_rfl)) (fun _ _ _ h => h) (Or.inr ⟨by rfl,rfl⟩) ?_ ?_
         rotate_left
         ·simp only [Act.put,List.setIfInBounds_toArray,List.set_cons_zero,List.set_cons_succ,i64_w,i32_w]
          rfl
         refine pure_ (i:=10) (N:=some 48) (v:=undef) (a' := ?_) #[true,true,true,true,true,true,true,true,true,true,true,false,false,false,false] rfl rfl (any_of HT_.out (by kernel_rfl)) (fun _ _ _ h => h) (Or.inr ⟨by rfl,rfl⟩) ?_ ?_
         rotate_left
         ·simp only [Act.put,List.setIfInBounds_toArray,List.set_cons_zero,List.set_cons_succ,i64_w,i32_w]
          rfl
         refine pure_ (i:=11) (N:=some 49) (v:=undef) (a' := ?_) #[true,true,true,true,true,true,true,true,true,true,true,true,false,false,false] rfl rfl (any_of HT_.out (by kernel_rfl)) (fun _ _ _ h => h) (Or.inr ⟨by rfl,rfl⟩) ?_ ?_
         rotate_left
         ·simp only [Act.put,List.setIfInBounds_toArray,List.set_cons_zero,List.set_cons_succ,i64_w,i32_w]
          rfl
         refine pure_ (i:=12) (N:=some 50) (v:=undef) (a' := ?_) #[true,true,true,true,true,true,true,true,true,true,true,true,true,false,false] rfl rfl (any_of HT_.out (by kernel_rfl)) (fun _ _ _ h => h) (Or.inr ⟨by rfl,rfl⟩) ?_ ?_
         rotate_left
         ·simp only [Act.put,List.setIfInBounds_toArray,List.set_cons_zero,List.set_cons_succ,i64_w,i32_w]
          rfl
         refine pure_ (i:=13) (N:=some 51) (v := ?_) (a' := ?_) #[true,true,true,true,true,true,true,true,true,true,true,true,true,true,false] rfl rfl (any_of HT_.out (by kernel_rfl)) (fun _ _ _ h => h) (Or.inl ⟨by rfl,?_⟩) ?_ ?_
         rotate_left
         ·intro w'
          go_simp
          with_reducible rfl
         rotate_left
         ·simp only [Act.put,List.setIfInBounds_toArray,List.set_cons_zero,List.set_cons_succ,i64_w,i32_w]
          rfl
         refine pure_ (i:=14) (N:=some 11) (v := ?_) (a' := ?_) #[true,true,true,true,true,true,true,true,true,true,true,true,true,true,true] rfl rfl (any_of HT_.out (by kernel_rfl)) (fun _ _ _ h => h) (Or.inl ⟨by rfl,?_⟩) ?_ ?_
         rotate_left
         ·intro w'
          go_simp
          with_reducible rfl
         rotate_left
         ·simp only [Act.put,List.setIfInBounds_toArray,List.set_cons_zero,List.set_cons_succ,i64_w,i32_w]
          rfl
         refine done_ (done_of HT_.out (by kernel_rfl)) ?_
         try go_wp2
         go_ret
         exact ⟨by first | rfl | (simp [errW_none,errW_some] <;> rfl) | (simp [*,errW_none,errW_some] <;> rfl) | (simp [errW_none,errW_some];exact isEmpty_bne _),by repeat (first | (with_reducible first | exact HB.out | apply below_alloc | apply pw_below_drewN | apply below_drew1) | exact HB.out)⟩
        ·replace c26:=Bool.eq_false_iff.mpr c26
         subst c26
         have H1 : (none) = some r:=by rw [if_neg (show ¬ (false = true) by decide)] at H;exact H
         clear H
         have H:=H1
         clear H1
         exact absurd H (by simp)
       ·replace c25:=Bool.eq_false_iff.mpr c25
        subst c25
        have H1 : (none) = some r:=by rw [if_neg (show ¬ (false = true) by decide)] at H;exact H
        clear H
        have H:=H1
        clear H1
        exact absurd H (by simp)
      ·replace c24:=Bool.eq_false_iff.mpr c24
       subst c24
       have H1 : (none) = some r:=by rw [if_neg (show ¬ (false = true) by decide)] at H;exact H
       clear H
       have H:=H1
       clear H1
       exact absurd H (by simp)
     ·replace c23:=Bool.eq_false_iff.mpr c23
      subst c23
      have H1 : (none) = some r:=by rw [if_neg (show ¬ (false = true) by decide)] at H;exact H
      clear H
      have H:=H1
      clear H1
      exact absurd H (by simp)
    ·rw [if_neg c22] at H
     have c22b0 : ((l0.length : Int) == 0) = false:=beq_eq_false_iff_ne.mpr c22
     have c22b1 : ((l0.length : Int) != 0) = true:=bne_iff_ne.mpr c22
     have c22b2 : ¬ (l0 = []):=fun h_ => c22 (by rw [h_];rfl)
     by_cases c39 : 0 < (l0.length : Int)
     ·rw [if_pos c39] at H
      have c39b0 : decide (0 < (l0.length : Int)) = true:=decide_eq_true c39
      have c39b1 : decide (0 < l0.length) = true:=decide_eq_true (by omega)
      clear c39
      replace H:=Option.bind_eq_some_iff.mp H
      obtain ⟨t165,A400,H⟩:=H
      replace H : ((thwartref15_Batches.f kj6 (rd_L4 l0 0)).bind fun t169 => ((thwartref04_Same.f kj6 t165 t169).bind fun t172 => (if t138 = true then (if t152 = true then (if t159 = true then (if t163 = true then (some t172) else (none)) else (none)) else (none)) else (none)))) = some r:=H
      have A40:=Aside0.mk A400
      clear A400
      replace H:=Option.bind_eq_some_iff.mp H
      obtain ⟨t169,A410,H⟩:=H
      replace H : ((thwartref04_Same.f kj6 t165 t169).bind fun t172 => (if t138 = true then (if t152 = true then (if t159 = true then (if t163 = true then (some t172) else (none)) else (none)) else (none)) else (none))) = some r:=H
      have A41:=Aside0.mk A410
      clear A410
      replace H:=Option.bind_eq_some_iff.mp H
      obtain ⟨t172,A420,H⟩:=H
      replace H : (if t138 = true then (if t152 = true then (if t159 = true then (if t163 = true then (some t172) else (none)) else (none)) else (none)) else (none)) = some r:=H
      have A42:=Aside0.mk A420
      clear A420
      by_cases c43 : t138 = true
      ·subst c43
       have H1 : (if t152 = true then (if t159 = true then (if t163 = true then (some t172) else (none)) else (none)) else (none)) = some r:=by rw [if_pos rfl] at H;exact H
       clear H
       have H:=H1
       clear H1
       by_cases c44 : t152 = true
       ·subst c44
        have H1 : (if t159 = true then (if t163 = true then (some t172) else (none)) else (none)) = some r:=by rw [if_pos rfl] at H;exact H
        clear H
        have H:=H1
        clear H1
        by_cases c45 : t159 = true
        ·subst c45
         have H1 : (if t163 = true then (some t172) else (none)) = some r:=by rw [if_pos rfl] at H;exact H
         clear H
         have H:=H1
         clear H1
         by_cases c46 : t163 = true
         ·subst c46
          have H1 : (some t172) = some r:=by rw [if_pos rfl] at H;exact H
          clear H
          have H:=H1
          clear H1
          obtain rfl:=Option.some.inj H
          try go_wp2_with (first | ((with_reducible refine gate_callee (f:=13) rfl ?_);refine goesL_ (some 24) rfl rfl Try.func13 (by kernel_rfl) rfl #[.slice A0 l0.length c0] rfl (by (try simp only [List.map_toArray,List.map_cons,List.map_nil]);first | done | rfl | (simp only [List.length_drop,List.length_take];rfl)) ?_;(with_reducible refine (merge_Newest.calls kj6 _ _ l0 t146 _ ?side1 ?side2 A14.out).mono ?_);(case side1 => repeat (first | exact (Kd.C_below HR0.out HB.out) | (with_reducible refine Kd.C_alloc ?_ _) | (with_reducible refine Kd.C_drewN ?_ _) | (with_reducible refine Kd.C_drew ?_)));(case side2 => exact HC0.out);rintro e w47 ⟨v147,rfl,ho0,hb⟩;refine ⟨_,rfl,?_⟩;have n0_:=Aside0.mk (Kd.R_elder' (by (with_reducible repeat (first | apply Kd.R_alloc | apply Kd.R_drewN | apply Kd.R_drew));exact HO_7.out) (Kd.R_base ho0) hb);have n1_:=Aside0.mk (Kd.R_lower (Kd.R_new' ho0 (Kd.R_lt (by (with_reducible repeat (first | apply Kd.R_alloc | apply Kd.R_drewN | apply Kd.R_drew));exact HO_7.out))) (below_size (by repeat (first | (with_reducible first | exact HB.out | apply below_alloc | apply pw_below_drewN | apply below_drew1) | exact HB.out))));have n2_:=Aside0.mk (below_step (by repeat (first | (with_reducible first | exact HB.out | apply below_alloc | apply pw_below_drewN | apply below_drew1) | exact HB.out)) hb);clear HO_7;clear HB;have HO_7:=n0_;have HO148:=n1_;have HB:=n2_;clear n0_ n1_ n2_;(try clear hb);(try clear hb2);(try clear hk);(try clear hi);(try clear ho0)) | ((with_reducible refine gate_callee (f:=12) rfl ?_);refine goesL_ (some 26) rfl rfl Try.func12 (by kernel_rfl) rfl #[.slice A0 l0.length c0] rfl (by (try simp only [List.map_toArray,List.map_cons,List.map_nil]);first | done | rfl | (simp only [List.length_drop,List.length_take];rfl)) ?_;(with_reducible refine (thwartref15_Newest.calls _ _ l0 t149 _ ?side1 ?side2 A15.out).mono ?_);(case side1 => repeat (first | exact (Kd.C_below HR0.out HB.out) | (with_reducible refine Kd.C_alloc ?_ _) | (with_reducible refine Kd.C_drewN ?_ _) | (with_reducible refine Kd.C_drew ?_)));(case side2 => exact HC0.out);rintro e w48 ⟨v150,rfl,ho0,hb⟩;refine ⟨_,rfl,?_⟩;have n0_:=Aside0.mk (Kd.R_elder' (by (with_reducible repeat (first | apply Kd.R_alloc | apply Kd.R_drewN | apply Kd.R_drew));exact HO_7.out) (Kd.R_base ho0) hb);have n1_:=Aside0.mk (Kd.R_elder' (by (with_reducible repeat (first | apply Kd.R_alloc | apply Kd.R_drewN | apply Kd.R_drew));exact HO148.out) (Kd.R_base ho0) hb);have n2_:=Aside0.mk (Kd.R_lower (Kd.R_new' (Kd.R_new' ho0 (Kd.R_lt (by (with_reducible repeat (first | apply Kd.R_alloc | apply Kd.R_drewN | apply Kd.R_drew));exact HO_7.out))) (Kd.R_lt (by (with_reducible repeat (first | apply Kd.R_alloc | apply Kd.R_drewN | apply Kd.R_drew));exact HO148.out))) (below_size (by repeat (first | (with_reducible first | exact HB.out | apply below_alloc | apply pw_below_drewN | apply below_drew1) | exact HB.out))));have n3_:=Aside0.mk (below_step (by repeat (first | (with_reducible first | exact HB.out | apply below_alloc | apply pw_below_drewN | apply below_drew1) | exact HB.out)) hb);clear HO_7;clear HO148;clear HB;have HO_7:=n0_;have HO148:=n1_;have HO151:=n2_;have HB:=n3_;clear n0_ n1_ n2_ n3_;(try clear hb);(try clear hb2);(try clear hk);(try clear hi);(try clear ho0);obtain ⟨Ao49,co49,eo49⟩:=Kd.R_slice HO148.out;subst eo49;obtain ⟨Ao50,co50,eo50⟩:=Kd.R_slice HO151.out;subst eo50) | ((with_reducible refine gate_callee (f:=9) rfl ?_);refine goesL_ (some 27) rfl rfl Try.func9 (by kernel_rfl) rfl #[.slice Ao49 t146.length co49,.slice Ao50 t149.length co50] rfl (by (try simp only [List.map_toArray,List.map_cons,List.map_nil]);first | done | rfl | (simp only [List.length_drop,List.length_take];rfl)) ?_;(with_reducible refine (thwartref03_Same.calls kj6 _ _ t146 _ _ t149 true _ ?side1 ?side2 ?side3 ?side4 A16.out).mono ?_);(case side1 => repeat (first | exact (Kd.R_reads' HO148.out).2.2 | (with_reducible refine Kd.C_alloc ?_ _) | (with_reducible refine Kd.C_drewN ?_ _) | (with_reducible refine Kd.C_drew ?_)));(case side2 => exact (Kd.R_reads' HO148.out).2.1);(case side3 => repeat (first | exact (Kd.R_reads' HO151.out).2.2 | (with_reducible refine Kd.C_alloc ?_ _) | (with_reducible refine Kd.C_drewN ?_ _) | (with_reducible refine Kd.C_drew ?_)));(case side4 => exact (Kd.R_reads' HO151.out).2.1);rintro e w' ⟨rfl,⟨nd,rfl⟩⟩;refine ⟨_,rfl,?_⟩) | ((with_reducible refine gate_callee (f:=14) rfl ?_);refine goesL_ (some 29) rfl rfl Try.func14 (by kernel_rfl) rfl #[.slice A0 l0.length c0] rfl (by (try simp only [List.map_toArray,List.map_cons,List.map_nil]);first | done | rfl | (simp only [List.length_drop,List.length_take];rfl)) ?_;(with_reducible refine (merge_Live.calls kj6 _ _ l0 t153 _ ?side1 ?side2 A17.out).mono ?_);(case side1 => repeat (first | exact (Kd.C_below HR0.out (by repeat (first | (with_reducible first | exact HB.out | apply below_alloc | apply pw_below_drewN | apply below_drew1) | exact HB.out))) | (with_reducible refine Kd.C_alloc ?_ _) | (with_reducible refine Kd.C_drewN ?_ _) | (with_reducible refine Kd.C_drew ?_)));(case side2 => exact HC0.out);rintro e w51 ⟨v154,rfl,ho0,hb⟩;refine ⟨_,rfl,?_⟩;have n0_:=Aside0.mk (Kd.R_elder' (by (with_reducible repeat (first | apply Kd.R_alloc | apply Kd.R_drewN | apply Kd.R_drew));exact HO_7.out) (Kd.R_base ho0) hb);have n1_:=Aside0.mk (Kd.R_elder' (by (with_reducible repeat (first | apply Kd.R_alloc | apply Kd.R_drewN | apply Kd.R_drew));exact HO148.out) (Kd.R_base ho0) hb);have n2_:=Aside0.mk (Kd.R_elder' (by (with_reducible repeat (first | apply Kd.R_alloc | apply Kd.R_drewN | apply Kd.R_drew));exact HO151.out) (Kd.R_base ho0) hb);have n3_:=Aside0.mk (Kd.R_lower (Kd.R_new' (Kd.R_new' (Kd.R_new' ho0 (Kd.R_lt (by (with_reducible repeat (first | apply Kd.R_alloc | apply Kd.R_drewN | apply Kd.R_drew));exact HO_7.out))) (Kd.R_lt (by (with_reducible repeat (first | apply Kd.R_alloc | apply Kd.R_drewN | apply Kd.R_drew));exact HO148.out))) (Kd.R_lt (by (with_reducible repeat (first | apply Kd.R_alloc | apply Kd.R_drewN | apply Kd.R_drew));exact HO151.out))) (below_size (by repeat (first | (with_reducible first | exact HB.out | apply below_alloc | apply pw_below_drewN | apply below_drew1) | exact HB.out))));have n4_:=Aside0.mk (below_step (by repeat (first | (with_reducible first | exact HB.out | apply below_alloc | apply pw_below_drewN | apply below_drew1) | exact HB.out)) hb);clear HO_7;clear HO148;clear HO151;clear HB;have HO_7:=n0_;have HO148:=n1_;have HO151:=n2_;have HO155:=n3_;have HB:=n4_;clear n0_ n1_ n2_ n3_ n4_;(try clear hb);(try clear hb2);(try clear hk);(try clear hi);(try clear ho0)) | ((with_reducible refine gate_callee (f:=11) rfl ?_);refine goesL_ (some 31) rfl rfl Try.func11 (by kernel_rfl) rfl #[.slice A0 l0.length c0] rfl (by (try simp only [List.map_toArray,List.map_cons,List.map_nil]);first | done | rfl | (simp only [List.length_drop,List.length_take];rfl)) ?_;(with_reducible refine (thwartref15_Live.calls kj6 _ _ l0 t156 _ ?side1 ?side2 A18.out).mono ?_);(case side1 => repeat (first | exact (Kd.C_below HR0.out HB.out) | (with_reducible refine Kd.C_alloc ?_ _) | (with_reducible refine Kd.C_drewN ?_ _) | (with_reducible refine Kd.C_drew ?_)));(case side2 => exact HC0.out);rintro e w52 ⟨v157,rfl,ho0,hb⟩;refine ⟨_,rfl,?_⟩;have n0_:=Aside0.mk (Kd.R_elder' (by (with_reducible repeat (first | apply Kd.R_alloc | apply Kd.R_drewN | apply Kd.R_drew));exact HO_7.out) (Kd.R_base ho0) hb);have n1_:=Aside0.mk (Kd.R_elder' (by (with_reducible repeat (first | apply Kd.R_alloc | apply Kd.R_drewN | apply Kd.R_drew));exact HO148.out) (Kd.R_base ho0) hb);have n2_:=Aside0.mk (Kd.R_elder' (by (with_reducible repeat (first | apply Kd.R_alloc | apply Kd.R_drewN | apply Kd.R_drew));exact HO151.out) (Kd.R_base ho0) hb);have n3_:=Aside0.mk (Kd.R_elder' (by (with_reducible repeat (first | apply Kd.R_alloc | apply Kd.R_drewN | apply Kd.R_drew));exact HO155.out) (Kd.R_base ho0) hb);have n4_:=Aside0.mk (Kd.R_lower (Kd.R_new' (Kd.R_new' (Kd.R_new' (Kd.R_new' ho0 (Kd.R_lt (by (with_reducible repeat (first | apply Kd.R_alloc | apply Kd.R_drewN | apply Kd.R_drew));exact HO_7.out))) (Kd.R_lt (by (with_reducible repeat (first | apply Kd.R_alloc | apply Kd.R_drewN | apply Kd.R_drew));exact HO148.out))) (Kd.R_lt (by (with_reducible repeat (first | apply Kd.R_alloc | apply Kd.R_drewN | apply Kd.R_drew));exact HO151.out))) (Kd.R_lt (by (with_reducible repeat (first | apply Kd.R_alloc | apply Kd.R_drewN | apply Kd.R_drew));exact HO155.out))) (below_size (by repeat (first | (with_reducible first | exact HB.out | apply below_alloc | apply pw_below_drewN | apply below_drew1) | exact HB.out))));have n5_:=Aside0.mk (below_step (by repeat (first | (with_reducible first | exact HB.out | apply below_alloc | apply pw_below_drewN | apply below_drew1) | exact HB.out)) hb);clear HO_7;clear HO148;clear HO151;clear HO155;clear HB;have HO_7:=n0_;have HO148:=n1_;have HO151:=n2_;have HO155:=n3_;have HO158:=n4_;have HB:=n5_;clear n0_ n1_ n2_ n3_ n4_ n5_;(try clear hb);(try clear hb2);(try clear hk);(try clear hi);(try clear ho0);obtain ⟨Ao53,co53,eo53⟩:=Kd.R_slice HO155.out;subst eo53;obtain ⟨Ao54,co54,eo54⟩:=Kd.R_slice HO158.out;subst eo54) | ((with_reducible refine gate_callee (f:=9) rfl ?_);refine goesL_ (some 32) rfl rfl Try.func9 (by kernel_rfl) rfl #[.slice Ao53 t153.length co53,.slice Ao54 t156.length co54] rfl (by (try simp only [List.map_toArray,List.map_cons,List.map_nil]);first | done | rfl | (simp only [List.length_drop,List.length_take];rfl)) ?_;(with_reducible refine (thwartref03_Same.calls kj6 _ _ t153 _ _ t156 true _ ?side1 ?side2 ?side3 ?side4 A19.out).mono ?_);(case side1 => repeat (first | exact (Kd.R_reads' HO155.out).2.2 | (with_reducible refine Kd.C_alloc ?_ _) | (with_reducible refine Kd.C_drewN ?_ _) | (with_reducible refine Kd.C_drew ?_)));(case side2 => exact (Kd.R_reads' HO155.out).2.1);(case side3 => repeat (first | exact (Kd.R_reads' HO158.out).2.2 | (with_reducible refine Kd.C_alloc ?_ _) | (with_reducible refine Kd.C_drewN ?_ _) | (with_reducible refine Kd.C_drew ?_)));(case side4 => exact (Kd.R_reads' HO158.out).2.1);rintro e w' ⟨rfl,⟨nd,rfl⟩⟩;refine ⟨_,rfl,?_⟩) | ((with_reducible refine gate_callee (f:=15) rfl ?_);refine goesL_ (some 35) rfl rfl Try.func15 (by kernel_rfl) rfl #[.bool a1,.slice A0 l0.length c0] rfl (by (try simp only [List.map_toArray,List.map_cons,List.map_nil]);first | done | rfl | (simp only [List.length_drop,List.length_take];rfl)) ?_;(with_reducible refine (merge_Merge.calls kj6 a1 _ _ l0 t160 _ ?side1 ?side2 A20.out).mono ?_);(case side1 => repeat (first | exact (Kd.C_below HR0.out (by repeat (first | (with_reducible first | exact HB.out | apply below_alloc | apply pw_below_drewN | apply below_drew1) | exact HB.out))) | (with_reducible refine Kd.C_alloc ?_ _) | (with_reducible refine Kd.C_drewN ?_ _) | (with_reducible refine Kd.C_drew ?_)));(case side2 => exact HC0.out);rintro e w55 ⟨v161,rfl,ho0,hb⟩;refine ⟨_,rfl,?_⟩;have n0_:=Aside0.mk (Kd.R_elder' (by (with_reducible repeat (first | apply Kd.R_alloc | apply Kd.R_drewN | apply Kd.R_drew));exact HO_7.out) (Kd.R_base ho0) hb);have n1_:=Aside0.mk (Kd.R_elder' (by (with_reducible repeat (first | apply Kd.R_alloc | apply Kd.R_drewN | apply Kd.R_drew));exact HO148.out) (Kd.R_base ho0) hb);have n2_:=Aside0.mk (Kd.R_elder' (by (with_reducible repeat (first | apply Kd.R_alloc | apply Kd.R_drewN | apply Kd.R_drew));exact HO151.out) (Kd.R_base ho0) hb);have n3_:=Aside0.mk (Kd.R_elder' (by (with_reducible repeat (first | apply Kd.R_alloc | apply Kd.R_drewN | apply Kd.R_drew));exact HO155.out) (Kd.R_base ho0) hb);have n4_:=Aside0.mk (Kd.R_elder' (by (with_reducible repeat (first | apply Kd.R_alloc | apply Kd.R_drewN | apply Kd.R_drew));exact HO158.out) (Kd.R_base ho0) hb);have n5_:=Aside0.mk (Kd.R_lower (Kd.R_new' (Kd.R_new' (Kd.R_new' (Kd.R_new' (Kd.R_new' ho0 (Kd.R_lt (by (with_reducible repeat (first | apply Kd.R_alloc | apply Kd.R_drewN | apply Kd.R_drew));exact HO_7.out))) (Kd.R_lt (by (with_reducible repeat (first | apply Kd.R_alloc | apply Kd.R_drewN | apply Kd.R_drew));exact HO148.out))) (Kd.R_lt (by (with_reducible repeat (first | apply Kd.R_alloc | apply Kd.R_drewN | apply Kd.R_drew));exact HO151.out))) (Kd.R_lt (by (with_reducible repeat (first | apply Kd.R_alloc | apply Kd.R_drewN | apply Kd.R_drew));exact HO155.out))) (Kd.R_lt (by (with_reducible repeat (first | apply Kd.R_alloc | apply Kd.R_drewN | apply Kd.R_drew));exact HO158.out))) (below_size (by repeat (first | (with_reducible first | exact HB.out | apply below_alloc | apply pw_below_drewN | apply below_drew1) | exact HB.out))));have n6_:=Aside0.mk (below_step (by repeat (first | (with_reducible first | exact HB.out | apply below_alloc | apply pw_below_drewN | apply below_drew1) | exact HB.out)) hb);clear HO_7;clear HO148;clear HO151;clear HO155;clear HO158;clear HB;have HO_7:=n0_;have HO148:=n1_;have HO151:=n2_;have HO155:=n3_;have HO158:=n4_;have HO162:=n5_;have HB:=n6_;clear n0_ n1_ n2_ n3_ n4_ n5_ n6_;(try clear hb);(try clear hb2);(try clear hk);(try clear hi);(try clear ho0);obtain ⟨Ao56,co56,eo56⟩:=Kd.R_slice HO162.out;subst eo56;obtain ⟨Ao57,co57,eo57⟩:=Kd.R_slice HO_7.out;subst eo57) | ((with_reducible refine gate_callee (f:=9) rfl ?_);refine goesL_ (some 37) rfl rfl Try.func9 (by kernel_rfl) rfl #[.slice Ao56 t160.length co56,.slice Ao57 x7_6.length co57] rfl (by (try simp only [List.map_toArray,List.map_cons,List.map_nil]);first | done | rfl | (simp only [List.length_drop,List.length_take];rfl)) ?_;(with_reducible refine (thwartref03_Same.calls kj6 _ _ t160 _ _ x7_6 true _ ?side1 ?side2 ?side3 ?side4 A21.out).mono ?_);(case side1 => repeat (first | exact (Kd.R_reads' HO162.out).2.2 | (with_reducible refine Kd.C_alloc ?_ _) | (with_reducible refine Kd.C_drewN ?_ _) | (with_reducible refine Kd.C_drew ?_)));(case side2 => exact (Kd.R_reads' HO162.out).2.1);(case side3 => repeat (first | exact (Kd.R_reads' HO_7.out).2.2 | (with_reducible refine Kd.C_alloc ?_ _) | (with_reducible refine Kd.C_drewN ?_ _) | (with_reducible refine Kd.C_drew ?_)));(case side4 => exact (Kd.R_reads' HO_7.out).2.1);rintro e w' ⟨rfl,⟨nd,rfl⟩⟩;refine ⟨_,rfl,?_⟩))
          (try (rw [drewN_self w55];generalize hq_ : World.drewN w55 _ = w55;have n0_ : Aside0 (Kd.R k36 36 w55 w.heap.size (fun k_ => some k_ ≠ (.slice Ao50 t149.length co50 : Value).ownBlock ∧ some k_ ≠ (.slice Ao53 t153.length co53 : Value).ownBlock ∧ some k_ ≠ (.slice Ao54 t156.length co54 : Value).ownBlock ∧ some k_ ≠ (.slice Ao56 t160.length co56 : Value).ownBlock ∧ some k_ ≠ (.slice Ao57 x7_6.length co57 : Value).ownBlock) (.slice Ao49 t146.length co49) t146):=⟨by rw [← hq_];exact (by (with_reducible repeat (first | apply Kd.R_alloc | apply Kd.R_drewN | apply Kd.R_drew));exact Kd.R_mono HO148.out (fun _ hk => ⟨hk.1.1.1.2,⟨hk.1.1.2,⟨hk.1.2,⟨hk.2,hk.1.1.1.1.2⟩⟩⟩⟩))⟩;have n1_ : Aside0 (Kd.R k36 36 w55 w.heap.size (fun k_ => some k_ ≠ (.slice Ao49 t146.length co49 : Value).ownBlock ∧ some k_ ≠ (.slice Ao53 t153.length co53 : Value).ownBlock ∧ some k_ ≠ (.slice Ao54 t156.length co54 : Value).ownBlock ∧ some k_ ≠ (.slice Ao56 t160.length co56 : Value).ownBlock ∧ some k_ ≠ (.slice Ao57 x7_6.length co57 : Value).ownBlock) (.slice Ao50 t149.length co50) t149):=⟨by rw [← hq_];exact (by (with_reducible repeat (first | apply Kd.R_alloc | apply Kd.R_drewN | apply Kd.R_drew));exact Kd.R_mono HO151.out (fun _ hk => ⟨hk.1.1.1.2,⟨hk.1.1.2,⟨hk.1.2,⟨hk.2,hk.1.1.1.1.2⟩⟩⟩⟩))⟩;have n2_ : Aside0 (Kd.R k36 36 w55 w.heap.size (fun k_ => some k_ ≠ (.slice Ao49 t146.length co49 : Value).ownBlock ∧ some k_ ≠ (.slice Ao50 t149.length co50 : Value).ownBlock ∧ some k_ ≠ (.slice Ao54 t156.length co54 : Value).ownBlock ∧ some k_ ≠ (.slice Ao56 t160.length co56 : Value).ownBlock ∧ some k_ ≠ (.slice Ao57 x7_6.length co57 : Value).ownBlock) (.slice Ao53 t153.length co53) t153):=⟨by rw [← hq_];exact (by (with_reducible repeat (first | apply Kd.R_alloc | apply Kd.R_drewN | apply Kd.R_drew));exact Kd.R_mono HO155.out (fun _ hk => ⟨hk.1.1.1.2,⟨hk.1.1.2,⟨hk.1.2,⟨hk.2,hk.1.1.1.1.2⟩⟩⟩⟩))⟩;have n3_ : Aside0 (Kd.R k36 36 w55 w.heap.size (fun k_ => some k_ ≠ (.slice Ao49 t146.length co49 : Value).ownBlock ∧ some k_ ≠ (.slice Ao50 t149.length co50 : Value).ownBlock ∧ some k_ ≠ (.slice Ao53 t153.length co53 : Value).ownBlock ∧ some k_ ≠ (.slice Ao56 t160.length co56 : Value).ownBlock ∧ some k_ ≠ (.slice Ao57 x7_6.length co57 : Value).ownBlock) (.slice Ao54 t156.length co54) t156):=⟨by rw [← hq_];exact (by (with_reducible repeat (first | apply Kd.R_alloc | apply Kd.R_drewN | apply Kd.R_drew));exact Kd.R_mono HO158.out (fun _ hk => ⟨hk.1.1.1.2,⟨hk.1.1.2,⟨hk.1.2,⟨hk.2,hk.1.1.1.1.2⟩⟩⟩⟩))⟩;have n4_ : Aside0 (Kd.R k36 36 w55 w.heap.size (fun k_ => some k_ ≠ (.slice Ao49 t146.length co49 : Value).ownBlock ∧ some k_ ≠ (.slice Ao50 t149.length co50 : Value).ownBlock ∧ some k_ ≠ (.slice Ao53 t153.length co53 : Value).ownBlock ∧ some k_ ≠ (.slice Ao54 t156.length co54 : Value).ownBlock ∧ some k_ ≠ (.slice Ao57 x7_6.length co57 : Value).ownBlock) (.slice Ao56 t160.length co56) t160):=⟨by rw [← hq_];exact (by (with_reducible repeat (first | apply Kd.R_alloc | apply Kd.R_drewN | apply Kd.R_drew));exact Kd.R_mono HO162.out (fun _ hk => ⟨hk.1.1.1.2,⟨hk.1.1.2,⟨hk.1.2,⟨hk.2,hk.1.1.1.1.2⟩⟩⟩⟩))⟩;have n5_ : Aside0 (Kd.R k36 36 w55 w.heap.size (fun k_ => some k_ ≠ (.slice Ao49 t146.length co49 : Value).ownBlock ∧ some k_ ≠ (.slice Ao50 t149.length co50 : Value).ownBlock ∧ some k_ ≠ (.slice Ao53 t153.length co53 : Value).ownBlock ∧ some k_ ≠ (.slice Ao54 t156.length co54 : Value).ownBlock ∧ some k_ ≠ (.slice Ao56 t160.length co56 : Value).ownBlock) (.slice Ao57 x7_6.length co57) x7_6):=⟨by rw [← hq_];exact (by (with_reducible repeat (first | apply Kd.R_alloc | apply Kd.R_drewN | apply Kd.R_drew));exact Kd.R_mono HO_7.out (fun _ hk => ⟨hk.1.1.1.1.2,⟨hk.1.1.1.2,⟨hk.1.1.2,⟨hk.1.2,hk.2⟩⟩⟩⟩))⟩;have n6_ : Aside0 (Below w.heap.size w w55):=⟨by rw [← hq_];exact (by repeat (first | (with_reducible first | exact HB.out | apply below_alloc | apply pw_below_drewN | apply below_drew1) | exact HB.out))⟩;clear HO148 HO151 HO155 HO158 HO162 HO_7 HB hq_;have HO148:=n0_;have HO151:=n1_;have HO155:=n2_;have HO158:=n3_;have HO162:=n4_;have HO_7:=n5_;have HB:=n6_;clear n0_ n1_ n2_ n3_ n4_ n5_ n6_))
          have n0_:=Aside0.mk (Kd.R_drew HO_7.out)
          have n1_:=Aside0.mk (Kd.R_drew HO148.out)
          have n2_:=Aside0.mk (Kd.R_drew HO151.out)
          have n3_:=Aside0.mk (Kd.R_drew HO155.out)
          have n4_:=Aside0.mk (Kd.R_drew HO158.out)
          have n5_:=Aside0.mk (Kd.R_drew HO162.out)
          have n6_:=Aside0.mk (below_drew1 HB.out)
          clear HO_7
          clear HO148
          clear HO151
          clear HO155
          clear HO158
          clear HO162
          clear HB
          have HO_7:=n0_
          have HO148:=n1_
          have HO151:=n2_
          have HO155:=n3_
          have HO158:=n4_
          have HO162:=n5_
          have HB:=n6_
          clear n0_ n1_ n2_ n3_ n4_ n5_ n6_
          have p164 : 0 ≤ (0 : Int):=(by omega)
          have q164 : 0 < (l0.length : Int):=of_decide_eq_true (by first | (with_reducible assumption) | assumption)
          obtain ⟨ad164,A164_0,c164_0,e164,hx164_0,hl164_0,hi164_0⟩:=at_L4 HR0.out 0 p164 q164
          have hw164_0:=hx164_0
          (try rw [show ((0 : Int)).toNat = 0 from rfl] at hw164_0)
          (try rw [show 0 * 1 = 0 from rfl] at hw164_0)
          (try rw [Addr.add_zero'] at hw164_0)
          cases e164
          have qi164 : (0 < l0.length) = True:=eq_true (by omega)
          (try rw [show ((0 : Int)).toNat = 0 from rfl] at hx164_0)
          (try rw [Addr.add_zero'] at hx164_0)
          replace hx164_0:=(HB.out.cell (World.block_lt_of_cell? w _ hx164_0)).trans hx164_0
          have HR164_0:=Aside0.mk hi164_0
          have HC164_0:=Aside0.mk hl164_0
          clear hi164_0 hl164_0
          replace p164:=eq_true p164
          replace q164:=eq_true q164
          have p168 : 0 ≤ (0 : Int):=(by omega)
          have q168 : 0 < (l0.length : Int):=of_decide_eq_true (by first | (with_reducible assumption) | assumption)
          obtain ⟨ad168,A168_0,c168_0,e168,hx168_0,hl168_0,hi168_0⟩:=at_L4 HR0.out 0 p168 q168
          have hw168_0:=hx168_0
          (try rw [show ((0 : Int)).toNat = 0 from rfl] at hw168_0)
          (try rw [show 0 * 1 = 0 from rfl] at hw168_0)
          (try rw [Addr.add_zero'] at hw168_0)
          obtain rfl : ad164 = ad168:=(by injection e168)
          have qi168 : (0 < l0.length) = True:=eq_true (by omega)
          (try rw [show ((0 : Int)).toNat = 0 from rfl] at hx168_0)
          (try rw [Addr.add_zero'] at hx168_0)
          replace hx168_0:=(HB.out.cell (World.block_lt_of_cell? w _ hx168_0)).trans hx168_0
          have HR168_0:=Aside0.mk hi168_0
          have HC168_0:=Aside0.mk hl168_0
          clear hi168_0 hl168_0
          replace p168:=eq_true p168
          replace q168:=eq_true q168
          have ea_:=Option.some.inj (hx164_0.symm.trans hx168_0)
          injection ea_ with ea_ en_ ec_
          subst ea_
          subst ec_
          clear en_
          refine start_ (n:=15) (S:=fun w' => w'.cell? ad164 = some (.slice A164_0 (rd_L4 l0 0).length c164_0) ∧ w'.cell? ad164 = some (.slice A164_0 (rd_L4 l0 0).length c164_0)) (ds:=[]) #[false,false,false,false,false,false,false,false,false,false,false,false,false,false,false] (by kernel_rfl) rfl rfl ⟨((HB.out.cell (World.block_lt_of_cell? w _ hw164_0)).trans hw164_0),((HB.out.cell (World.block_lt_of_cell? w _ hw168_0)).trans hw168_0)⟩ (fun hHeld => ?_);refine with_tabW thwartlaw15_MergeTells.tab11 thwartlaw15_MergeTells.bits11 (fun HT_ HW_ => ?_)
          generalize w55.drew = w58 at HO_7 HO148 HO151 HO155 HO158 HO162 HB HR164_0 HR168_0 hx164_0 hx168_0 hHeld ⊢
          refine pure_ (i:=0) (N:=some 38) (v := ?_) (a' := ?_) #[true,false,false,false,false,false,false,false,false,false,false,false,false,false,false] rfl rfl (any_of HT_.out (by kernel_rfl)) (fun _ _ _ h => h) (Or.inl ⟨by rfl,?_⟩) ?_ ?_
          rotate_left
          ·intro w'
           go_simp
           with_reducible rfl
          rotate_left
          ·simp only [Act.put,List.setIfInBounds_toArray,List.set_cons_zero,List.set_cons_succ,i64_w,i32_w]
           rfl
          refine pure_ (i:=1) (N:=some 39) (v := ?_) (a' := ?_) #[true,true,false,false,false,false,false,false,false,false,false,false,false,false,false] rfl rfl (any_of HT_.out (by kernel_rfl)) (fun _ _ _ h => h) (Or.inl ⟨by rfl,?_⟩) ?_ ?_
          rotate_left
          ·intro w'
           go_simp
           with_reducible rfl
          rotate_left
          ·simp only [Act.put,List.setIfInBounds_toArray,List.set_cons_zero,List.set_cons_succ,i64_w,i32_w]
           rfl
          refine pure_ (i:=2) (N:=some 40) (v := ?_) (a' := ?_) #[true,true,true,false,false,false,false,false,false,false,false,false,false,false,false] rfl rfl (any_of HT_.out (by kernel_rfl)) (fun _ _ _ h => h) (Or.inl ⟨by rfl,?_⟩) ?_ ?_
          rotate_left
          ·intro w'
           go_simp
           with_reducible rfl
          rotate_left
          ·simp only [Act.put,List.setIfInBounds_toArray,List.set_cons_zero,List.set_cons_succ,i64_w,i32_w]
           rfl
          refine pure_ (i:=3) (N:=some 41) (v := ?_) (a' := ?_) #[true,true,true,true,false,false,false,false,false,false,false,false,false,false,false] rfl rfl (any_of HT_.out (by kernel_rfl)) (fun _ _ _ h => h) (Or.inl ⟨by rfl,?_⟩) ?_ ?_
          rotate_left
          ·intro w'
           go_simp
           with_reducible rfl
          rotate_left
          ·simp only [Act.put,List.setIfInBounds_toArray,List.set_cons_zero,List.set_cons_succ,i64_w,i32_w]
           rfl
          refine pure_ (i:=4) (N:=some 42) (v := ?_) (a' := ?_) #[true,true,true,true,true,false,false,false,false,false,false,false,false,false,false] rfl rfl (any_of HT_.out (by kernel_rfl)) (fun _ _ _ h => h) (Or.inl ⟨by rfl,?_⟩) ?_ ?_
          rotate_left
          ·intro w'
           go_simp
           with_reducible rfl
          rotate_left
          ·simp only [Act.put,List.setIfInBounds_toArray,List.set_cons_zero,List.set_cons_succ,i64_w,i32_w]
           rfl
          refine pure_ (i:=5) (N:=some 43) (v := ?_) (a' := ?_) #[true,true,true,true,true,true,false,false,false,false,false,false,false,false,false] rfl rfl (any_of HT_.out (by kernel_rfl)) (fun _ _ _ h => h) (Or.inl ⟨by rfl,?_⟩) ?_ ?_
          rotate_left
          ·intro w'
           go_simp
           with_reducible rfl
          rotate_left
          ·simp only [Act.put,List.setIfInBounds_toArray,List.set_cons_zero,List.set_cons_succ,i64_w,i32_w]
           rfl
          refine pure_ (i:=8) (N:=some 46) (v := ?_) (a' := ?_) #[true,true,true,true,true,true,false,false,true,false,false,false,false,false,false] rfl rfl (any_of HT_.out (by kernel_rfl)) (fun _ _ _ h => h) (Or.inl ⟨by rfl,?_⟩) ?_ ?_
          rotate_left
          ·intro w'
           go_simp
           with_reducible rfl
          rotate_left
          ·simp only [Act.put,List.setIfInBounds_toArray,List.set_cons_zero,List.set_cons_succ,i64_w,i32_w]
           rfl
          refine pure_ (i:=9) (N:=some 47) (v := ?_) (a' := ?_) #[true,true,true,true,true,true,false,false,true,true,false,false,false,false,false] rfl rfl (any_of HT_.out (by kernel_rfl)) (fun _ _ _ h => h) (Or.inl ⟨by rfl,?_⟩) ?_ ?_
          rotate_left
          ·intro w'
           go_simp
           with_reducible rfl
          rotate_left
          ·simp only [Act.put,List.setIfInBounds_toArray,List.set_cons_zero,List.set_cons_succ,i64_w,i32_w]
           rfl
          refine take_ (i:=6) (N:=some 44) (v := ?_) (a' := ?_) #[true,true,true,true,true,true,true,false,true,true,false,false,false,false,false] rfl rfl (take_ofW HT_.out HW_.out (by kernel_rfl)) (fun _ _ _ h => h) (Or.inl ⟨by rfl,?_⟩) hHeld ?_ ?_
          rotate_left
          ·rintro w' ⟨s0,s1⟩
           go_simp
           with_reducible rfl
          rotate_left
          ·simp only [Act.put,List.setIfInBounds_toArray,List.set_cons_zero,List.set_cons_succ,i64_w,i32_w]
           rfl
          refine take_ (i:=10) (N:=some 48) (v := ?_) (a' := ?_) #[true,true,true,true,true,true,true,false,true,true,true,false,false,false,false] rfl rfl (take_ofW HT_.out HW_.out (by kernel_rfl)) (fun _ _ _ h => h) (Or.inl ⟨by rfl,?_⟩) hHeld ?_ ?_
          rotate_left
          ·rintro w' ⟨s0,s1⟩
           go_simp
           with_reducible rfl
          rotate_left
          ·simp only [Act.put,List.setIfInBounds_toArray,List.set_cons_zero,List.set_cons_succ,i64_w,i32_w]
           rfl
          refine one_ (i:=7) (N:=some 45) #[true,true,true,true,true,true,true,true,true,true,true,false,false,false,false] rfl rfl (one_of HT_.out (by kernel_rfl)) (by decide) (fun K hK => ?_)
          refine goes_ Try.func8 (by kernel_rfl) rfl #[.slice A164_0 (rd_L4 l0 0).length c164_0] (by rfl) rfl rfl (by (try simp only [List.map_toArray,List.map_cons,List.map_nil]);first | done | rfl | (simp only [List.length_drop,List.length_take];rfl)) ?_
          with_reducible refine (merge_Batches.calls _ _ (rd_L4 l0 0) t165 _ ?side1 ?side2 A40.out).mono ?_
          (case side1 => repeat (first | exact (Kd.C_below HR164_0.out HB.out) | (with_reducible refine Kd.C_alloc ?_ _) | (with_reducible refine Kd.C_drewN ?_ _) | (with_reducible refine Kd.C_drew ?_)))
          (case side2 => exact HC164_0.out)
          rintro e w59 ⟨v166,rfl,ho0,hb⟩
          refine ⟨_,rfl,?_⟩
          have n0_:=Aside0.mk (Kd.R_below (by (with_reducible repeat (first | apply Kd.R_alloc | apply Kd.R_drewN | apply Kd.R_drew));exact HO_7.out) hb)
          have n1_:=Aside0.mk (Kd.R_below (by (with_reducible repeat (first | apply Kd.R_alloc | apply Kd.R_drewN | apply Kd.R_drew));exact HO148.out) hb)
          have n2_:=Aside0.mk (Kd.R_below (by (with_reducible repeat (first | apply Kd.R_alloc | apply Kd.R_drewN | apply Kd.R_drew));exact HO151.out) hb)
          have n3_:=Aside0.mk (Kd.R_below (by (with_reducible repeat (first | apply Kd.R_alloc | apply Kd.R_drewN | apply Kd.R_drew));exact HO155.out) hb)
          have n4_:=Aside0.mk (Kd.R_below (by (with_reducible repeat (first | apply Kd.R_alloc | apply Kd.R_drewN | apply Kd.R_drew));exact HO158.out) hb)
          have n5_:=Aside0.mk (Kd.R_below (by (with_reducible repeat (first | apply Kd.R_alloc | apply Kd.R_drewN | apply Kd.R_drew));exact HO162.out) hb)
          have n6_:=Aside0.mk (Kd.N_lower (Kd.N_mono (ok' := fun k_ => some k_ ≠ (.slice Ao57 x7_6.length co57 : Value).ownBlock ∧ some k_ ≠ (.slice Ao49 t146.length co49 : Value).ownBlock ∧ some k_ ≠ (.slice Ao50 t149.length co50 : Value).ownBlock ∧ some k_ ≠ (.slice Ao53 t153.length co53 : Value).ownBlock ∧ some k_ ≠ (.slice Ao54 t156.length co54 : Value).ownBlock ∧ some k_ ≠ (.slice Ao56 t160.length co56 : Value).ownBlock) (Kd.S_N (Kd.S_bound ho0)) (fun k_ hk_ => ⟨(Kd.fresh' (Kd.R_lt (by (with_reducible repeat (first | apply Kd.R_alloc | apply Kd.R_drewN | apply Kd.R_drew));exact HO_7.out)) k_ hk_.2.1),(Kd.fresh' (Kd.R_lt (by (with_reducible repeat (first | apply Kd.R_alloc | apply Kd.R_drewN | apply Kd.R_drew));exact HO148.out)) k_ hk_.2.1),(Kd.fresh' (Kd.R_lt (by (with_reducible repeat (first | apply Kd.R_alloc | apply Kd.R_drewN | apply Kd.R_drew));exact HO151.out)) k_ hk_.2.1),(Kd.fresh' (Kd.R_lt (by (with_reducible repeat (first | apply Kd.R_alloc | apply Kd.R_drewN | apply Kd.R_drew));exact HO155.out)) k_ hk_.2.1),(Kd.fresh' (Kd.R_lt (by (with_reducible repeat (first | apply Kd.R_alloc | apply Kd.R_drewN | apply Kd.R_drew));exact HO158.out)) k_ hk_.2.1),(Kd.fresh' (Kd.R_lt (by (with_reducible repeat (first | apply Kd.R_alloc | apply Kd.R_drewN | apply Kd.R_drew));exact HO162.out)) k_ hk_.2.1)⟩)) (below_size (by repeat (first | (with_reducible first | exact HB.out | apply below_alloc | apply pw_below_drewN | apply below_drew1) | exact HB.out))))
          have n7_:=Aside0.mk (below_step (by repeat (first | (with_reducible first | exact HB.out | apply below_alloc | apply pw_below_drewN | apply below_drew1) | exact HB.out)) hb)
          clear HO_7
          clear HO148
          clear HO151
          clear HO155
          clear HO158
          clear HO162
          clear HB
          have HO_7:=n0_
          have HO148:=n1_
          have HO151:=n2_
          have HO155:=n3_
          have HO158:=n4_
          have HO162:=n5_
          have HO167:=n6_
          have HB:=n7_
          clear n0_ n1_ n2_ n3_ n4_ n5_ n6_ n7_
          (try clear hb)
          (try clear hb2)
          (try clear hk)
          (try clear hi)
          (try clear ho0)
          refine hK.out _ _ ⟨((HB.out.cell (World.block_lt_of_cell? w _ hw164_0)).trans hw164_0),((HB.out.cell (World.block_lt_of_cell? w _ hw168_0)).trans hw168_0)⟩ (fun hHeld => ?_)
          clear hK K
          refine norm_ (a' := ?_) ?_ ?_
          rotate_left
          ·show Act.put _ (some 45) _ = _
           simp only [Act.put,List.setIfInBounds_toArray,List.set_cons_zero,List.set_cons_succ,i64_w,i32_w]
           rfl
          refine one_ (i:=11) (N:=some 49) #[true,true,true,true,true,true,true,true,true,true,true,true,false,false,false] rfl rfl (one_of HT_.out (by kernel_rfl)) (by decide) (fun K hK => ?_)
          refine goes_ Try.func17 (by kernel_rfl) rfl #[.slice A164_0 (rd_L4 l0 0).length c164_0] (by rfl) rfl rfl (by (try simp only [List.map_toArray,List.map_cons,List.map_nil]);first | done | rfl | (simp only [List.length_drop,List.length_take];rfl)) ?_
          with_reducible refine (thwartref15_Batches.calls kj6 (fun k_ => k_ < w.heap.size) _ _ (rd_L4 l0 0) t169 _ ?side1 A41.out).mono ?_
          (case side1 => exact Kd.V_mk HC168_0.out (Kd.F_below (Kd.C_F k36_heap HR168_0.out) (by repeat (first | (with_reducible first | exact HB.out | apply below_alloc | apply pw_below_drewN | apply below_drew1) | exact HB.out))))
          rintro e w60 ⟨v170,rfl,ho0,hb⟩
          refine ⟨_,rfl,?_⟩
          have n0_:=Aside0.mk (Kd.R_below (by (with_reducible repeat (first | apply Kd.R_alloc | apply Kd.R_drewN | apply Kd.R_drew));exact HO_7.out) hb)
          have n1_:=Aside0.mk (Kd.R_below (by (with_reducible repeat (first | apply Kd.R_alloc | apply Kd.R_drewN | apply Kd.R_drew));exact HO148.out) hb)
          have n2_:=Aside0.mk (Kd.R_below (by (with_reducible repeat (first | apply Kd.R_alloc | apply Kd.R_drewN | apply Kd.R_drew));exact HO151.out) hb)
          have n3_:=Aside0.mk (Kd.R_below (by (with_reducible repeat (first | apply Kd.R_alloc | apply Kd.R_drewN | apply Kd.R_drew));exact HO155.out) hb)
          have n4_:=Aside0.mk (Kd.R_below (by (with_reducible repeat (first | apply Kd.R_alloc | apply Kd.R_drewN | apply Kd.R_drew));exact HO158.out) hb)
          have n5_:=Aside0.mk (Kd.R_below (by (with_reducible repeat (first | apply Kd.R_alloc | apply Kd.R_drewN | apply Kd.R_drew));exact HO162.out) hb)
          have n6_:=Aside0.mk (Kd.N_elder' (by (with_reducible repeat (first | apply Kd.N_alloc | apply Kd.N_drewN | apply Kd.N_drew));exact HO167.out) (Kd.N_base ho0) hb)
          have n7_:=Aside0.mk (Kd.N_lower (Kd.N_mono (ok' := fun k_ => some k_ ≠ (.slice Ao57 x7_6.length co57 : Value).ownBlock ∧ some k_ ≠ (.slice Ao49 t146.length co49 : Value).ownBlock ∧ some k_ ≠ (.slice Ao50 t149.length co50 : Value).ownBlock ∧ some k_ ≠ (.slice Ao53 t153.length co53 : Value).ownBlock ∧ some k_ ≠ (.slice Ao54 t156.length co54 : Value).ownBlock ∧ some k_ ≠ (.slice Ao56 t160.length co56 : Value).ownBlock ∧ some k_ ≠ (v166 : Value).ownBlock) ho0 (fun k_ hk_ => ⟨Or.elim hk_ (fun hs_ => fun e_ => Nat.not_le.2 hs_ (Kd.R_base HO_7.out k_ e_.symm)) (fun hn_ => (Kd.fresh' (Kd.R_lt (by (with_reducible repeat (first | apply Kd.R_alloc | apply Kd.R_drewN | apply Kd.R_drew));exact HO_7.out)) k_ hn_)),Or.elim hk_ (fun hs_ => fun e_ => Nat.not_le.2 hs_ (Kd.R_base HO148.out k_ e_.symm)) (fun hn_ => (Kd.fresh' (Kd.R_lt (by (with_reducible repeat (first | apply Kd.R_alloc | apply Kd.R_drewN | apply Kd.R_drew));exact HO148.out)) k_ hn_)),Or.elim hk_ (fun hs_ => fun e_ => Nat.not_le.2 hs_ (Kd.R_base HO151.out k_ e_.symm)) (fun hn_ => (Kd.fresh' (Kd.R_lt (by (with_reducible repeat (first | apply Kd.R_alloc | apply Kd.R_drewN | apply Kd.R_drew));exact HO151.out)) k_ hn_)),Or.elim hk_ (fun hs_ => fun e_ => Nat.not_le.2 hs_ (Kd.R_base HO155.out k_ e_.symm)) (fun hn_ => (Kd.fresh' (Kd.R_lt (by (with_reducible repeat (first | apply Kd.R_alloc | apply Kd.R_drewN | apply Kd.R_drew));exact HO155.out)) k_ hn_)),Or.elim hk_ (fun hs_ => fun e_ => Nat.not_le.2 hs_ (Kd.R_base HO158.out k_ e_.symm)) (fun hn_ => (Kd.fresh' (Kd.R_lt (by (with_reducible repeat (first | apply Kd.R_alloc | apply Kd.R_drewN | apply Kd.R_drew));exact HO158.out)) k_ hn_)),Or.elim hk_ (fun hs_ => fun e_ => Nat.not_le.2 hs_ (Kd.R_base HO162.out k_ e_.symm)) (fun hn_ => (Kd.fresh' (Kd.R_lt (by (with_reducible repeat (first | apply Kd.R_alloc | apply Kd.R_drewN | apply Kd.R_drew));exact HO162.out)) k_ hn_)),Or.elim hk_ (fun hs_ => fun e_ => Nat.not_le.2 hs_ (Kd.N_base HO167.out k_ e_.symm)) (fun hn_ => (Kd.fresh' (Kd.N_lt (by (with_reducible repeat (first | apply Kd.N_alloc | apply Kd.N_drewN | apply Kd.N_drew));exact HO167.out)) k_ hn_))⟩)) (below_size (by repeat (first | (with_reducible first | exact HB.out | apply below_alloc | apply pw_below_drewN | apply below_drew1) | exact HB.out))))
          have n8_:=Aside0.mk (below_step (by repeat (first | (with_reducible first | exact HB.out | apply below_alloc | apply pw_below_drewN | apply below_drew1) | exact HB.out)) hb)
          clear HO_7
          clear HO148
          clear HO151
          clear HO155
          clear HO158
          clear HO162
          clear HO167
          clear HB
          have HO_7:=n0_
          have HO148:=n1_
          have HO151:=n2_
          have HO155:=n3_
          have HO158:=n4_
          have HO162:=n5_
          have HO167:=n6_
          have HO171:=n7_
          have HB:=n8_
          clear n0_ n1_ n2_ n3_ n4_ n5_ n6_ n7_ n8_
          (try clear hb)
          (try clear hb2)
          (try clear hk)
          (try clear hi)
          (try clear ho0)
          obtain ⟨Ao61,co61,eo61⟩:=Kd.N_slice HO167.out
          (first | subst eo61 | (injection eo61 with f1_ f2_ f3_;have f4_:=f1_.symm;have f5_:=f3_.symm;clear f1_ f2_ f3_;subst f4_;subst f5_))
          obtain ⟨Ao62,co62,eo62⟩:=Kd.N_slice HO171.out
          (first | subst eo62 | (injection eo62 with f1_ f2_ f3_;have f4_:=f1_.symm;have f5_:=f3_.symm;clear f1_ f2_ f3_;subst f4_;subst f5_))
          refine hK.out _ _ ⟨((HB.out.cell (World.block_lt_of_cell? w _ hw164_0)).trans hw164_0),((HB.out.cell (World.block_lt_of_cell? w _ hw168_0)).trans hw168_0)⟩ (fun hHeld => ?_)
          clear hK K
          refine norm_ (a' := ?_) ?_ ?_
          rotate_left
          ·show Act.put _ (some 49) _ = _
           simp only [Act.put,List.setIfInBounds_toArray,List.set_cons_zero,List.set_cons_succ,i64_w,i32_w]
           rfl
          refine one_ (i:=12) (N:=some 50) #[true,true,true,true,true,true,true,true,true,true,true,true,true,false,false] rfl rfl (one_of HT_.out (by kernel_rfl)) (by decide) (fun K hK => ?_)
          refine goes_ Try.func16 (by kernel_rfl) rfl #[.slice Ao61 t165.length co61,.slice Ao62 t169.length co62] (by rfl) rfl rfl (by (try simp only [List.map_toArray,List.map_cons,List.map_nil]);first | done | rfl | (simp only [List.length_drop,List.length_take];rfl)) ?_
          with_reducible refine (thwartref04_Same.calls kj6 _ _ t165 _ _ t169 t172 _ ?side1 ?side2 ?side3 ?side4 A42.out).mono ?_
          (case side1 => repeat (first | exact (Kd.N_reads' HO167.out).2.2 | (with_reducible refine Kd.C_alloc ?_ _) | (with_reducible refine Kd.C_drewN ?_ _) | (with_reducible refine Kd.C_drew ?_)))
          (case side2 => exact (Kd.N_reads' HO167.out).2.1)
          (case side3 => repeat (first | exact (Kd.N_reads' HO171.out).2.2 | (with_reducible refine Kd.C_alloc ?_ _) | (with_reducible refine Kd.C_drewN ?_ _) | (with_reducible refine Kd.C_drew ?_)))
          (case side4 => exact (Kd.N_reads' HO171.out).2.1)
          rintro e w' ⟨rfl,⟨nd,rfl⟩⟩
          refine ⟨_,rfl,?_⟩
          refine hK.out _ _ ⟨((HB.out.cell (World.block_lt_of_cell? w _ hw164_0)).trans hw164_0),((HB.out.cell (World.block_lt_of_cell? w _ hw168_0)).trans hw168_0)⟩ (fun hHeld => ?_)
          clear hK K
          refine norm_ (a' := ?_) ?_ ?_
          rotate_left
          ·show Act.put _ (some 50) _ = _
           simp only [Act.put,List.setIfInBounds_toArray,List.set_cons_zero,List.set_cons_succ,i64_w,i32_w]
           rfl
          refine pure_ (i:=13) (N:=some 51) (v := ?_) (a' := ?_) #[true,true,true,true,true,true,true,true,true,true,true,true,true,true,false] rfl rfl (any_of HT_.out (by kernel_rfl)) (fun _ _ _ h => h) (Or.inl ⟨by rfl,?_⟩) ?_ ?_
          rotate_left
          ·intro w'
           go_simp
           with_reducible rfl
          rotate_left
          ·simp only [Act.put,List.setIfInBounds_toArray,List.set_cons_zero,List.set_cons_succ,i64_w,i32_w]
           rfl
          refine pure_ (i:=14) (N:=some 11) (v := ?_) (a' := ?_) #[true,true,true,true,true,true,true,true,true,true,true,true,true,true,true] rfl rfl (any_of HT_.out (by kernel_rfl)) (fun _ _ _ h => h) (Or.inl ⟨by rfl,?_⟩) ?_ ?_
          rotate_left
          ·intro w'
           go_simp
           with_reducible rfl
          rotate_left
          ·simp only [Act.put,List.setIfInBounds_toArray,List.set_cons_zero,List.set_cons_succ,i64_w,i32_w]
           rfl
          refine done_ (done_of HT_.out (by kernel_rfl)) ?_
          try go_wp2
          go_ret
          exact ⟨by first | rfl | (simp [errW_none,errW_some] <;> rfl) | (simp [*,errW_none,errW_some] <;> rfl) | (simp [errW_none,errW_some];exact isEmpty_bne _),by repeat (first | (with_reducible first | exact HB.out | apply below_alloc | apply pw_below_drewN | apply below_drew1) | exact HB.out)⟩
         ·replace c46:=Bool.eq_false_iff.mpr c46
          subst c46
          have H1 : (none) = some r:=by rw [if_neg (show ¬ (false = true) by decide)] at H;exact H
          clear H
          have H:=H1
          clear H1
          exact absurd H (by simp)
        ·replace c45:=Bool.eq_false_iff.mpr c45
         subst c45
         have H1 : (none) = some r:=by rw [if_neg (show ¬ (false = true) by decide)] at H;exact H
         clear H
         have H:=H1
         clear H1
         exact absurd H (by simp)
       ·replace c44:=Bool.eq_false_iff.mpr c44
        subst c44
        have H1 : (none) = some r:=by rw [if_neg (show ¬ (false = true) by decide)] at H;exact H
        clear H
        have H:=H1
        clear H1
        exact absurd H (by simp)
      ·replace c43:=Bool.eq_false_iff.mpr c43
       subst c43
       have H1 : (none) = some r:=by rw [if_neg (show ¬ (false = true) by decide)] at H;exact H
       clear H
       have H:=H1
       clear H1
       exact absurd H (by simp)
     ·rw [if_neg c39] at H
      exact absurd H (by simp)
 ·replace c5:=Bool.eq_false_iff.mpr c5
  subst c5
  have H1 : (some t138) = some r:=by rw [if_neg (show ¬ (false = true) by decide)] at H;exact H
  clear H
  have H:=H1
  clear H1
  obtain rfl:=Option.some.inj H
  go_enter Try.func4,Try.ntmps4
  go_wp2_with (first | ((with_reducible refine gate_callee (f:=7) rfl ?_);refine goesL_ (some 12) rfl rfl Try.func7 (by kernel_rfl) rfl #[] rfl (by (try simp only [List.map_toArray,List.map_cons,List.map_nil]);first | done | rfl | (simp only [List.length_drop,List.length_take];rfl)) ?_;(with_reducible refine (thwartlaw15_awake.calls k  t138 _ A3.out).mono ?_);rintro e w63 ⟨rfl,hb⟩;refine ⟨_,rfl,?_⟩;have n0_:=Aside0.mk (below_step (by repeat (first | (with_reducible first | exact HB.out | apply below_alloc | apply pw_below_drewN | apply below_drew1) | exact HB.out)) hb);clear HB;have HB:=n0_;clear n0_;(try clear hb);(try clear hb2);(try clear hk);(try clear hi)) | ((with_reducible refine gate_callee (f:=10) rfl ?_);refine goesL_ (some 14) rfl rfl Try.func10 (by kernel_rfl) rfl #[.slice A0 l0.length c0] rfl (by (try simp only [List.map_toArray,List.map_cons,List.map_nil]);first | done | rfl | (simp only [List.length_drop,List.length_take];rfl)) ?_;(with_reducible refine (thwartlaw15_light.calls k _ _ l0 false _ ?side1 ?side2 A4.out).mono ?_);(case side1 => repeat (first | exact (Kd.C_below HR0.out HB.out) | (with_reducible refine Kd.C_alloc ?_ _) | (with_reducible refine Kd.C_drewN ?_ _) | (with_reducible refine Kd.C_drew ?_)));(case side2 => exact HC0.out);rintro e w64 ⟨rfl,hb⟩;refine ⟨_,rfl,?_⟩;have n0_:=Aside0.mk (below_step (by repeat (first | (with_reducible first | exact HB.out | apply below_alloc | apply pw_below_drewN | apply below_drew1) | exact HB.out)) hb);clear HB;have HB:=n0_;clear n0_;(try clear hb);(try clear hb2);(try clear hk);(try clear hi)))
  go_ret
  exact ⟨by first | rfl | (simp [errW_none,errW_some] <;> rfl) | (simp [*,errW_none,errW_some] <;> rfl) | (simp [errW_none,errW_some];exact isEmpty_bne _),by repeat (first | (with_reducible first | exact HB.out | apply below_alloc | apply pw_below_drewN | apply below_drew1) | exact HB.out)⟩

/-- THE ONE PURE STATEMENT of thwartlaw15_MergeTells: yours. -/
def thwartlaw15_MergeTells.Pure : Prop := ∀ (l0 : List (List (S36))) (a1 : Bool),l0.length * 24 ≤ 140737488351232 → (l0.length ≤ 9223372036854775807 ∧ ∀ e173 ∈ l0,(e173.length ≤ 9223372036854775807 ∧ ∀ e174 ∈ e173,((Lit.int .u64 e174.f0).wf = true ∧ e174.f1.size ≤ 9223372036854775807 ∧ e174.f2.size ≤ 9223372036854775807 ∧ True))) → ∃ k,thwartlaw15_MergeTells.f k l0 a1 = some true
theorem thwartlaw15_MergeTells.walk (P : thwartlaw15_MergeTells.Pure) (A0 : Option Addr) (n0 c0 : Nat) (l0 : List (List (S36))) (a1 : Bool) (w : World) (K0 : (Kd.slice 22 (Kd.slice 36 k36)).K w l0 [.slice A0 n0 c0]) (y0 : n0 * 24 ≤ 140737488351232) (G0 : (l0.length ≤ 9223372036854775807 ∧ ∀ e173 ∈ l0,(e173.length ≤ 9223372036854775807 ∧ ∀ e174 ∈ e173,((Lit.int .u64 e174.f0).wf = true ∧ e174.f1.size ≤ 9223372036854775807 ∧ e174.f2.size ≤ 9223372036854775807 ∧ True)))) :
  Calls Try.prog 4 #[.slice A0 n0 c0,.bool a1] w fun e w' => e = .returned (.bool true) ∧ Below w.heap.size w w' := by
 obtain ⟨A0_,c0_,e0,hc0,hr0⟩:=K0
 simp only [List.cons.injEq,Value.slice.injEq,and_true] at e0
 obtain ⟨rfl,rfl,rfl⟩:=e0
 obtain ⟨k,h⟩:=P l0 a1 y0 G0
 refine (thwartlaw15_MergeTells.calls k _ _ l0 a1 true w hr0 hc0 h).mono ?_
 rintro e w' ⟨rfl,hd⟩
 exact ⟨rfl,hd⟩

end Go.Proofs.Ytlfhnpecfkhcpaa.Print
