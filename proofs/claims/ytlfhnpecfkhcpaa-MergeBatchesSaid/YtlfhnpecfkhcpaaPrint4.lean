/- Written by a program of mine (give.py, over the kit's print) out of the translation: contracts of the Go functions. Lean checks it. -/
import Derived.Test.YtlfhnpecfkhcpaaPrint0
import Derived.Test.YtlfhnpecfkhcpaaPrint2
import Derived.Test.YtlfhnpecfkhcpaaPrint3
namespace Go.Proofs.Ytlfhnpecfkhcpaa.Print
open Go.RowKit Go.Proofs.YtlfhnpecfkhcpaaW.PrintWords Go.Proofs.YtlfhnpecfkhcpaaW.PrintLast Go.Proofs.YtlfhnpecfkhcpaaW.PrintMore
attribute [local go_sem] max2_int min2_int max_two min_two max_three min_three max_four min_four   -- for this text's walks alone
set_option linter.unusedVariables false
set_option linter.unusedSimpArgs false

/-! ### thwartlaw15_MergeBatches: function 3 -/
def thwartlaw15_MergeBatches.l0 : Nat → List (S36) → Bool → List (List (S36)) → List (S36) → Int → Option (Bool)
 | 0,_,_,_,_,_ => none
 | k + 1,x0,x3,x4,x5,x6 => if x6 < (x4.length : Int) then (if 0 ≤ x6 then (if ((rd_L4 x4 x6).length : Int) < 1 then (none) else (if ((rd_L4 x4 x6).length : Int) > 16 then (none) else (if x5.length + (rd_L4 x4 x6).length < 2932031007402 then (thwartlaw15_MergeBatches.l0 k x0 x3 x4 (x5 ++ (rd_L4 x4 x6)) (wrap64 (x6 + 1))) else (none)))) else (none)) else ((thwartref03_Same.f k x5 x0).bind fun t117 => (if x3 = true then (if t117 = true then (some ((x4.length : Int) == (wrap64 (Int.tdiv (wrap64 ((x0.length : Int) + 15)) 16)))) else (none)) else (none)))
def thwartlaw15_MergeBatches.f (k : Nat) (l0 : List (S36)) : Option (Bool):=(thwartlaw15_awake.f k).bind fun t107 => (if (l0.length : Int) > 200 then (some t107) else ((merge_Batches.f l0).bind fun t108 => (thwartlaw15_MergeBatches.l0 k l0 t107 t108 ([] : List (S36)) 0)))
theorem thwartlaw15_MergeBatches.mono_l : ∀ k,(∀ y0 y1 y2 y3 y4,LeO (thwartlaw15_MergeBatches.l0 k y0 y1 y2 y3 y4) (thwartlaw15_MergeBatches.l0 (k + 1) y0 y1 y2 y3 y4))
 | 0 => fun _ _ _ _ _ r h => by simp [thwartlaw15_MergeBatches.l0] at h
 | k + 1 => by
  have ih0:=thwartlaw15_MergeBatches.mono_l k
  ·intro y0 y1 y2 y3 y4
   unfold thwartlaw15_MergeBatches.l0
   repeat' first
   | (with_reducible exact ih0 _ _ _ _ _)
   | (with_reducible exact thwartlaw15_awake.mono _)
   | (with_reducible exact thwartref03_Same.mono _ _ _)
   | (with_reducible exact LeO.refl _)
   | (with_reducible exact LeO.none _)
   | (with_reducible refine LeO.ite ?_ ?_)
   | (with_reducible refine LeO.bind ?_ (fun _ => ?_))
   | exact ih0 _ _ _ _ _
   | exact thwartlaw15_awake.mono _
   | exact thwartref03_Same.mono _ _ _
   | exact LeO.none _
   | refine LeO.ite ?_ ?_
   | refine LeO.bind ?_ (fun _ => ?_)
theorem thwartlaw15_MergeBatches.mono : ∀ a0 k,LeO (thwartlaw15_MergeBatches.f k a0) (thwartlaw15_MergeBatches.f (k + 1) a0):=by
 intro a0 k
 have ih0:=thwartlaw15_MergeBatches.mono_l k
 unfold thwartlaw15_MergeBatches.f
 repeat' first
   | (with_reducible exact ih0 _ _ _ _ _)
   | (with_reducible exact thwartlaw15_awake.mono _)
   | (with_reducible exact thwartref03_Same.mono _ _ _)
   | (with_reducible exact LeO.refl _)
   | (with_reducible exact LeO.none _)
   | (with_reducible refine LeO.ite ?_ ?_)
   | (with_reducible refine LeO.bind ?_ (fun _ => ?_))
   | exact ih0 _ _ _ _ _
   | exact thwartlaw15_awake.mono _
   | exact thwartref03_Same.mono _ _ _
   | exact LeO.none _
   | refine LeO.ite ?_ ?_
   | refine LeO.bind ?_ (fun _ => ?_)
set_option maxHeartbeats 8000000 in
set_option maxRecDepth 100000 in
theorem thwartlaw15_MergeBatches.calls (k : Nat) (A0 : Option Addr) (c0 : Nat) (l0 : List (S36)) (r : Bool) (w : World) (hr0 : Kd.C k36 w A0 l0.length l0) (hc0 : l0.length ≤ c0) (h : thwartlaw15_MergeBatches.f k l0 = some r) :
  Calls Try.prog 3 #[.slice A0 l0.length c0] w fun e w' => e = .returned (.bool r) ∧ Below w.heap.size w w' := by
 have HR0:=Aside0.mk hr0
 have HC0:=Aside0.mk hc0
 clear hr0 hc0
 have HB:=Aside0.mk (Below.refl w.heap.size w)
 have H : ((thwartlaw15_awake.f k).bind fun t107 => (if (l0.length : Int) > 200 then (some t107) else ((merge_Batches.f l0).bind fun t108 => (thwartlaw15_MergeBatches.l0 k l0 t107 t108 ([] : List (S36)) 0)))) = some r:=h
 clear h
 replace H:=Option.bind_eq_some_iff.mp H
 obtain ⟨t107,A20,H⟩:=H
 replace H : (if (l0.length : Int) > 200 then (some t107) else ((merge_Batches.f l0).bind fun t108 => (thwartlaw15_MergeBatches.l0 k l0 t107 t108 ([] : List (S36)) 0))) = some r:=H
 have A2:=Aside0.mk A20
 clear A20
 by_cases c3 : (l0.length : Int) > 200
 ·rw [if_pos c3] at H
  have c3b0 : decide (200 < (l0.length : Int)) = true:=decide_eq_true c3
  have c3b1 : decide (200 < l0.length) = true:=decide_eq_true (by omega)
  clear c3
  obtain rfl:=Option.some.inj H
  go_enter Try.func3,Try.ntmps3
  go_wp2_with (first | ((with_reducible refine gate_callee (f:=7) rfl ?_);refine goesL_ (some 8) rfl rfl Try.func7 (by kernel_rfl) rfl #[] rfl (by (try simp only [List.map_toArray,List.map_cons,List.map_nil]);first | done | rfl | (simp only [List.length_drop,List.length_take];rfl)) ?_;(with_reducible refine (thwartlaw15_awake.calls k  t107 _ A2.out).mono ?_);rintro e w4 ⟨rfl,hb⟩;refine ⟨_,rfl,?_⟩;have n0_:=Aside0.mk (below_step (by repeat (first | (with_reducible first | exact HB.out | apply below_alloc | apply pw_below_drewN | apply below_drew1) | exact HB.out)) hb);clear HB;have HB:=n0_;clear n0_;(try clear hb);(try clear hb2);(try clear hk);(try clear hi)))
  go_ret
  exact ⟨by first | rfl | (simp [errW_none,errW_some] <;> rfl) | (simp [*,errW_none,errW_some] <;> rfl) | (simp [errW_none,errW_some];exact isEmpty_bne _),by repeat (first | (with_reducible first | exact HB.out | apply below_alloc | apply pw_below_drewN | apply below_drew1) | exact HB.out)⟩
 ·rw [if_neg c3] at H
  have c3b0 : decide (200 < (l0.length : Int)) = false:=decide_eq_false c3
  have c3b1 : decide (200 < l0.length) = false:=decide_eq_false (by omega)
  clear c3
  replace H:=Option.bind_eq_some_iff.mp H
  obtain ⟨t108,A50,H⟩:=H
  replace H : (thwartlaw15_MergeBatches.l0 k l0 t107 t108 ([] : List (S36)) 0) = some r:=H
  have A5:=Aside0.mk A50
  clear A50
  have H' := Aside0.mk H
  clear H
  go_enter Try.func3,Try.ntmps3
  go_wp2_with (first | ((with_reducible refine gate_callee (f:=7) rfl ?_);refine goesL_ (some 8) rfl rfl Try.func7 (by kernel_rfl) rfl #[] rfl (by (try simp only [List.map_toArray,List.map_cons,List.map_nil]);first | done | rfl | (simp only [List.length_drop,List.length_take];rfl)) ?_;(with_reducible refine (thwartlaw15_awake.calls k  t107 _ A2.out).mono ?_);rintro e w6 ⟨rfl,hb⟩;refine ⟨_,rfl,?_⟩;have n0_:=Aside0.mk (below_step (by repeat (first | (with_reducible first | exact HB.out | apply below_alloc | apply pw_below_drewN | apply below_drew1) | exact HB.out)) hb);clear HB;have HB:=n0_;clear n0_;(try clear hb);(try clear hb2);(try clear hk);(try clear hi)) | ((with_reducible refine gate_callee (f:=8) rfl ?_);refine goesL_ (some 14) rfl rfl Try.func8 (by kernel_rfl) rfl #[.slice A0 l0.length c0] rfl (by (try simp only [List.map_toArray,List.map_cons,List.map_nil]);first | done | rfl | (simp only [List.length_drop,List.length_take];rfl)) ?_;(with_reducible refine (merge_Batches.calls _ _ l0 t108 _ ?side1 ?side2 A5.out).mono ?_);(case side1 => repeat (first | exact (Kd.C_below HR0.out HB.out) | (with_reducible refine Kd.C_alloc ?_ _) | (with_reducible refine Kd.C_drewN ?_ _) | (with_reducible refine Kd.C_drew ?_)));(case side2 => exact HC0.out);rintro e w7 ⟨v109,rfl,ho0,hb⟩;refine ⟨_,rfl,?_⟩;have n0_:=Aside0.mk (Kd.S_lower ho0 (below_size (by repeat (first | (with_reducible first | exact HB.out | apply below_alloc | apply pw_below_drewN | apply below_drew1) | exact HB.out))));have n1_:=Aside0.mk (below_step (by repeat (first | (with_reducible first | exact HB.out | apply below_alloc | apply pw_below_drewN | apply below_drew1) | exact HB.out)) hb);clear HB;have HO110:=n0_;have HB:=n1_;clear n0_ n1_;(try clear hb);(try clear hb2);(try clear hk);(try clear hi);(try clear ho0)))
  go_loopg [5,6] k (fun kq v5 v6 w' => ∃ (x5_1 : List (S36)) (x6_1 : Int),v6 = .int .i64 x6_1 ∧ Aside0 (thwartlaw15_MergeBatches.l0 kq l0 t107 t108 x5_1 x6_1 = some r) ∧ Aside0 (kq ≤ k) ∧ Aside0 (Kd.S (Kd.slice 36 k36) 22 w' w.heap.size (fun k_ => some k_ ≠ (v5 : Value).ownBlock) v109 t108) ∧ Aside0 (Kd.R k36 36 w' w.heap.size (fun _ => True) v5 x5_1) ∧ Aside0 (Below w.heap.size w w'))
  case atStart => exact ⟨(([] : List (S36))),(0),(by first | rfl | (simp;done) | (simp [*];done)),H',⟨Nat.le_refl _⟩,⟨by (with_reducible repeat (first | apply Kd.S_alloc | apply Kd.S_drewN | apply Kd.S_drew));exact Kd.S_mono HO110.out (fun _ hk => (by simp [Value.ownBlock]))⟩,⟨by first | exact Kd.R_nil _ _ _ _ _ | exact Kd.N_nil _ _ _ _ _ | exact Kd.V_nil _ _ _ _ _ | exact Kd.Q_nil _ _ _ _ _ | exact Kd.S_nil _ _ _ _ _⟩,⟨by repeat (first | (with_reducible first | exact HB.out | apply below_alloc | apply pw_below_drewN | apply below_drew1) | exact HB.out)⟩⟩
  case round =>
   clear H'
   try clear p2
   try clear c3
   try clear c3b0
   try clear c3b1
   try clear c7
   obtain ⟨x5_1,x6_1,rfl,HA,HK1,HO_4,HO_5,HB⟩:=hrel
   cases gk with
   | zero => exact absurd HA.out (by simp [thwartlaw15_MergeBatches.l0])
   | succ k1 =>
    have H:=HA.out
    clear HA
    simp only [thwartlaw15_MergeBatches.l0] at H
    by_cases c8 : x6_1 < (t108.length : Int)
    ·rw [if_pos c8] at H
     have c8b0 : decide (x6_1 < (t108.length : Int)) = true:=decide_eq_true c8
     clear c8
     by_cases c9 : 0 ≤ x6_1
     ·rw [if_pos c9] at H
      have c9b0 : decide (0 ≤ x6_1) = true:=decide_eq_true c9
      clear c9
      by_cases c10 : ((rd_L4 t108 x6_1).length : Int) < 1
      ·rw [if_pos c10] at H
       exact absurd H (by simp)
      ·rw [if_neg c10] at H
       have c10b0 : decide (((rd_L4 t108 x6_1).length : Int) < 1) = false:=decide_eq_false c10
       have c10b1 : decide ((rd_L4 t108 x6_1).length < 1) = false:=decide_eq_false (by omega)
       clear c10
       by_cases c11 : ((rd_L4 t108 x6_1).length : Int) > 16
       ·rw [if_pos c11] at H
        exact absurd H (by simp)
       ·rw [if_neg c11] at H
        have c11b0 : decide (16 < ((rd_L4 t108 x6_1).length : Int)) = false:=decide_eq_false c11
        have c11b1 : decide (16 < (rd_L4 t108 x6_1).length) = false:=decide_eq_false (by omega)
        clear c11
        by_cases c12 : x5_1.length + (rd_L4 t108 x6_1).length < 2932031007402
        ·rw [if_pos c12] at H
         have LMc12:=Aside0.mk c12
         clear c12
         obtain ⟨y114,hy114⟩ : ∃ y_ : List (S36),y_ = (x5_1 ++ (rd_L4 t108 x6_1)):=⟨_,rfl⟩
         replace H : (thwartlaw15_MergeBatches.l0 k1 l0 t107 t108 y114 (wrap64 (x6_1 + 1))) = some r:=by first | (rw [hy114];with_reducible exact H) | (have H2_:=(Option.bind_some _ _).symm.trans H;rw [hy114];with_reducible exact H2_) | (have H2_:=(Option.bind_some _ _).symm.trans H;with_reducible exact H2_) | with_reducible exact H | (rw [hy114];exact H) | exact H
         have Ny114:=Aside0.mk hy114
         clear hy114
         have H' := Aside0.mk H
         clear H
         obtain ⟨Ao13,co13,eo13⟩:=Kd.S_slice HO_4.out
         subst eo13
         have p111 : 0 ≤ (x6_1 : Int):=of_decide_eq_true (by first | (with_reducible assumption) | assumption)
         have q111 : x6_1 < (t108.length : Int):=of_decide_eq_true (by first | (with_reducible assumption) | assumption)
         obtain ⟨ad111,A111_0,c111_0,e111,hx111_0,hl111_0,hi111_0⟩:=at_L4 (Kd.S_reads' HO_4.out).2.2 x6_1 p111 q111
         cases e111
         obtain ⟨ce111,hce111,hMe111,hcc111⟩:=Kd.S_get HO_4.out [] x6_1 p111 (by first | exact q111 | exact of_decide_eq_true (by first | (with_reducible assumption) | assumption) | (have e_:=(Kd.S_reads' HO_4.out).1;omega))
         obtain ⟨ve111_0,rfl,ge111_0⟩:=hMe111
         have hv111_0:=hcc111 0 _ rfl
         rw [Nat.add_zero,show ((Kd.slice 36 k36)).sz = 1 from rfl,Nat.mul_one] at hv111_0
         replace hv111_0:=Option.some.inj (hv111_0.symm.trans hx111_0)
         rw [hv111_0] at ge111_0
         have HL111_0:=Aside0.mk (show Kd.R k36 36 _ _ _ _ (rd_L4 t108 x6_1) from ge111_0)
         clear hv111_0 ge111_0
         clear hcc111 hce111
         have HR111_0:=Aside0.mk hi111_0
         have HC111_0:=Aside0.mk hl111_0
         clear hi111_0 hl111_0
         replace p111:=eq_true p111
         replace q111:=eq_true q111
         have p112 : 0 ≤ (x6_1 : Int):=of_decide_eq_true (by first | (with_reducible assumption) | assumption)
         have q112 : x6_1 < (t108.length : Int):=of_decide_eq_true (by first | (with_reducible assumption) | assumption)
         obtain ⟨ad112,A112_0,c112_0,e112,hx112_0,hl112_0,hi112_0⟩:=at_L4 (Kd.S_reads' HO_4.out).2.2 x6_1 p112 q112
         obtain rfl : ad111 = ad112:=(by injection e112)
         obtain ⟨ce112,hce112,hMe112,hcc112⟩:=Kd.S_get HO_4.out [] x6_1 p112 (by first | exact q112 | exact of_decide_eq_true (by first | (with_reducible assumption) | assumption) | (have e_:=(Kd.S_reads' HO_4.out).1;omega))
         obtain ⟨ve112_0,rfl,ge112_0⟩:=hMe112
         have hv112_0:=hcc112 0 _ rfl
         rw [Nat.add_zero,show ((Kd.slice 36 k36)).sz = 1 from rfl,Nat.mul_one] at hv112_0
         replace hv112_0:=Option.some.inj (hv112_0.symm.trans hx112_0)
         rw [hv112_0] at ge112_0
         have HL112_0:=Aside0.mk (show Kd.R k36 36 _ _ _ _ (rd_L4 t108 x6_1) from ge112_0)
         clear hv112_0 ge112_0
         clear hcc112 hce112
         have HR112_0:=Aside0.mk hi112_0
         have HC112_0:=Aside0.mk hl112_0
         clear hi112_0 hl112_0
         replace p112:=eq_true p112
         replace q112:=eq_true q112
         have ea_:=Option.some.inj (hx111_0.symm.trans hx112_0)
         injection ea_ with ea_ en_ ec_
         subst ea_
         subst ec_
         clear en_
         have p113 : 0 ≤ (x6_1 : Int):=of_decide_eq_true (by first | (with_reducible assumption) | assumption)
         have q113 : x6_1 < (t108.length : Int):=of_decide_eq_true (by first | (with_reducible assumption) | assumption)
         obtain ⟨ad113,A113_0,c113_0,e113,hx113_0,hl113_0,hi113_0⟩:=at_L4 (Kd.S_reads' HO_4.out).2.2 x6_1 p113 q113
         obtain rfl : ad111 = ad113:=(by injection e113)
         obtain ⟨ce113,hce113,hMe113,hcc113⟩:=Kd.S_get HO_4.out [] x6_1 p113 (by first | exact q113 | exact of_decide_eq_true (by first | (with_reducible assumption) | assumption) | (have e_:=(Kd.S_reads' HO_4.out).1;omega))
         obtain ⟨ve113_0,rfl,ge113_0⟩:=hMe113
         have hv113_0:=hcc113 0 _ rfl
         rw [Nat.add_zero,show ((Kd.slice 36 k36)).sz = 1 from rfl,Nat.mul_one] at hv113_0
         replace hv113_0:=Option.some.inj (hv113_0.symm.trans hx113_0)
         rw [hv113_0] at ge113_0
         have HL113_0:=Aside0.mk (show Kd.R k36 36 _ _ _ _ (rd_L4 t108 x6_1) from ge113_0)
         clear hv113_0 ge113_0
         clear hcc113 hce113
         have HR113_0:=Aside0.mk hi113_0
         have HC113_0:=Aside0.mk hl113_0
         clear hi113_0 hl113_0
         replace p113:=eq_true p113
         replace q113:=eq_true q113
         have ea_:=Option.some.inj (hx111_0.symm.trans hx113_0)
         injection ea_ with ea_ en_ ec_
         subst ea_
         subst ec_
         clear en_
         go_wp2_with (first | ((with_reducible refine gate_builtin (b := .append) (xs := #[.tmp 35,.tmp 39]) rfl ?_);(try (refine gate_guard (by rfl) ?_;dsimp only));at_builtin;refine Kd.R_append_rows k36 (w0:=w) w.heap.size rfl (.tmp 35) (.tmp 39) 22 36 (.agg #[(.int .u64 0),(.string ⟨#[]⟩),(.string ⟨#[]⟩),(.bool false)]) 48 rfl Try.underlying22 info36 rfl (by decide) (by omega) u5 x5_1 (rd_L4 t108 x6_1) _ _ _ (fun _ => True) (fun _ => False) rfl rfl ?aO ?aR (fun _ _ h => h) (fun _ h => h.elim) ?aF ?aB ?aS ?aL ?_;(case aR => repeat (first | exact (by repeat (first | (with_reducible exact HR113_0.out) | (with_reducible refine Kd.C_alloc ?_ _) | (with_reducible refine Kd.C_drewN ?_ _) | (with_reducible refine Kd.C_drew ?_) | exact HR113_0.out)) | (with_reducible refine Kd.C_alloc ?_ _) | (with_reducible refine Kd.C_drewN ?_ _) | (with_reducible refine Kd.C_drew ?_)));(case aB => exact (by repeat (first | (with_reducible first | exact HB.out | apply below_alloc | apply pw_below_drewN | apply below_drew1) | exact HB.out)));(case aF => exact (fun _ _ => trivial));(case aO => exact (by (with_reducible repeat (first | apply Kd.R_alloc | apply Kd.R_drewN | apply Kd.R_drew));exact HO_5.out));(case aS => exact (below_size (by repeat (first | (with_reducible first | exact HB.out | apply below_alloc | apply pw_below_drewN | apply below_drew1) | exact HB.out))));(case aL => have:=LMc12.out;omega);intro v115 w14 ho hb hg hat;rw [← Ny114.out] at ho;have n0_:=Aside0.mk (Kd.S_after (ok:=(fun _ => True)) (by (with_reducible repeat (first | apply Kd.S_alloc | apply Kd.S_drewN | apply Kd.S_drew));exact Kd.S_mono HO_4.out (fun _ hk => ⟨trivial,hk⟩)) hg hat);have n1_:=Aside0.mk (Kd.R_after (ok:=(fun k_ => some k_ ≠ (.slice (some ad111) t108.length co13 : Value).ownBlock)) (by (with_reducible repeat (first | apply Kd.R_alloc | apply Kd.R_drewN | apply Kd.R_drew));exact Kd.R_mono HL111_0.out (fun _ hk => ⟨hk.2,hk.1⟩)) hg hat);have n2_:=Aside0.mk (Kd.R_after (ok:=(fun k_ => some k_ ≠ (.slice (some ad111) t108.length co13 : Value).ownBlock)) (by (with_reducible repeat (first | apply Kd.R_alloc | apply Kd.R_drewN | apply Kd.R_drew));exact Kd.R_mono HL112_0.out (fun _ hk => ⟨hk.2,hk.1⟩)) hg hat);have n3_:=Aside0.mk (Kd.R_after (ok:=(fun k_ => some k_ ≠ (.slice (some ad111) t108.length co13 : Value).ownBlock)) (by (with_reducible repeat (first | apply Kd.R_alloc | apply Kd.R_drewN | apply Kd.R_drew));exact Kd.R_mono HL113_0.out (fun _ hk => ⟨hk.2,hk.1⟩)) hg hat);have n4_:=Aside0.mk (hb);have n5_:=Aside0.mk (ho);clear HO_4;clear HL111_0;clear HL112_0;clear HL113_0;clear HB;clear HO_5;have HO_4:=n0_;have HL111_0:=n1_;have HL112_0:=n2_;have HL113_0:=n3_;have HB:=n4_;have HO116:=n5_;clear n0_ n1_ n2_ n3_ n4_ n5_;clear ho hb hg hat))
         go_roundg k1
         case measure => have:=HK1.out;omega
         case rel => exact ⟨(y114),(wrap64 (x6_1 + 1)),(by first | rfl | (simp;done) | (simp [*];done)),H',⟨by have:=HK1.out;omega⟩,⟨by (with_reducible repeat (first | apply Kd.S_alloc | apply Kd.S_drewN | apply Kd.S_drew));exact Kd.S_mono HO_4.out (fun _ hk => hk.2)⟩,⟨by (with_reducible repeat (first | apply Kd.R_alloc | apply Kd.R_drewN | apply Kd.R_drew));exact HO116.out⟩,⟨by repeat (first | (with_reducible first | exact HB.out | apply below_alloc | apply pw_below_drewN | apply below_drew1) | exact HB.out)⟩⟩
        ·rw [if_neg c12] at H
         exact absurd H (by simp)
     ·rw [if_neg c9] at H
      exact absurd H (by simp)
    ·rw [if_neg c8] at H
     have c8b0 : decide (x6_1 < (t108.length : Int)) = false:=decide_eq_false c8
     clear c8
     replace H:=Option.bind_eq_some_iff.mp H
     obtain ⟨t117,A150,H⟩:=H
     replace H : (if t107 = true then (if t117 = true then (some ((t108.length : Int) == (wrap64 (Int.tdiv (wrap64 ((l0.length : Int) + 15)) 16)))) else (none)) else (none)) = some r:=H
     have A15:=Aside0.mk A150
     clear A150
     by_cases c16 : t107 = true
     ·subst c16
      have H1 : (if t117 = true then (some ((t108.length : Int) == (wrap64 (Int.tdiv (wrap64 ((l0.length : Int) + 15)) 16)))) else (none)) = some r:=by rw [if_pos rfl] at H;exact H
      clear H
      have H:=H1
      clear H1
      by_cases c17 : t117 = true
      ·subst c17
       have H1 : (some ((t108.length : Int) == (wrap64 (Int.tdiv (wrap64 ((l0.length : Int) + 15)) 16)))) = some r:=by rw [if_pos rfl] at H;exact H
       clear H
       have H:=H1
       clear H1
       obtain rfl:=Option.some.inj H
       obtain ⟨Ao18,co18,eo18⟩:=Kd.S_slice HO_4.out
       subst eo18
       obtain ⟨Ao19,co19,eo19⟩:=Kd.R_slice HO_5.out
       subst eo19
       go_wp2_with (first | ((with_reducible refine gate_callee (f:=9) rfl ?_);refine goesL_ (some 43) rfl rfl Try.func9 (by kernel_rfl) rfl #[.slice Ao19 x5_1.length co19,.slice A0 l0.length c0] rfl (by (try simp only [List.map_toArray,List.map_cons,List.map_nil]);first | done | rfl | (simp only [List.length_drop,List.length_take];rfl)) ?_;(with_reducible refine (thwartref03_Same.calls k1 _ _ x5_1 _ _ l0 true _ ?side1 ?side2 ?side3 ?side4 A15.out).mono ?_);(case side1 => repeat (first | exact (Kd.R_reads' HO_5.out).2.2 | (with_reducible refine Kd.C_alloc ?_ _) | (with_reducible refine Kd.C_drewN ?_ _) | (with_reducible refine Kd.C_drew ?_)));(case side2 => exact (Kd.R_reads' HO_5.out).2.1);(case side3 => repeat (first | exact (Kd.C_below HR0.out HB.out) | (with_reducible refine Kd.C_alloc ?_ _) | (with_reducible refine Kd.C_drewN ?_ _) | (with_reducible refine Kd.C_drew ?_)));(case side4 => exact HC0.out);rintro e w' ⟨rfl,⟨nd,rfl⟩⟩;refine ⟨_,rfl,?_⟩))
       go_ret
       exact ⟨by first | rfl | (simp [errW_none,errW_some] <;> rfl) | (simp [*,errW_none,errW_some] <;> rfl) | (simp [errW_none,errW_some];exact isEmpty_bne _),by repeat (first | (with_reducible first | exact HB.out | apply below_alloc | apply pw_below_drewN | apply below_drew1) | exact HB.out)⟩
      ·replace c17:=Bool.eq_false_iff.mpr c17
       subst c17
       have H1 : (none) = some r:=by rw [if_neg (show ¬ (false = true) by decide)] at H;exact H
       clear H
       have H:=H1
       clear H1
       exact absurd H (by simp)
     ·replace c16:=Bool.eq_false_iff.mpr c16
      subst c16
      have H1 : (none) = some r:=by rw [if_neg (show ¬ (false = true) by decide)] at H;exact H
      clear H
      have H:=H1
      clear H1
      exact absurd H (by simp)

/-- THE ONE PURE STATEMENT of thwartlaw15_MergeBatches: yours. -/
def thwartlaw15_MergeBatches.Pure : Prop := ∀ (l0 : List (S36)),l0.length * 48 ≤ 140737488351232 → (l0.length ≤ 9223372036854775807 ∧ ∀ e118 ∈ l0,((Lit.int .u64 e118.f0).wf = true ∧ e118.f1.size ≤ 9223372036854775807 ∧ e118.f2.size ≤ 9223372036854775807 ∧ True)) → ∃ k,thwartlaw15_MergeBatches.f k l0 = some true
theorem thwartlaw15_MergeBatches.walk (P : thwartlaw15_MergeBatches.Pure) (A0 : Option Addr) (n0 c0 : Nat) (l0 : List (S36)) (w : World) (K0 : (Kd.slice 36 k36).K w l0 [.slice A0 n0 c0]) (y0 : n0 * 48 ≤ 140737488351232) (G0 : (l0.length ≤ 9223372036854775807 ∧ ∀ e118 ∈ l0,((Lit.int .u64 e118.f0).wf = true ∧ e118.f1.size ≤ 9223372036854775807 ∧ e118.f2.size ≤ 9223372036854775807 ∧ True))) :
  Calls Try.prog 3 #[.slice A0 n0 c0] w fun e w' => e = .returned (.bool true) ∧ Below w.heap.size w w' := by
 obtain ⟨A0_,c0_,e0,hc0,hr0⟩:=K0
 simp only [List.cons.injEq,Value.slice.injEq,and_true] at e0
 obtain ⟨rfl,rfl,rfl⟩:=e0
 obtain ⟨k,h⟩:=P l0 y0 G0
 refine (thwartlaw15_MergeBatches.calls k _ _ l0 true w hr0 hc0 h).mono ?_
 rintro e w' ⟨rfl,hd⟩
 exact ⟨rfl,hd⟩

end Go.Proofs.Ytlfhnpecfkhcpaa.Print
