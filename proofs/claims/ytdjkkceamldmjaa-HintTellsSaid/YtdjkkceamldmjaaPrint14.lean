/- Written by a program of mine (give.py, over the kit's print) out of the translation: contracts of the Go functions. Lean checks it. -/
import Derived.Test.YtdjkkceamldmjaaPrint0
import Derived.Test.YtdjkkceamldmjaaPrint12
import Derived.Test.YtdjkkceamldmjaaPrint13
namespace Go.Proofs.Ytdjkkceamldmjaa.Print
open Go.RowKit Go.Proofs.YtdjkkceamldmjaaW.PrintWords Go.Proofs.YtdjkkceamldmjaaW.PrintLast Go.Proofs.YtdjkkceamldmjaaW.PrintMore
attribute [local go_sem] max2_int min2_int max_two min_two max_three min_three max_four min_four   -- for this text's walks alone
set_option linter.unusedVariables false
set_option linter.unusedSimpArgs false

/-! ### thwartref05_Of: function 16 -/
mutual
def thwartref05_Of.l0 : Nat → List (S49) → List (List (S45)) → Int → Int → Int → Option ((List (S49)) × Int)
 | 0,_,_,_,_,_ => none
 | k + 1,x4,x5,x6,x7,x8 => if x8 < (x5.length : Int) then (if 0 ≤ x8 then ((thwartref04_Bytes.f k (rd_L10 x5 x8)).bind fun bt295 => ((thwartref03_All.f k (rd_L10 x5 x8)).bind fun bt298 => (thwartref05_Of.l1 k x4 x5 x6 x7 x8 bt295.1 (wrap64 ((wrap64 (x7 + (bt295.1.size : Int))) - (bt298.1.size : Int))) 0))) else (none)) else (some (x4,x6))
def thwartref05_Of.l1 : Nat → List (S49) → List (List (S45)) → Int → Int → Int → ByteArray → Int → Int → Option ((List (S49)) × Int)
 | 0,_,_,_,_,_,_,_,_ => none
 | k + 1,x4,x5,x6,x7,x8,x9,x13,x14 => if 0 ≤ x8 then (if x8 < (x5.length : Int) then (if x14 < ((rd_L10 x5 x8).length : Int) then (if 0 ≤ x14 then ((thwartref03_Bytes.f k ((rd_T45 (rd_L10 x5 x8) x14).f0) ((rd_T45 (rd_L10 x5 x8) x14).f1) ((rd_T45 (rd_L10 x5 x8) x14).f2) ((rd_T45 (rd_L10 x5 x8) x14).f3)).bind fun bt303 => (if x4.length < 2932031007402 then (thwartref05_Of.l1 k (x4 ++ [(⟨(rd_T45 (rd_L10 x5 x8) x14).f1,x13,(bt303.1.size : Int),(rd_T45 (rd_L10 x5 x8) x14).f0,(rd_T45 (rd_L10 x5 x8) x14).f3⟩ : S49)]) x5 x6 x7 x8 x9 (wrap64 (x13 + (bt303.1.size : Int))) (wrap64 (x14 + 1))) else (none))) else (none)) else (thwartref05_Of.l0 k x4 x5 x6 (wrap64 (x7 + (x9.size : Int))) (wrap64 (x8 + 1)))) else (none)) else (none)
end
def thwartref05_Of.f (k : Nat) (a0 : ByteArray) : Option ((List (S49)) × Int):=(thwartref04_Scan.f k a0).bind fun bt290 => (thwartref05_Of.l0 k ([] : List (S49)) bt290.1 bt290.2 0 0)
theorem thwartref05_Of.mono_l : ∀ k,(∀ y0 y1 y2 y3 y4,LeO (thwartref05_Of.l0 k y0 y1 y2 y3 y4) (thwartref05_Of.l0 (k + 1) y0 y1 y2 y3 y4)) ∧ (∀ y0 y1 y2 y3 y4 y5 y6 y7,LeO (thwartref05_Of.l1 k y0 y1 y2 y3 y4 y5 y6 y7) (thwartref05_Of.l1 (k + 1) y0 y1 y2 y3 y4 y5 y6 y7))
 | 0 => ⟨fun _ _ _ _ _ r h => by simp [thwartref05_Of.l0] at h,fun _ _ _ _ _ _ _ _ r h => by simp [thwartref05_Of.l1] at h⟩
 | k + 1 => by
  obtain ⟨ih0,ih1⟩:=thwartref05_Of.mono_l k
  refine ⟨?_,?_⟩
  ·intro y0 y1 y2 y3 y4
   unfold thwartref05_Of.l0
   repeat' first
   | (with_reducible exact ih0 _ _ _ _ _)
   | (with_reducible exact ih1 _ _ _ _ _ _ _ _)
   | (with_reducible exact thwartref03_All.mono _ _)
   | (with_reducible exact thwartref03_Bytes.mono _ _ _ _ _)
   | (with_reducible exact thwartref04_Bytes.mono _ _)
   | (with_reducible exact thwartref04_Scan.mono _ _)
   | (with_reducible exact LeO.refl _)
   | (with_reducible exact LeO.none _)
   | (with_reducible refine LeO.ite ?_ ?_)
   | (with_reducible refine LeO.bind ?_ (fun _ => ?_))
   | exact ih0 _ _ _ _ _
   | exact ih1 _ _ _ _ _ _ _ _
   | exact thwartref03_All.mono _ _
   | exact thwartref03_Bytes.mono _ _ _ _ _
   | exact thwartref04_Bytes.mono _ _
   | exact thwartref04_Scan.mono _ _
   | exact LeO.none _
   | refine LeO.ite ?_ ?_
   | refine LeO.bind ?_ (fun _ => ?_)
  ·intro y0 y1 y2 y3 y4 y5 y6 y7
   unfold thwartref05_Of.l1
   repeat' first
   | (with_reducible exact ih0 _ _ _ _ _)
   | (with_reducible exact ih1 _ _ _ _ _ _ _ _)
   | (with_reducible exact thwartref03_All.mono _ _)
   | (with_reducible exact thwartref03_Bytes.mono _ _ _ _ _)
   | (with_reducible exact thwartref04_Bytes.mono _ _)
   | (with_reducible exact thwartref04_Scan.mono _ _)
   | (with_reducible exact LeO.refl _)
   | (with_reducible exact LeO.none _)
   | (with_reducible refine LeO.ite ?_ ?_)
   | (with_reducible refine LeO.bind ?_ (fun _ => ?_))
   | exact ih0 _ _ _ _ _
   | exact ih1 _ _ _ _ _ _ _ _
   | exact thwartref03_All.mono _ _
   | exact thwartref03_Bytes.mono _ _ _ _ _
   | exact thwartref04_Bytes.mono _ _
   | exact thwartref04_Scan.mono _ _
   | exact LeO.none _
   | refine LeO.ite ?_ ?_
   | refine LeO.bind ?_ (fun _ => ?_)
theorem thwartref05_Of.mono : ∀ a0 k,LeO (thwartref05_Of.f k a0) (thwartref05_Of.f (k + 1) a0):=by
 intro a0 k
 obtain ⟨ih0,ih1⟩:=thwartref05_Of.mono_l k
 unfold thwartref05_Of.f
 repeat' first
   | (with_reducible exact ih0 _ _ _ _ _)
   | (with_reducible exact ih1 _ _ _ _ _ _ _ _)
   | (with_reducible exact thwartref03_All.mono _ _)
   | (with_reducible exact thwartref03_Bytes.mono _ _ _ _ _)
   | (with_reducible exact thwartref04_Bytes.mono _ _)
   | (with_reducible exact thwartref04_Scan.mono _ _)
   | (with_reducible exact LeO.refl _)
   | (with_reducible exact LeO.none _)
   | (with_reducible refine LeO.ite ?_ ?_)
   | (with_reducible refine LeO.bind ?_ (fun _ => ?_))
   | exact ih0 _ _ _ _ _
   | exact ih1 _ _ _ _ _ _ _ _
   | exact thwartref03_All.mono _ _
   | exact thwartref03_Bytes.mono _ _ _ _ _
   | exact thwartref04_Bytes.mono _ _
   | exact thwartref04_Scan.mono _ _
   | exact LeO.none _
   | refine LeO.ite ?_ ?_
   | refine LeO.bind ?_ (fun _ => ?_)
def thwartref05_Of.T14 : Bool × List (List Nat × List Nat):=(true,[([],[]),([],[]),([],[]),([1,2],[1,2]),([3],[3]),([],[]),([4,5],[4,5]),([6],[6]),([7],[7]),([],[]),([],[]),([10],[10]),([],[]),([],[]),([12,13],[12,13]),([14],[14]),([],[]),([15,16],[15,16]),([17],[17]),([18],[18]),([],[]),([],[]),([20,21],[20,21]),([22],[22]),([],[]),([23,24],[23,24]),([25],[25]),([26],[26]),([8,9,11,19,27],[8,9,11,19,27]),([28],[28]),([0,29],[0,29]),([30,30,0,1,2,3,4,5,6,7,8,9,10,11,12,13,14,15,16,17,18,19,20,21,22,23,24,25,26,27,28,29,30],[0,30])])
def thwartref05_Of.B14 : List Nat:=[0,0,0,6,14,0,62,126,254,0,0,1024,0,0,12288,28672,0,126976,258048,520192,0,0,3145728,7340032,0,32505856,66060288,133169152,268435454,536870910,1073741823,2147483647]
theorem thwartref05_Of.tab14 : rtab .any (opsOf Try.f16 14) = thwartref05_Of.T14:=by kernel_rfl
theorem thwartref05_Of.bits14 : waitsOk thwartref05_Of.T14.2 thwartref05_Of.B14 = true:=by kernel_rfl
set_option maxHeartbeats 8000000 in
set_option maxRecDepth 100000 in
theorem thwartref05_Of.calls (k : Nat) (a0 : ByteArray) (r1 : List (S49)) (r2 : Int) (w : World) (h : thwartref05_Of.f k a0 = some (r1,r2)) :
  Calls Try.prog 16 #[.string a0] w fun e w' => ∃ v0_ : Value,e = .returned (.tuple #[v0_,.int .i64 r2]) ∧ Kd.R k49 49 w' w.heap.size (fun _ => True) v0_ r1 ∧ Below w.heap.size w w' := by
 have hu45:=Try.underlying45
 have hu49:=Try.underlying49
 have HB:=Aside0.mk (Below.refl w.heap.size w)
 have H : ((thwartref04_Scan.f k a0).bind fun bt290 => (thwartref05_Of.l0 k ([] : List (S49)) bt290.1 bt290.2 0 0)) = some (r1,r2):=h
 clear h
 replace H:=Option.bind_eq_some_iff.mp H
 obtain ⟨⟨t290,t291⟩,A20,H⟩:=H
 replace H : (thwartref05_Of.l0 k ([] : List (S49)) t290 t291 0 0) = some (r1,r2):=H
 have A2:=Aside0.mk A20
 clear A20
 have H' := Aside0.mk H
 clear H
 go_enter Try.func16,Try.ntmps16
 go_wp2_with (first | ((with_reducible refine gate_callee (f:=40) rfl ?_);refine goesL_ (some 19) rfl rfl Try.func40 (by kernel_rfl) rfl #[.string a0] rfl (by (try simp only [List.map_toArray,List.map_cons,List.map_nil]);first | done | rfl | (simp only [List.length_drop,List.length_take];rfl)) ?_;(with_reducible refine (thwartref04_Scan.calls k a0 t290 t291 _ A2.out).mono ?_);rintro e w3 ⟨v292,rfl,ho0,hb⟩;refine ⟨_,rfl,?_⟩;have n0_:=Aside0.mk (Kd.S_lower ho0 (below_size (by repeat (first | (with_reducible first | exact HB.out | apply below_alloc | apply pw_below_drewN | apply below_drew1) | exact HB.out))));have n1_:=Aside0.mk (below_step (by repeat (first | (with_reducible first | exact HB.out | apply below_alloc | apply pw_below_drewN | apply below_drew1) | exact HB.out)) hb);clear HB;have HO293:=n0_;have HB:=n1_;clear n0_ n1_;(try clear hb);(try clear hb2);(try clear hk);(try clear hi);(try clear ho0)))
 go_loopg [4,7,8] k (fun kq v4 v7 v8 w' => ∃ (x4_1 : List (S49)) (x7_1 : Int) (x8_1 : Int),v7 = .int .i64 x7_1 ∧ v8 = .int .i64 x8_1 ∧ Aside0 (thwartref05_Of.l0 kq x4_1 t290 t291 x7_1 x8_1 = some (r1,r2)) ∧ Aside0 (kq ≤ k) ∧ Aside0 (Kd.R k49 49 w' w.heap.size (fun _ => True) v4 x4_1) ∧ Aside0 (Kd.S (Kd.slice 45 k45) 53 w' w.heap.size (fun _ => True) v292 t290) ∧ Aside0 (Below w.heap.size w w'))
 case atStart => exact ⟨(([] : List (S49))),(0),(0),(by first | rfl | (simp;done) | (simp [*];done)),(by first | rfl | (simp;done) | (simp [*];done)),H',⟨Nat.le_refl _⟩,⟨by first | exact Kd.R_nil _ _ _ _ _ | exact Kd.N_nil _ _ _ _ _ | exact Kd.V_nil _ _ _ _ _ | exact Kd.Q_nil _ _ _ _ _ | exact Kd.S_nil _ _ _ _ _⟩,⟨by (with_reducible repeat (first | apply Kd.S_alloc | apply Kd.S_drewN | apply Kd.S_drew));exact HO293.out⟩,⟨by repeat (first | (with_reducible first | exact HB.out | apply below_alloc | apply pw_below_drewN | apply below_drew1) | exact HB.out)⟩⟩
 case round =>
  clear H'
  try clear c1
  try clear p2
  obtain ⟨x4_1,x7_1,x8_1,rfl,rfl,HA,HK1,HO_4,HO_5,HB⟩:=hrel
  cases gk with
  | zero => exact absurd HA.out (by simp [thwartref05_Of.l0])
  | succ k1 =>
   have H:=HA.out
   clear HA
   simp only [thwartref05_Of.l0] at H
   by_cases c4 : x8_1 < (t290.length : Int)
   ·rw [if_pos c4] at H
    have c4b0 : decide (x8_1 < (t290.length : Int)) = true:=decide_eq_true c4
    clear c4
    by_cases c5 : 0 ≤ x8_1
    ·rw [if_pos c5] at H
     have c5b0 : decide (0 ≤ x8_1) = true:=decide_eq_true c5
     clear c5
     replace H:=Option.bind_eq_some_iff.mp H
     obtain ⟨⟨t295,t296⟩,A60,H⟩:=H
     replace H : ((thwartref03_All.f k1 (rd_L10 t290 x8_1)).bind fun bt298 => (thwartref05_Of.l1 k1 x4_1 t290 t291 x7_1 x8_1 t295 (wrap64 ((wrap64 (x7_1 + (t295.size : Int))) - (bt298.1.size : Int))) 0)) = some (r1,r2):=H
     have A6:=Aside0.mk A60
     clear A60
     replace H:=Option.bind_eq_some_iff.mp H
     obtain ⟨⟨t298,t299⟩,A70,H⟩:=H
     replace H : (thwartref05_Of.l1 k1 x4_1 t290 t291 x7_1 x8_1 t295 (wrap64 ((wrap64 (x7_1 + (t295.size : Int))) - (t298.size : Int))) 0) = some (r1,r2):=H
     have A7:=Aside0.mk A70
     clear A70
     have H' := Aside0.mk H
     clear H
     obtain ⟨Ao8,co8,eo8⟩:=Kd.S_slice HO_5.out
     subst eo8
     have p294 : 0 ≤ (x8_1 : Int):=of_decide_eq_true (by first | (with_reducible assumption) | assumption)
     have q294 : x8_1 < (t290.length : Int):=of_decide_eq_true (by first | (with_reducible assumption) | assumption)
     obtain ⟨ad294,A294_0,c294_0,e294,hx294_0,hl294_0,hi294_0⟩:=at_L10 (Kd.S_reads' HO_5.out).2.2 x8_1 p294 q294
     cases e294
     obtain ⟨ce294,hce294,hMe294,hcc294⟩:=Kd.S_get HO_5.out [] x8_1 p294 (by first | exact q294 | exact of_decide_eq_true (by first | (with_reducible assumption) | assumption) | (have e_:=(Kd.S_reads' HO_5.out).1;omega))
     obtain ⟨ve294_0,rfl,ge294_0⟩:=hMe294
     have hv294_0:=hcc294 0 _ rfl
     rw [Nat.add_zero,show ((Kd.slice 45 k45)).sz = 1 from rfl,Nat.mul_one] at hv294_0
     replace hv294_0:=Option.some.inj (hv294_0.symm.trans hx294_0)
     rw [hv294_0] at ge294_0
     have HL294_0:=Aside0.mk (show Kd.R k45 45 _ _ _ _ (rd_L10 t290 x8_1) from ge294_0)
     clear hv294_0 ge294_0
     clear hcc294 hce294
     have HR294_0:=Aside0.mk hi294_0
     have HC294_0:=Aside0.mk hl294_0
     clear hi294_0 hl294_0
     replace p294:=eq_true p294
     replace q294:=eq_true q294
     go_wp2_with (first | ((with_reducible refine gate_callee (f:=41) rfl ?_);refine goesL_ (some 33) rfl rfl Try.func41 (by kernel_rfl) rfl #[.slice A294_0 (rd_L10 t290 x8_1).length c294_0] rfl (by (try simp only [List.map_toArray,List.map_cons,List.map_nil]);first | done | rfl | (simp only [List.length_drop,List.length_take];rfl)) ?_;(with_reducible refine (thwartref04_Bytes.calls k1 _ _ (rd_L10 t290 x8_1) t295 t296 _ ?side1 ?side2 A6.out).mono ?_);(case side1 => repeat (first | exact (by repeat (first | (with_reducible exact HR294_0.out) | (with_reducible refine Kd.C_alloc ?_ _) | (with_reducible refine Kd.C_drewN ?_ _) | (with_reducible refine Kd.C_drew ?_) | exact HR294_0.out)) | (with_reducible refine Kd.C_alloc ?_ _) | (with_reducible refine Kd.C_drewN ?_ _) | (with_reducible refine Kd.C_drew ?_)));(case side2 => exact HC294_0.out);rintro e w9 ⟨rfl,hb⟩;refine ⟨_,rfl,?_⟩;have n0_:=Aside0.mk (Kd.R_below (by (with_reducible repeat (first | apply Kd.R_alloc | apply Kd.R_drewN | apply Kd.R_drew));exact HO_4.out) hb);have n1_:=Aside0.mk (Kd.S_below (by (with_reducible repeat (first | apply Kd.S_alloc | apply Kd.S_drewN | apply Kd.S_drew));exact HO_5.out) hb);have n2_:=Aside0.mk (Kd.R_below (by (with_reducible repeat (first | apply Kd.R_alloc | apply Kd.R_drewN | apply Kd.R_drew));exact HL294_0.out) hb);have n3_:=Aside0.mk (Kd.C_below (by repeat (first | (with_reducible exact HR294_0.out) | (with_reducible refine Kd.C_alloc ?_ _) | (with_reducible refine Kd.C_drewN ?_ _) | (with_reducible refine Kd.C_drew ?_) | exact HR294_0.out)) hb);have n4_:=Aside0.mk (below_step (by repeat (first | (with_reducible first | exact HB.out | apply below_alloc | apply pw_below_drewN | apply below_drew1) | exact HB.out)) hb);clear HO_4;clear HO_5;clear HL294_0;clear HR294_0;clear HB;have HO_4:=n0_;have HO_5:=n1_;have HL294_0:=n2_;have HR294_0:=n3_;have HB:=n4_;clear n0_ n1_ n2_ n3_ n4_;(try clear hb);(try clear hb2);(try clear hk);(try clear hi);have p297 : 0 ≤ (x8_1 : Int):=of_decide_eq_true (by first | (with_reducible assumption) | assumption);have q297 : x8_1 < (t290.length : Int):=of_decide_eq_true (by first | (with_reducible assumption) | assumption);obtain ⟨ad297,A297_0,c297_0,e297,hx297_0,hl297_0,hi297_0⟩:=at_L10 (Kd.S_reads' HO_5.out).2.2 x8_1 p297 q297;obtain rfl : ad294 = ad297:=(by injection e297);obtain ⟨ce297,hce297,hMe297,hcc297⟩:=Kd.S_get HO_5.out [] x8_1 p297 (by first | exact q297 | exact of_decide_eq_true (by first | (with_reducible assumption) | assumption) | (have e_:=(Kd.S_reads' HO_5.out).1;omega));obtain ⟨ve297_0,rfl,ge297_0⟩:=hMe297;have hv297_0:=hcc297 0 _ rfl;rw [Nat.add_zero,show ((Kd.slice 45 k45)).sz = 1 from rfl,Nat.mul_one] at hv297_0;replace hv297_0:=Option.some.inj (hv297_0.symm.trans hx297_0);rw [hv297_0] at ge297_0;have HL297_0:=Aside0.mk (show Kd.R k45 45 _ _ _ _ (rd_L10 t290 x8_1) from ge297_0);clear hv297_0 ge297_0;clear hcc297 hce297;have HR297_0:=Aside0.mk hi297_0;have HC297_0:=Aside0.mk hl297_0;clear hi297_0 hl297_0;replace p297:=eq_true p297;replace q297:=eq_true q297) | ((with_reducible refine gate_callee (f:=42) rfl ?_);refine goesL_ (some 41) rfl rfl Try.func42 (by kernel_rfl) rfl #[.slice A297_0 (rd_L10 t290 x8_1).length c297_0] rfl (by (try simp only [List.map_toArray,List.map_cons,List.map_nil]);first | done | rfl | (simp only [List.length_drop,List.length_take];rfl)) ?_;(with_reducible refine (thwartref03_All.calls k1 _ _ (rd_L10 t290 x8_1) t298 t299 _ ?side1 ?side2 A7.out).mono ?_);(case side1 => repeat (first | exact (by repeat (first | (with_reducible exact HR297_0.out) | (with_reducible refine Kd.C_alloc ?_ _) | (with_reducible refine Kd.C_drewN ?_ _) | (with_reducible refine Kd.C_drew ?_) | exact HR297_0.out)) | (with_reducible refine Kd.C_alloc ?_ _) | (with_reducible refine Kd.C_drewN ?_ _) | (with_reducible refine Kd.C_drew ?_)));(case side2 => exact HC297_0.out);rintro e w10 ⟨rfl,hb⟩;refine ⟨_,rfl,?_⟩;have n0_:=Aside0.mk (Kd.R_below (by (with_reducible repeat (first | apply Kd.R_alloc | apply Kd.R_drewN | apply Kd.R_drew));exact HO_4.out) hb);have n1_:=Aside0.mk (Kd.S_below (by (with_reducible repeat (first | apply Kd.S_alloc | apply Kd.S_drewN | apply Kd.S_drew));exact HO_5.out) hb);have n2_:=Aside0.mk (Kd.R_below (by (with_reducible repeat (first | apply Kd.R_alloc | apply Kd.R_drewN | apply Kd.R_drew));exact HL294_0.out) hb);have n3_:=Aside0.mk (Kd.R_below (by (with_reducible repeat (first | apply Kd.R_alloc | apply Kd.R_drewN | apply Kd.R_drew));exact HL297_0.out) hb);have n4_:=Aside0.mk (Kd.C_below (by repeat (first | (with_reducible exact HR294_0.out) | (with_reducible refine Kd.C_alloc ?_ _) | (with_reducible refine Kd.C_drewN ?_ _) | (with_reducible refine Kd.C_drew ?_) | exact HR294_0.out)) hb);have n5_:=Aside0.mk (Kd.C_below (by repeat (first | (with_reducible exact HR297_0.out) | (with_reducible refine Kd.C_alloc ?_ _) | (with_reducible refine Kd.C_drewN ?_ _) | (with_reducible refine Kd.C_drew ?_) | exact HR297_0.out)) hb);have n6_:=Aside0.mk (below_step (by repeat (first | (with_reducible first | exact HB.out | apply below_alloc | apply pw_below_drewN | apply below_drew1) | exact HB.out)) hb);clear HO_4;clear HO_5;clear HL294_0;clear HL297_0;clear HR294_0;clear HR297_0;clear HB;have HO_4:=n0_;have HO_5:=n1_;have HL294_0:=n2_;have HL297_0:=n3_;have HR294_0:=n4_;have HR297_0:=n5_;have HB:=n6_;clear n0_ n1_ n2_ n3_ n4_ n5_ n6_;(try clear hb);(try clear hb2);(try clear hk);(try clear hi)))
     go_loopg [4,13,14] k1 (fun kq v4 v13 v14 w' => ∃ (x4_2 : List (S49)) (x13_2 : Int) (x14_2 : Int),v13 = .int .i64 x13_2 ∧ v14 = .int .i64 x14_2 ∧ Aside0 (thwartref05_Of.l1 kq x4_2 t290 t291 x7_1 x8_1 t295 x13_2 x14_2 = some (r1,r2)) ∧ Aside0 (kq ≤ k1) ∧ Aside0 (Kd.R k49 49 w' w.heap.size (fun _ => True) v4 x4_2) ∧ Aside0 (Kd.S (Kd.slice 45 k45) 53 w' w.heap.size (fun _ => True) (.slice (some ad294) t290.length co8) t290) ∧ Aside0 (Below w.heap.size w w'))
     case atStart => exact ⟨(x4_1),(wrap64 ((wrap64 (x7_1 + (t295.size : Int))) - (t298.size : Int))),(0),(by first | rfl | (simp;done) | (simp [*];done)),(by first | rfl | (simp;done) | (simp [*];done)),H',⟨Nat.le_refl _⟩,⟨by (with_reducible repeat (first | apply Kd.R_alloc | apply Kd.R_drewN | apply Kd.R_drew));exact HO_4.out⟩,⟨by (with_reducible repeat (first | apply Kd.S_alloc | apply Kd.S_drewN | apply Kd.S_drew));exact HO_5.out⟩,⟨by repeat (first | (with_reducible first | exact HB.out | apply below_alloc | apply pw_below_drewN | apply below_drew1) | exact HB.out)⟩⟩
     case round =>
      clear H'
      try clear c1
      try clear c2
      try clear p2
      try clear q2
      try clear hx2
      try clear c4
      try clear c4b0
      try clear c5
      try clear c5b0
      try clear p6
      try clear hx294_0
      try clear hx297_0
      try clear p2
      try clear p294
      try clear p297
      try clear q294
      try clear q297
      obtain ⟨x4_2,x13_2,x14_2,rfl,rfl,HA,HK2,HO_4,HO_5,HB⟩:=hrel
      cases gk with
      | zero => exact absurd HA.out (by simp [thwartref05_Of.l1])
      | succ k2 =>
       have H:=HA.out
       clear HA
       simp only [thwartref05_Of.l1] at H
       by_cases c11 : 0 ≤ x8_1
       ·rw [if_pos c11] at H
        have c11b0 : decide (0 ≤ x8_1) = true:=decide_eq_true c11
        clear c11
        by_cases c12 : x8_1 < (t290.length : Int)
        ·rw [if_pos c12] at H
         have c12b0 : decide (x8_1 < (t290.length : Int)) = true:=decide_eq_true c12
         clear c12
         by_cases c13 : x14_2 < ((rd_L10 t290 x8_1).length : Int)
         ·rw [if_pos c13] at H
          have c13b0 : decide (x14_2 < ((rd_L10 t290 x8_1).length : Int)) = true:=decide_eq_true c13
          clear c13
          by_cases c14 : 0 ≤ x14_2
          ·rw [if_pos c14] at H
           have c14b0 : decide (0 ≤ x14_2) = true:=decide_eq_true c14
           clear c14
           replace H:=Option.bind_eq_some_iff.mp H
           obtain ⟨⟨t303,t304⟩,A150,H⟩:=H
           replace H : (if x4_2.length < 2932031007402 then (thwartref05_Of.l1 k2 (x4_2 ++ [(⟨(rd_T45 (rd_L10 t290 x8_1) x14_2).f1,x13_2,(t303.size : Int),(rd_T45 (rd_L10 t290 x8_1) x14_2).f0,(rd_T45 (rd_L10 t290 x8_1) x14_2).f3⟩ : S49)]) t290 t291 x7_1 x8_1 t295 (wrap64 (x13_2 + (t303.size : Int))) (wrap64 (x14_2 + 1))) else (none)) = some (r1,r2):=H
           have A15:=Aside0.mk A150
           clear A150
           by_cases c16 : x4_2.length < 2932031007402
           ·rw [if_pos c16] at H
            have LMc16:=Aside0.mk c16
            clear c16
            obtain ⟨y311,hy311⟩ : ∃ y_ : List (S49),y_ = (x4_2 ++ [(⟨(rd_T45 (rd_L10 t290 x8_1) x14_2).f1,x13_2,(t303.size : Int),(rd_T45 (rd_L10 t290 x8_1) x14_2).f0,(rd_T45 (rd_L10 t290 x8_1) x14_2).f3⟩ : S49)]):=⟨_,rfl⟩
            replace H : (thwartref05_Of.l1 k2 y311 t290 t291 x7_1 x8_1 t295 (wrap64 (x13_2 + (t303.size : Int))) (wrap64 (x14_2 + 1))) = some (r1,r2):=by first | (rw [hy311];with_reducible exact H) | (have H2_:=(Option.bind_some _ _).symm.trans H;rw [hy311];with_reducible exact H2_) | (have H2_:=(Option.bind_some _ _).symm.trans H;with_reducible exact H2_) | with_reducible exact H | (rw [hy311];exact H) | exact H
            have Ny311:=Aside0.mk hy311
            clear hy311
            have H' := Aside0.mk H
            clear H
            have p300 : 0 ≤ (x8_1 : Int):=of_decide_eq_true (by first | (with_reducible assumption) | assumption)
            have q300 : x8_1 < (t290.length : Int):=of_decide_eq_true (by first | (with_reducible assumption) | assumption)
            obtain ⟨ad300,A300_0,c300_0,e300,hx300_0,hl300_0,hi300_0⟩:=at_L10 (Kd.S_reads' HO_5.out).2.2 x8_1 p300 q300
            obtain rfl : ad294 = ad300:=(by injection e300)
            obtain ⟨ce300,hce300,hMe300,hcc300⟩:=Kd.S_get HO_5.out [] x8_1 p300 (by first | exact q300 | exact of_decide_eq_true (by first | (with_reducible assumption) | assumption) | (have e_:=(Kd.S_reads' HO_5.out).1;omega))
            obtain ⟨ve300_0,rfl,ge300_0⟩:=hMe300
            have hv300_0:=hcc300 0 _ rfl
            rw [Nat.add_zero,show ((Kd.slice 45 k45)).sz = 1 from rfl,Nat.mul_one] at hv300_0
            replace hv300_0:=Option.some.inj (hv300_0.symm.trans hx300_0)
            rw [hv300_0] at ge300_0
            have HL300_0:=Aside0.mk (show Kd.R k45 45 _ _ _ _ (rd_L10 t290 x8_1) from ge300_0)
            clear hv300_0 ge300_0
            clear hcc300 hce300
            have HR300_0:=Aside0.mk hi300_0
            have HC300_0:=Aside0.mk hl300_0
            clear hi300_0 hl300_0
            replace p300:=eq_true p300
            replace q300:=eq_true q300
            have p301 : 0 ≤ (x8_1 : Int):=of_decide_eq_true (by first | (with_reducible assumption) | assumption)
            have q301 : x8_1 < (t290.length : Int):=of_decide_eq_true (by first | (with_reducible assumption) | assumption)
            obtain ⟨ad301,A301_0,c301_0,e301,hx301_0,hl301_0,hi301_0⟩:=at_L10 (Kd.S_reads' HO_5.out).2.2 x8_1 p301 q301
            obtain rfl : ad294 = ad301:=(by injection e301)
            obtain ⟨ce301,hce301,hMe301,hcc301⟩:=Kd.S_get HO_5.out [] x8_1 p301 (by first | exact q301 | exact of_decide_eq_true (by first | (with_reducible assumption) | assumption) | (have e_:=(Kd.S_reads' HO_5.out).1;omega))
            obtain ⟨ve301_0,rfl,ge301_0⟩:=hMe301
            have hv301_0:=hcc301 0 _ rfl
            rw [Nat.add_zero,show ((Kd.slice 45 k45)).sz = 1 from rfl,Nat.mul_one] at hv301_0
            replace hv301_0:=Option.some.inj (hv301_0.symm.trans hx301_0)
            rw [hv301_0] at ge301_0
            have HL301_0:=Aside0.mk (show Kd.R k45 45 _ _ _ _ (rd_L10 t290 x8_1) from ge301_0)
            clear hv301_0 ge301_0
            clear hcc301 hce301
            have HR301_0:=Aside0.mk hi301_0
            have HC301_0:=Aside0.mk hl301_0
            clear hi301_0 hl301_0
            replace p301:=eq_true p301
            replace q301:=eq_true q301
            have ea_:=Option.some.inj (hx300_0.symm.trans hx301_0)
            injection ea_ with ea_ en_ ec_
            subst ea_
            subst ec_
            clear en_
            have p302 : 0 ≤ (x14_2 : Int):=of_decide_eq_true (by first | (with_reducible assumption) | assumption)
            have q302 : x14_2 < ((rd_L10 t290 x8_1).length : Int):=of_decide_eq_true (by first | (with_reducible assumption) | assumption)
            obtain ⟨ad302,e302,hx302_0,hx302_1,hx302_2,hx302_3⟩:=at_T45 (by repeat (first | (with_reducible exact HR301_0.out) | (with_reducible refine Kd.C_alloc ?_ _) | (with_reducible refine Kd.C_drewN ?_ _) | (with_reducible refine Kd.C_drew ?_) | exact HR301_0.out)) x14_2 p302 q302
            cases e302
            replace p302:=eq_true p302
            replace q302:=eq_true q302
            try go_wp2_with (first | ((with_reducible refine gate_callee (f:=43) rfl ?_);refine goesL_ (some 68) rfl rfl Try.func43 (by kernel_rfl) rfl #[.agg #[.int .u64 ((rd_T45 (rd_L10 t290 x8_1) x14_2).f0),.string ((rd_T45 (rd_L10 t290 x8_1) x14_2).f1),.string ((rd_T45 (rd_L10 t290 x8_1) x14_2).f2),.bool ((rd_T45 (rd_L10 t290 x8_1) x14_2).f3)]] rfl (by (try simp only [List.map_toArray,List.map_cons,List.map_nil]);first | done | rfl | (simp only [List.length_drop,List.length_take];rfl)) ?_;(with_reducible refine (thwartref03_Bytes.calls k2 ((rd_T45 (rd_L10 t290 x8_1) x14_2).f0) ((rd_T45 (rd_L10 t290 x8_1) x14_2).f1) ((rd_T45 (rd_L10 t290 x8_1) x14_2).f2) ((rd_T45 (rd_L10 t290 x8_1) x14_2).f3) t303 t304 _ A15.out).mono ?_);rintro e w17 ⟨rfl,hb⟩;refine ⟨_,rfl,?_⟩;have n0_:=Aside0.mk (Kd.R_below (by (with_reducible repeat (first | apply Kd.R_alloc | apply Kd.R_drewN | apply Kd.R_drew));exact HO_4.out) hb);have n1_:=Aside0.mk (Kd.S_below (by (with_reducible repeat (first | apply Kd.S_alloc | apply Kd.S_drewN | apply Kd.S_drew));exact HO_5.out) hb);have n2_:=Aside0.mk (Kd.R_below (by (with_reducible repeat (first | apply Kd.R_alloc | apply Kd.R_drewN | apply Kd.R_drew));exact HL300_0.out) hb);have n3_:=Aside0.mk (Kd.R_below (by (with_reducible repeat (first | apply Kd.R_alloc | apply Kd.R_drewN | apply Kd.R_drew));exact HL301_0.out) hb);have n4_:=Aside0.mk (Kd.C_below (by repeat (first | (with_reducible exact HR300_0.out) | (with_reducible refine Kd.C_alloc ?_ _) | (with_reducible refine Kd.C_drewN ?_ _) | (with_reducible refine Kd.C_drew ?_) | exact HR300_0.out)) hb);have n5_:=Aside0.mk (Kd.C_below (by repeat (first | (with_reducible exact HR301_0.out) | (with_reducible refine Kd.C_alloc ?_ _) | (with_reducible refine Kd.C_drewN ?_ _) | (with_reducible refine Kd.C_drew ?_) | exact HR301_0.out)) hb);have n6_:=Aside0.mk (below_step (by repeat (first | (with_reducible first | exact HB.out | apply below_alloc | apply pw_below_drewN | apply below_drew1) | exact HB.out)) hb);clear HO_4;clear HO_5;clear HL300_0;clear HL301_0;clear HR300_0;clear HR301_0;clear HB;have HO_4:=n0_;have HO_5:=n1_;have HL300_0:=n2_;have HL301_0:=n3_;have HR300_0:=n4_;have HR301_0:=n5_;have HB:=n6_;clear n0_ n1_ n2_ n3_ n4_ n5_ n6_;(try clear hb);(try clear hb2);(try clear hk);(try clear hi)))
            have n0_:=Aside0.mk (Kd.R_drew HO_4.out)
            have n1_:=Aside0.mk (Kd.S_drew HO_5.out)
            have n2_:=Aside0.mk (Kd.R_drew HL300_0.out)
            have n3_:=Aside0.mk (Kd.R_drew HL301_0.out)
            have n4_:=Aside0.mk (Kd.C_drew HR300_0.out)
            have n5_:=Aside0.mk (Kd.C_drew HR301_0.out)
            have n6_:=Aside0.mk (below_drew1 HB.out)
            clear HO_4
            clear HO_5
            clear HL300_0
            clear HL301_0
            clear HR300_0
            clear HR301_0
            clear HB
            have HO_4:=n0_
            have HO_5:=n1_
            have HL300_0:=n2_
            have HL301_0:=n3_
            have HR300_0:=n4_
            have HR301_0:=n5_
            have HB:=n6_
            clear n0_ n1_ n2_ n3_ n4_ n5_ n6_
            have p305 : 0 ≤ (x8_1 : Int):=of_decide_eq_true (by first | (with_reducible assumption) | assumption)
            have q305 : x8_1 < (t290.length : Int):=of_decide_eq_true (by first | (with_reducible assumption) | assumption)
            obtain ⟨ad305,A305_0,c305_0,e305,hx305_0,hl305_0,hi305_0⟩:=at_L10 (Kd.S_reads' HO_5.out).2.2 x8_1 p305 q305
            obtain rfl : ad294 = ad305:=(by injection e305)
            obtain ⟨ce305,hce305,hMe305,hcc305⟩:=Kd.S_get HO_5.out [] x8_1 p305 (by first | exact q305 | exact of_decide_eq_true (by first | (with_reducible assumption) | assumption) | (have e_:=(Kd.S_reads' HO_5.out).1;omega))
            obtain ⟨ve305_0,rfl,ge305_0⟩:=hMe305
            have hv305_0:=hcc305 0 _ rfl
            rw [Nat.add_zero,show ((Kd.slice 45 k45)).sz = 1 from rfl,Nat.mul_one] at hv305_0
            replace hv305_0:=Option.some.inj (hv305_0.symm.trans hx305_0)
            rw [hv305_0] at ge305_0
            have HL305_0:=Aside0.mk (show Kd.R k45 45 _ _ _ _ (rd_L10 t290 x8_1) from ge305_0)
            clear hv305_0 ge305_0
            clear hcc305 hce305
            have HR305_0:=Aside0.mk hi305_0
            have HC305_0:=Aside0.mk hl305_0
            clear hi305_0 hl305_0
            replace p305:=eq_true p305
            replace q305:=eq_true q305
            have p306 : 0 ≤ (x14_2 : Int):=of_decide_eq_true (by first | (with_reducible assumption) | assumption)
            have q306 : x14_2 < ((rd_L10 t290 x8_1).length : Int):=of_decide_eq_true (by first | (with_reducible assumption) | assumption)
            obtain ⟨ad306,e306,hx306_0,hx306_1,hx306_2,hx306_3⟩:=at_T45 (by repeat (first | (with_reducible exact HR305_0.out) | (with_reducible refine Kd.C_alloc ?_ _) | (with_reducible refine Kd.C_drewN ?_ _) | (with_reducible refine Kd.C_drew ?_) | exact HR305_0.out)) x14_2 p306 q306
            cases e306
            replace p306:=eq_true p306
            replace q306:=eq_true q306
            have p307 : 0 ≤ (x8_1 : Int):=of_decide_eq_true (by first | (with_reducible assumption) | assumption)
            have q307 : x8_1 < (t290.length : Int):=of_decide_eq_true (by first | (with_reducible assumption) | assumption)
            obtain ⟨ad307,A307_0,c307_0,e307,hx307_0,hl307_0,hi307_0⟩:=at_L10 (Kd.S_reads' HO_5.out).2.2 x8_1 p307 q307
            obtain rfl : ad294 = ad307:=(by injection e307)
            obtain ⟨ce307,hce307,hMe307,hcc307⟩:=Kd.S_get HO_5.out [] x8_1 p307 (by first | exact q307 | exact of_decide_eq_true (by first | (with_reducible assumption) | assumption) | (have e_:=(Kd.S_reads' HO_5.out).1;omega))
            obtain ⟨ve307_0,rfl,ge307_0⟩:=hMe307
            have hv307_0:=hcc307 0 _ rfl
            rw [Nat.add_zero,show ((Kd.slice 45 k45)).sz = 1 from rfl,Nat.mul_one] at hv307_0
            replace hv307_0:=Option.some.inj (hv307_0.symm.trans hx307_0)
            rw [hv307_0] at ge307_0
            have HL307_0:=Aside0.mk (show Kd.R k45 45 _ _ _ _ (rd_L10 t290 x8_1) from ge307_0)
            clear hv307_0 ge307_0
            clear hcc307 hce307
            have HR307_0:=Aside0.mk hi307_0
            have HC307_0:=Aside0.mk hl307_0
            clear hi307_0 hl307_0
            replace p307:=eq_true p307
            replace q307:=eq_true q307
            have ea_:=Option.some.inj (hx305_0.symm.trans hx307_0)
            injection ea_ with ea_ en_ ec_
            subst ea_
            subst ec_
            clear en_
            have p308 : 0 ≤ (x14_2 : Int):=of_decide_eq_true (by first | (with_reducible assumption) | assumption)
            have q308 : x14_2 < ((rd_L10 t290 x8_1).length : Int):=of_decide_eq_true (by first | (with_reducible assumption) | assumption)
            obtain ⟨ad308,e308,hx308_0,hx308_1,hx308_2,hx308_3⟩:=at_T45 (by repeat (first | (with_reducible exact HR307_0.out) | (with_reducible refine Kd.C_alloc ?_ _) | (with_reducible refine Kd.C_drewN ?_ _) | (with_reducible refine Kd.C_drew ?_) | exact HR307_0.out)) x14_2 p308 q308
            cases e308
            replace p308:=eq_true p308
            replace q308:=eq_true q308
            have p309 : 0 ≤ (x8_1 : Int):=of_decide_eq_true (by first | (with_reducible assumption) | assumption)
            have q309 : x8_1 < (t290.length : Int):=of_decide_eq_true (by first | (with_reducible assumption) | assumption)
            obtain ⟨ad309,A309_0,c309_0,e309,hx309_0,hl309_0,hi309_0⟩:=at_L10 (Kd.S_reads' HO_5.out).2.2 x8_1 p309 q309
            obtain rfl : ad294 = ad309:=(by injection e309)
            obtain ⟨ce309,hce309,hMe309,hcc309⟩:=Kd.S_get HO_5.out [] x8_1 p309 (by first | exact q309 | exact of_decide_eq_true (by first | (with_reducible assumption) | assumption) | (have e_:=(Kd.S_reads' HO_5.out).1;omega))
            obtain ⟨ve309_0,rfl,ge309_0⟩:=hMe309
            have hv309_0:=hcc309 0 _ rfl
            rw [Nat.add_zero,show ((Kd.slice 45 k45)).sz = 1 from rfl,Nat.mul_one] at hv309_0
            replace hv309_0:=Option.some.inj (hv309_0.symm.trans hx309_0)
            rw [hv309_0] at ge309_0
            have HL309_0:=Aside0.mk (show Kd.R k45 45 _ _ _ _ (rd_L10 t290 x8_1) from ge309_0)
            clear hv309_0 ge309_0
            clear hcc309 hce309
            have HR309_0:=Aside0.mk hi309_0
            have HC309_0:=Aside0.mk hl309_0
            clear hi309_0 hl309_0
            replace p309:=eq_true p309
            replace q309:=eq_true q309
            have ea_:=Option.some.inj (hx305_0.symm.trans hx309_0)
            injection ea_ with ea_ en_ ec_
            subst ea_
            subst ec_
            clear en_
            have p310 : 0 ≤ (x14_2 : Int):=of_decide_eq_true (by first | (with_reducible assumption) | assumption)
            have q310 : x14_2 < ((rd_L10 t290 x8_1).length : Int):=of_decide_eq_true (by first | (with_reducible assumption) | assumption)
            obtain ⟨ad310,e310,hx310_0,hx310_1,hx310_2,hx310_3⟩:=at_T45 (by repeat (first | (with_reducible exact HR309_0.out) | (with_reducible refine Kd.C_alloc ?_ _) | (with_reducible refine Kd.C_drewN ?_ _) | (with_reducible refine Kd.C_drew ?_) | exact HR309_0.out)) x14_2 p310 q310
            cases e310
            replace p310:=eq_true p310
            replace q310:=eq_true q310
            refine start_ (n:=32) (S:=fun w' => w'.cell? (ad294.add (x8_1).toNat) = some (.slice (some ad306) (rd_L10 t290 x8_1).length c305_0) ∧ w'.cell? (ad306.add ((x14_2).toNat * 4)) = some (.int .u64 ((rd_T45 (rd_L10 t290 x8_1) x14_2).f0)) ∧ w'.cell? ⟨(ad306.add ((x14_2).toNat * 4)).block,(ad306.add ((x14_2).toNat * 4)).off + 1,none⟩ = some (.string ((rd_T45 (rd_L10 t290 x8_1) x14_2).f1)) ∧ w'.cell? ⟨(ad306.add ((x14_2).toNat * 4)).block,(ad306.add ((x14_2).toNat * 4)).off + 2,none⟩ = some (.string ((rd_T45 (rd_L10 t290 x8_1) x14_2).f2)) ∧ w'.cell? ⟨(ad306.add ((x14_2).toNat * 4)).block,(ad306.add ((x14_2).toNat * 4)).off + 3,none⟩ = some (.bool ((rd_T45 (rd_L10 t290 x8_1) x14_2).f3)) ∧ w'.cell? (ad294.add (x8_1).toNat) = some (.slice (some ad306) (rd_L10 t290 x8_1).length c305_0) ∧ w'.cell? (ad306.add ((x14_2).toNat * 4)) = some (.int .u64 ((rd_T45 (rd_L10 t290 x8_1) x14_2).f0)) ∧ w'.cell? ⟨(ad306.add ((x14_2).toNat * 4)).block,(ad306.add ((x14_2).toNat * 4)).off + 1,none⟩ = some (.string ((rd_T45 (rd_L10 t290 x8_1) x14_2).f1)) ∧ w'.cell? ⟨(ad306.add ((x14_2).toNat * 4)).block,(ad306.add ((x14_2).toNat * 4)).off + 2,none⟩ = some (.string ((rd_T45 (rd_L10 t290 x8_1) x14_2).f2)) ∧ w'.cell? ⟨(ad306.add ((x14_2).toNat * 4)).block,(ad306.add ((x14_2).toNat * 4)).off + 3,none⟩ = some (.bool ((rd_T45 (rd_L10 t290 x8_1) x14_2).f3)) ∧ w'.cell? (ad294.add (x8_1).toNat) = some (.slice (some ad306) (rd_L10 t290 x8_1).length c305_0) ∧ w'.cell? (ad306.add ((x14_2).toNat * 4)) = some (.int .u64 ((rd_T45 (rd_L10 t290 x8_1) x14_2).f0)) ∧ w'.cell? ⟨(ad306.add ((x14_2).toNat * 4)).block,(ad306.add ((x14_2).toNat * 4)).off + 1,none⟩ = some (.string ((rd_T45 (rd_L10 t290 x8_1) x14_2).f1)) ∧ w'.cell? ⟨(ad306.add ((x14_2).toNat * 4)).block,(ad306.add ((x14_2).toNat * 4)).off + 2,none⟩ = some (.string ((rd_T45 (rd_L10 t290 x8_1) x14_2).f2)) ∧ w'.cell? ⟨(ad306.add ((x14_2).toNat * 4)).block,(ad306.add ((x14_2).toNat * 4)).off + 3,none⟩ = some (.bool ((rd_T45 (rd_L10 t290 x8_1) x14_2).f3))) (ds:=[29,30]) #[false,false,false,false,false,false,false,false,false,false,false,false,false,false,false,false,false,false,false,false,false,false,false,false,false,false,false,false,false,false,false,false] (by kernel_rfl) rfl rfl ⟨hx305_0,hx306_0,hx306_1,hx306_2,hx306_3,hx307_0,hx308_0,hx308_1,hx308_2,hx308_3,hx309_0,hx310_0,hx310_1,hx310_2,hx310_3⟩ (fun hHeld => ?_);refine with_tabW thwartref05_Of.tab14 thwartref05_Of.bits14 (fun HT_ HW_ => ?_)
            generalize w17.drew = w18 at HO_4 HO_5 HL300_0 HL301_0 HR300_0 HR301_0 HB HL305_0 HL307_0 HL309_0 HR305_0 HR307_0 HR309_0 hx305_0 hx306_0 hx306_1 hx306_2 hx306_3 hx307_0 hx308_0 hx308_1 hx308_2 hx308_3 hx309_0 hx310_0 hx310_1 hx310_2 hx310_3 hHeld ⊢
            refine pure_ (i:=0) (N:=some 71) (v := ?_) (a' := ?_) #[true,false,false,false,false,false,false,false,false,false,false,false,false,false,false,false,false,false,false,false,false,false,false,false,false,false,false,false,false,false,false,false] rfl rfl (any_of HT_.out (by kernel_rfl)) (fun _ _ _ h => h) (Or.inl ⟨by rfl,?_⟩) ?_ ?_
            rotate_left
            ·intro w'
             go_simp
             with_reducible rfl
            rotate_left
            ·simp only [Act.put,List.setIfInBounds_toArray,List.set_cons_zero,List.set_cons_succ,i64_w,i32_w]
             rfl
            refine pure_ (i:=1) (N:=some 72) (v := ?_) (a' := ?_) #[true,true,false,false,false,false,false,false,false,false,false,false,false,false,false,false,false,false,false,false,false,false,false,false,false,false,false,false,false,false,false,false] rfl rfl (any_of HT_.out (by kernel_rfl)) (fun _ _ _ h => h) (Or.inl ⟨by rfl,?_⟩) ?_ ?_
            rotate_left
            ·intro w'
             go_simp
             with_reducible rfl
            rotate_left
            ·simp only [Act.put,List.setIfInBounds_toArray,List.set_cons_zero,List.set_cons_succ,i64_w,i32_w]
             rfl
            refine pure_ (i:=2) (N:=some 73) (v := ?_) (a' := ?_) #[true,true,true,false,false,false,false,false,false,false,false,false,false,false,false,false,false,false,false,false,false,false,false,false,false,false,false,false,false,false,false,false] rfl rfl (any_of HT_.out (by kernel_rfl)) (fun _ _ _ h => h) (Or.inl ⟨by rfl,?_⟩) ?_ ?_
            rotate_left
            ·intro w'
             go_simp
             with_reducible rfl
            rotate_left
            ·simp only [Act.put,List.setIfInBounds_toArray,List.set_cons_zero,List.set_cons_succ,i64_w,i32_w]
             rfl
            refine pure_ (i:=3) (N:=some 74) (v := ?_) (a' := ?_) #[true,true,true,true,false,false,false,false,false,false,false,false,false,false,false,false,false,false,false,false,false,false,false,false,false,false,false,false,false,false,false,false] rfl rfl (any_of HT_.out (by kernel_rfl)) (fun _ _ _ h => h) (Or.inl ⟨by rfl,?_⟩) ?_ ?_
            rotate_left
            ·intro w'
             go_simp
             with_reducible rfl
            rotate_left
            ·simp only [Act.put,List.setIfInBounds_toArray,List.set_cons_zero,List.set_cons_succ,i64_w,i32_w]
             rfl
            refine pure_ (i:=5) (N:=some 76) (v := ?_) (a' := ?_) #[true,true,true,true,false,true,false,false,false,false,false,false,false,false,false,false,false,false,false,false,false,false,false,false,false,false,false,false,false,false,false,false] rfl rfl (any_of HT_.out (by kernel_rfl)) (fun _ _ _ h => h) (Or.inl ⟨by rfl,?_⟩) ?_ ?_
            rotate_left
            ·intro w'
             go_simp
             with_reducible rfl
            rotate_left
            ·simp only [Act.put,List.setIfInBounds_toArray,List.set_cons_zero,List.set_cons_succ,i64_w,i32_w]
             rfl
            refine pure_ (i:=9) (N:=some 80) (v := ?_) (a' := ?_) #[true,true,true,true,false,true,false,false,false,true,false,false,false,false,false,false,false,false,false,false,false,false,false,false,false,false,false,false,false,false,false,false] rfl rfl (any_of HT_.out (by kernel_rfl)) (fun _ _ _ h => h) (Or.inl ⟨by rfl,?_⟩) ?_ ?_
            rotate_left
            ·intro w'
             go_simp
             with_reducible rfl
            rotate_left
            ·simp only [Act.put,List.setIfInBounds_toArray,List.set_cons_zero,List.set_cons_succ,i64_w,i32_w]
             rfl
            refine pure_ (i:=10) (N:=some 81) (v := ?_) (a' := ?_) #[true,true,true,true,false,true,false,false,false,true,true,false,false,false,false,false,false,false,false,false,false,false,false,false,false,false,false,false,false,false,false,false] rfl rfl (any_of HT_.out (by kernel_rfl)) (fun _ _ _ h => h) (Or.inl ⟨by rfl,?_⟩) ?_ ?_
            rotate_left
            ·intro w'
             go_simp
             with_reducible rfl
            rotate_left
            ·simp only [Act.put,List.setIfInBounds_toArray,List.set_cons_zero,List.set_cons_succ,i64_w,i32_w]
             rfl
            refine pure_ (i:=11) (N:=some 82) (v := ?_) (a' := ?_) #[true,true,true,true,false,true,false,false,false,true,true,true,false,false,false,false,false,false,false,false,false,false,false,false,false,false,false,false,false,false,false,false] rfl rfl (any_of HT_.out (by kernel_rfl)) (fun _ _ _ h => h) (Or.inl ⟨by rfl,?_⟩) ?_ ?_
            rotate_left
            ·intro w'
             go_simp
             with_reducible rfl
            rotate_left
            ·simp only [Act.put,List.setIfInBounds_toArray,List.set_cons_zero,List.set_cons_succ,i64_w,i32_w]
             rfl
            refine pure_ (i:=12) (N:=some 83) (v := ?_) (a' := ?_) #[true,true,true,true,false,true,false,false,false,true,true,true,true,false,false,false,false,false,false,false,false,false,false,false,false,false,false,false,false,false,false,false] rfl rfl (any_of HT_.out (by kernel_rfl)) (fun _ _ _ h => h) (Or.inl ⟨by rfl,?_⟩) ?_ ?_
            rotate_left
            ·intro w'
             go_simp
             with_reducible rfl
            rotate_left
            ·simp only [Act.put,List.setIfInBounds_toArray,List.set_cons_zero,List.set_cons_succ,i64_w,i32_w]
             rfl
            refine pure_ (i:=13) (N:=some 84) (v := ?_) (a' := ?_) #[true,true,true,true,false,true,false,false,false,true,true,true,true,true,false,false,false,false,false,false,false,false,false,false,false,false,false,false,false,false,false,false] rfl rfl (any_of HT_.out (by kernel_rfl)) (fun _ _ _ h => h) (Or.inl ⟨by rfl,?_⟩) ?_ ?_
            rotate_left
            ·intro w'
             go_simp
             with_reducible rfl
            rotate_left
            ·simp only [Act.put,List.setIfInBounds_toArray,List.set_cons_zero,List.set_cons_succ,i64_w,i32_w]
             rfl
            refine pure_ (i:=14) (N:=some 85) (v := ?_) (a' := ?_) #[true,true,true,true,false,true,false,false,false,true,true,true,true,true,true,false,false,false,false,false,false,false,false,false,false,false,false,false,false,false,false,false] rfl rfl (any_of HT_.out (by kernel_rfl)) (fun _ _ _ h => h) (Or.inl ⟨by rfl,?_⟩) ?_ ?_
            rotate_left
            ·intro w'
             go_simp
             with_reducible rfl
            rotate_left
            ·simp only [Act.put,List.setIfInBounds_toArray,List.set_cons_zero,List.set_cons_succ,i64_w,i32_w]
             rfl
            refine pure_ (i:=16) (N:=some 87) (v := ?_) (a' := ?_) #[true,true,true,true,false,true,false,false,false,true,true,true,true,true,true,false,true,false,false,false,false,false,false,false,false,false,false,false,false,false,false,false] rfl rfl (any_of HT_.out (by kernel_rfl)) (fun _ _ _ h => h) (Or.inl ⟨by rfl,?_⟩) ?_ ?_
            rotate_left
            ·intro w'
             go_simp
             with_reducible rfl
            rotate_left
            ·simp only [Act.put,List.setIfInBounds_toArray,List.set_cons_zero,List.set_cons_succ,i64_w,i32_w]
             rfl
            refine pure_ (i:=20) (N:=some 91) (v := ?_) (a' := ?_) #[true,true,true,true,false,true,false,false,false,true,true,true,true,true,true,false,true,false,false,false,true,false,false,false,false,false,false,false,false,false,false,false] rfl rfl (any_of HT_.out (by kernel_rfl)) (fun _ _ _ h => h) (Or.inl ⟨by rfl,?_⟩) ?_ ?_
            rotate_left
            ·intro w'
             go_simp
             with_reducible rfl
            rotate_left
            ·simp only [Act.put,List.setIfInBounds_toArray,List.set_cons_zero,List.set_cons_succ,i64_w,i32_w]
             rfl
            refine pure_ (i:=21) (N:=some 92) (v := ?_) (a' := ?_) #[true,true,true,true,false,true,false,false,false,true,true,true,true,true,true,false,true,false,false,false,true,true,false,false,false,false,false,false,false,false,false,false] rfl rfl (any_of HT_.out (by kernel_rfl)) (fun _ _ _ h => h) (Or.inl ⟨by rfl,?_⟩) ?_ ?_
            rotate_left
            ·intro w'
             go_simp
             with_reducible rfl
            rotate_left
            ·simp only [Act.put,List.setIfInBounds_toArray,List.set_cons_zero,List.set_cons_succ,i64_w,i32_w]
             rfl
            refine pure_ (i:=22) (N:=some 93) (v := ?_) (a' := ?_) #[true,true,true,true,false,true,false,false,false,true,true,true,true,true,true,false,true,false,false,false,true,true,true,false,false,false,false,false,false,false,false,false] rfl rfl (any_of HT_.out (by kernel_rfl)) (fun _ _ _ h => h) (Or.inl ⟨by rfl,?_⟩) ?_ ?_
            rotate_left
            ·intro w'
             go_simp
             with_reducible rfl
            rotate_left
            ·simp only [Act.put,List.setIfInBounds_toArray,List.set_cons_zero,List.set_cons_succ,i64_w,i32_w]
             rfl
            refine pure_ (i:=24) (N:=some 95) (v := ?_) (a' := ?_) #[true,true,true,true,false,true,false,false,false,true,true,true,true,true,true,false,true,false,false,false,true,true,true,false,true,false,false,false,false,false,false,false] rfl rfl (any_of HT_.out (by kernel_rfl)) (fun _ _ _ h => h) (Or.inl ⟨by rfl,?_⟩) ?_ ?_
            rotate_left
            ·intro w'
             go_simp
             with_reducible rfl
            rotate_left
            ·simp only [Act.put,List.setIfInBounds_toArray,List.set_cons_zero,List.set_cons_succ,i64_w,i32_w]
             rfl
            refine take_ (i:=4) (N:=some 75) (v := ?_) (a' := ?_) #[true,true,true,true,true,true,false,false,false,true,true,true,true,true,true,false,true,false,false,false,true,true,true,false,true,false,false,false,false,false,false,false] rfl rfl (take_ofW HT_.out HW_.out (by kernel_rfl)) (fun _ _ _ h => h) (Or.inl ⟨by rfl,?_⟩) hHeld ?_ ?_
            rotate_left
            ·rintro w' ⟨s0,s1,s2,s3,s4,s5,s6,s7,s8,s9,s10,s11,s12,s13,s14⟩
             go_simp
             with_reducible rfl
            rotate_left
            ·simp only [Act.put,List.setIfInBounds_toArray,List.set_cons_zero,List.set_cons_succ,i64_w,i32_w]
             rfl
            refine pure_ (i:=6) (N:=some 77) (v := ?_) (a' := ?_) #[true,true,true,true,true,true,true,false,false,true,true,true,true,true,true,false,true,false,false,false,true,true,true,false,true,false,false,false,false,false,false,false] rfl rfl (any_of HT_.out (by kernel_rfl)) (fun _ _ _ h => h) (Or.inl ⟨by rfl,?_⟩) ?_ ?_
            rotate_left
            ·intro w'
             go_simp
             with_reducible rfl
            rotate_left
            ·simp only [Act.put,List.setIfInBounds_toArray,List.set_cons_zero,List.set_cons_succ,i64_w,i32_w]
             rfl
            refine pure_ (i:=7) (N:=some 78) (v := ?_) (a' := ?_) #[true,true,true,true,true,true,true,true,false,true,true,true,true,true,true,false,true,false,false,false,true,true,true,false,true,false,false,false,false,false,false,false] rfl rfl (any_of HT_.out (by kernel_rfl)) (fun _ _ _ h => h) (Or.inl ⟨by rfl,?_⟩) ?_ ?_
            rotate_left
            ·intro w'
             go_simp
             with_reducible rfl
            rotate_left
            ·simp only [Act.put,List.setIfInBounds_toArray,List.set_cons_zero,List.set_cons_succ,i64_w,i32_w]
             rfl
            refine take_ (i:=8) (N:=some 79) (v := ?_) (a' := ?_) #[true,true,true,true,true,true,true,true,true,true,true,true,true,true,true,false,true,false,false,false,true,true,true,false,true,false,false,false,false,false,false,false] rfl rfl (take_ofW HT_.out HW_.out (by kernel_rfl)) (fun _ _ _ h => h) (Or.inl ⟨by rfl,?_⟩) hHeld ?_ ?_
            rotate_left
            ·rintro w' ⟨s0,s1,s2,s3,s4,s5,s6,s7,s8,s9,s10,s11,s12,s13,s14⟩
             go_simp
             with_reducible rfl
            rotate_left
            ·simp only [Act.put,List.setIfInBounds_toArray,List.set_cons_zero,List.set_cons_succ,i64_w,i32_w]
             rfl
            refine take_ (i:=15) (N:=some 86) (v := ?_) (a' := ?_) #[true,true,true,true,true,true,true,true,true,true,true,true,true,true,true,true,true,false,false,false,true,true,true,false,true,false,false,false,false,false,false,false] rfl rfl (take_ofW HT_.out HW_.out (by kernel_rfl)) (fun _ _ _ h => h) (Or.inl ⟨by rfl,?_⟩) hHeld ?_ ?_
            rotate_left
            ·rintro w' ⟨s0,s1,s2,s3,s4,s5,s6,s7,s8,s9,s10,s11,s12,s13,s14⟩
             go_simp
             with_reducible rfl
            rotate_left
            ·simp only [Act.put,List.setIfInBounds_toArray,List.set_cons_zero,List.set_cons_succ,i64_w,i32_w]
             rfl
            refine pure_ (i:=17) (N:=some 88) (v := ?_) (a' := ?_) #[true,true,true,true,true,true,true,true,true,true,true,true,true,true,true,true,true,true,false,false,true,true,true,false,true,false,false,false,false,false,false,false] rfl rfl (any_of HT_.out (by kernel_rfl)) (fun _ _ _ h => h) (Or.inl ⟨by rfl,?_⟩) ?_ ?_
            rotate_left
            ·intro w'
             go_simp
             with_reducible rfl
            rotate_left
            ·simp only [Act.put,List.setIfInBounds_toArray,List.set_cons_zero,List.set_cons_succ,i64_w,i32_w]
             rfl
            refine pure_ (i:=18) (N:=some 89) (v := ?_) (a' := ?_) #[true,true,true,true,true,true,true,true,true,true,true,true,true,true,true,true,true,true,true,false,true,true,true,false,true,false,false,false,false,false,false,false] rfl rfl (any_of HT_.out (by kernel_rfl)) (fun _ _ _ h => h) (Or.inl ⟨by rfl,?_⟩) ?_ ?_
            rotate_left
            ·intro w'
             go_simp
             with_reducible rfl
            rotate_left
            ·simp only [Act.put,List.setIfInBounds_toArray,List.set_cons_zero,List.set_cons_succ,i64_w,i32_w]
             rfl
            refine take_ (i:=19) (N:=some 90) (v := ?_) (a' := ?_) #[true,true,true,true,true,true,true,true,true,true,true,true,true,true,true,true,true,true,true,true,true,true,true,false,true,false,false,false,false,false,false,false] rfl rfl (take_ofW HT_.out HW_.out (by kernel_rfl)) (fun _ _ _ h => h) (Or.inl ⟨by rfl,?_⟩) hHeld ?_ ?_
            rotate_left
            ·rintro w' ⟨s0,s1,s2,s3,s4,s5,s6,s7,s8,s9,s10,s11,s12,s13,s14⟩
             go_simp
             with_reducible rfl
            rotate_left
            ·simp only [Act.put,List.setIfInBounds_toArray,List.set_cons_zero,List.set_cons_succ,i64_w,i32_w]
             rfl
            refine take_ (i:=23) (N:=some 94) (v := ?_) (a' := ?_) #[true,true,true,true,true,true,true,true,true,true,true,true,true,true,true,true,true,true,true,true,true,true,true,true,true,false,false,false,false,false,false,false] rfl rfl (take_ofW HT_.out HW_.out (by kernel_rfl)) (fun _ _ _ h => h) (Or.inl ⟨by rfl,?_⟩) hHeld ?_ ?_
            rotate_left
            ·rintro w' ⟨s0,s1,s2,s3,s4,s5,s6,s7,s8,s9,s10,s11,s12,s13,s14⟩
             go_simp
             with_reducible rfl
            rotate_left
            ·simp only [Act.put,List.setIfInBounds_toArray,List.set_cons_zero,List.set_cons_succ,i64_w,i32_w]
             rfl
            refine pure_ (i:=25) (N:=some 96) (v := ?_) (a' := ?_) #[true,true,true,true,true,true,true,true,true,true,true,true,true,true,true,true,true,true,true,true,true,true,true,true,true,true,false,false,false,false,false,false] rfl rfl (any_of HT_.out (by kernel_rfl)) (fun _ _ _ h => h) (Or.inl ⟨by rfl,?_⟩) ?_ ?_
            rotate_left
            ·intro w'
             go_simp
             with_reducible rfl
            rotate_left
            ·simp only [Act.put,List.setIfInBounds_toArray,List.set_cons_zero,List.set_cons_succ,i64_w,i32_w]
             rfl
            refine pure_ (i:=26) (N:=some 97) (v := ?_) (a' := ?_) #[true,true,true,true,true,true,true,true,true,true,true,true,true,true,true,true,true,true,true,true,true,true,true,true,true,true,true,false,false,false,false,false] rfl rfl (any_of HT_.out (by kernel_rfl)) (fun _ _ _ h => h) (Or.inl ⟨by rfl,?_⟩) ?_ ?_
            rotate_left
            ·intro w'
             go_simp
             with_reducible rfl
            rotate_left
            ·simp only [Act.put,List.setIfInBounds_toArray,List.set_cons_zero,List.set_cons_succ,i64_w,i32_w]
             rfl
            refine take_ (i:=27) (N:=some 98) (v := ?_) (a' := ?_) #[true,true,true,true,true,true,true,true,true,true,true,true,true,true,true,true,true,true,true,true,true,true,true,true,true,true,true,true,false,false,false,false] rfl rfl (take_ofW HT_.out HW_.out (by kernel_rfl)) (fun _ _ _ h => h) (Or.inl ⟨by rfl,?_⟩) hHeld ?_ ?_
            rotate_left
            ·rintro w' ⟨s0,s1,s2,s3,s4,s5,s6,s7,s8,s9,s10,s11,s12,s13,s14⟩
             go_simp
             with_reducible rfl
            rotate_left
            ·simp only [Act.put,List.setIfInBounds_toArray,List.set_cons_zero,List.set_cons_succ,i64_w,i32_w]
             rfl
            refine pure_ (i:=28) (N:=some 99) (v := ?_) (a' := ?_) #[true,true,true,true,true,true,true,true,true,true,true,true,true,true,true,true,true,true,true,true,true,true,true,true,true,true,true,true,true,false,false,false] rfl rfl (any_of HT_.out (by kernel_rfl)) (fun _ _ _ h => h) (Or.inl ⟨by rfl,?_⟩) ?_ ?_
            rotate_left
            ·intro w'
             go_simp
             with_reducible rfl
            rotate_left
            ·simp only [Act.put,List.setIfInBounds_toArray,List.set_cons_zero,List.set_cons_succ,i64_w,i32_w]
             rfl
            refine last_ (i:=29) (N:=some 100) #[true,true,true,true,true,true,true,true,true,true,true,true,true,true,true,true,true,true,true,true,true,true,true,true,true,true,true,true,true,true,false,false] rfl rfl (one_of HT_.out (by kernel_rfl)) (by decide) (fun K hK => ?_)
            refine value_ (w1 := ?_) (v := ?_) (by rfl) rfl ?_ ?_
            rotate_left 2
            ·go_simp
             constructor
             ·rfl
             ·rfl
            refine hK.out _ _ ?_
            clear hK K
            refine norm_ (a' := ?_) ?_ ?_
            rotate_left
            ·show Act.put _ (some 100) _ = _
             simp only [Act.put,List.setIfInBounds_toArray,List.set_cons_zero,List.set_cons_succ,i64_w,i32_w]
             rfl
            refine last_ (i:=30) (N:=some 101) #[true,true,true,true,true,true,true,true,true,true,true,true,true,true,true,true,true,true,true,true,true,true,true,true,true,true,true,true,true,true,true,false] rfl rfl (one_of HT_.out (by kernel_rfl)) (by decide) (fun K hK => ?_)
            refine Kd.R_append_step k49 (w0:=w) w.heap.size (by rfl) (.tmp 71) (.tmp 100) 29 49 (.agg #[(.string ⟨#[]⟩),(.int .i64 0),(.int .i64 0),(.int .u64 0),(.bool false)]) 48 rfl Try.underlying29 info49 rfl (by decide) (by omega) u4 x4_2 (⟨(rd_T45 (rd_L10 t290 x8_1) x14_2).f1,x13_2,(t303.size : Int),(rd_T45 (rd_L10 t290 x8_1) x14_2).f0,(rd_T45 (rd_L10 t290 x8_1) x14_2).f3⟩ : S49) [.string ((rd_T45 (rd_L10 t290 x8_1) x14_2).f1),.int .i64 x13_2,.int .i64 (t303.size : Int),.int .u64 ((rd_T45 (rd_L10 t290 x8_1) x14_2).f0),.bool ((rd_T45 (rd_L10 t290 x8_1) x14_2).f3)] (fun _ => True) (fun _ => False) rfl rfl ?aP (fun _ hk => hk.elim) ?aF ?aO ?aB ?aS ?aL ?_
            (case aP => exact k49_mkM _ _ _ (⟨(rd_T45 (rd_L10 t290 x8_1) x14_2).f1,x13_2,(t303.size : Int),(rd_T45 (rd_L10 t290 x8_1) x14_2).f0,(rd_T45 (rd_L10 t290 x8_1) x14_2).f3⟩ : S49))
            (case aB => exact (by repeat (first | (with_reducible first | exact HB.out | apply below_alloc | apply pw_below_drewN | apply below_drew1) | exact HB.out)))
            (case aF => exact (fun _ _ => trivial))
            (case aO => exact (by (with_reducible repeat (first | apply Kd.R_alloc | apply Kd.R_drewN | apply Kd.R_drew));exact HO_4.out))
            (case aS => exact (below_size (by repeat (first | (with_reducible first | exact HB.out | apply below_alloc | apply pw_below_drewN | apply below_drew1) | exact HB.out))))
            (case aL => have:=LMc16.out;omega)
            intro v312 w19 ho hb hg hat
            rw [← Ny311.out] at ho
            have n0_:=Aside0.mk (Kd.S_over' (by (with_reducible repeat (first | apply Kd.S_alloc | apply Kd.S_drewN | apply Kd.S_drew));exact HO_5.out) (Kd.R_typed (by (with_reducible repeat (first | apply Kd.R_alloc | apply Kd.R_drewN | apply Kd.R_drew));exact HO_4.out)) (by decide) hg)
            have n1_:=Aside0.mk (Kd.R_over' (by (with_reducible repeat (first | apply Kd.R_alloc | apply Kd.R_drewN | apply Kd.R_drew));exact HL300_0.out) (Kd.R_typed (by (with_reducible repeat (first | apply Kd.R_alloc | apply Kd.R_drewN | apply Kd.R_drew));exact HO_4.out)) (by decide) hg)
            have n2_:=Aside0.mk (Kd.R_over' (by (with_reducible repeat (first | apply Kd.R_alloc | apply Kd.R_drewN | apply Kd.R_drew));exact HL301_0.out) (Kd.R_typed (by (with_reducible repeat (first | apply Kd.R_alloc | apply Kd.R_drewN | apply Kd.R_drew));exact HO_4.out)) (by decide) hg)
            have n3_:=Aside0.mk (Kd.R_over' (by (with_reducible repeat (first | apply Kd.R_alloc | apply Kd.R_drewN | apply Kd.R_drew));exact HL305_0.out) (Kd.R_typed (by (with_reducible repeat (first | apply Kd.R_alloc | apply Kd.R_drewN | apply Kd.R_drew));exact HO_4.out)) (by decide) hg)
            have n4_:=Aside0.mk (Kd.R_over' (by (with_reducible repeat (first | apply Kd.R_alloc | apply Kd.R_drewN | apply Kd.R_drew));exact HL307_0.out) (Kd.R_typed (by (with_reducible repeat (first | apply Kd.R_alloc | apply Kd.R_drewN | apply Kd.R_drew));exact HO_4.out)) (by decide) hg)
            have n5_:=Aside0.mk (Kd.R_over' (by (with_reducible repeat (first | apply Kd.R_alloc | apply Kd.R_drewN | apply Kd.R_drew));exact HL309_0.out) (Kd.R_typed (by (with_reducible repeat (first | apply Kd.R_alloc | apply Kd.R_drewN | apply Kd.R_drew));exact HO_4.out)) (by decide) hg)
            have n6_:=Aside0.mk (hb)
            have n7_:=Aside0.mk (ho)
            clear HO_5
            clear HL300_0
            clear HL301_0
            clear HL305_0
            clear HL307_0
            clear HL309_0
            clear HB
            clear HO_4
            have HO_5:=n0_
            have HL300_0:=n1_
            have HL301_0:=n2_
            have HL305_0:=n3_
            have HL307_0:=n4_
            have HL309_0:=n5_
            have HB:=n6_
            have HO313:=n7_
            clear n0_ n1_ n2_ n3_ n4_ n5_ n6_ n7_
            clear ho hb hg hat
            refine hK.out _ _ ?_
            clear hK K
            refine norm_ (a' := ?_) ?_ ?_
            rotate_left
            ·show Act.put _ (some 101) _ = _
             simp only [Act.put,List.setIfInBounds_toArray,List.set_cons_zero,List.set_cons_succ,i64_w,i32_w]
             rfl
            refine pure_ (i:=31) (N:=some 4) (v := ?_) (a' := ?_) #[true,true,true,true,true,true,true,true,true,true,true,true,true,true,true,true,true,true,true,true,true,true,true,true,true,true,true,true,true,true,true,true] rfl rfl (any_of HT_.out (by kernel_rfl)) (fun _ _ _ h => h) (Or.inl ⟨by rfl,?_⟩) ?_ ?_
            rotate_left
            ·intro w'
             go_simp
             with_reducible rfl
            rotate_left
            ·simp only [Act.put,List.setIfInBounds_toArray,List.set_cons_zero,List.set_cons_succ,i64_w,i32_w]
             rfl
            refine done_ (done_of HT_.out (by kernel_rfl)) ?_
            try go_wp2
            go_roundg k2
            case measure => have:=HK1.out;have:=HK2.out;omega
            case rel => exact ⟨(y311),(wrap64 (x13_2 + (t303.size : Int))),(wrap64 (x14_2 + 1)),(by first | rfl | (simp;done) | (simp [*];done)),(by first | rfl | (simp;done) | (simp [*];done)),H',⟨by have:=HK1.out;have:=HK2.out;omega⟩,⟨by (with_reducible repeat (first | apply Kd.R_alloc | apply Kd.R_drewN | apply Kd.R_drew));exact HO313.out⟩,⟨by (with_reducible repeat (first | apply Kd.S_alloc | apply Kd.S_drewN | apply Kd.S_drew));exact HO_5.out⟩,⟨by repeat (first | (with_reducible first | exact HB.out | apply below_alloc | apply pw_below_drewN | apply below_drew1) | exact HB.out)⟩⟩
           ·rw [if_neg c16] at H
            exact absurd H (by simp)
          ·rw [if_neg c14] at H
           exact absurd H (by simp)
         ·rw [if_neg c13] at H
          have c13b0 : decide (x14_2 < ((rd_L10 t290 x8_1).length : Int)) = false:=decide_eq_false c13
          clear c13
          have H' := Aside0.mk H
          clear H
          have p300 : 0 ≤ (x8_1 : Int):=of_decide_eq_true (by first | (with_reducible assumption) | assumption)
          have q300 : x8_1 < (t290.length : Int):=of_decide_eq_true (by first | (with_reducible assumption) | assumption)
          obtain ⟨ad300,A300_0,c300_0,e300,hx300_0,hl300_0,hi300_0⟩:=at_L10 (Kd.S_reads' HO_5.out).2.2 x8_1 p300 q300
          obtain rfl : ad294 = ad300:=(by injection e300)
          obtain ⟨ce300,hce300,hMe300,hcc300⟩:=Kd.S_get HO_5.out [] x8_1 p300 (by first | exact q300 | exact of_decide_eq_true (by first | (with_reducible assumption) | assumption) | (have e_:=(Kd.S_reads' HO_5.out).1;omega))
          obtain ⟨ve300_0,rfl,ge300_0⟩:=hMe300
          have hv300_0:=hcc300 0 _ rfl
          rw [Nat.add_zero,show ((Kd.slice 45 k45)).sz = 1 from rfl,Nat.mul_one] at hv300_0
          replace hv300_0:=Option.some.inj (hv300_0.symm.trans hx300_0)
          rw [hv300_0] at ge300_0
          have HL300_0:=Aside0.mk (show Kd.R k45 45 _ _ _ _ (rd_L10 t290 x8_1) from ge300_0)
          clear hv300_0 ge300_0
          clear hcc300 hce300
          have HR300_0:=Aside0.mk hi300_0
          have HC300_0:=Aside0.mk hl300_0
          clear hi300_0 hl300_0
          replace p300:=eq_true p300
          replace q300:=eq_true q300
          go_wp2
          go_roundg k2
          case measure => have:=HK1.out;have:=HK2.out;omega
          case rel => exact ⟨(x4_2),(wrap64 (x7_1 + (t295.size : Int))),(wrap64 (x8_1 + 1)),(by first | rfl | (simp;done) | (simp [*];done)),(by first | rfl | (simp;done) | (simp [*];done)),H',⟨by have:=HK1.out;have:=HK2.out;omega⟩,⟨by (with_reducible repeat (first | apply Kd.R_alloc | apply Kd.R_drewN | apply Kd.R_drew));exact HO_4.out⟩,⟨by (with_reducible repeat (first | apply Kd.S_alloc | apply Kd.S_drewN | apply Kd.S_drew));exact HO_5.out⟩,⟨by repeat (first | (with_reducible first | exact HB.out | apply below_alloc | apply pw_below_drewN | apply below_drew1) | exact HB.out)⟩⟩
        ·rw [if_neg c12] at H
         exact absurd H (by simp)
       ·rw [if_neg c11] at H
        exact absurd H (by simp)
    ·rw [if_neg c5] at H
     exact absurd H (by simp)
   ·rw [if_neg c4] at H
    have c4b0 : decide (x8_1 < (t290.length : Int)) = false:=decide_eq_false c4
    clear c4
    simp only [Option.some.injEq,Prod.mk.injEq] at H
    obtain ⟨rfl,rfl⟩:=H
    obtain ⟨Ao20,co20,eo20⟩:=Kd.S_slice HO_5.out
    subst eo20
    go_wp2
    go_ret2
    exact ⟨_,by first | rfl | (simp [errW_none,errW_some] <;> rfl) | (simp [*,errW_none,errW_some] <;> rfl) | (simp [errW_none,errW_some];exact isEmpty_bne _),by (with_reducible repeat (first | apply Kd.R_alloc | apply Kd.R_drewN | apply Kd.R_drew));exact HO_4.out,by repeat (first | (with_reducible first | exact HB.out | apply below_alloc | apply pw_below_drewN | apply below_drew1) | exact HB.out)⟩

/-! ### thwartref05_Right: function 28 -/
def thwartref05_Right.f (a0_0 : ByteArray) (a0_1 : Int) (a0_2 : Int) (a0_3 : Int) (a0_4 : Bool) : Option (Bool):=if (a0_0.size : Int) ≥ 1 then (if (a0_0.size : Int) ≤ 40 then (if a0_1 ≥ 0 then (if a0_1 ≤ 1048576 then (if a0_2 ≥ 1 then (if a0_2 ≤ 400 then (if a0_3 ≥ 1 then (some (decide (a0_3 ≤ 1099511627776))) else (some false)) else (some false)) else (some false)) else (some false)) else (some false)) else (some false)) else (some false)
set_option maxHeartbeats 8000000 in
set_option maxRecDepth 100000 in
theorem thwartref05_Right.calls (a0_0 : ByteArray) (a0_1 : Int) (a0_2 : Int) (a0_3 : Int) (a0_4 : Bool) (r : Bool) (w : World) (h : thwartref05_Right.f a0_0 a0_1 a0_2 a0_3 a0_4 = some r) :
  Calls Try.prog 28 #[.agg #[.string a0_0,.int .i64 a0_1,.int .i64 a0_2,.int .u64 a0_3,.bool a0_4]] w fun e w' => e = .returned (.bool r) ∧ Below w.heap.size w w' := by
 have hu49:=Try.underlying49
 have HB:=Aside0.mk (Below.refl w.heap.size w)
 have H : (if (a0_0.size : Int) ≥ 1 then (if (a0_0.size : Int) ≤ 40 then (if a0_1 ≥ 0 then (if a0_1 ≤ 1048576 then (if a0_2 ≥ 1 then (if a0_2 ≤ 400 then (if a0_3 ≥ 1 then (some (decide (a0_3 ≤ 1099511627776))) else (some false)) else (some false)) else (some false)) else (some false)) else (some false)) else (some false)) else (some false)) = some r:=h
 clear h
 by_cases c2 : (a0_0.size : Int) ≥ 1
 ·rw [if_pos c2] at H
  have c2b0 : decide (1 ≤ (a0_0.size : Int)) = true:=decide_eq_true c2
  have c2b1 : decide (1 ≤ a0_0.size) = true:=decide_eq_true (by omega)
  clear c2
  by_cases c3 : (a0_0.size : Int) ≤ 40
  ·rw [if_pos c3] at H
   have c3b0 : decide ((a0_0.size : Int) ≤ 40) = true:=decide_eq_true c3
   have c3b1 : decide (a0_0.size ≤ 40) = true:=decide_eq_true (by omega)
   clear c3
   by_cases c4 : a0_1 ≥ 0
   ·rw [if_pos c4] at H
    have c4b0 : decide (0 ≤ a0_1) = true:=decide_eq_true c4
    clear c4
    by_cases c5 : a0_1 ≤ 1048576
    ·rw [if_pos c5] at H
     have c5b0 : decide (a0_1 ≤ 1048576) = true:=decide_eq_true c5
     clear c5
     by_cases c6 : a0_2 ≥ 1
     ·rw [if_pos c6] at H
      have c6b0 : decide (1 ≤ a0_2) = true:=decide_eq_true c6
      clear c6
      by_cases c7 : a0_2 ≤ 400
      ·rw [if_pos c7] at H
       have c7b0 : decide (a0_2 ≤ 400) = true:=decide_eq_true c7
       clear c7
       by_cases c8 : a0_3 ≥ 1
       ·rw [if_pos c8] at H
        have c8b0 : decide (1 ≤ a0_3) = true:=decide_eq_true c8
        clear c8
        obtain rfl:=Option.some.inj H
        go_enter Try.func28,Try.ntmps28
        go_wp2_with (first | ((with_reducible refine gate_dst (N:=1) rfl ?_);(try (refine gate_guard (by rfl) ?_;dsimp only));refine box_event ?hg (N:=1) ?hd (cs := #[.string a0_0,.int .i64 a0_1,.int .i64 a0_2,.int .u64 a0_3,.bool a0_4]) (t:=49) ?hr ?_;(case hd => rfl);(case hg => rfl);(case hr => first | (go_simp;done) | (go_simp;rfl));intro gb314 hg w9 hbox hb;have n0_:=Aside0.mk (below_step (by repeat (first | (with_reducible first | exact HB.out | apply below_alloc | apply pw_below_drewN | apply below_drew1) | exact HB.out)) hb);have n1_:=Aside0.mk (hbox);have n2_:=Aside0.mk ((by rw [hg];exact (below_size (by repeat (first | (with_reducible first | exact HB.out | apply below_alloc | apply pw_below_drewN | apply below_drew1) | exact HB.out))) : w.heap.size ≤ gb314));have n3_:=Aside0.mk ((by rw [hg];exact (below_size (by repeat (first | (with_reducible first | exact HB.out | apply below_alloc | apply pw_below_drewN | apply below_drew1) | exact HB.out))) : w.heap.size ≤ gb314));clear HB;have HB:=n0_;have BK314:=n1_;have GW314:=n2_;have GE314:=n3_;clear n0_ n1_ n2_ n3_;clear hb hbox hg;have hcz10_0 : w9.cell? ⟨gb314,0,none⟩ = some (.string a0_0):=(blk_cell BK314.out 0).trans rfl;have hcz10_1 : w9.cell? ⟨gb314,1,none⟩ = some (.int .i64 a0_1):=(blk_cell BK314.out 1).trans rfl;have hcz10_2 : w9.cell? ⟨gb314,2,none⟩ = some (.int .i64 a0_2):=(blk_cell BK314.out 2).trans rfl;have hcz10_3 : w9.cell? ⟨gb314,3,none⟩ = some (.int .u64 a0_3):=(blk_cell BK314.out 3).trans rfl;have hcz10_4 : w9.cell? ⟨gb314,4,none⟩ = some (.bool a0_4):=(blk_cell BK314.out 4).trans rfl;have hfz10_0:=blk_frozen BK314.out 0;have hfz10_1:=blk_frozen BK314.out 1;have hfz10_2:=blk_frozen BK314.out 2;have hfz10_3:=blk_frozen BK314.out 3;have hfz10_4:=blk_frozen BK314.out 4))
        go_ret
        exact ⟨by first | rfl | (simp [errW_none,errW_some] <;> rfl) | (simp [*,errW_none,errW_some] <;> rfl) | (simp [errW_none,errW_some];exact isEmpty_bne _),by repeat (first | (with_reducible first | exact HB.out | apply below_alloc | apply pw_below_drewN | apply below_drew1 | refine below_set ?_ GE314.out) | exact HB.out)⟩
       ·rw [if_neg c8] at H
        have c8b0 : decide (1 ≤ a0_3) = false:=decide_eq_false c8
        clear c8
        obtain rfl:=Option.some.inj H
        go_enter Try.func28,Try.ntmps28
        go_wp2_with (first | ((with_reducible refine gate_dst (N:=1) rfl ?_);(try (refine gate_guard (by rfl) ?_;dsimp only));refine box_event ?hg (N:=1) ?hd (cs := #[.string a0_0,.int .i64 a0_1,.int .i64 a0_2,.int .u64 a0_3,.bool a0_4]) (t:=49) ?hr ?_;(case hd => rfl);(case hg => rfl);(case hr => first | (go_simp;done) | (go_simp;rfl));intro gb314 hg w11 hbox hb;have n0_:=Aside0.mk (below_step (by repeat (first | (with_reducible first | exact HB.out | apply below_alloc | apply pw_below_drewN | apply below_drew1) | exact HB.out)) hb);have n1_:=Aside0.mk (hbox);have n2_:=Aside0.mk ((by rw [hg];exact (below_size (by repeat (first | (with_reducible first | exact HB.out | apply below_alloc | apply pw_below_drewN | apply below_drew1) | exact HB.out))) : w.heap.size ≤ gb314));have n3_:=Aside0.mk ((by rw [hg];exact (below_size (by repeat (first | (with_reducible first | exact HB.out | apply below_alloc | apply pw_below_drewN | apply below_drew1) | exact HB.out))) : w.heap.size ≤ gb314));clear HB;have HB:=n0_;have BK314:=n1_;have GW314:=n2_;have GE314:=n3_;clear n0_ n1_ n2_ n3_;clear hb hbox hg;have hcz12_0 : w11.cell? ⟨gb314,0,none⟩ = some (.string a0_0):=(blk_cell BK314.out 0).trans rfl;have hcz12_1 : w11.cell? ⟨gb314,1,none⟩ = some (.int .i64 a0_1):=(blk_cell BK314.out 1).trans rfl;have hcz12_2 : w11.cell? ⟨gb314,2,none⟩ = some (.int .i64 a0_2):=(blk_cell BK314.out 2).trans rfl;have hcz12_3 : w11.cell? ⟨gb314,3,none⟩ = some (.int .u64 a0_3):=(blk_cell BK314.out 3).trans rfl;have hcz12_4 : w11.cell? ⟨gb314,4,none⟩ = some (.bool a0_4):=(blk_cell BK314.out 4).trans rfl;have hfz12_0:=blk_frozen BK314.out 0;have hfz12_1:=blk_frozen BK314.out 1;have hfz12_2:=blk_frozen BK314.out 2;have hfz12_3:=blk_frozen BK314.out 3;have hfz12_4:=blk_frozen BK314.out 4))
        go_ret
        exact ⟨by first | rfl | (simp [errW_none,errW_some] <;> rfl) | (simp [*,errW_none,errW_some] <;> rfl) | (simp [errW_none,errW_some];exact isEmpty_bne _),by repeat (first | (with_reducible first | exact HB.out | apply below_alloc | apply pw_below_drewN | apply below_drew1 | refine below_set ?_ GE314.out) | exact HB.out)⟩
      ·rw [if_neg c7] at H
       have c7b0 : decide (a0_2 ≤ 400) = false:=decide_eq_false c7
       clear c7
       obtain rfl:=Option.some.inj H
       go_enter Try.func28,Try.ntmps28
       go_wp2_with (first | ((with_reducible refine gate_dst (N:=1) rfl ?_);(try (refine gate_guard (by rfl) ?_;dsimp only));refine box_event ?hg (N:=1) ?hd (cs := #[.string a0_0,.int .i64 a0_1,.int .i64 a0_2,.int .u64 a0_3,.bool a0_4]) (t:=49) ?hr ?_;(case hd => rfl);(case hg => rfl);(case hr => first | (go_simp;done) | (go_simp;rfl));intro gb314 hg w13 hbox hb;have n0_:=Aside0.mk (below_step (by repeat (first | (with_reducible first | exact HB.out | apply below_alloc | apply pw_below_drewN | apply below_drew1) | exact HB.out)) hb);have n1_:=Aside0.mk (hbox);have n2_:=Aside0.mk ((by rw [hg];exact (below_size (by repeat (first | (with_reducible first | exact HB.out | apply below_alloc | apply pw_below_drewN | apply below_drew1) | exact HB.out))) : w.heap.size ≤ gb314));have n3_:=Aside0.mk ((by rw [hg];exact (below_size (by repeat (first | (with_reducible first | exact HB.out | apply below_alloc | apply pw_below_drewN | apply below_drew1) | exact HB.out))) : w.heap.size ≤ gb314));clear HB;have HB:=n0_;have BK314:=n1_;have GW314:=n2_;have GE314:=n3_;clear n0_ n1_ n2_ n3_;clear hb hbox hg;have hcz14_0 : w13.cell? ⟨gb314,0,none⟩ = some (.string a0_0):=(blk_cell BK314.out 0).trans rfl;have hcz14_1 : w13.cell? ⟨gb314,1,none⟩ = some (.int .i64 a0_1):=(blk_cell BK314.out 1).trans rfl;have hcz14_2 : w13.cell? ⟨gb314,2,none⟩ = some (.int .i64 a0_2):=(blk_cell BK314.out 2).trans rfl;have hcz14_3 : w13.cell? ⟨gb314,3,none⟩ = some (.int .u64 a0_3):=(blk_cell BK314.out 3).trans rfl;have hcz14_4 : w13.cell? ⟨gb314,4,none⟩ = some (.bool a0_4):=(blk_cell BK314.out 4).trans rfl;have hfz14_0:=blk_frozen BK314.out 0;have hfz14_1:=blk_frozen BK314.out 1;have hfz14_2:=blk_frozen BK314.out 2;have hfz14_3:=blk_frozen BK314.out 3;have hfz14_4:=blk_frozen BK314.out 4))
       go_ret
       exact ⟨by first | rfl | (simp [errW_none,errW_some] <;> rfl) | (simp [*,errW_none,errW_some] <;> rfl) | (simp [errW_none,errW_some];exact isEmpty_bne _),by repeat (first | (with_reducible first | exact HB.out | apply below_alloc | apply pw_below_drewN | apply below_drew1 | refine below_set ?_ GE314.out) | exact HB.out)⟩
     ·rw [if_neg c6] at H
      have c6b0 : decide (1 ≤ a0_2) = false:=decide_eq_false c6
      clear c6
      obtain rfl:=Option.some.inj H
      go_enter Try.func28,Try.ntmps28
      go_wp2_with (first | ((with_reducible refine gate_dst (N:=1) rfl ?_);(try (refine gate_guard (by rfl) ?_;dsimp only));refine box_event ?hg (N:=1) ?hd (cs := #[.string a0_0,.int .i64 a0_1,.int .i64 a0_2,.int .u64 a0_3,.bool a0_4]) (t:=49) ?hr ?_;(case hd => rfl);(case hg => rfl);(case hr => first | (go_simp;done) | (go_simp;rfl));intro gb314 hg w15 hbox hb;have n0_:=Aside0.mk (below_step (by repeat (first | (with_reducible first | exact HB.out | apply below_alloc | apply pw_below_drewN | apply below_drew1) | exact HB.out)) hb);have n1_:=Aside0.mk (hbox);have n2_:=Aside0.mk ((by rw [hg];exact (below_size (by repeat (first | (with_reducible first | exact HB.out | apply below_alloc | apply pw_below_drewN | apply below_drew1) | exact HB.out))) : w.heap.size ≤ gb314));have n3_:=Aside0.mk ((by rw [hg];exact (below_size (by repeat (first | (with_reducible first | exact HB.out | apply below_alloc | apply pw_below_drewN | apply below_drew1) | exact HB.out))) : w.heap.size ≤ gb314));clear HB;have HB:=n0_;have BK314:=n1_;have GW314:=n2_;have GE314:=n3_;clear n0_ n1_ n2_ n3_;clear hb hbox hg;have hcz16_0 : w15.cell? ⟨gb314,0,none⟩ = some (.string a0_0):=(blk_cell BK314.out 0).trans rfl;have hcz16_1 : w15.cell? ⟨gb314,1,none⟩ = some (.int .i64 a0_1):=(blk_cell BK314.out 1).trans rfl;have hcz16_2 : w15.cell? ⟨gb314,2,none⟩ = some (.int .i64 a0_2):=(blk_cell BK314.out 2).trans rfl;have hcz16_3 : w15.cell? ⟨gb314,3,none⟩ = some (.int .u64 a0_3):=(blk_cell BK314.out 3).trans rfl;have hcz16_4 : w15.cell? ⟨gb314,4,none⟩ = some (.bool a0_4):=(blk_cell BK314.out 4).trans rfl;have hfz16_0:=blk_frozen BK314.out 0;have hfz16_1:=blk_frozen BK314.out 1;have hfz16_2:=blk_frozen BK314.out 2;have hfz16_3:=blk_frozen BK314.out 3;have hfz16_4:=blk_frozen BK314.out 4))
      go_ret
      exact ⟨by first | rfl | (simp [errW_none,errW_some] <;> rfl) | (simp [*,errW_none,errW_some] <;> rfl) | (simp [errW_none,errW_some];exact isEmpty_bne _),by repeat (first | (with_reducible first | exact HB.out | apply below_alloc | apply pw_below_drewN | apply below_drew1 | refine below_set ?_ GE314.out) | exact HB.out)⟩
    ·rw [if_neg c5] at H
     have c5b0 : decide (a0_1 ≤ 1048576) = false:=decide_eq_false c5
     clear c5
     obtain rfl:=Option.some.inj H
     go_enter Try.func28,Try.ntmps28
     go_wp2_with (first | ((with_reducible refine gate_dst (N:=1) rfl ?_);(try (refine gate_guard (by rfl) ?_;dsimp only));refine box_event ?hg (N:=1) ?hd (cs := #[.string a0_0,.int .i64 a0_1,.int .i64 a0_2,.int .u64 a0_3,.bool a0_4]) (t:=49) ?hr ?_;(case hd => rfl);(case hg => rfl);(case hr => first | (go_simp;done) | (go_simp;rfl));intro gb314 hg w17 hbox hb;have n0_:=Aside0.mk (below_step (by repeat (first | (with_reducible first | exact HB.out | apply below_alloc | apply pw_below_drewN | apply below_drew1) | exact HB.out)) hb);have n1_:=Aside0.mk (hbox);have n2_:=Aside0.mk ((by rw [hg];exact (below_size (by repeat (first | (with_reducible first | exact HB.out | apply below_alloc | apply pw_below_drewN | apply below_drew1) | exact HB.out))) : w.heap.size ≤ gb314));have n3_:=Aside0.mk ((by rw [hg];exact (below_size (by repeat (first | (with_reducible first | exact HB.out | apply below_alloc | apply pw_below_drewN | apply below_drew1) | exact HB.out))) : w.heap.size ≤ gb314));clear HB;have HB:=n0_;have BK314:=n1_;have GW314:=n2_;have GE314:=n3_;clear n0_ n1_ n2_ n3_;clear hb hbox hg;have hcz18_0 : w17.cell? ⟨gb314,0,none⟩ = some (.string a0_0):=(blk_cell BK314.out 0).trans rfl;have hcz18_1 : w17.cell? ⟨gb314,1,none⟩ = some (.int .i64 a0_1):=(blk_cell BK314.out 1).trans rfl;have hcz18_2 : w17.cell? ⟨gb314,2,none⟩ = some (.int .i64 a0_2):=(blk_cell BK314.out 2).trans rfl;have hcz18_3 : w17.cell? ⟨gb314,3,none⟩ = some (.int .u64 a0_3):=(blk_cell BK314.out 3).trans rfl;have hcz18_4 : w17.cell? ⟨gb314,4,none⟩ = some (.bool a0_4):=(blk_cell BK314.out 4).trans rfl;have hfz18_0:=blk_frozen BK314.out 0;have hfz18_1:=blk_frozen BK314.out 1;have hfz18_2:=blk_frozen BK314.out 2;have hfz18_3:=blk_frozen BK314.out 3;have hfz18_4:=blk_frozen BK314.out 4))
     go_ret
     exact ⟨by first | rfl | (simp [errW_none,errW_some] <;> rfl) | (simp [*,errW_none,errW_some] <;> rfl) | (simp [errW_none,errW_some];exact isEmpty_bne _),by repeat (first | (with_reducible first | exact HB.out | apply below_alloc | apply pw_below_drewN | apply below_drew1 | refine below_set ?_ GE314.out) | exact HB.out)⟩
   ·rw [if_neg c4] at H
    have c4b0 : decide (0 ≤ a0_1) = false:=decide_eq_false c4
    clear c4
    obtain rfl:=Option.some.inj H
    go_enter Try.func28,Try.ntmps28
    go_wp2_with (first | ((with_reducible refine gate_dst (N:=1) rfl ?_);(try (refine gate_guard (by rfl) ?_;dsimp only));refine box_event ?hg (N:=1) ?hd (cs := #[.string a0_0,.int .i64 a0_1,.int .i64 a0_2,.int .u64 a0_3,.bool a0_4]) (t:=49) ?hr ?_;(case hd => rfl);(case hg => rfl);(case hr => first | (go_simp;done) | (go_simp;rfl));intro gb314 hg w19 hbox hb;have n0_:=Aside0.mk (below_step (by repeat (first | (with_reducible first | exact HB.out | apply below_alloc | apply pw_below_drewN | apply below_drew1) | exact HB.out)) hb);have n1_:=Aside0.mk (hbox);have n2_:=Aside0.mk ((by rw [hg];exact (below_size (by repeat (first | (with_reducible first | exact HB.out | apply below_alloc | apply pw_below_drewN | apply below_drew1) | exact HB.out))) : w.heap.size ≤ gb314));have n3_:=Aside0.mk ((by rw [hg];exact (below_size (by repeat (first | (with_reducible first | exact HB.out | apply below_alloc | apply pw_below_drewN | apply below_drew1) | exact HB.out))) : w.heap.size ≤ gb314));clear HB;have HB:=n0_;have BK314:=n1_;have GW314:=n2_;have GE314:=n3_;clear n0_ n1_ n2_ n3_;clear hb hbox hg;have hcz20_0 : w19.cell? ⟨gb314,0,none⟩ = some (.string a0_0):=(blk_cell BK314.out 0).trans rfl;have hcz20_1 : w19.cell? ⟨gb314,1,none⟩ = some (.int .i64 a0_1):=(blk_cell BK314.out 1).trans rfl;have hcz20_2 : w19.cell? ⟨gb314,2,none⟩ = some (.int .i64 a0_2):=(blk_cell BK314.out 2).trans rfl;have hcz20_3 : w19.cell? ⟨gb314,3,none⟩ = some (.int .u64 a0_3):=(blk_cell BK314.out 3).trans rfl;have hcz20_4 : w19.cell? ⟨gb314,4,none⟩ = some (.bool a0_4):=(blk_cell BK314.out 4).trans rfl;have hfz20_0:=blk_frozen BK314.out 0;have hfz20_1:=blk_frozen BK314.out 1;have hfz20_2:=blk_frozen BK314.out 2;have hfz20_3:=blk_frozen BK314.out 3;have hfz20_4:=blk_frozen BK314.out 4))
    go_ret
    exact ⟨by first | rfl | (simp [errW_none,errW_some] <;> rfl) | (simp [*,errW_none,errW_some] <;> rfl) | (simp [errW_none,errW_some];exact isEmpty_bne _),by repeat (first | (with_reducible first | exact HB.out | apply below_alloc | apply pw_below_drewN | apply below_drew1 | refine below_set ?_ GE314.out) | exact HB.out)⟩
  ·rw [if_neg c3] at H
   have c3b0 : decide ((a0_0.size : Int) ≤ 40) = false:=decide_eq_false c3
   have c3b1 : decide (a0_0.size ≤ 40) = false:=decide_eq_false (by omega)
   clear c3
   obtain rfl:=Option.some.inj H
   go_enter Try.func28,Try.ntmps28
   go_wp2_with (first | ((with_reducible refine gate_dst (N:=1) rfl ?_);(try (refine gate_guard (by rfl) ?_;dsimp only));refine box_event ?hg (N:=1) ?hd (cs := #[.string a0_0,.int .i64 a0_1,.int .i64 a0_2,.int .u64 a0_3,.bool a0_4]) (t:=49) ?hr ?_;(case hd => rfl);(case hg => rfl);(case hr => first | (go_simp;done) | (go_simp;rfl));intro gb314 hg w21 hbox hb;have n0_:=Aside0.mk (below_step (by repeat (first | (with_reducible first | exact HB.out | apply below_alloc | apply pw_below_drewN | apply below_drew1) | exact HB.out)) hb);have n1_:=Aside0.mk (hbox);have n2_:=Aside0.mk ((by rw [hg];exact (below_size (by repeat (first | (with_reducible first | exact HB.out | apply below_alloc | apply pw_below_drewN | apply below_drew1) | exact HB.out))) : w.heap.size ≤ gb314));have n3_:=Aside0.mk ((by rw [hg];exact (below_size (by repeat (first | (with_reducible first | exact HB.out | apply below_alloc | apply pw_below_drewN | apply below_drew1) | exact HB.out))) : w.heap.size ≤ gb314));clear HB;have HB:=n0_;have BK314:=n1_;have GW314:=n2_;have GE314:=n3_;clear n0_ n1_ n2_ n3_;clear hb hbox hg;have hcz22_0 : w21.cell? ⟨gb314,0,none⟩ = some (.string a0_0):=(blk_cell BK314.out 0).trans rfl;have hcz22_1 : w21.cell? ⟨gb314,1,none⟩ = some (.int .i64 a0_1):=(blk_cell BK314.out 1).trans rfl;have hcz22_2 : w21.cell? ⟨gb314,2,none⟩ = some (.int .i64 a0_2):=(blk_cell BK314.out 2).trans rfl;have hcz22_3 : w21.cell? ⟨gb314,3,none⟩ = some (.int .u64 a0_3):=(blk_cell BK314.out 3).trans rfl;have hcz22_4 : w21.cell? ⟨gb314,4,none⟩ = some (.bool a0_4):=(blk_cell BK314.out 4).trans rfl;have hfz22_0:=blk_frozen BK314.out 0;have hfz22_1:=blk_frozen BK314.out 1;have hfz22_2:=blk_frozen BK314.out 2;have hfz22_3:=blk_frozen BK314.out 3;have hfz22_4:=blk_frozen BK314.out 4))
   go_ret
   exact ⟨by first | rfl | (simp [errW_none,errW_some] <;> rfl) | (simp [*,errW_none,errW_some] <;> rfl) | (simp [errW_none,errW_some];exact isEmpty_bne _),by repeat (first | (with_reducible first | exact HB.out | apply below_alloc | apply pw_below_drewN | apply below_drew1 | refine below_set ?_ GE314.out) | exact HB.out)⟩
 ·rw [if_neg c2] at H
  have c2b0 : decide (1 ≤ (a0_0.size : Int)) = false:=decide_eq_false c2
  have c2b1 : decide (1 ≤ a0_0.size) = false:=decide_eq_false (by omega)
  clear c2
  obtain rfl:=Option.some.inj H
  go_enter Try.func28,Try.ntmps28
  go_wp2_with (first | ((with_reducible refine gate_dst (N:=1) rfl ?_);(try (refine gate_guard (by rfl) ?_;dsimp only));refine box_event ?hg (N:=1) ?hd (cs := #[.string a0_0,.int .i64 a0_1,.int .i64 a0_2,.int .u64 a0_3,.bool a0_4]) (t:=49) ?hr ?_;(case hd => rfl);(case hg => rfl);(case hr => first | (go_simp;done) | (go_simp;rfl));intro gb314 hg w23 hbox hb;have n0_:=Aside0.mk (below_step (by repeat (first | (with_reducible first | exact HB.out | apply below_alloc | apply pw_below_drewN | apply below_drew1) | exact HB.out)) hb);have n1_:=Aside0.mk (hbox);have n2_:=Aside0.mk ((by rw [hg];exact (below_size (by repeat (first | (with_reducible first | exact HB.out | apply below_alloc | apply pw_below_drewN | apply below_drew1) | exact HB.out))) : w.heap.size ≤ gb314));have n3_:=Aside0.mk ((by rw [hg];exact (below_size (by repeat (first | (with_reducible first | exact HB.out | apply below_alloc | apply pw_below_drewN | apply below_drew1) | exact HB.out))) : w.heap.size ≤ gb314));clear HB;have HB:=n0_;have BK314:=n1_;have GW314:=n2_;have GE314:=n3_;clear n0_ n1_ n2_ n3_;clear hb hbox hg;have hcz24_0 : w23.cell? ⟨gb314,0,none⟩ = some (.string a0_0):=(blk_cell BK314.out 0).trans rfl;have hcz24_1 : w23.cell? ⟨gb314,1,none⟩ = some (.int .i64 a0_1):=(blk_cell BK314.out 1).trans rfl;have hcz24_2 : w23.cell? ⟨gb314,2,none⟩ = some (.int .i64 a0_2):=(blk_cell BK314.out 2).trans rfl;have hcz24_3 : w23.cell? ⟨gb314,3,none⟩ = some (.int .u64 a0_3):=(blk_cell BK314.out 3).trans rfl;have hcz24_4 : w23.cell? ⟨gb314,4,none⟩ = some (.bool a0_4):=(blk_cell BK314.out 4).trans rfl;have hfz24_0:=blk_frozen BK314.out 0;have hfz24_1:=blk_frozen BK314.out 1;have hfz24_2:=blk_frozen BK314.out 2;have hfz24_3:=blk_frozen BK314.out 3;have hfz24_4:=blk_frozen BK314.out 4))
  go_ret
  exact ⟨by first | rfl | (simp [errW_none,errW_some] <;> rfl) | (simp [*,errW_none,errW_some] <;> rfl) | (simp [errW_none,errW_some];exact isEmpty_bne _),by repeat (first | (with_reducible first | exact HB.out | apply below_alloc | apply pw_below_drewN | apply below_drew1 | refine below_set ?_ GE314.out) | exact HB.out)⟩

end Go.Proofs.Ytdjkkceamldmjaa.Print
