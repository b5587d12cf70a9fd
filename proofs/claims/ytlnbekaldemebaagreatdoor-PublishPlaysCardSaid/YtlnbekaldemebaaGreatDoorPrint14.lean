/- Written by a program of mine (give.py, over the kit's print) out of the translation: contracts of the Go functions. Lean checks it. -/
import Derived.Test.YtlnbekaldemebaaGreatDoorPrint0
import Derived.Test.YtlnbekaldemebaaGreatDoorPrint13
namespace Go.Proofs.YtlnbekaldemebaaGreatDoor.Print
open Go.RowKit Go.Proofs.YtlnbekaldemebaaGreatDoorW.PrintWords Go.Proofs.YtlnbekaldemebaaGreatDoorW.PrintLast Go.Proofs.YtlnbekaldemebaaGreatDoorW.PrintMore
attribute [local go_sem] max2_int min2_int max_two min_two max_three min_three max_four min_four   -- for this text's walks alone
set_option linter.unusedVariables false
set_option linter.unusedSimpArgs false

/-! ### thwartref12_Bytes: function 55 -/
def thwartref12_Bytes.l0 : Nat → ByteArray → Int → Int → List (S65) → Option (ByteArray × Int)
 | 0,_,_,_,_ => none
 | k + 1,x4,x5,x386000,x386001 => if x5 < (x386001.length : Int) then (if 0 ≤ x5 then ((thwartref01_Put.f k (IntKind.u64.wrap ((rd_T65 x386001 x5).f0))).bind fun t391 => (if x4.size + t391.size ≤ 9223372036854775807 then ((thwartref01_Put.f k (IntKind.u64.wrap ((rd_T65 x386001 x5).f1))).bind fun t392 => (if x4.size + t391.size + t392.size ≤ 9223372036854775807 then ((thwartref01_Put.f k (IntKind.u64.wrap ((rd_T65 x386001 x5).f2))).bind fun t393 => (if x4.size + t391.size + t392.size + t393.size ≤ 9223372036854775807 then (thwartref12_Bytes.l0 k (((x4 ++ t391) ++ t392) ++ t393) (wrap64 (x5 + 1)) x386000 x386001) else (none))) else (none))) else (none))) else (none)) else ((thwartref02_Seal.f k x4).bind fun t394 => (some (t394,0)))
def thwartref12_Bytes.f (k : Nat) (a0_0 : Int) (l0_1 : List (S65)) : Option (ByteArray × Int):=(thwartref12_Right.f k a0_0 l0_1).bind fun t386 => (if t386 = true then ((thwartref01_Put.f k (IntKind.u64.wrap (a0_0))).bind fun t387 => ((thwartref01_Put.f k (IntKind.u64.wrap ((l0_1.length : Int)))).bind fun t388 => (if t387.size + t388.size ≤ 9223372036854775807 then (thwartref12_Bytes.l0 k (t387 ++ t388) 0 a0_0 l0_1) else (none)))) else (some ((⟨#[]⟩ : ByteArray),1)))
theorem thwartref12_Bytes.mono_l : ∀ k,(∀ y0 y1 y2 y3,LeO (thwartref12_Bytes.l0 k y0 y1 y2 y3) (thwartref12_Bytes.l0 (k + 1) y0 y1 y2 y3))
 | 0 => fun _ _ _ _ r h => by simp [thwartref12_Bytes.l0] at h
 | k + 1 => by
  have ih0:=thwartref12_Bytes.mono_l k
  ·intro y0 y1 y2 y3
   unfold thwartref12_Bytes.l0
   repeat' first
   | (with_reducible exact ih0 _ _ _ _)
   | (with_reducible exact thwartref01_Put.mono _ _)
   | (with_reducible exact thwartref02_Seal.mono _ _)
   | (with_reducible exact thwartref12_Right.mono _ _ _)
   | (with_reducible exact LeO.refl _)
   | (with_reducible exact LeO.none _)
   | (with_reducible refine LeO.ite ?_ ?_)
   | (with_reducible refine LeO.bind ?_ (fun _ => ?_))
   | exact ih0 _ _ _ _
   | exact thwartref01_Put.mono _ _
   | exact thwartref02_Seal.mono _ _
   | exact thwartref12_Right.mono _ _ _
   | exact LeO.none _
   | refine LeO.ite ?_ ?_
   | refine LeO.bind ?_ (fun _ => ?_)
theorem thwartref12_Bytes.mono : ∀ a0 a1 k,LeO (thwartref12_Bytes.f k a0 a1) (thwartref12_Bytes.f (k + 1) a0 a1):=by
 intro a0 a1 k
 have ih0:=thwartref12_Bytes.mono_l k
 unfold thwartref12_Bytes.f
 repeat' first
   | (with_reducible exact ih0 _ _ _ _)
   | (with_reducible exact thwartref01_Put.mono _ _)
   | (with_reducible exact thwartref02_Seal.mono _ _)
   | (with_reducible exact thwartref12_Right.mono _ _ _)
   | (with_reducible exact LeO.refl _)
   | (with_reducible exact LeO.none _)
   | (with_reducible refine LeO.ite ?_ ?_)
   | (with_reducible refine LeO.bind ?_ (fun _ => ?_))
   | exact ih0 _ _ _ _
   | exact thwartref01_Put.mono _ _
   | exact thwartref02_Seal.mono _ _
   | exact thwartref12_Right.mono _ _ _
   | exact LeO.none _
   | refine LeO.ite ?_ ?_
   | refine LeO.bind ?_ (fun _ => ?_)
def thwartref12_Bytes.T3 : Bool × List (List Nat × List Nat):=(true,[([],[]),([0],[0]),([1],[1]),([2],[2]),([],[]),([4],[4]),([5],[5]),([6],[6]),([7,3],[7]),([3,8],[3,8]),([9,8,0,1,2,3,4,5,6,7,8,9],[9])])
def thwartref12_Bytes.B3 : List Nat:=[0,1,3,7,0,16,48,112,255,511,1023]
theorem thwartref12_Bytes.tab3 : rtab .any (opsOf Tryz.f55 3) = thwartref12_Bytes.T3:=by kernel_rfl
theorem thwartref12_Bytes.bits3 : waitsOk thwartref12_Bytes.T3.2 thwartref12_Bytes.B3 = true:=by kernel_rfl
def thwartref12_Bytes.T8 : Bool × List (List Nat × List Nat):=(true,[([],[]),([],[]),([1],[1]),([2],[2]),([3],[3]),([0,4],[0,4]),([],[]),([6],[6]),([7],[7]),([8,4],[8]),([5,9],[5,9]),([],[]),([11],[11]),([12],[12]),([13,9],[13]),([10,14],[10,14]),([15,14,0,1,2,3,4,5,6,7,8,9,10,11,12,13,14,15],[0,15])])
def thwartref12_Bytes.B8 : List Nat:=[0,0,2,6,14,31,0,64,192,478,1023,0,2048,6144,15326,32767,65535]
theorem thwartref12_Bytes.tab8 : rtab .any (opsOf Tryz.f55 8) = thwartref12_Bytes.T8:=by kernel_rfl
theorem thwartref12_Bytes.bits8 : waitsOk thwartref12_Bytes.T8.2 thwartref12_Bytes.B8 = true:=by kernel_rfl
set_option maxHeartbeats 8000000 in
set_option maxRecDepth 100000 in
theorem thwartref12_Bytes.calls (k : Nat) (a0_0 : Int) (A0_1 : Option Addr) (c0_1 : Nat) (l0_1 : List (S65)) (r1 : ByteArray) (r2 : Int) (w : World) (hr0_1 : Kd.C k65 w A0_1 l0_1.length l0_1) (hc0_1 : l0_1.length ≤ c0_1) (h : thwartref12_Bytes.f k a0_0 l0_1 = some (r1,r2)) :
  Calls Tryz.prog 55 #[.agg #[.int .i64 a0_0,.slice A0_1 l0_1.length c0_1]] w fun e w' => e = .returned (.tuple #[.string r1,.int .i64 r2]) ∧ Below w.heap.size w w' := by
 have hu32:=Tryz.underlying32
 have hu65:=Tryz.underlying65
 have HR0_1:=Aside0.mk hr0_1
 have HC0_1:=Aside0.mk hc0_1
 clear hr0_1 hc0_1
 have HB:=Aside0.mk (Below.refl w.heap.size w)
 have H : ((thwartref12_Right.f k a0_0 l0_1).bind fun t386 => (if t386 = true then ((thwartref01_Put.f k (IntKind.u64.wrap (a0_0))).bind fun t387 => ((thwartref01_Put.f k (IntKind.u64.wrap ((l0_1.length : Int)))).bind fun t388 => (if t387.size + t388.size ≤ 9223372036854775807 then (thwartref12_Bytes.l0 k (t387 ++ t388) 0 a0_0 l0_1) else (none)))) else (some ((⟨#[]⟩ : ByteArray),1)))) = some (r1,r2):=h
 clear h
 replace H:=Option.bind_eq_some_iff.mp H
 obtain ⟨t386,A20,H⟩:=H
 replace H : (if t386 = true then ((thwartref01_Put.f k (IntKind.u64.wrap (a0_0))).bind fun t387 => ((thwartref01_Put.f k (IntKind.u64.wrap ((l0_1.length : Int)))).bind fun t388 => (if t387.size + t388.size ≤ 9223372036854775807 then (thwartref12_Bytes.l0 k (t387 ++ t388) 0 a0_0 l0_1) else (none)))) else (some ((⟨#[]⟩ : ByteArray),1))) = some (r1,r2):=H
 have A2:=Aside0.mk A20
 clear A20
 by_cases c3 : t386 = true
 ·subst c3
  have H1 : ((thwartref01_Put.f k (IntKind.u64.wrap (a0_0))).bind fun t387 => ((thwartref01_Put.f k (IntKind.u64.wrap ((l0_1.length : Int)))).bind fun t388 => (if t387.size + t388.size ≤ 9223372036854775807 then (thwartref12_Bytes.l0 k (t387 ++ t388) 0 a0_0 l0_1) else (none)))) = some (r1,r2):=by rw [if_pos rfl] at H;exact H
  clear H
  have H:=H1
  clear H1
  replace H:=Option.bind_eq_some_iff.mp H
  obtain ⟨t387,A40,H⟩:=H
  replace H : ((thwartref01_Put.f k (IntKind.u64.wrap ((l0_1.length : Int)))).bind fun t388 => (if t387.size + t388.size ≤ 9223372036854775807 then (thwartref12_Bytes.l0 k (t387 ++ t388) 0 a0_0 l0_1) else (none))) = some (r1,r2):=H
  have A4:=Aside0.mk A40
  clear A40
  replace H:=Option.bind_eq_some_iff.mp H
  obtain ⟨t388,A50,H⟩:=H
  replace H : (if t387.size + t388.size ≤ 9223372036854775807 then (thwartref12_Bytes.l0 k (t387 ++ t388) 0 a0_0 l0_1) else (none)) = some (r1,r2):=H
  have A5:=Aside0.mk A50
  clear A50
  by_cases c6 : t387.size + t388.size ≤ 9223372036854775807
  ·rw [if_pos c6] at H
   have c6b0:=eq_true c6
   have c6b1 : decide (t387.size + t388.size ≤ 9223372036854775807) = true:=decide_eq_true c6
   try have c6b2 : (9223372036854775807 < t387.size + t388.size) = False:=eq_false (Nat.not_lt.2 c6)
   have H' := Aside0.mk H
   clear H
   go_enter Tryz.func55,Tryz.ntmps55
   try go_wp2_with (first | ((with_reducible refine gate_dst (N:=1) rfl ?_);refine box_event ?hg (N:=1) ?hd (cs := #[.int .i64 a0_0,.slice A0_1 l0_1.length c0_1]) (t:=32) ?hr ?_;(case hd => rfl);(case hg => rfl);(case hr => first | (go_simp;done) | (go_simp;rfl));intro gb385 hg w7 hbox hb;have n0_:=Aside0.mk (below_step (by repeat (first | (with_reducible first | exact HB.out | apply below_alloc | apply pw_below_drewN | apply below_drew1) | exact HB.out)) hb);have n1_:=Aside0.mk (hbox);have n2_:=Aside0.mk ((by rw [hg];exact (below_size (by repeat (first | (with_reducible first | exact HB.out | apply below_alloc | apply pw_below_drewN | apply below_drew1) | exact HB.out))) : w.heap.size ≤ gb385));have n3_:=Aside0.mk ((by rw [hg];exact (below_size (by repeat (first | (with_reducible first | exact HB.out | apply below_alloc | apply pw_below_drewN | apply below_drew1) | exact HB.out))) : w.heap.size ≤ gb385));clear HB;have HB:=n0_;have BK385:=n1_;have GW385:=n2_;have GE385:=n3_;clear n0_ n1_ n2_ n3_;clear hb hbox hg;have hcz8_0 : w7.cell? ⟨gb385,0,none⟩ = some (.int .i64 a0_0):=(blk_cell BK385.out 0).trans rfl;have hcz8_1 : w7.cell? ⟨gb385,1,none⟩ = some (.slice A0_1 l0_1.length c0_1):=(blk_cell BK385.out 1).trans rfl;have hfz8_0:=blk_frozen BK385.out 0;have hfz8_1:=blk_frozen BK385.out 1) | ((with_reducible refine gate_callee (f:=90) rfl ?_);refine goesL_ (some 8) rfl rfl Tryz.func90 (by kernel_rfl) rfl #[.agg #[.int .i64 a0_0,.slice A0_1 l0_1.length c0_1]] rfl (by (try simp only [List.map_toArray,List.map_cons,List.map_nil]);first | done | rfl | (simp only [List.length_drop,List.length_take];rfl)) ?_;(with_reducible refine (thwartref12_Right.calls k a0_0 _ _ l0_1 true _ ?side1 ?side2 A2.out).mono ?_);(case side1 => repeat (first | exact (Kd.C_below HR0_1.out HB.out) | (with_reducible refine Kd.C_alloc ?_ _) | (with_reducible refine Kd.C_drewN ?_ _) | (with_reducible refine Kd.C_drew ?_)));(case side2 => exact HC0_1.out);rintro e w9 ⟨rfl,hb⟩;refine ⟨_,rfl,?_⟩;have n0_:=Aside0.mk (blk_below (g:=gb385) (o := .cells #[.int .i64 a0_0,.slice A0_1 l0_1.length c0_1] 32 (0,0)) (by (with_reducible repeat (first | refine blk_drewN ?_ _ | refine blk_drew ?_ | refine blk_alloc ?_ _));exact BK385.out) hb);have n1_:=Aside0.mk (below_step (by repeat (first | (with_reducible first | exact HB.out | apply below_alloc | apply pw_below_drewN | apply below_drew1 | refine below_set ?_ GE385.out) | exact HB.out)) hb);clear BK385;clear HB;have BK385:=n0_;have HB:=n1_;clear n0_ n1_;(try clear hb);(try clear hb2);(try clear hk);(try clear hi)))
   have n0_:=Aside0.mk (blk_drew BK385.out)
   have n1_:=Aside0.mk (below_drew1 HB.out)
   clear BK385
   clear HB
   have BK385:=n0_
   have HB:=n1_
   clear n0_ n1_
   refine start_ (n:=11) (S:=fun w' => w'.cell? ⟨gb385,0,none⟩ = some (.int .i64 a0_0) ∧ w'.cell? ⟨gb385,1,none⟩ = some (.slice A0_1 l0_1.length c0_1)) (ds:=[]) #[false,false,false,false,false,false,false,false,false,false,false] (by kernel_rfl) rfl rfl ⟨(blk_cell BK385.out 0).trans rfl,(blk_cell BK385.out 1).trans rfl⟩ (fun hHeld => ?_);refine with_tabW thwartref12_Bytes.tab3 thwartref12_Bytes.bits3 (fun HT_ HW_ => ?_)
   generalize w9.drew = w10 at BK385 HB hHeld ⊢
   refine pure_ (i:=0) (N:=some 10) (v := ?_) (a' := ?_) #[true,false,false,false,false,false,false,false,false,false,false] rfl rfl (any_of HT_.out (by kernel_rfl)) (fun _ _ _ h => h) (Or.inl ⟨by rfl,?_⟩) ?_ ?_
   rotate_left
   ·intro w'
    go_simp
    with_reducible rfl
   rotate_left
   ·simp only [Act.put,List.setIfInBounds_toArray,List.set_cons_zero,List.set_cons_succ,i64_w,i32_w]
    rfl
   refine pure_ (i:=4) (N:=some 14) (v := ?_) (a' := ?_) #[true,false,false,false,true,false,false,false,false,false,false] rfl rfl (any_of HT_.out (by kernel_rfl)) (fun _ _ _ h => h) (Or.inl ⟨by rfl,?_⟩) ?_ ?_
   rotate_left
   ·intro w'
    go_simp
    with_reducible rfl
   rotate_left
   ·simp only [Act.put,List.setIfInBounds_toArray,List.set_cons_zero,List.set_cons_succ,i64_w,i32_w]
    rfl
   refine take_ (i:=1) (N:=some 11) (v := ?_) (a' := ?_) #[true,true,false,false,true,false,false,false,false,false,false] rfl rfl (take_ofW HT_.out HW_.out (by kernel_rfl)) (fun _ _ _ h => h) (Or.inl ⟨by rfl,?_⟩) hHeld ?_ ?_
   rotate_left
   ·rintro w' ⟨s0,s1⟩
    go_simp
    with_reducible rfl
   rotate_left
   ·simp only [Act.put,List.setIfInBounds_toArray,List.set_cons_zero,List.set_cons_succ,i64_w,i32_w]
    rfl
   refine pure_ (i:=2) (N:=some 12) (v := ?_) (a' := ?_) #[true,true,true,false,true,false,false,false,false,false,false] rfl rfl (any_of HT_.out (by kernel_rfl)) (fun _ _ _ h => h) (Or.inl ⟨by rfl,?_⟩) ?_ ?_
   rotate_left
   ·intro w'
    go_simp
    with_reducible rfl
   rotate_left
   ·simp only [Act.put,List.setIfInBounds_toArray,List.set_cons_zero,List.set_cons_succ,i64_w,i32_w]
    rfl
   refine take_ (i:=5) (N:=some 15) (v := ?_) (a' := ?_) #[true,true,true,false,true,true,false,false,false,false,false] rfl rfl (take_ofW HT_.out HW_.out (by kernel_rfl)) (fun _ _ _ h => h) (Or.inl ⟨by rfl,?_⟩) hHeld ?_ ?_
   rotate_left
   ·rintro w' ⟨s0,s1⟩
    go_simp
    with_reducible rfl
   rotate_left
   ·simp only [Act.put,List.setIfInBounds_toArray,List.set_cons_zero,List.set_cons_succ,i64_w,i32_w]
    rfl
   refine pure_ (i:=6) (N:=some 16) (v := ?_) (a' := ?_) #[true,true,true,false,true,true,true,false,false,false,false] rfl rfl (any_of HT_.out (by kernel_rfl)) (fun _ _ _ h => h) (Or.inl ⟨by rfl,?_⟩) ?_ ?_
   rotate_left
   ·intro w'
    go_simp
    with_reducible rfl
   rotate_left
   ·simp only [Act.put,List.setIfInBounds_toArray,List.set_cons_zero,List.set_cons_succ,i64_w,i32_w]
    rfl
   refine pure_ (i:=7) (N:=some 17) (v := ?_) (a' := ?_) #[true,true,true,false,true,true,true,true,false,false,false] rfl rfl (any_of HT_.out (by kernel_rfl)) (fun _ _ _ h => h) (Or.inl ⟨by rfl,?_⟩) ?_ ?_
   rotate_left
   ·intro w'
    go_simp
    with_reducible rfl
   rotate_left
   ·simp only [Act.put,List.setIfInBounds_toArray,List.set_cons_zero,List.set_cons_succ,i64_w,i32_w]
    rfl
   refine one_ (i:=3) (N:=some 13) #[true,true,true,true,true,true,true,true,false,false,false] rfl rfl (one_of HT_.out (by kernel_rfl)) (by decide) (fun K hK => ?_)
   refine goes_ Tryz.func91 (by kernel_rfl) rfl #[.int .u64 (IntKind.u64.wrap (a0_0))] (by rfl) rfl rfl (by (try simp only [List.map_toArray,List.map_cons,List.map_nil]);first | done | rfl | (simp only [List.length_drop,List.length_take];rfl)) ?_
   with_reducible refine (thwartref01_Put.calls k (IntKind.u64.wrap (a0_0)) t387 _ A4.out).mono ?_
   rintro e w11 ⟨rfl,hb⟩
   refine ⟨_,rfl,?_⟩
   have n0_:=Aside0.mk (blk_below (g:=gb385) (o := .cells #[.int .i64 a0_0,.slice A0_1 l0_1.length c0_1] 32 (0,0)) (by (with_reducible repeat (first | refine blk_drewN ?_ _ | refine blk_drew ?_ | refine blk_alloc ?_ _));exact BK385.out) hb)
   have n1_:=Aside0.mk (below_step (by repeat (first | (with_reducible first | exact HB.out | apply below_alloc | apply pw_below_drewN | apply below_drew1 | refine below_set ?_ GE385.out) | exact HB.out)) hb)
   clear BK385
   clear HB
   have BK385:=n0_
   have HB:=n1_
   clear n0_ n1_
   (try clear hb)
   (try clear hb2)
   (try clear hk)
   (try clear hi)
   refine hK.out _ _ ⟨(blk_cell BK385.out 0).trans rfl,(blk_cell BK385.out 1).trans rfl⟩ (fun hHeld => ?_)
   clear hK K
   refine norm_ (a' := ?_) ?_ ?_
   rotate_left
   ·show Act.put _ (some 13) _ = _
    simp only [Act.put,List.setIfInBounds_toArray,List.set_cons_zero,List.set_cons_succ,i64_w,i32_w]
    rfl
   refine one_ (i:=8) (N:=some 18) #[true,true,true,true,true,true,true,true,true,false,false] rfl rfl (one_of HT_.out (by kernel_rfl)) (by decide) (fun K hK => ?_)
   refine goes_ Tryz.func91 (by kernel_rfl) rfl #[.int .u64 (IntKind.u64.wrap ((l0_1.length : Int)))] (by rfl) rfl rfl (by (try simp only [List.map_toArray,List.map_cons,List.map_nil]);first | done | rfl | (simp only [List.length_drop,List.length_take];rfl)) ?_
   with_reducible refine (thwartref01_Put.calls k (IntKind.u64.wrap ((l0_1.length : Int))) t388 _ A5.out).mono ?_
   rintro e w12 ⟨rfl,hb⟩
   refine ⟨_,rfl,?_⟩
   have n0_:=Aside0.mk (blk_below (g:=gb385) (o := .cells #[.int .i64 a0_0,.slice A0_1 l0_1.length c0_1] 32 (0,0)) (by (with_reducible repeat (first | refine blk_drewN ?_ _ | refine blk_drew ?_ | refine blk_alloc ?_ _));exact BK385.out) hb)
   have n1_:=Aside0.mk (below_step (by repeat (first | (with_reducible first | exact HB.out | apply below_alloc | apply pw_below_drewN | apply below_drew1 | refine below_set ?_ GE385.out) | exact HB.out)) hb)
   clear BK385
   clear HB
   have BK385:=n0_
   have HB:=n1_
   clear n0_ n1_
   (try clear hb)
   (try clear hb2)
   (try clear hk)
   (try clear hi)
   refine hK.out _ _ ⟨(blk_cell BK385.out 0).trans rfl,(blk_cell BK385.out 1).trans rfl⟩ (fun hHeld => ?_)
   clear hK K
   refine norm_ (a' := ?_) ?_ ?_
   rotate_left
   ·show Act.put _ (some 18) _ = _
    simp only [Act.put,List.setIfInBounds_toArray,List.set_cons_zero,List.set_cons_succ,i64_w,i32_w]
    rfl
   refine pure_ (i:=9) (N:=some 19) (v := ?_) (a' := ?_) #[true,true,true,true,true,true,true,true,true,true,false] rfl rfl (any_of HT_.out (by kernel_rfl)) (fun _ _ _ h => h) (Or.inl ⟨by rfl,?_⟩) ?_ ?_
   rotate_left
   ·intro w'
    go_simp
    with_reducible rfl
   rotate_left
   ·simp only [Act.put,List.setIfInBounds_toArray,List.set_cons_zero,List.set_cons_succ,i64_w,i32_w]
    rfl
   refine pure_ (i:=10) (N:=some 4) (v := ?_) (a' := ?_) #[true,true,true,true,true,true,true,true,true,true,true] rfl rfl (any_of HT_.out (by kernel_rfl)) (fun _ _ _ h => h) (Or.inl ⟨by rfl,?_⟩) ?_ ?_
   rotate_left
   ·intro w'
    go_simp
    with_reducible rfl
   rotate_left
   ·simp only [Act.put,List.setIfInBounds_toArray,List.set_cons_zero,List.set_cons_succ,i64_w,i32_w]
    rfl
   refine done_ (done_of HT_.out (by kernel_rfl)) ?_
   try go_wp2
   go_loopg [4,5] k (fun kq v4 v5 w' => ∃ (x4_1 : ByteArray) (x5_1 : Int),v4 = .string x4_1 ∧ v5 = .int .i64 x5_1 ∧ Aside0 (thwartref12_Bytes.l0 kq x4_1 x5_1 a0_0 l0_1 = some (r1,r2)) ∧ Aside0 (kq ≤ k) ∧ Aside0 (w'.heap[gb385]? = some (.cells #[.int .i64 a0_0,(.slice A0_1 l0_1.length c0_1)] 32 (0,0))) ∧ Aside0 (Below w.heap.size w w'))
   case atStart => exact ⟨(t387 ++ t388),(0),(by first | rfl | (simp;done) | (simp [*];done)),(by first | rfl | (simp;done) | (simp [*];done)),H',⟨Nat.le_refl _⟩,⟨by (with_reducible repeat (first | refine blk_drewN ?_ _ | refine blk_drew ?_ | refine blk_alloc ?_ _));exact BK385.out⟩,⟨by repeat (first | (with_reducible first | exact HB.out | apply below_alloc | apply pw_below_drewN | apply below_drew1 | refine below_set ?_ GE385.out) | exact HB.out)⟩⟩
   case round =>
    clear H'
    try clear p2
    try clear c3
    try clear c5
    try clear c6
    try clear c6b0
    try clear c6b1
    try clear c6b2
    try clear c9
    try clear hcz8_0
    try clear hcz8_1
    try clear hfz8_0
    try clear hfz8_1
    obtain ⟨x4_1,x5_1,rfl,rfl,HA,HK1,BK385,HB⟩:=hrel
    cases gk with
    | zero => exact absurd HA.out (by simp [thwartref12_Bytes.l0])
    | succ k1 =>
     have H:=HA.out
     clear HA
     simp only [thwartref12_Bytes.l0] at H
     by_cases c13 : x5_1 < (l0_1.length : Int)
     ·rw [if_pos c13] at H
      have c13b0 : decide (x5_1 < (l0_1.length : Int)) = true:=decide_eq_true c13
      clear c13
      by_cases c14 : 0 ≤ x5_1
      ·rw [if_pos c14] at H
       have c14b0 : decide (0 ≤ x5_1) = true:=decide_eq_true c14
       clear c14
       replace H:=Option.bind_eq_some_iff.mp H
       obtain ⟨t391,A150,H⟩:=H
       replace H : (if x4_1.size + t391.size ≤ 9223372036854775807 then ((thwartref01_Put.f k1 (IntKind.u64.wrap ((rd_T65 l0_1 x5_1).f1))).bind fun t392 => (if x4_1.size + t391.size + t392.size ≤ 9223372036854775807 then ((thwartref01_Put.f k1 (IntKind.u64.wrap ((rd_T65 l0_1 x5_1).f2))).bind fun t393 => (if x4_1.size + t391.size + t392.size + t393.size ≤ 9223372036854775807 then (thwartref12_Bytes.l0 k1 (((x4_1 ++ t391) ++ t392) ++ t393) (wrap64 (x5_1 + 1)) a0_0 l0_1) else (none))) else (none))) else (none)) = some (r1,r2):=H
       have A15:=Aside0.mk A150
       clear A150
       by_cases c16 : x4_1.size + t391.size ≤ 9223372036854775807
       ·rw [if_pos c16] at H
        have c16b0:=eq_true c16
        have c16b1 : decide (x4_1.size + t391.size ≤ 9223372036854775807) = true:=decide_eq_true c16
        try have c16b2 : (9223372036854775807 < x4_1.size + t391.size) = False:=eq_false (Nat.not_lt.2 c16)
        replace H:=Option.bind_eq_some_iff.mp H
        obtain ⟨t392,A170,H⟩:=H
        replace H : (if x4_1.size + t391.size + t392.size ≤ 9223372036854775807 then ((thwartref01_Put.f k1 (IntKind.u64.wrap ((rd_T65 l0_1 x5_1).f2))).bind fun t393 => (if x4_1.size + t391.size + t392.size + t393.size ≤ 9223372036854775807 then (thwartref12_Bytes.l0 k1 (((x4_1 ++ t391) ++ t392) ++ t393) (wrap64 (x5_1 + 1)) a0_0 l0_1) else (none))) else (none)) = some (r1,r2):=H
        have A17:=Aside0.mk A170
        clear A170
        by_cases c18 : x4_1.size + t391.size + t392.size ≤ 9223372036854775807
        ·rw [if_pos c18] at H
         have c18b0:=eq_true c18
         have c18b1 : decide (x4_1.size + t391.size + t392.size ≤ 9223372036854775807) = true:=decide_eq_true c18
         try have c18b2 : (9223372036854775807 < x4_1.size + t391.size + t392.size) = False:=eq_false (Nat.not_lt.2 c18)
         replace H:=Option.bind_eq_some_iff.mp H
         obtain ⟨t393,A190,H⟩:=H
         replace H : (if x4_1.size + t391.size + t392.size + t393.size ≤ 9223372036854775807 then (thwartref12_Bytes.l0 k1 (((x4_1 ++ t391) ++ t392) ++ t393) (wrap64 (x5_1 + 1)) a0_0 l0_1) else (none)) = some (r1,r2):=H
         have A19:=Aside0.mk A190
         clear A190
         by_cases c20 : x4_1.size + t391.size + t392.size + t393.size ≤ 9223372036854775807
         ·rw [if_pos c20] at H
          have c20b0:=eq_true c20
          have c20b1 : decide (x4_1.size + t391.size + t392.size + t393.size ≤ 9223372036854775807) = true:=decide_eq_true c20
          try have c20b2 : (9223372036854775807 < x4_1.size + t391.size + t392.size + t393.size) = False:=eq_false (Nat.not_lt.2 c20)
          have H' := Aside0.mk H
          clear H
          have hcz21_0 : wr.cell? ⟨gb385,0,none⟩ = some (.int .i64 a0_0):=(blk_cell BK385.out 0).trans rfl
          have hcz21_1 : wr.cell? ⟨gb385,1,none⟩ = some (.slice A0_1 l0_1.length c0_1):=(blk_cell BK385.out 1).trans rfl
          have hfz21_0:=blk_frozen BK385.out 0
          have hfz21_1:=blk_frozen BK385.out 1
          have p389 : 0 ≤ (x5_1 : Int):=of_decide_eq_true (by first | (with_reducible assumption) | assumption)
          have q389 : x5_1 < (l0_1.length : Int):=of_decide_eq_true (by first | (with_reducible assumption) | assumption)
          obtain ⟨ad389,e389,hx389_0,hx389_1,hx389_2⟩:=at_T65 HR0_1.out x5_1 p389 q389
          cases e389
          replace hx389_0:=(HB.out.cell (World.block_lt_of_cell? w _ hx389_0)).trans hx389_0
          replace hx389_1:=(HB.out.cell (World.block_lt_of_cell? w _ hx389_1)).trans hx389_1
          replace hx389_2:=(HB.out.cell (World.block_lt_of_cell? w _ hx389_2)).trans hx389_2
          replace p389:=eq_true p389
          replace q389:=eq_true q389
          try go_wp2_with (first | ((with_reducible refine gate_dst (N:=6) rfl ?_);refine box_event ?hg (N:=6) ?hd (cs := #[.int .i64 0,.int .i64 0,.int .u32 0]) (t:=65) ?hr ?_;(case hd => rfl);(case hg => rfl);(case hr => first | (go_simp;done) | (go_simp;rfl));intro gb390 hg w22 hbox hb;have n0_:=Aside0.mk (blk_below (g:=gb385) (o := .cells #[.int .i64 a0_0,.slice (some ad389) l0_1.length c0_1] 32 (0,0)) (by (with_reducible repeat (first | refine blk_drewN ?_ _ | refine blk_drew ?_ | refine blk_alloc ?_ _));exact BK385.out) hb);have n1_:=Aside0.mk (below_step (by repeat (first | (with_reducible first | exact HB.out | apply below_alloc | apply pw_below_drewN | apply below_drew1 | refine below_set ?_ GE385.out) | exact HB.out)) hb);have n2_:=Aside0.mk (hbox);have n3_:=Aside0.mk ((by rw [hg];exact (below_size (by repeat (first | (with_reducible first | exact HB.out | apply below_alloc | apply pw_below_drewN | apply below_drew1 | refine below_set ?_ GE385.out) | exact HB.out))) : w.heap.size ≤ gb390));have n4_:=Aside0.mk ((by rw [hg];exact (below_size (by repeat (first | (with_reducible first | exact HB.out | apply below_alloc | apply pw_below_drewN | apply below_drew1 | refine below_set ?_ GE385.out) | exact HB.out))) : w.heap.size ≤ gb390));have n5_:=Aside0.mk ((by rw [hg];exact Nat.ne_of_lt (blk_lt (g:=gb385) (o := .cells #[.int .i64 a0_0,.slice (some ad389) l0_1.length c0_1] 32 (0,0)) (by (with_reducible repeat (first | refine blk_drewN ?_ _ | refine blk_drew ?_ | refine blk_alloc ?_ _));exact BK385.out)) : gb385 ≠ gb390));have n6_:=Aside0.mk ((by rw [hg];exact Nat.ne_of_gt (blk_lt (g:=gb385) (o := .cells #[.int .i64 a0_0,.slice (some ad389) l0_1.length c0_1] 32 (0,0)) (by (with_reducible repeat (first | refine blk_drewN ?_ _ | refine blk_drew ?_ | refine blk_alloc ?_ _));exact BK385.out)) : gb390 ≠ gb385));clear BK385;clear HB;have BK385:=n0_;have HB:=n1_;have BK390:=n2_;have GW390:=n3_;have GE390:=n4_;have NB385_390:=n5_;have NB390_385:=n6_;clear n0_ n1_ n2_ n3_ n4_ n5_ n6_;clear hb hbox hg;have hnb23:=NB390_385.out;have hnc23:=NB385_390.out;have hcz24_0 : w22.cell? ⟨gb390,0,none⟩ = some (.int .i64 0):=(blk_cell BK390.out 0).trans rfl;have hcz24_1 : w22.cell? ⟨gb390,1,none⟩ = some (.int .i64 0):=(blk_cell BK390.out 1).trans rfl;have hcz24_2 : w22.cell? ⟨gb390,2,none⟩ = some (.int .u32 0):=(blk_cell BK390.out 2).trans rfl;have hfz24_0:=blk_frozen BK390.out 0;have hfz24_1:=blk_frozen BK390.out 1;have hfz24_2:=blk_frozen BK390.out 2))
          have n0_ : Aside0 ((((w22.setCell ⟨gb390,0,none⟩ (.int .i64 ((rd_T65 l0_1 x5_1).f0))).setCell ⟨gb390,1,none⟩ (.int .i64 ((rd_T65 l0_1 x5_1).f1))).setCell ⟨gb390,2,none⟩ (.int .u32 ((rd_T65 l0_1 x5_1).f2))).heap[gb385]? = some (.cells #[.int .i64 a0_0,.slice (some ad389) l0_1.length c0_1] 32 (0,0))):=⟨by (with_reducible repeat (first | refine blk_drewN ?_ _ | refine blk_drew ?_ | refine blk_alloc ?_ _));refine blk_far ?_ NB385_390.out _;(with_reducible repeat (first | refine blk_drewN ?_ _ | refine blk_drew ?_ | refine blk_alloc ?_ _));refine blk_far ?_ NB385_390.out _;(with_reducible repeat (first | refine blk_drewN ?_ _ | refine blk_drew ?_ | refine blk_alloc ?_ _));refine blk_far ?_ NB385_390.out _;(with_reducible repeat (first | refine blk_drewN ?_ _ | refine blk_drew ?_ | refine blk_alloc ?_ _));exact BK385.out⟩
          have n1_ : Aside0 ((((w22.setCell ⟨gb390,0,none⟩ (.int .i64 ((rd_T65 l0_1 x5_1).f0))).setCell ⟨gb390,1,none⟩ (.int .i64 ((rd_T65 l0_1 x5_1).f1))).setCell ⟨gb390,2,none⟩ (.int .u32 ((rd_T65 l0_1 x5_1).f2))).heap[gb390]? = some (.cells #[.int .i64 ((rd_T65 l0_1 x5_1).f0),.int .i64 ((rd_T65 l0_1 x5_1).f1),.int .u32 ((rd_T65 l0_1 x5_1).f2)] 65 (0,0))):=⟨by (with_reducible repeat (first | refine blk_drewN ?_ _ | refine blk_drew ?_ | refine blk_alloc ?_ _));refine blk_put (cs := #[.int .i64 ((rd_T65 l0_1 x5_1).f0),.int .i64 ((rd_T65 l0_1 x5_1).f1),.int .u32 0]) ?_ 2 _ rfl;(with_reducible repeat (first | refine blk_drewN ?_ _ | refine blk_drew ?_ | refine blk_alloc ?_ _));refine blk_put (cs := #[.int .i64 ((rd_T65 l0_1 x5_1).f0),.int .i64 0,.int .u32 0]) ?_ 1 _ rfl;(with_reducible repeat (first | refine blk_drewN ?_ _ | refine blk_drew ?_ | refine blk_alloc ?_ _));refine blk_put (cs := #[.int .i64 0,.int .i64 0,.int .u32 0]) ?_ 0 _ rfl;(with_reducible repeat (first | refine blk_drewN ?_ _ | refine blk_drew ?_ | refine blk_alloc ?_ _));exact BK390.out⟩
          have n2_ : Aside0 (Below w.heap.size w (((w22.setCell ⟨gb390,0,none⟩ (.int .i64 ((rd_T65 l0_1 x5_1).f0))).setCell ⟨gb390,1,none⟩ (.int .i64 ((rd_T65 l0_1 x5_1).f1))).setCell ⟨gb390,2,none⟩ (.int .u32 ((rd_T65 l0_1 x5_1).f2)))):=⟨by repeat (first | (with_reducible first | exact HB.out | apply below_alloc | apply pw_below_drewN | apply below_drew1 | refine below_set ?_ GE385.out | refine below_set ?_ GE390.out) | exact HB.out)⟩
          (try clear BK385)
          (try clear BK390)
          (try clear HB)
          generalize (((w22.setCell ⟨gb390,0,none⟩ (.int .i64 ((rd_T65 l0_1 x5_1).f0))).setCell ⟨gb390,1,none⟩ (.int .i64 ((rd_T65 l0_1 x5_1).f1))).setCell ⟨gb390,2,none⟩ (.int .u32 ((rd_T65 l0_1 x5_1).f2))) = w25 at n0_ n1_ n2_ ⊢
          have BK385:=n0_
          have BK390:=n1_
          have HB:=n2_
          clear n0_ n1_ n2_
          have n0_:=Aside0.mk (blk_drew BK385.out)
          have n1_:=Aside0.mk (blk_drew BK390.out)
          have n2_:=Aside0.mk (below_drew1 HB.out)
          clear BK385
          clear BK390
          clear HB
          have BK385:=n0_
          have BK390:=n1_
          have HB:=n2_
          clear n0_ n1_ n2_
          refine start_ (n:=17) (S:=fun w' => w'.cell? ⟨gb390,0,none⟩ = some (.int .i64 ((rd_T65 l0_1 x5_1).f0)) ∧ w'.cell? ⟨gb390,1,none⟩ = some (.int .i64 ((rd_T65 l0_1 x5_1).f1)) ∧ w'.cell? ⟨gb390,2,none⟩ = some (.int .u32 ((rd_T65 l0_1 x5_1).f2))) (ds:=[]) #[false,false,false,false,false,false,false,false,false,false,false,false,false,false,false,false,false] (by kernel_rfl) rfl rfl ⟨(blk_cell BK390.out 0).trans rfl,(blk_cell BK390.out 1).trans rfl,(blk_cell BK390.out 2).trans rfl⟩ (fun hHeld => ?_);refine with_tabW thwartref12_Bytes.tab8 thwartref12_Bytes.bits8 (fun HT_ HW_ => ?_)
          generalize w25.drew = w26 at BK385 BK390 HB hHeld ⊢
          refine pure_ (i:=0) (N:=some 32) (v := ?_) (a' := ?_) #[true,false,false,false,false,false,false,false,false,false,false,false,false,false,false,false,false] rfl rfl (any_of HT_.out (by kernel_rfl)) (fun _ _ _ h => h) (Or.inl ⟨by rfl,?_⟩) ?_ ?_
          rotate_left
          ·intro w'
           go_simp
           with_reducible rfl
          rotate_left
          ·simp only [Act.put,List.setIfInBounds_toArray,List.set_cons_zero,List.set_cons_succ,i64_w,i32_w]
           rfl
          refine pure_ (i:=1) (N:=some 33) (v := ?_) (a' := ?_) #[true,true,false,false,false,false,false,false,false,false,false,false,false,false,false,false,false] rfl rfl (any_of HT_.out (by kernel_rfl)) (fun _ _ _ h => h) (Or.inl ⟨by rfl,?_⟩) ?_ ?_
          rotate_left
          ·intro w'
           go_simp
           with_reducible rfl
          rotate_left
          ·simp only [Act.put,List.setIfInBounds_toArray,List.set_cons_zero,List.set_cons_succ,i64_w,i32_w]
           rfl
          refine pure_ (i:=6) (N:=some 38) (v := ?_) (a' := ?_) #[true,true,false,false,false,false,true,false,false,false,false,false,false,false,false,false,false] rfl rfl (any_of HT_.out (by kernel_rfl)) (fun _ _ _ h => h) (Or.inl ⟨by rfl,?_⟩) ?_ ?_
          rotate_left
          ·intro w'
           go_simp
           with_reducible rfl
          rotate_left
          ·simp only [Act.put,List.setIfInBounds_toArray,List.set_cons_zero,List.set_cons_succ,i64_w,i32_w]
           rfl
          refine pure_ (i:=11) (N:=some 43) (v := ?_) (a' := ?_) #[true,true,false,false,false,false,true,false,false,false,false,true,false,false,false,false,false] rfl rfl (any_of HT_.out (by kernel_rfl)) (fun _ _ _ h => h) (Or.inl ⟨by rfl,?_⟩) ?_ ?_
          rotate_left
          ·intro w'
           go_simp
           with_reducible rfl
          rotate_left
          ·simp only [Act.put,List.setIfInBounds_toArray,List.set_cons_zero,List.set_cons_succ,i64_w,i32_w]
           rfl
          refine take_ (i:=2) (N:=some 34) (v := ?_) (a' := ?_) #[true,true,true,false,false,false,true,false,false,false,false,true,false,false,false,false,false] rfl rfl (take_ofW HT_.out HW_.out (by kernel_rfl)) (fun _ _ _ h => h) (Or.inl ⟨by rfl,?_⟩) hHeld ?_ ?_
          rotate_left
          ·rintro w' ⟨s0,s1,s2⟩
           go_simp
           with_reducible rfl
          rotate_left
          ·simp only [Act.put,List.setIfInBounds_toArray,List.set_cons_zero,List.set_cons_succ,i64_w,i32_w]
           rfl
          refine pure_ (i:=3) (N:=some 35) (v := ?_) (a' := ?_) #[true,true,true,true,false,false,true,false,false,false,false,true,false,false,false,false,false] rfl rfl (any_of HT_.out (by kernel_rfl)) (fun _ _ _ h => h) (Or.inl ⟨by rfl,?_⟩) ?_ ?_
          rotate_left
          ·intro w'
           go_simp
           with_reducible rfl
          rotate_left
          ·simp only [Act.put,List.setIfInBounds_toArray,List.set_cons_zero,List.set_cons_succ,i64_w,i32_w]
           rfl
          refine take_ (i:=7) (N:=some 39) (v := ?_) (a' := ?_) #[true,true,true,true,false,false,true,true,false,false,false,true,false,false,false,false,false] rfl rfl (take_ofW HT_.out HW_.out (by kernel_rfl)) (fun _ _ _ h => h) (Or.inl ⟨by rfl,?_⟩) hHeld ?_ ?_
          rotate_left
          ·rintro w' ⟨s0,s1,s2⟩
           go_simp
           with_reducible rfl
          rotate_left
          ·simp only [Act.put,List.setIfInBounds_toArray,List.set_cons_zero,List.set_cons_succ,i64_w,i32_w]
           rfl
          refine pure_ (i:=8) (N:=some 40) (v := ?_) (a' := ?_) #[true,true,true,true,false,false,true,true,true,false,false,true,false,false,false,false,false] rfl rfl (any_of HT_.out (by kernel_rfl)) (fun _ _ _ h => h) (Or.inl ⟨by rfl,?_⟩) ?_ ?_
          rotate_left
          ·intro w'
           go_simp
           with_reducible rfl
          rotate_left
          ·simp only [Act.put,List.setIfInBounds_toArray,List.set_cons_zero,List.set_cons_succ,i64_w,i32_w]
           rfl
          refine take_ (i:=12) (N:=some 44) (v := ?_) (a' := ?_) #[true,true,true,true,false,false,true,true,true,false,false,true,true,false,false,false,false] rfl rfl (take_ofW HT_.out HW_.out (by kernel_rfl)) (fun _ _ _ h => h) (Or.inl ⟨by rfl,?_⟩) hHeld ?_ ?_
          rotate_left
          ·rintro w' ⟨s0,s1,s2⟩
           go_simp
           with_reducible rfl
          rotate_left
          ·simp only [Act.put,List.setIfInBounds_toArray,List.set_cons_zero,List.set_cons_succ,i64_w,i32_w]
           rfl
          refine pure_ (i:=13) (N:=some 45) (v := ?_) (a' := ?_) #[true,true,true,true,false,false,true,true,true,false,false,true,true,true,false,false,false] rfl rfl (any_of HT_.out (by kernel_rfl)) (fun _ _ _ h => h) (Or.inl ⟨by rfl,?_⟩) ?_ ?_
          rotate_left
          ·intro w'
           go_simp
           with_reducible rfl
          rotate_left
          ·simp only [Act.put,List.setIfInBounds_toArray,List.set_cons_zero,List.set_cons_succ,i64_w,i32_w]
           rfl
          refine one_ (i:=4) (N:=some 36) #[true,true,true,true,true,false,true,true,true,false,false,true,true,true,false,false,false] rfl rfl (one_of HT_.out (by kernel_rfl)) (by decide) (fun K hK => ?_)
          refine goes_ Tryz.func91 (by kernel_rfl) rfl #[.int .u64 (IntKind.u64.wrap ((rd_T65 l0_1 x5_1).f0))] (by rfl) rfl rfl (by (try simp only [List.map_toArray,List.map_cons,List.map_nil]);first | done | rfl | (simp only [List.length_drop,List.length_take];rfl)) ?_
          with_reducible refine (thwartref01_Put.calls k1 (IntKind.u64.wrap ((rd_T65 l0_1 x5_1).f0)) t391 _ A15.out).mono ?_
          rintro e w27 ⟨rfl,hb⟩
          refine ⟨_,rfl,?_⟩
          have n0_:=Aside0.mk (blk_below (g:=gb385) (o := .cells #[.int .i64 a0_0,.slice (some ad389) l0_1.length c0_1] 32 (0,0)) (by (with_reducible repeat (first | refine blk_drewN ?_ _ | refine blk_drew ?_ | refine blk_alloc ?_ _));exact BK385.out) hb)
          have n1_:=Aside0.mk (blk_below (g:=gb390) (o := .cells #[.int .i64 ((rd_T65 l0_1 x5_1).f0),.int .i64 ((rd_T65 l0_1 x5_1).f1),.int .u32 ((rd_T65 l0_1 x5_1).f2)] 65 (0,0)) (by (with_reducible repeat (first | refine blk_drewN ?_ _ | refine blk_drew ?_ | refine blk_alloc ?_ _));exact BK390.out) hb)
          have n2_:=Aside0.mk (below_step (by repeat (first | (with_reducible first | exact HB.out | apply below_alloc | apply pw_below_drewN | apply below_drew1 | refine below_set ?_ GE385.out | refine below_set ?_ GE390.out) | exact HB.out)) hb)
          clear BK385
          clear BK390
          clear HB
          have BK385:=n0_
          have BK390:=n1_
          have HB:=n2_
          clear n0_ n1_ n2_
          (try clear hb)
          (try clear hb2)
          (try clear hk)
          (try clear hi)
          refine hK.out _ _ ⟨(blk_cell BK390.out 0).trans rfl,(blk_cell BK390.out 1).trans rfl,(blk_cell BK390.out 2).trans rfl⟩ (fun hHeld => ?_)
          clear hK K
          refine norm_ (a' := ?_) ?_ ?_
          rotate_left
          ·show Act.put _ (some 36) _ = _
           simp only [Act.put,List.setIfInBounds_toArray,List.set_cons_zero,List.set_cons_succ,i64_w,i32_w]
           rfl
          refine pure_ (i:=5) (N:=some 37) (v := ?_) (a' := ?_) #[true,true,true,true,true,true,true,true,true,false,false,true,true,true,false,false,false] rfl rfl (any_of HT_.out (by kernel_rfl)) (fun _ _ _ h => h) (Or.inl ⟨by rfl,?_⟩) ?_ ?_
          rotate_left
          ·intro w'
           go_simp
           with_reducible rfl
          rotate_left
          ·simp only [Act.put,List.setIfInBounds_toArray,List.set_cons_zero,List.set_cons_succ,i64_w,i32_w]
           rfl
          refine one_ (i:=9) (N:=some 41) #[true,true,true,true,true,true,true,true,true,true,false,true,true,true,false,false,false] rfl rfl (one_of HT_.out (by kernel_rfl)) (by decide) (fun K hK => ?_)
          refine goes_ Tryz.func91 (by kernel_rfl) rfl #[.int .u64 (IntKind.u64.wrap ((rd_T65 l0_1 x5_1).f1))] (by rfl) rfl rfl (by (try simp only [List.map_toArray,List.map_cons,List.map_nil]);first | done | rfl | (simp only [List.length_drop,List.length_take];rfl)) ?_
          with_reducible refine (thwartref01_Put.calls k1 (IntKind.u64.wrap ((rd_T65 l0_1 x5_1).f1)) t392 _ A17.out).mono ?_
          rintro e w28 ⟨rfl,hb⟩
          refine ⟨_,rfl,?_⟩
          have n0_:=Aside0.mk (blk_below (g:=gb385) (o := .cells #[.int .i64 a0_0,.slice (some ad389) l0_1.length c0_1] 32 (0,0)) (by (with_reducible repeat (first | refine blk_drewN ?_ _ | refine blk_drew ?_ | refine blk_alloc ?_ _));exact BK385.out) hb)
          have n1_:=Aside0.mk (blk_below (g:=gb390) (o := .cells #[.int .i64 ((rd_T65 l0_1 x5_1).f0),.int .i64 ((rd_T65 l0_1 x5_1).f1),.int .u32 ((rd_T65 l0_1 x5_1).f2)] 65 (0,0)) (by (with_reducible repeat (first | refine blk_drewN ?_ _ | refine blk_drew ?_ | refine blk_alloc ?_ _));exact BK390.out) hb)
          have n2_:=Aside0.mk (below_step (by repeat (first | (with_reducible first | exact HB.out | apply below_alloc | apply pw_below_drewN | apply below_drew1 | refine below_set ?_ GE385.out | refine below_set ?_ GE390.out) | exact HB.out)) hb)
          clear BK385
          clear BK390
          clear HB
          have BK385:=n0_
          have BK390:=n1_
          have HB:=n2_
          clear n0_ n1_ n2_
          (try clear hb)
          (try clear hb2)
          (try clear hk)
          (try clear hi)
          refine hK.out _ _ ⟨(blk_cell BK390.out 0).trans rfl,(blk_cell BK390.out 1).trans rfl,(blk_cell BK390.out 2).trans rfl⟩ (fun hHeld => ?_)
          clear hK K
          refine norm_ (a' := ?_) ?_ ?_
          rotate_left
          ·show Act.put _ (some 41) _ = _
           simp only [Act.put,List.setIfInBounds_toArray,List.set_cons_zero,List.set_cons_succ,i64_w,i32_w]
           rfl
          refine pure_ (i:=10) (N:=some 42) (v := ?_) (a' := ?_) #[true,true,true,true,true,true,true,true,true,true,true,true,true,true,false,false,false] rfl rfl (any_of HT_.out (by kernel_rfl)) (fun _ _ _ h => h) (Or.inl ⟨by rfl,?_⟩) ?_ ?_
          rotate_left
          ·intro w'
           go_simp
           with_reducible rfl
          rotate_left
          ·simp only [Act.put,List.setIfInBounds_toArray,List.set_cons_zero,List.set_cons_succ,i64_w,i32_w]
           rfl
          refine one_ (i:=14) (N:=some 46) #[true,true,true,true,true,true,true,true,true,true,true,true,true,true,true,false,false] rfl rfl (one_of HT_.out (by kernel_rfl)) (by decide) (fun K hK => ?_)
          refine goes_ Tryz.func91 (by kernel_rfl) rfl #[.int .u64 (IntKind.u64.wrap ((rd_T65 l0_1 x5_1).f2))] (by rfl) rfl rfl (by (try simp only [List.map_toArray,List.map_cons,List.map_nil]);first | done | rfl | (simp only [List.length_drop,List.length_take];rfl)) ?_
          with_reducible refine (thwartref01_Put.calls k1 (IntKind.u64.wrap ((rd_T65 l0_1 x5_1).f2)) t393 _ A19.out).mono ?_
          rintro e w29 ⟨rfl,hb⟩
          refine ⟨_,rfl,?_⟩
          have n0_:=Aside0.mk (blk_below (g:=gb385) (o := .cells #[.int .i64 a0_0,.slice (some ad389) l0_1.length c0_1] 32 (0,0)) (by (with_reducible repeat (first | refine blk_drewN ?_ _ | refine blk_drew ?_ | refine blk_alloc ?_ _));exact BK385.out) hb)
          have n1_:=Aside0.mk (blk_below (g:=gb390) (o := .cells #[.int .i64 ((rd_T65 l0_1 x5_1).f0),.int .i64 ((rd_T65 l0_1 x5_1).f1),.int .u32 ((rd_T65 l0_1 x5_1).f2)] 65 (0,0)) (by (with_reducible repeat (first | refine blk_drewN ?_ _ | refine blk_drew ?_ | refine blk_alloc ?_ _));exact BK390.out) hb)
          have n2_:=Aside0.mk (below_step (by repeat (first | (with_reducible first | exact HB.out | apply below_alloc | apply pw_below_drewN | apply below_drew1 | refine below_set ?_ GE385.out | refine below_set ?_ GE390.out) | exact HB.out)) hb)
          clear BK385
          clear BK390
          clear HB
          have BK385:=n0_
          have BK390:=n1_
          have HB:=n2_
          clear n0_ n1_ n2_
          (try clear hb)
          (try clear hb2)
          (try clear hk)
          (try clear hi)
          refine hK.out _ _ ⟨(blk_cell BK390.out 0).trans rfl,(blk_cell BK390.out 1).trans rfl,(blk_cell BK390.out 2).trans rfl⟩ (fun hHeld => ?_)
          clear hK K
          refine norm_ (a' := ?_) ?_ ?_
          rotate_left
          ·show Act.put _ (some 46) _ = _
           simp only [Act.put,List.setIfInBounds_toArray,List.set_cons_zero,List.set_cons_succ,i64_w,i32_w]
           rfl
          refine pure_ (i:=15) (N:=some 47) (v := ?_) (a' := ?_) #[true,true,true,true,true,true,true,true,true,true,true,true,true,true,true,true,false] rfl rfl (any_of HT_.out (by kernel_rfl)) (fun _ _ _ h => h) (Or.inl ⟨by rfl,?_⟩) ?_ ?_
          rotate_left
          ·intro w'
           go_simp
           with_reducible rfl
          rotate_left
          ·simp only [Act.put,List.setIfInBounds_toArray,List.set_cons_zero,List.set_cons_succ,i64_w,i32_w]
           rfl
          refine pure_ (i:=16) (N:=some 4) (v := ?_) (a' := ?_) #[true,true,true,true,true,true,true,true,true,true,true,true,true,true,true,true,true] rfl rfl (any_of HT_.out (by kernel_rfl)) (fun _ _ _ h => h) (Or.inl ⟨by rfl,?_⟩) ?_ ?_
          rotate_left
          ·intro w'
           go_simp
           with_reducible rfl
          rotate_left
          ·simp only [Act.put,List.setIfInBounds_toArray,List.set_cons_zero,List.set_cons_succ,i64_w,i32_w]
           rfl
          refine done_ (done_of HT_.out (by kernel_rfl)) ?_
          try go_wp2
          go_roundg k1
          case measure => have:=HK1.out;omega
          case rel => exact ⟨(((x4_1 ++ t391) ++ t392) ++ t393),(wrap64 (x5_1 + 1)),(by first | rfl | (simp;done) | (simp [*];done)),(by first | rfl | (simp;done) | (simp [*];done)),H',⟨by have:=HK1.out;omega⟩,⟨by (with_reducible repeat (first | refine blk_drewN ?_ _ | refine blk_drew ?_ | refine blk_alloc ?_ _));exact BK385.out⟩,⟨by repeat (first | (with_reducible first | exact HB.out | apply below_alloc | apply pw_below_drewN | apply below_drew1 | refine below_set ?_ GE385.out | refine below_set ?_ GE390.out) | exact HB.out)⟩⟩
         ·rw [if_neg c20] at H
          exact absurd H (by simp)
        ·rw [if_neg c18] at H
         exact absurd H (by simp)
       ·rw [if_neg c16] at H
        exact absurd H (by simp)
      ·rw [if_neg c14] at H
       exact absurd H (by simp)
     ·rw [if_neg c13] at H
      have c13b0 : decide (x5_1 < (l0_1.length : Int)) = false:=decide_eq_false c13
      clear c13
      replace H:=Option.bind_eq_some_iff.mp H
      obtain ⟨t394,A300,H⟩:=H
      replace H : (some (t394,0)) = some (r1,r2):=H
      have A30:=Aside0.mk A300
      clear A300
      simp only [Option.some.injEq,Prod.mk.injEq] at H
      obtain ⟨rfl,rfl⟩:=H
      have hcz31_0 : wr.cell? ⟨gb385,0,none⟩ = some (.int .i64 a0_0):=(blk_cell BK385.out 0).trans rfl
      have hcz31_1 : wr.cell? ⟨gb385,1,none⟩ = some (.slice A0_1 l0_1.length c0_1):=(blk_cell BK385.out 1).trans rfl
      have hfz31_0:=blk_frozen BK385.out 0
      have hfz31_1:=blk_frozen BK385.out 1
      go_wp2_with (first | ((with_reducible refine gate_callee (f:=92) rfl ?_);refine goesL_ (some 49) rfl rfl Tryz.func92 (by kernel_rfl) rfl #[.string x4_1] rfl (by (try simp only [List.map_toArray,List.map_cons,List.map_nil]);first | done | rfl | (simp only [List.length_drop,List.length_take];rfl)) ?_;(with_reducible refine (thwartref02_Seal.calls k1 x4_1 t394 _ A30.out).mono ?_);rintro e w32 ⟨rfl,hb⟩;refine ⟨_,rfl,?_⟩;have n0_:=Aside0.mk (blk_below (g:=gb385) (o := .cells #[.int .i64 a0_0,.slice A0_1 l0_1.length c0_1] 32 (0,0)) (by (with_reducible repeat (first | refine blk_drewN ?_ _ | refine blk_drew ?_ | refine blk_alloc ?_ _));exact BK385.out) hb);have n1_:=Aside0.mk (below_step (by repeat (first | (with_reducible first | exact HB.out | apply below_alloc | apply pw_below_drewN | apply below_drew1 | refine below_set ?_ GE385.out) | exact HB.out)) hb);clear BK385;clear HB;have BK385:=n0_;have HB:=n1_;clear n0_ n1_;(try clear hb);(try clear hb2);(try clear hk);(try clear hi)))
      go_ret2
      exact ⟨by first | rfl | (simp [errW_none,errW_some] <;> rfl) | (simp [*,errW_none,errW_some] <;> rfl) | (simp [errW_none,errW_some];exact isEmpty_bne _),by repeat (first | (with_reducible first | exact HB.out | apply below_alloc | apply pw_below_drewN | apply below_drew1 | refine below_set ?_ GE385.out) | exact HB.out)⟩
  ·rw [if_neg c6] at H
   exact absurd H (by simp)
 ·replace c3:=Bool.eq_false_iff.mpr c3
  subst c3
  have H1 : (some ((⟨#[]⟩ : ByteArray),1)) = some (r1,r2):=by rw [if_neg (show ¬ (false = true) by decide)] at H;exact H
  clear H
  have H:=H1
  clear H1
  simp only [Option.some.injEq,Prod.mk.injEq] at H
  obtain ⟨rfl,rfl⟩:=H
  go_enter Tryz.func55,Tryz.ntmps55
  go_wp2_with (first | ((with_reducible refine gate_dst (N:=1) rfl ?_);refine box_event ?hg (N:=1) ?hd (cs := #[.int .i64 a0_0,.slice A0_1 l0_1.length c0_1]) (t:=32) ?hr ?_;(case hd => rfl);(case hg => rfl);(case hr => first | (go_simp;done) | (go_simp;rfl));intro gb385 hg w33 hbox hb;have n0_:=Aside0.mk (below_step (by repeat (first | (with_reducible first | exact HB.out | apply below_alloc | apply pw_below_drewN | apply below_drew1) | exact HB.out)) hb);have n1_:=Aside0.mk (hbox);have n2_:=Aside0.mk ((by rw [hg];exact (below_size (by repeat (first | (with_reducible first | exact HB.out | apply below_alloc | apply pw_below_drewN | apply below_drew1) | exact HB.out))) : w.heap.size ≤ gb385));have n3_:=Aside0.mk ((by rw [hg];exact (below_size (by repeat (first | (with_reducible first | exact HB.out | apply below_alloc | apply pw_below_drewN | apply below_drew1) | exact HB.out))) : w.heap.size ≤ gb385));clear HB;have HB:=n0_;have BK385:=n1_;have GW385:=n2_;have GE385:=n3_;clear n0_ n1_ n2_ n3_;clear hb hbox hg;have hcz34_0 : w33.cell? ⟨gb385,0,none⟩ = some (.int .i64 a0_0):=(blk_cell BK385.out 0).trans rfl;have hcz34_1 : w33.cell? ⟨gb385,1,none⟩ = some (.slice A0_1 l0_1.length c0_1):=(blk_cell BK385.out 1).trans rfl;have hfz34_0:=blk_frozen BK385.out 0;have hfz34_1:=blk_frozen BK385.out 1) | ((with_reducible refine gate_callee (f:=90) rfl ?_);refine goesL_ (some 8) rfl rfl Tryz.func90 (by kernel_rfl) rfl #[.agg #[.int .i64 a0_0,.slice A0_1 l0_1.length c0_1]] rfl (by (try simp only [List.map_toArray,List.map_cons,List.map_nil]);first | done | rfl | (simp only [List.length_drop,List.length_take];rfl)) ?_;(with_reducible refine (thwartref12_Right.calls k a0_0 _ _ l0_1 false _ ?side1 ?side2 A2.out).mono ?_);(case side1 => repeat (first | exact (Kd.C_below HR0_1.out HB.out) | (with_reducible refine Kd.C_alloc ?_ _) | (with_reducible refine Kd.C_drewN ?_ _) | (with_reducible refine Kd.C_drew ?_)));(case side2 => exact HC0_1.out);rintro e w35 ⟨rfl,hb⟩;refine ⟨_,rfl,?_⟩;have n0_:=Aside0.mk (blk_below (g:=gb385) (o := .cells #[.int .i64 a0_0,.slice A0_1 l0_1.length c0_1] 32 (0,0)) (by (with_reducible repeat (first | refine blk_drewN ?_ _ | refine blk_drew ?_ | refine blk_alloc ?_ _));exact BK385.out) hb);have n1_:=Aside0.mk (below_step (by repeat (first | (with_reducible first | exact HB.out | apply below_alloc | apply pw_below_drewN | apply below_drew1 | refine below_set ?_ GE385.out) | exact HB.out)) hb);clear BK385;clear HB;have BK385:=n0_;have HB:=n1_;clear n0_ n1_;(try clear hb);(try clear hb2);(try clear hk);(try clear hi)))
  go_ret2
  exact ⟨by first | rfl | (simp [errW_none,errW_some] <;> rfl) | (simp [*,errW_none,errW_some] <;> rfl) | (simp [errW_none,errW_some];exact isEmpty_bne _),by repeat (first | (with_reducible first | exact HB.out | apply below_alloc | apply pw_below_drewN | apply below_drew1 | refine below_set ?_ GE385.out) | exact HB.out)⟩

/-! ### thwartref02_Open: function 88 -/
def thwartref02_Open.f (k : Nat) (a0 : ByteArray) : Option (ByteArray × Bool):=if (a0.size : Int) < 4 then (some ((⟨#[]⟩ : ByteArray),false)) else (if 4 ≤ (a0.size : Int) then ((thwartref02_Seal.f k (a0.extract 4 a0.size)).bind fun t395 => (if t395.toList = a0.toList then (some (a0.extract 4 a0.size,true)) else (some ((⟨#[]⟩ : ByteArray),false)))) else (none))
theorem thwartref02_Open.mono : ∀ a0 k,LeO (thwartref02_Open.f k a0) (thwartref02_Open.f (k + 1) a0):=by
 intro a0 k
 unfold thwartref02_Open.f
 repeat' first
   | (with_reducible exact thwartref02_Seal.mono _ _)
   | (with_reducible exact LeO.refl _)
   | (with_reducible exact LeO.none _)
   | (with_reducible refine LeO.ite ?_ ?_)
   | (with_reducible refine LeO.bind ?_ (fun _ => ?_))
   | exact thwartref02_Seal.mono _ _
   | exact LeO.none _
   | refine LeO.ite ?_ ?_
   | refine LeO.bind ?_ (fun _ => ?_)
set_option maxHeartbeats 8000000 in
set_option maxRecDepth 100000 in
theorem thwartref02_Open.calls (k : Nat) (a0 : ByteArray) (r1 : ByteArray) (r2 : Bool) (w : World) (h : thwartref02_Open.f k a0 = some (r1,r2)) :
  Calls Tryz.prog 88 #[.string a0] w fun e w' => e = .returned (.tuple #[.string r1,.bool r2]) ∧ Below w.heap.size w w' := by
 have HB:=Aside0.mk (Below.refl w.heap.size w)
 have H : (if (a0.size : Int) < 4 then (some ((⟨#[]⟩ : ByteArray),false)) else (if 4 ≤ (a0.size : Int) then ((thwartref02_Seal.f k (a0.extract 4 a0.size)).bind fun t395 => (if t395.toList = a0.toList then (some (a0.extract 4 a0.size,true)) else (some ((⟨#[]⟩ : ByteArray),false)))) else (none))) = some (r1,r2):=h
 clear h
 by_cases c2 : (a0.size : Int) < 4
 ·rw [if_pos c2] at H
  have c2b0 : decide ((a0.size : Int) < 4) = true:=decide_eq_true c2
  have c2b1 : decide (a0.size < 4) = true:=decide_eq_true (by omega)
  clear c2
  simp only [Option.some.injEq,Prod.mk.injEq] at H
  obtain ⟨rfl,rfl⟩:=H
  go_enter Tryz.func88,Tryz.ntmps88
  go_wp2
  go_ret2
  exact ⟨by first | rfl | (simp [errW_none,errW_some] <;> rfl) | (simp [*,errW_none,errW_some] <;> rfl) | (simp [errW_none,errW_some];exact isEmpty_bne _),by repeat (first | (with_reducible first | exact HB.out | apply below_alloc | apply pw_below_drewN | apply below_drew1) | exact HB.out)⟩
 ·rw [if_neg c2] at H
  have c2b0 : decide ((a0.size : Int) < 4) = false:=decide_eq_false c2
  have c2b1 : decide (a0.size < 4) = false:=decide_eq_false (by omega)
  clear c2
  by_cases c3 : 4 ≤ (a0.size : Int)
  ·rw [if_pos c3] at H
   have c3b0:=eq_true c3
   have c3b1 : decide (4 ≤ (a0.size : Int)) = true:=decide_eq_true c3
   clear c3
   replace H:=Option.bind_eq_some_iff.mp H
   obtain ⟨t395,A40,H⟩:=H
   replace H : (if t395.toList = a0.toList then (some (a0.extract 4 a0.size,true)) else (some ((⟨#[]⟩ : ByteArray),false))) = some (r1,r2):=H
   have A4:=Aside0.mk A40
   clear A40
   by_cases c5 : t395.toList = a0.toList
   ·rw [if_pos c5] at H
    have c5b0 : (t395.toList == a0.toList) = true:=beq_iff_eq.mpr c5
    have c5b1 : (t395.toList != a0.toList) = false:=bne_eq_false_iff_eq.mpr c5
    clear c5
    have c6b0:=eq_true (of_decide_eq_true (by first | (with_reducible assumption) | assumption) : 4 ≤ (a0.size : Int))
    simp only [Option.some.injEq,Prod.mk.injEq] at H
    obtain ⟨rfl,rfl⟩:=H
    go_enter Tryz.func88,Tryz.ntmps88
    go_wp2_with (first | (go_at_call 92;(with_reducible refine (thwartref02_Seal.calls k (a0.extract 4 a0.size) t395 _ A4.out).mono ?_);rintro e w7 ⟨rfl,hb⟩;have n0_:=Aside0.mk (below_step (by repeat (first | (with_reducible first | exact HB.out | apply below_alloc | apply pw_below_drewN | apply below_drew1) | exact HB.out)) hb);clear HB;have HB:=n0_;clear n0_;(try clear hb);(try clear hb2);(try clear hk);(try clear hi)))
    go_ret2
    exact ⟨by first | rfl | (simp [errW_none,errW_some] <;> rfl) | (simp [*,errW_none,errW_some] <;> rfl) | (simp [errW_none,errW_some];exact isEmpty_bne _),by repeat (first | (with_reducible first | exact HB.out | apply below_alloc | apply pw_below_drewN | apply below_drew1) | exact HB.out)⟩
   ·rw [if_neg c5] at H
    have c5b0 : (t395.toList == a0.toList) = false:=beq_eq_false_iff_ne.mpr c5
    have c5b1 : (t395.toList != a0.toList) = true:=bne_iff_ne.mpr c5
    simp only [Option.some.injEq,Prod.mk.injEq] at H
    obtain ⟨rfl,rfl⟩:=H
    go_enter Tryz.func88,Tryz.ntmps88
    go_wp2_with (first | (go_at_call 92;(with_reducible refine (thwartref02_Seal.calls k (a0.extract 4 a0.size) t395 _ A4.out).mono ?_);rintro e w8 ⟨rfl,hb⟩;have n0_:=Aside0.mk (below_step (by repeat (first | (with_reducible first | exact HB.out | apply below_alloc | apply pw_below_drewN | apply below_drew1) | exact HB.out)) hb);clear HB;have HB:=n0_;clear n0_;(try clear hb);(try clear hb2);(try clear hk);(try clear hi)))
    go_ret2
    exact ⟨by first | rfl | (simp [errW_none,errW_some] <;> rfl) | (simp [*,errW_none,errW_some] <;> rfl) | (simp [errW_none,errW_some];exact isEmpty_bne _),by repeat (first | (with_reducible first | exact HB.out | apply below_alloc | apply pw_below_drewN | apply below_drew1) | exact HB.out)⟩
  ·rw [if_neg c3] at H
   exact absurd H (by simp)

end Go.Proofs.YtlnbekaldemebaaGreatDoor.Print
