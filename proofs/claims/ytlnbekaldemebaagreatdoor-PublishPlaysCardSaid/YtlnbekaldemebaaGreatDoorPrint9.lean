/- Written by a program of mine (give.py, over the kit's print) out of the translation: contracts of the Go functions. Lean checks it. -/
import Derived.Test.YtlnbekaldemebaaGreatDoorPrint0
import Derived.Test.YtlnbekaldemebaaGreatDoorPrint8
namespace Go.Proofs.YtlnbekaldemebaaGreatDoor.Print
open Go.RowKit Go.Proofs.YtlnbekaldemebaaGreatDoorW.PrintWords Go.Proofs.YtlnbekaldemebaaGreatDoorW.PrintLast Go.Proofs.YtlnbekaldemebaaGreatDoorW.PrintMore
attribute [local go_sem] max2_int min2_int max_two min_two max_three min_three max_four min_four   -- for this text's walks alone
set_option linter.unusedVariables false
set_option linter.unusedSimpArgs false

/-! ### manifest_Bytes: function 43 -/
def manifest_Bytes.l0 : Nat → ByteArray → List (S45) → Int → Int → Option (ByteArray × Int)
 | 0,_,_,_,_ => none
 | k + 1,x4,x21,x22,x23 => if x23 < x22 then (if 0 ≤ x23 then (if x23 < (x21.length : Int) then ((varint_Put.f (IntKind.u64.wrap ((rd_T45 x21 x23).f0))).bind fun t243 => ((varint_Put.f (IntKind.u64.wrap ((rd_T45 x21 x23).f1))).bind fun t244 => (if t243.size + t244.size ≤ 9223372036854775807 then ((varint_Put.f (IntKind.u64.wrap ((rd_T45 x21 x23).f2))).bind fun t245 => (if t243.size + t244.size + t245.size ≤ 9223372036854775807 then (if x4.size + (t243.size + t244.size + t245.size) ≤ 9223372036854775807 then (manifest_Bytes.l0 k (x4 ++ ((t243 ++ t244) ++ t245)) x21 x22 (wrap64 (x23 + 1))) else (none)) else (none))) else (none)))) else (none)) else (none)) else ((crc_Seal.f x4).bind fun t246 => (some (t246,0)))
def manifest_Bytes.f (k : Nat) (a0_0 : Int) (l0_1 : List (S45)) : Option (ByteArray × Int):=(manifest_Right.f k a0_0 l0_1).bind fun t238 => (if t238 = true then ((varint_Put.f (IntKind.u64.wrap (a0_0))).bind fun t239 => ((varint_Put.f (IntKind.u64.wrap ((l0_1.length : Int)))).bind fun t240 => (if t239.size + t240.size ≤ 9223372036854775807 then (manifest_Bytes.l0 k (t239 ++ t240) l0_1 (l0_1.length : Int) 0) else (none)))) else (some ((⟨#[]⟩ : ByteArray),1)))
theorem manifest_Bytes.mono_l : ∀ k,(∀ y0 y1 y2 y3,LeO (manifest_Bytes.l0 k y0 y1 y2 y3) (manifest_Bytes.l0 (k + 1) y0 y1 y2 y3))
 | 0 => fun _ _ _ _ r h => by simp [manifest_Bytes.l0] at h
 | k + 1 => by
  have ih0:=manifest_Bytes.mono_l k
  ·intro y0 y1 y2 y3
   unfold manifest_Bytes.l0
   repeat' first
   | (with_reducible exact ih0 _ _ _ _)
   | (with_reducible exact manifest_Right.mono _ _ _)
   | (with_reducible exact LeO.refl _)
   | (with_reducible exact LeO.none _)
   | (with_reducible refine LeO.ite ?_ ?_)
   | (with_reducible refine LeO.bind ?_ (fun _ => ?_))
   | exact ih0 _ _ _ _
   | exact manifest_Right.mono _ _ _
   | exact LeO.none _
   | refine LeO.ite ?_ ?_
   | refine LeO.bind ?_ (fun _ => ?_)
theorem manifest_Bytes.mono : ∀ a0 a1 k,LeO (manifest_Bytes.f k a0 a1) (manifest_Bytes.f (k + 1) a0 a1):=by
 intro a0 a1 k
 have ih0:=manifest_Bytes.mono_l k
 unfold manifest_Bytes.f
 repeat' first
   | (with_reducible exact ih0 _ _ _ _)
   | (with_reducible exact manifest_Right.mono _ _ _)
   | (with_reducible exact LeO.refl _)
   | (with_reducible exact LeO.none _)
   | (with_reducible refine LeO.ite ?_ ?_)
   | (with_reducible refine LeO.bind ?_ (fun _ => ?_))
   | exact ih0 _ _ _ _
   | exact manifest_Right.mono _ _ _
   | exact LeO.none _
   | refine LeO.ite ?_ ?_
   | refine LeO.bind ?_ (fun _ => ?_)
def manifest_Bytes.T3 : Bool × List (List Nat × List Nat):=(true,[([],[]),([0],[0]),([1],[1]),([2],[2]),([],[]),([4],[4]),([5],[5]),([6],[6]),([7,3],[7]),([3,8],[3,8]),([9,8,0,1,2,3,4,5,6,7,8,9],[9])])
def manifest_Bytes.B3 : List Nat:=[0,1,3,7,0,16,48,112,255,511,1023]
theorem manifest_Bytes.tab3 : rtab .any (opsOf Tryz.f43 3) = manifest_Bytes.T3:=by kernel_rfl
theorem manifest_Bytes.bits3 : waitsOk manifest_Bytes.T3.2 manifest_Bytes.B3 = true:=by kernel_rfl
def manifest_Bytes.T7 : Bool × List (List Nat × List Nat):=(true,[([],[]),([],[]),([1],[1]),([2],[2]),([3],[3]),([],[]),([5],[5]),([6],[6]),([7,4],[7]),([4,8],[4,8]),([],[]),([10],[10]),([11],[11]),([12,8],[12]),([9,13],[9,13]),([0,14],[0,14]),([15,13,0,1,2,3,4,5,6,7,8,9,10,11,12,13,14,15],[0,15])])
def manifest_Bytes.B7 : List Nat:=[0,0,2,6,14,0,32,96,254,510,0,1024,3072,7678,16382,32767,65535]
theorem manifest_Bytes.tab7 : rtab .any (opsOf Tryz.f43 7) = manifest_Bytes.T7:=by kernel_rfl
theorem manifest_Bytes.bits7 : waitsOk manifest_Bytes.T7.2 manifest_Bytes.B7 = true:=by kernel_rfl
set_option maxHeartbeats 8000000 in
set_option maxRecDepth 100000 in
theorem manifest_Bytes.calls (k : Nat) (a0_0 : Int) (A0_1 : Option Addr) (c0_1 : Nat) (l0_1 : List (S45)) (r1 : ByteArray) (r2 : Int) (w : World) (hr0_1 : Kd.C k45 w A0_1 l0_1.length l0_1) (hc0_1 : l0_1.length ≤ c0_1) (h : manifest_Bytes.f k a0_0 l0_1 = some (r1,r2)) :
  Calls Tryz.prog 43 #[.agg #[.int .i64 a0_0,.slice A0_1 l0_1.length c0_1]] w fun e w' => e = .returned (.tuple #[.string r1,.int .i64 r2]) ∧ Below w.heap.size w w' := by
 have hu25:=Tryz.underlying25
 have hu45:=Tryz.underlying45
 have HR0_1:=Aside0.mk hr0_1
 have HC0_1:=Aside0.mk hc0_1
 clear hr0_1 hc0_1
 have HB:=Aside0.mk (Below.refl w.heap.size w)
 have H : ((manifest_Right.f k a0_0 l0_1).bind fun t238 => (if t238 = true then ((varint_Put.f (IntKind.u64.wrap (a0_0))).bind fun t239 => ((varint_Put.f (IntKind.u64.wrap ((l0_1.length : Int)))).bind fun t240 => (if t239.size + t240.size ≤ 9223372036854775807 then (manifest_Bytes.l0 k (t239 ++ t240) l0_1 (l0_1.length : Int) 0) else (none)))) else (some ((⟨#[]⟩ : ByteArray),1)))) = some (r1,r2):=h
 clear h
 replace H:=Option.bind_eq_some_iff.mp H
 obtain ⟨t238,A20,H⟩:=H
 replace H : (if t238 = true then ((varint_Put.f (IntKind.u64.wrap (a0_0))).bind fun t239 => ((varint_Put.f (IntKind.u64.wrap ((l0_1.length : Int)))).bind fun t240 => (if t239.size + t240.size ≤ 9223372036854775807 then (manifest_Bytes.l0 k (t239 ++ t240) l0_1 (l0_1.length : Int) 0) else (none)))) else (some ((⟨#[]⟩ : ByteArray),1))) = some (r1,r2):=H
 have A2:=Aside0.mk A20
 clear A20
 by_cases c3 : t238 = true
 ·subst c3
  have H1 : ((varint_Put.f (IntKind.u64.wrap (a0_0))).bind fun t239 => ((varint_Put.f (IntKind.u64.wrap ((l0_1.length : Int)))).bind fun t240 => (if t239.size + t240.size ≤ 9223372036854775807 then (manifest_Bytes.l0 k (t239 ++ t240) l0_1 (l0_1.length : Int) 0) else (none)))) = some (r1,r2):=by rw [if_pos rfl] at H;exact H
  clear H
  have H:=H1
  clear H1
  replace H:=Option.bind_eq_some_iff.mp H
  obtain ⟨t239,A40,H⟩:=H
  replace H : ((varint_Put.f (IntKind.u64.wrap ((l0_1.length : Int)))).bind fun t240 => (if t239.size + t240.size ≤ 9223372036854775807 then (manifest_Bytes.l0 k (t239 ++ t240) l0_1 (l0_1.length : Int) 0) else (none))) = some (r1,r2):=H
  have A4:=Aside0.mk A40
  clear A40
  replace H:=Option.bind_eq_some_iff.mp H
  obtain ⟨t240,A50,H⟩:=H
  replace H : (if t239.size + t240.size ≤ 9223372036854775807 then (manifest_Bytes.l0 k (t239 ++ t240) l0_1 (l0_1.length : Int) 0) else (none)) = some (r1,r2):=H
  have A5:=Aside0.mk A50
  clear A50
  by_cases c6 : t239.size + t240.size ≤ 9223372036854775807
  ·rw [if_pos c6] at H
   have c6b0:=eq_true c6
   have c6b1 : decide (t239.size + t240.size ≤ 9223372036854775807) = true:=decide_eq_true c6
   try have c6b2 : (9223372036854775807 < t239.size + t240.size) = False:=eq_false (Nat.not_lt.2 c6)
   have H' := Aside0.mk H
   clear H
   go_enter Tryz.func43,Tryz.ntmps43
   try go_wp2_with (first | ((with_reducible refine gate_dst (N:=1) rfl ?_);refine box_event ?hg (N:=1) ?hd (cs := #[.int .i64 a0_0,.slice A0_1 l0_1.length c0_1]) (t:=25) ?hr ?_;(case hd => rfl);(case hg => rfl);(case hr => first | (go_simp;done) | (go_simp;rfl));intro gb237 hg w7 hbox hb;have n0_:=Aside0.mk (below_step (by repeat (first | (with_reducible first | exact HB.out | apply below_alloc | apply pw_below_drewN | apply below_drew1) | exact HB.out)) hb);have n1_:=Aside0.mk (hbox);have n2_:=Aside0.mk ((by rw [hg];exact (below_size (by repeat (first | (with_reducible first | exact HB.out | apply below_alloc | apply pw_below_drewN | apply below_drew1) | exact HB.out))) : w.heap.size ≤ gb237));have n3_:=Aside0.mk ((by rw [hg];exact (below_size (by repeat (first | (with_reducible first | exact HB.out | apply below_alloc | apply pw_below_drewN | apply below_drew1) | exact HB.out))) : w.heap.size ≤ gb237));clear HB;have HB:=n0_;have BK237:=n1_;have GW237:=n2_;have GE237:=n3_;clear n0_ n1_ n2_ n3_;clear hb hbox hg;have hcz8_0 : w7.cell? ⟨gb237,0,none⟩ = some (.int .i64 a0_0):=(blk_cell BK237.out 0).trans rfl;have hcz8_1 : w7.cell? ⟨gb237,1,none⟩ = some (.slice A0_1 l0_1.length c0_1):=(blk_cell BK237.out 1).trans rfl;have hfz8_0:=blk_frozen BK237.out 0;have hfz8_1:=blk_frozen BK237.out 1) | ((with_reducible refine gate_callee (f:=72) rfl ?_);refine goesL_ (some 8) rfl rfl Tryz.func72 (by kernel_rfl) rfl #[.agg #[.int .i64 a0_0,.slice A0_1 l0_1.length c0_1]] rfl (by (try simp only [List.map_toArray,List.map_cons,List.map_nil]);first | done | rfl | (simp only [List.length_drop,List.length_take];rfl)) ?_;(with_reducible refine (manifest_Right.calls k a0_0 _ _ l0_1 true _ ?side1 ?side2 A2.out).mono ?_);(case side1 => repeat (first | exact (Kd.C_below HR0_1.out HB.out) | (with_reducible refine Kd.C_alloc ?_ _) | (with_reducible refine Kd.C_drewN ?_ _) | (with_reducible refine Kd.C_drew ?_)));(case side2 => exact HC0_1.out);rintro e w9 ⟨rfl,hb⟩;refine ⟨_,rfl,?_⟩;have n0_:=Aside0.mk (blk_below (g:=gb237) (o := .cells #[.int .i64 a0_0,.slice A0_1 l0_1.length c0_1] 25 (0,0)) (by (with_reducible repeat (first | refine blk_drewN ?_ _ | refine blk_drew ?_ | refine blk_alloc ?_ _));exact BK237.out) hb);have n1_:=Aside0.mk (below_step (by repeat (first | (with_reducible first | exact HB.out | apply below_alloc | apply pw_below_drewN | apply below_drew1 | refine below_set ?_ GE237.out) | exact HB.out)) hb);clear BK237;clear HB;have BK237:=n0_;have HB:=n1_;clear n0_ n1_;(try clear hb);(try clear hb2);(try clear hk);(try clear hi)))
   have n0_:=Aside0.mk (blk_drew BK237.out)
   have n1_:=Aside0.mk (below_drew1 HB.out)
   clear BK237
   clear HB
   have BK237:=n0_
   have HB:=n1_
   clear n0_ n1_
   refine start_ (n:=11) (S:=fun w' => w'.cell? ⟨gb237,0,none⟩ = some (.int .i64 a0_0) ∧ w'.cell? ⟨gb237,1,none⟩ = some (.slice A0_1 l0_1.length c0_1)) (ds:=[]) #[false,false,false,false,false,false,false,false,false,false,false] (by kernel_rfl) rfl rfl ⟨(blk_cell BK237.out 0).trans rfl,(blk_cell BK237.out 1).trans rfl⟩ (fun hHeld => ?_);refine with_tabW manifest_Bytes.tab3 manifest_Bytes.bits3 (fun HT_ HW_ => ?_)
   generalize w9.drew = w10 at BK237 HB hHeld ⊢
   refine pure_ (i:=0) (N:=some 10) (v := ?_) (a' := ?_) #[true,false,false,false,false,false,false,false,false,false,false] rfl rfl (any_of HT_.out (by kernel_rfl)) (fun _ _ _ h => h) (Or.inl ⟨by rfl,?_⟩) ?_ ?_
   rotate_left
   ·intro w'
    go_simp
    with_reducible rfl
   rotate_left
   ·simp only [Act.put,List.setIfInBounds_toArray,List.set_cons_zero,List.set_cons_succ,i64_w,i32_w]
    rfl
   refine pure_ (i:=4) (N:=some 14) (v := ?_) (a' := ?_) #[true,false,false,false,true,false,false,false,false,false,false] rfl rfl (any_of HT_.out (by kernel_rfl)) (fun _ _ _ h => h) (Or.inl ⟨by rfl,?_⟩) ?_ ?_
   rotate_left
   ·intro w'
    go_simp
    with_reducible rfl
   rotate_left
   ·simp only [Act.put,List.setIfInBounds_toArray,List.set_cons_zero,List.set_cons_succ,i64_w,i32_w]
    rfl
   refine take_ (i:=1) (N:=some 11) (v := ?_) (a' := ?_) #[true,true,false,false,true,false,false,false,false,false,false] rfl rfl (take_ofW HT_.out HW_.out (by kernel_rfl)) (fun _ _ _ h => h) (Or.inl ⟨by rfl,?_⟩) hHeld ?_ ?_
   rotate_left
   ·rintro w' ⟨s0,s1⟩
    go_simp
    with_reducible rfl
   rotate_left
   ·simp only [Act.put,List.setIfInBounds_toArray,List.set_cons_zero,List.set_cons_succ,i64_w,i32_w]
    rfl
   refine pure_ (i:=2) (N:=some 12) (v := ?_) (a' := ?_) #[true,true,true,false,true,false,false,false,false,false,false] rfl rfl (any_of HT_.out (by kernel_rfl)) (fun _ _ _ h => h) (Or.inl ⟨by rfl,?_⟩) ?_ ?_
   rotate_left
   ·intro w'
    go_simp
    with_reducible rfl
   rotate_left
   ·simp only [Act.put,List.setIfInBounds_toArray,List.set_cons_zero,List.set_cons_succ,i64_w,i32_w]
    rfl
   refine take_ (i:=5) (N:=some 15) (v := ?_) (a' := ?_) #[true,true,true,false,true,true,false,false,false,false,false] rfl rfl (take_ofW HT_.out HW_.out (by kernel_rfl)) (fun _ _ _ h => h) (Or.inl ⟨by rfl,?_⟩) hHeld ?_ ?_
   rotate_left
   ·rintro w' ⟨s0,s1⟩
    go_simp
    with_reducible rfl
   rotate_left
   ·simp only [Act.put,List.setIfInBounds_toArray,List.set_cons_zero,List.set_cons_succ,i64_w,i32_w]
    rfl
   refine pure_ (i:=6) (N:=some 16) (v := ?_) (a' := ?_) #[true,true,true,false,true,true,true,false,false,false,false] rfl rfl (any_of HT_.out (by kernel_rfl)) (fun _ _ _ h => h) (Or.inl ⟨by rfl,?_⟩) ?_ ?_
   rotate_left
   ·intro w'
    go_simp
    with_reducible rfl
   rotate_left
   ·simp only [Act.put,List.setIfInBounds_toArray,List.set_cons_zero,List.set_cons_succ,i64_w,i32_w]
    rfl
   refine pure_ (i:=7) (N:=some 17) (v := ?_) (a' := ?_) #[true,true,true,false,true,true,true,true,false,false,false] rfl rfl (any_of HT_.out (by kernel_rfl)) (fun _ _ _ h => h) (Or.inl ⟨by rfl,?_⟩) ?_ ?_
   rotate_left
   ·intro w'
    go_simp
    with_reducible rfl
   rotate_left
   ·simp only [Act.put,List.setIfInBounds_toArray,List.set_cons_zero,List.set_cons_succ,i64_w,i32_w]
    rfl
   refine one_ (i:=3) (N:=some 13) #[true,true,true,true,true,true,true,true,false,false,false] rfl rfl (one_of HT_.out (by kernel_rfl)) (by decide) (fun K hK => ?_)
   refine goes_ Tryz.func73 (by kernel_rfl) rfl #[.int .u64 (IntKind.u64.wrap (a0_0))] (by rfl) rfl rfl (by (try simp only [List.map_toArray,List.map_cons,List.map_nil]);first | done | rfl | (simp only [List.length_drop,List.length_take];rfl)) ?_
   with_reducible refine (varint_Put.calls (IntKind.u64.wrap (a0_0)) t239 _ A4.out).mono ?_
   rintro e w11 ⟨rfl,hb⟩
   refine ⟨_,rfl,?_⟩
   have n0_:=Aside0.mk (blk_below (g:=gb237) (o := .cells #[.int .i64 a0_0,.slice A0_1 l0_1.length c0_1] 25 (0,0)) (by (with_reducible repeat (first | refine blk_drewN ?_ _ | refine blk_drew ?_ | refine blk_alloc ?_ _));exact BK237.out) hb)
   have n1_:=Aside0.mk (below_step (by repeat (first | (with_reducible first | exact HB.out | apply below_alloc | apply pw_below_drewN | apply below_drew1 | refine below_set ?_ GE237.out) | exact HB.out)) hb)
   clear BK237
   clear HB
   have BK237:=n0_
   have HB:=n1_
   clear n0_ n1_
   (try clear hb)
   (try clear hb2)
   (try clear hk)
   (try clear hi)
   refine hK.out _ _ ⟨(blk_cell BK237.out 0).trans rfl,(blk_cell BK237.out 1).trans rfl⟩ (fun hHeld => ?_)
   clear hK K
   refine norm_ (a' := ?_) ?_ ?_
   rotate_left
   ·show Act.put _ (some 13) _ = _
    simp only [Act.put,List.setIfInBounds_toArray,List.set_cons_zero,List.set_cons_succ,i64_w,i32_w]
    rfl
   refine one_ (i:=8) (N:=some 18) #[true,true,true,true,true,true,true,true,true,false,false] rfl rfl (one_of HT_.out (by kernel_rfl)) (by decide) (fun K hK => ?_)
   refine goes_ Tryz.func73 (by kernel_rfl) rfl #[.int .u64 (IntKind.u64.wrap ((l0_1.length : Int)))] (by rfl) rfl rfl (by (try simp only [List.map_toArray,List.map_cons,List.map_nil]);first | done | rfl | (simp only [List.length_drop,List.length_take];rfl)) ?_
   with_reducible refine (varint_Put.calls (IntKind.u64.wrap ((l0_1.length : Int))) t240 _ A5.out).mono ?_
   rintro e w12 ⟨rfl,hb⟩
   refine ⟨_,rfl,?_⟩
   have n0_:=Aside0.mk (blk_below (g:=gb237) (o := .cells #[.int .i64 a0_0,.slice A0_1 l0_1.length c0_1] 25 (0,0)) (by (with_reducible repeat (first | refine blk_drewN ?_ _ | refine blk_drew ?_ | refine blk_alloc ?_ _));exact BK237.out) hb)
   have n1_:=Aside0.mk (below_step (by repeat (first | (with_reducible first | exact HB.out | apply below_alloc | apply pw_below_drewN | apply below_drew1 | refine below_set ?_ GE237.out) | exact HB.out)) hb)
   clear BK237
   clear HB
   have BK237:=n0_
   have HB:=n1_
   clear n0_ n1_
   (try clear hb)
   (try clear hb2)
   (try clear hk)
   (try clear hi)
   refine hK.out _ _ ⟨(blk_cell BK237.out 0).trans rfl,(blk_cell BK237.out 1).trans rfl⟩ (fun hHeld => ?_)
   clear hK K
   refine norm_ (a' := ?_) ?_ ?_
   rotate_left
   ·show Act.put _ (some 18) _ = _
    simp only [Act.put,List.setIfInBounds_toArray,List.set_cons_zero,List.set_cons_succ,i64_w,i32_w]
    rfl
   refine pure_ (i:=9) (N:=some 19) (v := ?_) (a' := ?_) #[true,true,true,true,true,true,true,true,true,true,false] rfl rfl (any_of HT_.out (by kernel_rfl)) (fun _ _ _ h => h) (Or.inl ⟨by rfl,?_⟩) ?_ ?_
   rotate_left
   ·intro w'
    go_simp
    with_reducible rfl
   rotate_left
   ·simp only [Act.put,List.setIfInBounds_toArray,List.set_cons_zero,List.set_cons_succ,i64_w,i32_w]
    rfl
   refine pure_ (i:=10) (N:=some 4) (v := ?_) (a' := ?_) #[true,true,true,true,true,true,true,true,true,true,true] rfl rfl (any_of HT_.out (by kernel_rfl)) (fun _ _ _ h => h) (Or.inl ⟨by rfl,?_⟩) ?_ ?_
   rotate_left
   ·intro w'
    go_simp
    with_reducible rfl
   rotate_left
   ·simp only [Act.put,List.setIfInBounds_toArray,List.set_cons_zero,List.set_cons_succ,i64_w,i32_w]
    rfl
   refine done_ (done_of HT_.out (by kernel_rfl)) ?_
   have hcz13_0 : w12.cell? ⟨gb237,0,none⟩ = some (.int .i64 a0_0):=(blk_cell BK237.out 0).trans rfl
   have hcz13_1 : w12.cell? ⟨gb237,1,none⟩ = some (.slice A0_1 l0_1.length c0_1):=(blk_cell BK237.out 1).trans rfl
   have hfz13_0:=blk_frozen BK237.out 0
   have hfz13_1:=blk_frozen BK237.out 1
   try go_wp2
   go_loopg [4,23] k (fun kq v4 v23 w' => ∃ (x4_1 : ByteArray) (x23_1 : Int),v4 = .string x4_1 ∧ v23 = .int .i64 x23_1 ∧ Aside0 (manifest_Bytes.l0 kq x4_1 l0_1 (l0_1.length : Int) x23_1 = some (r1,r2)) ∧ Aside0 (kq ≤ k) ∧ Aside0 (w'.heap[gb237]? = some (.cells #[.int .i64 a0_0,(.slice A0_1 l0_1.length c0_1)] 25 (0,0))) ∧ Aside0 (Below w.heap.size w w'))
   case atStart => exact ⟨(t239 ++ t240),(0),(by first | rfl | (simp;done) | (simp [*];done)),(by first | rfl | (simp;done) | (simp [*];done)),H',⟨Nat.le_refl _⟩,⟨by (with_reducible repeat (first | refine blk_drewN ?_ _ | refine blk_drew ?_ | refine blk_alloc ?_ _));exact BK237.out⟩,⟨by repeat (first | (with_reducible first | exact HB.out | apply below_alloc | apply pw_below_drewN | apply below_drew1 | refine below_set ?_ GE237.out) | exact HB.out)⟩⟩
   case round =>
    clear H'
    try clear p2
    try clear c3
    try clear c4
    try clear c6
    try clear c6b0
    try clear c6b1
    try clear c6b2
    try clear c7
    try clear hcz13_0
    try clear hcz13_1
    try clear hcz8_0
    try clear hcz8_1
    try clear hfz13_0
    try clear hfz13_1
    try clear hfz8_0
    try clear hfz8_1
    obtain ⟨x4_1,x23_1,rfl,rfl,HA,HK1,BK237,HB⟩:=hrel
    cases gk with
    | zero => exact absurd HA.out (by simp [manifest_Bytes.l0])
    | succ k1 =>
     have H:=HA.out
     clear HA
     simp only [manifest_Bytes.l0] at H
     by_cases c14 : x23_1 < (l0_1.length : Int)
     ·rw [if_pos c14] at H
      have c14b0 : decide (x23_1 < (l0_1.length : Int)) = true:=decide_eq_true c14
      clear c14
      by_cases c15 : 0 ≤ x23_1
      ·rw [if_pos c15] at H
       have c15b0 : decide (0 ≤ x23_1) = true:=decide_eq_true c15
       clear c15
       by_cases c16 : x23_1 < (l0_1.length : Int)
       ·rw [if_pos c16] at H
        have c16b0 : decide (x23_1 < (l0_1.length : Int)) = true:=decide_eq_true c16
        clear c16
        replace H:=Option.bind_eq_some_iff.mp H
        obtain ⟨t243,A170,H⟩:=H
        replace H : ((varint_Put.f (IntKind.u64.wrap ((rd_T45 l0_1 x23_1).f1))).bind fun t244 => (if t243.size + t244.size ≤ 9223372036854775807 then ((varint_Put.f (IntKind.u64.wrap ((rd_T45 l0_1 x23_1).f2))).bind fun t245 => (if t243.size + t244.size + t245.size ≤ 9223372036854775807 then (if x4_1.size + (t243.size + t244.size + t245.size) ≤ 9223372036854775807 then (manifest_Bytes.l0 k1 (x4_1 ++ ((t243 ++ t244) ++ t245)) l0_1 (l0_1.length : Int) (wrap64 (x23_1 + 1))) else (none)) else (none))) else (none))) = some (r1,r2):=H
        have A17:=Aside0.mk A170
        clear A170
        replace H:=Option.bind_eq_some_iff.mp H
        obtain ⟨t244,A180,H⟩:=H
        replace H : (if t243.size + t244.size ≤ 9223372036854775807 then ((varint_Put.f (IntKind.u64.wrap ((rd_T45 l0_1 x23_1).f2))).bind fun t245 => (if t243.size + t244.size + t245.size ≤ 9223372036854775807 then (if x4_1.size + (t243.size + t244.size + t245.size) ≤ 9223372036854775807 then (manifest_Bytes.l0 k1 (x4_1 ++ ((t243 ++ t244) ++ t245)) l0_1 (l0_1.length : Int) (wrap64 (x23_1 + 1))) else (none)) else (none))) else (none)) = some (r1,r2):=H
        have A18:=Aside0.mk A180
        clear A180
        by_cases c19 : t243.size + t244.size ≤ 9223372036854775807
        ·rw [if_pos c19] at H
         have c19b0:=eq_true c19
         have c19b1 : decide (t243.size + t244.size ≤ 9223372036854775807) = true:=decide_eq_true c19
         try have c19b2 : (9223372036854775807 < t243.size + t244.size) = False:=eq_false (Nat.not_lt.2 c19)
         replace H:=Option.bind_eq_some_iff.mp H
         obtain ⟨t245,A200,H⟩:=H
         replace H : (if t243.size + t244.size + t245.size ≤ 9223372036854775807 then (if x4_1.size + (t243.size + t244.size + t245.size) ≤ 9223372036854775807 then (manifest_Bytes.l0 k1 (x4_1 ++ ((t243 ++ t244) ++ t245)) l0_1 (l0_1.length : Int) (wrap64 (x23_1 + 1))) else (none)) else (none)) = some (r1,r2):=H
         have A20:=Aside0.mk A200
         clear A200
         by_cases c21 : t243.size + t244.size + t245.size ≤ 9223372036854775807
         ·rw [if_pos c21] at H
          have c21b0:=eq_true c21
          have c21b1 : decide (t243.size + t244.size + t245.size ≤ 9223372036854775807) = true:=decide_eq_true c21
          try have c21b2 : (9223372036854775807 < t243.size + t244.size + t245.size) = False:=eq_false (Nat.not_lt.2 c21)
          by_cases c22 : x4_1.size + (t243.size + t244.size + t245.size) ≤ 9223372036854775807
          ·rw [if_pos c22] at H
           have c22b0:=eq_true c22
           have c22b1 : decide (x4_1.size + (t243.size + t244.size + t245.size) ≤ 9223372036854775807) = true:=decide_eq_true c22
           try have c22b2 : (9223372036854775807 < x4_1.size + (t243.size + t244.size + t245.size)) = False:=eq_false (Nat.not_lt.2 c22)
           have H' := Aside0.mk H
           clear H
           have p241 : 0 ≤ (x23_1 : Int):=of_decide_eq_true (by first | (with_reducible assumption) | assumption)
           have q241 : x23_1 < (l0_1.length : Int):=of_decide_eq_true (by first | (with_reducible assumption) | assumption)
           obtain ⟨ad241,e241,hx241_0,hx241_1,hx241_2⟩:=at_T45 HR0_1.out x23_1 p241 q241
           cases e241
           replace hx241_0:=(HB.out.cell (World.block_lt_of_cell? w _ hx241_0)).trans hx241_0
           replace hx241_1:=(HB.out.cell (World.block_lt_of_cell? w _ hx241_1)).trans hx241_1
           replace hx241_2:=(HB.out.cell (World.block_lt_of_cell? w _ hx241_2)).trans hx241_2
           replace p241:=eq_true p241
           replace q241:=eq_true q241
           try go_wp2_with (first | ((with_reducible refine gate_dst (N:=6) rfl ?_);refine box_event ?hg (N:=6) ?hd (cs := #[.int .i64 0,.int .i64 0,.int .u32 0]) (t:=45) ?hr ?_;(case hd => rfl);(case hg => rfl);(case hr => first | (go_simp;done) | (go_simp;rfl));intro gb242 hg w23 hbox hb;have n0_:=Aside0.mk (blk_below (g:=gb237) (o := .cells #[.int .i64 a0_0,.slice (some ad241) l0_1.length c0_1] 25 (0,0)) (by (with_reducible repeat (first | refine blk_drewN ?_ _ | refine blk_drew ?_ | refine blk_alloc ?_ _));exact BK237.out) hb);have n1_:=Aside0.mk (below_step (by repeat (first | (with_reducible first | exact HB.out | apply below_alloc | apply pw_below_drewN | apply below_drew1 | refine below_set ?_ GE237.out) | exact HB.out)) hb);have n2_:=Aside0.mk (hbox);have n3_:=Aside0.mk ((by rw [hg];exact (below_size (by repeat (first | (with_reducible first | exact HB.out | apply below_alloc | apply pw_below_drewN | apply below_drew1 | refine below_set ?_ GE237.out) | exact HB.out))) : w.heap.size ≤ gb242));have n4_:=Aside0.mk ((by rw [hg];exact (below_size (by repeat (first | (with_reducible first | exact HB.out | apply below_alloc | apply pw_below_drewN | apply below_drew1 | refine below_set ?_ GE237.out) | exact HB.out))) : w.heap.size ≤ gb242));have n5_:=Aside0.mk ((by rw [hg];exact Nat.ne_of_lt (blk_lt (g:=gb237) (o := .cells #[.int .i64 a0_0,.slice (some ad241) l0_1.length c0_1] 25 (0,0)) (by (with_reducible repeat (first | refine blk_drewN ?_ _ | refine blk_drew ?_ | refine blk_alloc ?_ _));exact BK237.out)) : gb237 ≠ gb242));have n6_:=Aside0.mk ((by rw [hg];exact Nat.ne_of_gt (blk_lt (g:=gb237) (o := .cells #[.int .i64 a0_0,.slice (some ad241) l0_1.length c0_1] 25 (0,0)) (by (with_reducible repeat (first | refine blk_drewN ?_ _ | refine blk_drew ?_ | refine blk_alloc ?_ _));exact BK237.out)) : gb242 ≠ gb237));clear BK237;clear HB;have BK237:=n0_;have HB:=n1_;have BK242:=n2_;have GW242:=n3_;have GE242:=n4_;have NB237_242:=n5_;have NB242_237:=n6_;clear n0_ n1_ n2_ n3_ n4_ n5_ n6_;clear hb hbox hg;have hnb24:=NB242_237.out;have hnc24:=NB237_242.out;have hcz25_0 : w23.cell? ⟨gb242,0,none⟩ = some (.int .i64 0):=(blk_cell BK242.out 0).trans rfl;have hcz25_1 : w23.cell? ⟨gb242,1,none⟩ = some (.int .i64 0):=(blk_cell BK242.out 1).trans rfl;have hcz25_2 : w23.cell? ⟨gb242,2,none⟩ = some (.int .u32 0):=(blk_cell BK242.out 2).trans rfl;have hfz25_0:=blk_frozen BK242.out 0;have hfz25_1:=blk_frozen BK242.out 1;have hfz25_2:=blk_frozen BK242.out 2))
           have n0_ : Aside0 ((((w23.setCell ⟨gb242,0,none⟩ (.int .i64 ((rd_T45 l0_1 x23_1).f0))).setCell ⟨gb242,1,none⟩ (.int .i64 ((rd_T45 l0_1 x23_1).f1))).setCell ⟨gb242,2,none⟩ (.int .u32 ((rd_T45 l0_1 x23_1).f2))).heap[gb237]? = some (.cells #[.int .i64 a0_0,.slice (some ad241) l0_1.length c0_1] 25 (0,0))):=⟨by (with_reducible repeat (first | refine blk_drewN ?_ _ | refine blk_drew ?_ | refine blk_alloc ?_ _));refine blk_far ?_ NB237_242.out _;(with_reducible repeat (first | refine blk_drewN ?_ _ | refine blk_drew ?_ | refine blk_alloc ?_ _));refine blk_far ?_ NB237_242.out _;(with_reducible repeat (first | refine blk_drewN ?_ _ | refine blk_drew ?_ | refine blk_alloc ?_ _));refine blk_far ?_ NB237_242.out _;(with_reducible repeat (first | refine blk_drewN ?_ _ | refine blk_drew ?_ | refine blk_alloc ?_ _));exact BK237.out⟩
           have n1_ : Aside0 ((((w23.setCell ⟨gb242,0,none⟩ (.int .i64 ((rd_T45 l0_1 x23_1).f0))).setCell ⟨gb242,1,none⟩ (.int .i64 ((rd_T45 l0_1 x23_1).f1))).setCell ⟨gb242,2,none⟩ (.int .u32 ((rd_T45 l0_1 x23_1).f2))).heap[gb242]? = some (.cells #[.int .i64 ((rd_T45 l0_1 x23_1).f0),.int .i64 ((rd_T45 l0_1 x23_1).f1),.int .u32 ((rd_T45 l0_1 x23_1).f2)] 45 (0,0))):=⟨by (with_reducible repeat (first | refine blk_drewN ?_ _ | refine blk_drew ?_ | refine blk_alloc ?_ _));refine blk_put (cs := #[.int .i64 ((rd_T45 l0_1 x23_1).f0),.int .i64 ((rd_T45 l0_1 x23_1).f1),.int .u32 0]) ?_ 2 _ rfl;(with_reducible repeat (first | refine blk_drewN ?_ _ | refine blk_drew ?_ | refine blk_alloc ?_ _));refine blk_put (cs := #[.int .i64 ((rd_T45 l0_1 x23_1).f0),.int .i64 0,.int .u32 0]) ?_ 1 _ rfl;(with_reducible repeat (first | refine blk_drewN ?_ _ | refine blk_drew ?_ | refine blk_alloc ?_ _));refine blk_put (cs := #[.int .i64 0,.int .i64 0,.int .u32 0]) ?_ 0 _ rfl;(with_reducible repeat (first | refine blk_drewN ?_ _ | refine blk_drew ?_ | refine blk_alloc ?_ _));exact BK242.out⟩
           have n2_ : Aside0 (Below w.heap.size w (((w23.setCell ⟨gb242,0,none⟩ (.int .i64 ((rd_T45 l0_1 x23_1).f0))).setCell ⟨gb242,1,none⟩ (.int .i64 ((rd_T45 l0_1 x23_1).f1))).setCell ⟨gb242,2,none⟩ (.int .u32 ((rd_T45 l0_1 x23_1).f2)))):=⟨by repeat (first | (with_reducible first | exact HB.out | apply below_alloc | apply pw_below_drewN | apply below_drew1 | refine below_set ?_ GE237.out | refine below_set ?_ GE242.out) | exact HB.out)⟩
           (try clear BK237)
           (try clear BK242)
           (try clear HB)
           generalize (((w23.setCell ⟨gb242,0,none⟩ (.int .i64 ((rd_T45 l0_1 x23_1).f0))).setCell ⟨gb242,1,none⟩ (.int .i64 ((rd_T45 l0_1 x23_1).f1))).setCell ⟨gb242,2,none⟩ (.int .u32 ((rd_T45 l0_1 x23_1).f2))) = w26 at n0_ n1_ n2_ ⊢
           have BK237:=n0_
           have BK242:=n1_
           have HB:=n2_
           clear n0_ n1_ n2_
           have n0_:=Aside0.mk (blk_drew BK237.out)
           have n1_:=Aside0.mk (blk_drew BK242.out)
           have n2_:=Aside0.mk (below_drew1 HB.out)
           clear BK237
           clear BK242
           clear HB
           have BK237:=n0_
           have BK242:=n1_
           have HB:=n2_
           clear n0_ n1_ n2_
           refine start_ (n:=17) (S:=fun w' => w'.cell? ⟨gb242,0,none⟩ = some (.int .i64 ((rd_T45 l0_1 x23_1).f0)) ∧ w'.cell? ⟨gb242,1,none⟩ = some (.int .i64 ((rd_T45 l0_1 x23_1).f1)) ∧ w'.cell? ⟨gb242,2,none⟩ = some (.int .u32 ((rd_T45 l0_1 x23_1).f2))) (ds:=[]) #[false,false,false,false,false,false,false,false,false,false,false,false,false,false,false,false,false] (by kernel_rfl) rfl rfl ⟨(blk_cell BK242.out 0).trans rfl,(blk_cell BK242.out 1).trans rfl,(blk_cell BK242.out 2).trans rfl⟩ (fun hHeld => ?_);refine with_tabW manifest_Bytes.tab7 manifest_Bytes.bits7 (fun HT_ HW_ => ?_)
           generalize w26.drew = w27 at BK237 BK242 HB hHeld ⊢
           refine pure_ (i:=0) (N:=some 27) (v := ?_) (a' := ?_) #[true,false,false,false,false,false,false,false,false,false,false,false,false,false,false,false,false] rfl rfl (any_of HT_.out (by kernel_rfl)) (fun _ _ _ h => h) (Or.inl ⟨by rfl,?_⟩) ?_ ?_
           rotate_left
           ·intro w'
            go_simp
            with_reducible rfl
           rotate_left
           ·simp only [Act.put,List.setIfInBounds_toArray,List.set_cons_zero,List.set_cons_succ,i64_w,i32_w]
            rfl
           refine pure_ (i:=1) (N:=some 28) (v := ?_) (a' := ?_) #[true,true,false,false,false,false,false,false,false,false,false,false,false,false,false,false,false] rfl rfl (any_of HT_.out (by kernel_rfl)) (fun _ _ _ h => h) (Or.inl ⟨by rfl,?_⟩) ?_ ?_
           rotate_left
           ·intro w'
            go_simp
            with_reducible rfl
           rotate_left
           ·simp only [Act.put,List.setIfInBounds_toArray,List.set_cons_zero,List.set_cons_succ,i64_w,i32_w]
            rfl
           refine pure_ (i:=5) (N:=some 32) (v := ?_) (a' := ?_) #[true,true,false,false,false,true,false,false,false,false,false,false,false,false,false,false,false] rfl rfl (any_of HT_.out (by kernel_rfl)) (fun _ _ _ h => h) (Or.inl ⟨by rfl,?_⟩) ?_ ?_
           rotate_left
           ·intro w'
            go_simp
            with_reducible rfl
           rotate_left
           ·simp only [Act.put,List.setIfInBounds_toArray,List.set_cons_zero,List.set_cons_succ,i64_w,i32_w]
            rfl
           refine pure_ (i:=10) (N:=some 37) (v := ?_) (a' := ?_) #[true,true,false,false,false,true,false,false,false,false,true,false,false,false,false,false,false] rfl rfl (any_of HT_.out (by kernel_rfl)) (fun _ _ _ h => h) (Or.inl ⟨by rfl,?_⟩) ?_ ?_
           rotate_left
           ·intro w'
            go_simp
            with_reducible rfl
           rotate_left
           ·simp only [Act.put,List.setIfInBounds_toArray,List.set_cons_zero,List.set_cons_succ,i64_w,i32_w]
            rfl
           refine take_ (i:=2) (N:=some 29) (v := ?_) (a' := ?_) #[true,true,true,false,false,true,false,false,false,false,true,false,false,false,false,false,false] rfl rfl (take_ofW HT_.out HW_.out (by kernel_rfl)) (fun _ _ _ h => h) (Or.inl ⟨by rfl,?_⟩) hHeld ?_ ?_
           rotate_left
           ·rintro w' ⟨s0,s1,s2⟩
            go_simp
            with_reducible rfl
           rotate_left
           ·simp only [Act.put,List.setIfInBounds_toArray,List.set_cons_zero,List.set_cons_succ,i64_w,i32_w]
            rfl
           refine pure_ (i:=3) (N:=some 30) (v := ?_) (a' := ?_) #[true,true,true,true,false,true,false,false,false,false,true,false,false,false,false,false,false] rfl rfl (any_of HT_.out (by kernel_rfl)) (fun _ _ _ h => h) (Or.inl ⟨by rfl,?_⟩) ?_ ?_
           rotate_left
           ·intro w'
            go_simp
            with_reducible rfl
           rotate_left
           ·simp only [Act.put,List.setIfInBounds_toArray,List.set_cons_zero,List.set_cons_succ,i64_w,i32_w]
            rfl
           refine take_ (i:=6) (N:=some 33) (v := ?_) (a' := ?_) #[true,true,true,true,false,true,true,false,false,false,true,false,false,false,false,false,false] rfl rfl (take_ofW HT_.out HW_.out (by kernel_rfl)) (fun _ _ _ h => h) (Or.inl ⟨by rfl,?_⟩) hHeld ?_ ?_
           rotate_left
           ·rintro w' ⟨s0,s1,s2⟩
            go_simp
            with_reducible rfl
           rotate_left
           ·simp only [Act.put,List.setIfInBounds_toArray,List.set_cons_zero,List.set_cons_succ,i64_w,i32_w]
            rfl
           refine pure_ (i:=7) (N:=some 34) (v := ?_) (a' := ?_) #[true,true,true,true,false,true,true,true,false,false,true,false,false,false,false,false,false] rfl rfl (any_of HT_.out (by kernel_rfl)) (fun _ _ _ h => h) (Or.inl ⟨by rfl,?_⟩) ?_ ?_
           rotate_left
           ·intro w'
            go_simp
            with_reducible rfl
           rotate_left
           ·simp only [Act.put,List.setIfInBounds_toArray,List.set_cons_zero,List.set_cons_succ,i64_w,i32_w]
            rfl
           refine take_ (i:=11) (N:=some 38) (v := ?_) (a' := ?_) #[true,true,true,true,false,true,true,true,false,false,true,true,false,false,false,false,false] rfl rfl (take_ofW HT_.out HW_.out (by kernel_rfl)) (fun _ _ _ h => h) (Or.inl ⟨by rfl,?_⟩) hHeld ?_ ?_
           rotate_left
           ·rintro w' ⟨s0,s1,s2⟩
            go_simp
            with_reducible rfl
           rotate_left
           ·simp only [Act.put,List.setIfInBounds_toArray,List.set_cons_zero,List.set_cons_succ,i64_w,i32_w]
            rfl
           refine pure_ (i:=12) (N:=some 39) (v := ?_) (a' := ?_) #[true,true,true,true,false,true,true,true,false,false,true,true,true,false,false,false,false] rfl rfl (any_of HT_.out (by kernel_rfl)) (fun _ _ _ h => h) (Or.inl ⟨by rfl,?_⟩) ?_ ?_
           rotate_left
           ·intro w'
            go_simp
            with_reducible rfl
           rotate_left
           ·simp only [Act.put,List.setIfInBounds_toArray,List.set_cons_zero,List.set_cons_succ,i64_w,i32_w]
            rfl
           refine one_ (i:=4) (N:=some 31) #[true,true,true,true,true,true,true,true,false,false,true,true,true,false,false,false,false] rfl rfl (one_of HT_.out (by kernel_rfl)) (by decide) (fun K hK => ?_)
           refine goes_ Tryz.func73 (by kernel_rfl) rfl #[.int .u64 (IntKind.u64.wrap ((rd_T45 l0_1 x23_1).f0))] (by rfl) rfl rfl (by (try simp only [List.map_toArray,List.map_cons,List.map_nil]);first | done | rfl | (simp only [List.length_drop,List.length_take];rfl)) ?_
           with_reducible refine (varint_Put.calls (IntKind.u64.wrap ((rd_T45 l0_1 x23_1).f0)) t243 _ A17.out).mono ?_
           rintro e w28 ⟨rfl,hb⟩
           refine ⟨_,rfl,?_⟩
           have n0_:=Aside0.mk (blk_below (g:=gb237) (o := .cells #[.int .i64 a0_0,.slice (some ad241) l0_1.length c0_1] 25 (0,0)) (by (with_reducible repeat (first | refine blk_drewN ?_ _ | refine blk_drew ?_ | refine blk_alloc ?_ _));exact BK237.out) hb)
           have n1_:=Aside0.mk (blk_below (g:=gb242) (o := .cells #[.int .i64 ((rd_T45 l0_1 x23_1).f0),.int .i64 ((rd_T45 l0_1 x23_1).f1),.int .u32 ((rd_T45 l0_1 x23_1).f2)] 45 (0,0)) (by (with_reducible repeat (first | refine blk_drewN ?_ _ | refine blk_drew ?_ | refine blk_alloc ?_ _));exact BK242.out) hb)
           have n2_:=Aside0.mk (below_step (by repeat (first | (with_reducible first | exact HB.out | apply below_alloc | apply pw_below_drewN | apply below_drew1 | refine below_set ?_ GE237.out | refine below_set ?_ GE242.out) | exact HB.out)) hb)
           clear BK237
           clear BK242
           clear HB
           have BK237:=n0_
           have BK242:=n1_
           have HB:=n2_
           clear n0_ n1_ n2_
           (try clear hb)
           (try clear hb2)
           (try clear hk)
           (try clear hi)
           refine hK.out _ _ ⟨(blk_cell BK242.out 0).trans rfl,(blk_cell BK242.out 1).trans rfl,(blk_cell BK242.out 2).trans rfl⟩ (fun hHeld => ?_)
           clear hK K
           refine norm_ (a' := ?_) ?_ ?_
           rotate_left
           ·show Act.put _ (some 31) _ = _
            simp only [Act.put,List.setIfInBounds_toArray,List.set_cons_zero,List.set_cons_succ,i64_w,i32_w]
            rfl
           refine one_ (i:=8) (N:=some 35) #[true,true,true,true,true,true,true,true,true,false,true,true,true,false,false,false,false] rfl rfl (one_of HT_.out (by kernel_rfl)) (by decide) (fun K hK => ?_)
           refine goes_ Tryz.func73 (by kernel_rfl) rfl #[.int .u64 (IntKind.u64.wrap ((rd_T45 l0_1 x23_1).f1))] (by rfl) rfl rfl (by (try simp only [List.map_toArray,List.map_cons,List.map_nil]);first | done | rfl | (simp only [List.length_drop,List.length_take];rfl)) ?_
           with_reducible refine (varint_Put.calls (IntKind.u64.wrap ((rd_T45 l0_1 x23_1).f1)) t244 _ A18.out).mono ?_
           rintro e w29 ⟨rfl,hb⟩
           refine ⟨_,rfl,?_⟩
           have n0_:=Aside0.mk (blk_below (g:=gb237) (o := .cells #[.int .i64 a0_0,.slice (some ad241) l0_1.length c0_1] 25 (0,0)) (by (with_reducible repeat (first | refine blk_drewN ?_ _ | refine blk_drew ?_ | refine blk_alloc ?_ _));exact BK237.out) hb)
           have n1_:=Aside0.mk (blk_below (g:=gb242) (o := .cells #[.int .i64 ((rd_T45 l0_1 x23_1).f0),.int .i64 ((rd_T45 l0_1 x23_1).f1),.int .u32 ((rd_T45 l0_1 x23_1).f2)] 45 (0,0)) (by (with_reducible repeat (first | refine blk_drewN ?_ _ | refine blk_drew ?_ | refine blk_alloc ?_ _));exact BK242.out) hb)
           have n2_:=Aside0.mk (below_step (by repeat (first | (with_reducible first | exact HB.out | apply below_alloc | apply pw_below_drewN | apply below_drew1 | refine below_set ?_ GE237.out | refine below_set ?_ GE242.out) | exact HB.out)) hb)
           clear BK237
           clear BK242
           clear HB
           have BK237:=n0_
           have BK242:=n1_
           have HB:=n2_
           clear n0_ n1_ n2_
           (try clear hb)
           (try clear hb2)
           (try clear hk)
           (try clear hi)
           refine hK.out _ _ ⟨(blk_cell BK242.out 0).trans rfl,(blk_cell BK242.out 1).trans rfl,(blk_cell BK242.out 2).trans rfl⟩ (fun hHeld => ?_)
           clear hK K
           refine norm_ (a' := ?_) ?_ ?_
           rotate_left
           ·show Act.put _ (some 35) _ = _
            simp only [Act.put,List.setIfInBounds_toArray,List.set_cons_zero,List.set_cons_succ,i64_w,i32_w]
            rfl
           refine pure_ (i:=9) (N:=some 36) (v := ?_) (a' := ?_) #[true,true,true,true,true,true,true,true,true,true,true,true,true,false,false,false,false] rfl rfl (any_of HT_.out (by kernel_rfl)) (fun _ _ _ h => h) (Or.inl ⟨by rfl,?_⟩) ?_ ?_
           rotate_left
           ·intro w'
            go_simp
            with_reducible rfl
           rotate_left
           ·simp only [Act.put,List.setIfInBounds_toArray,List.set_cons_zero,List.set_cons_succ,i64_w,i32_w]
            rfl
           refine one_ (i:=13) (N:=some 40) #[true,true,true,true,true,true,true,true,true,true,true,true,true,true,false,false,false] rfl rfl (one_of HT_.out (by kernel_rfl)) (by decide) (fun K hK => ?_)
           refine goes_ Tryz.func73 (by kernel_rfl) rfl #[.int .u64 (IntKind.u64.wrap ((rd_T45 l0_1 x23_1).f2))] (by rfl) rfl rfl (by (try simp only [List.map_toArray,List.map_cons,List.map_nil]);first | done | rfl | (simp only [List.length_drop,List.length_take];rfl)) ?_
           with_reducible refine (varint_Put.calls (IntKind.u64.wrap ((rd_T45 l0_1 x23_1).f2)) t245 _ A20.out).mono ?_
           rintro e w30 ⟨rfl,hb⟩
           refine ⟨_,rfl,?_⟩
           have n0_:=Aside0.mk (blk_below (g:=gb237) (o := .cells #[.int .i64 a0_0,.slice (some ad241) l0_1.length c0_1] 25 (0,0)) (by (with_reducible repeat (first | refine blk_drewN ?_ _ | refine blk_drew ?_ | refine blk_alloc ?_ _));exact BK237.out) hb)
           have n1_:=Aside0.mk (blk_below (g:=gb242) (o := .cells #[.int .i64 ((rd_T45 l0_1 x23_1).f0),.int .i64 ((rd_T45 l0_1 x23_1).f1),.int .u32 ((rd_T45 l0_1 x23_1).f2)] 45 (0,0)) (by (with_reducible repeat (first | refine blk_drewN ?_ _ | refine blk_drew ?_ | refine blk_alloc ?_ _));exact BK242.out) hb)
           have n2_:=Aside0.mk (below_step (by repeat (first | (with_reducible first | exact HB.out | apply below_alloc | apply pw_below_drewN | apply below_drew1 | refine below_set ?_ GE237.out | refine below_set ?_ GE242.out) | exact HB.out)) hb)
           clear BK237
           clear BK242
           clear HB
           have BK237:=n0_
           have BK242:=n1_
           have HB:=n2_
           clear n0_ n1_ n2_
           (try clear hb)
           (try clear hb2)
           (try clear hk)
           (try clear hi)
           refine hK.out _ _ ⟨(blk_cell BK242.out 0).trans rfl,(blk_cell BK242.out 1).trans rfl,(blk_cell BK242.out 2).trans rfl⟩ (fun hHeld => ?_)
           clear hK K
           refine norm_ (a' := ?_) ?_ ?_
           rotate_left
           ·show Act.put _ (some 40) _ = _
            simp only [Act.put,List.setIfInBounds_toArray,List.set_cons_zero,List.set_cons_succ,i64_w,i32_w]
            rfl
           refine pure_ (i:=14) (N:=some 41) (v := ?_) (a' := ?_) #[true,true,true,true,true,true,true,true,true,true,true,true,true,true,true,false,false] rfl rfl (any_of HT_.out (by kernel_rfl)) (fun _ _ _ h => h) (Or.inl ⟨by rfl,?_⟩) ?_ ?_
           rotate_left
           ·intro w'
            go_simp
            with_reducible rfl
           rotate_left
           ·simp only [Act.put,List.setIfInBounds_toArray,List.set_cons_zero,List.set_cons_succ,i64_w,i32_w]
            rfl
           refine pure_ (i:=15) (N:=some 42) (v := ?_) (a' := ?_) #[true,true,true,true,true,true,true,true,true,true,true,true,true,true,true,true,false] rfl rfl (any_of HT_.out (by kernel_rfl)) (fun _ _ _ h => h) (Or.inl ⟨by rfl,?_⟩) ?_ ?_
           rotate_left
           ·intro w'
            go_simp
            with_reducible rfl
           rotate_left
           ·simp only [Act.put,List.setIfInBounds_toArray,List.set_cons_zero,List.set_cons_succ,i64_w,i32_w]
            rfl
           refine pure_ (i:=16) (N:=some 4) (v := ?_) (a' := ?_) #[true,true,true,true,true,true,true,true,true,true,true,true,true,true,true,true,true] rfl rfl (any_of HT_.out (by kernel_rfl)) (fun _ _ _ h => h) (Or.inl ⟨by rfl,?_⟩) ?_ ?_
           rotate_left
           ·intro w'
            go_simp
            with_reducible rfl
           rotate_left
           ·simp only [Act.put,List.setIfInBounds_toArray,List.set_cons_zero,List.set_cons_succ,i64_w,i32_w]
            rfl
           refine done_ (done_of HT_.out (by kernel_rfl)) ?_
           try go_wp2
           go_roundg k1
           case measure => have:=HK1.out;omega
           case rel => exact ⟨(x4_1 ++ ((t243 ++ t244) ++ t245)),(wrap64 (x23_1 + 1)),(by first | rfl | (simp;done) | (simp [*];done)),(by first | rfl | (simp;done) | (simp [*];done)),H',⟨by have:=HK1.out;omega⟩,⟨by (with_reducible repeat (first | refine blk_drewN ?_ _ | refine blk_drew ?_ | refine blk_alloc ?_ _));exact BK237.out⟩,⟨by repeat (first | (with_reducible first | exact HB.out | apply below_alloc | apply pw_below_drewN | apply below_drew1 | refine below_set ?_ GE237.out | refine below_set ?_ GE242.out) | exact HB.out)⟩⟩
          ·rw [if_neg c22] at H
           exact absurd H (by simp)
         ·rw [if_neg c21] at H
          exact absurd H (by simp)
        ·rw [if_neg c19] at H
         exact absurd H (by simp)
       ·rw [if_neg c16] at H
        exact absurd H (by simp)
      ·rw [if_neg c15] at H
       exact absurd H (by simp)
     ·rw [if_neg c14] at H
      have c14b0 : decide (x23_1 < (l0_1.length : Int)) = false:=decide_eq_false c14
      clear c14
      replace H:=Option.bind_eq_some_iff.mp H
      obtain ⟨t246,A310,H⟩:=H
      replace H : (some (t246,0)) = some (r1,r2):=H
      have A31:=Aside0.mk A310
      clear A310
      simp only [Option.some.injEq,Prod.mk.injEq] at H
      obtain ⟨rfl,rfl⟩:=H
      go_wp2_with (first | ((with_reducible refine gate_callee (f:=74) rfl ?_);refine goesL_ (some 45) rfl rfl Tryz.func74 (by kernel_rfl) rfl #[.string x4_1] rfl (by (try simp only [List.map_toArray,List.map_cons,List.map_nil]);first | done | rfl | (simp only [List.length_drop,List.length_take];rfl)) ?_;(with_reducible refine (crc_Seal.calls x4_1 t246 _ A31.out).mono ?_);rintro e w32 ⟨rfl,hb⟩;refine ⟨_,rfl,?_⟩;have n0_:=Aside0.mk (blk_below (g:=gb237) (o := .cells #[.int .i64 a0_0,.slice A0_1 l0_1.length c0_1] 25 (0,0)) (by (with_reducible repeat (first | refine blk_drewN ?_ _ | refine blk_drew ?_ | refine blk_alloc ?_ _));exact BK237.out) hb);have n1_:=Aside0.mk (below_step (by repeat (first | (with_reducible first | exact HB.out | apply below_alloc | apply pw_below_drewN | apply below_drew1 | refine below_set ?_ GE237.out) | exact HB.out)) hb);clear BK237;clear HB;have BK237:=n0_;have HB:=n1_;clear n0_ n1_;(try clear hb);(try clear hb2);(try clear hk);(try clear hi)))
      go_ret2
      exact ⟨by first | rfl | (simp [errW_none,errW_some] <;> rfl) | (simp [*,errW_none,errW_some] <;> rfl) | (simp [errW_none,errW_some];exact isEmpty_bne _),by repeat (first | (with_reducible first | exact HB.out | apply below_alloc | apply pw_below_drewN | apply below_drew1 | refine below_set ?_ GE237.out) | exact HB.out)⟩
  ·rw [if_neg c6] at H
   exact absurd H (by simp)
 ·replace c3:=Bool.eq_false_iff.mpr c3
  subst c3
  have H1 : (some ((⟨#[]⟩ : ByteArray),1)) = some (r1,r2):=by rw [if_neg (show ¬ (false = true) by decide)] at H;exact H
  clear H
  have H:=H1
  clear H1
  simp only [Option.some.injEq,Prod.mk.injEq] at H
  obtain ⟨rfl,rfl⟩:=H
  go_enter Tryz.func43,Tryz.ntmps43
  go_wp2_with (first | ((with_reducible refine gate_dst (N:=1) rfl ?_);refine box_event ?hg (N:=1) ?hd (cs := #[.int .i64 a0_0,.slice A0_1 l0_1.length c0_1]) (t:=25) ?hr ?_;(case hd => rfl);(case hg => rfl);(case hr => first | (go_simp;done) | (go_simp;rfl));intro gb237 hg w33 hbox hb;have n0_:=Aside0.mk (below_step (by repeat (first | (with_reducible first | exact HB.out | apply below_alloc | apply pw_below_drewN | apply below_drew1) | exact HB.out)) hb);have n1_:=Aside0.mk (hbox);have n2_:=Aside0.mk ((by rw [hg];exact (below_size (by repeat (first | (with_reducible first | exact HB.out | apply below_alloc | apply pw_below_drewN | apply below_drew1) | exact HB.out))) : w.heap.size ≤ gb237));have n3_:=Aside0.mk ((by rw [hg];exact (below_size (by repeat (first | (with_reducible first | exact HB.out | apply below_alloc | apply pw_below_drewN | apply below_drew1) | exact HB.out))) : w.heap.size ≤ gb237));clear HB;have HB:=n0_;have BK237:=n1_;have GW237:=n2_;have GE237:=n3_;clear n0_ n1_ n2_ n3_;clear hb hbox hg;have hcz34_0 : w33.cell? ⟨gb237,0,none⟩ = some (.int .i64 a0_0):=(blk_cell BK237.out 0).trans rfl;have hcz34_1 : w33.cell? ⟨gb237,1,none⟩ = some (.slice A0_1 l0_1.length c0_1):=(blk_cell BK237.out 1).trans rfl;have hfz34_0:=blk_frozen BK237.out 0;have hfz34_1:=blk_frozen BK237.out 1) | ((with_reducible refine gate_callee (f:=72) rfl ?_);refine goesL_ (some 8) rfl rfl Tryz.func72 (by kernel_rfl) rfl #[.agg #[.int .i64 a0_0,.slice A0_1 l0_1.length c0_1]] rfl (by (try simp only [List.map_toArray,List.map_cons,List.map_nil]);first | done | rfl | (simp only [List.length_drop,List.length_take];rfl)) ?_;(with_reducible refine (manifest_Right.calls k a0_0 _ _ l0_1 false _ ?side1 ?side2 A2.out).mono ?_);(case side1 => repeat (first | exact (Kd.C_below HR0_1.out HB.out) | (with_reducible refine Kd.C_alloc ?_ _) | (with_reducible refine Kd.C_drewN ?_ _) | (with_reducible refine Kd.C_drew ?_)));(case side2 => exact HC0_1.out);rintro e w35 ⟨rfl,hb⟩;refine ⟨_,rfl,?_⟩;have n0_:=Aside0.mk (blk_below (g:=gb237) (o := .cells #[.int .i64 a0_0,.slice A0_1 l0_1.length c0_1] 25 (0,0)) (by (with_reducible repeat (first | refine blk_drewN ?_ _ | refine blk_drew ?_ | refine blk_alloc ?_ _));exact BK237.out) hb);have n1_:=Aside0.mk (below_step (by repeat (first | (with_reducible first | exact HB.out | apply below_alloc | apply pw_below_drewN | apply below_drew1 | refine below_set ?_ GE237.out) | exact HB.out)) hb);clear BK237;clear HB;have BK237:=n0_;have HB:=n1_;clear n0_ n1_;(try clear hb);(try clear hb2);(try clear hk);(try clear hi)))
  go_ret2
  exact ⟨by first | rfl | (simp [errW_none,errW_some] <;> rfl) | (simp [*,errW_none,errW_some] <;> rfl) | (simp [errW_none,errW_some];exact isEmpty_bne _),by repeat (first | (with_reducible first | exact HB.out | apply below_alloc | apply pw_below_drewN | apply below_drew1 | refine below_set ?_ GE237.out) | exact HB.out)⟩

-- NOT PRINTED: function 149 (strconv_small)

-- NOT PRINTED: function 155 (strconv_log10Pow2)

-- NOT PRINTED: function 156 (strconv_bool2_int)

-- NOT PRINTED: function 150 (strconv_numDigits)

-- NOT PRINTED: function 151 (strconv_formatBase10)

-- NOT PRINTED: function 157 (strconv_isPowerOfTwo)

-- NOT PRINTED: function 159 (bits_TrailingZeros32)

-- NOT PRINTED: function 160 (bits_TrailingZeros64)

-- NOT PRINTED: function 158 (bits_TrailingZeros)

-- NOT PRINTED: function 152 (strconv_formatBits)

-- NOT PRINTED: function 142 (strconv_FormatInt)

-- NOT PRINTED: function 128 (strconv_Itoa_128)

-- NOT PRINTED: function 109 (strconv_Itoa_109)

-- NOT PRINTED: function 143 (bits_Mul32)

-- NOT PRINTED: function 144 (bits_Mul64)

-- NOT PRINTED: function 129 (bits_Mul)

/-! ### stringslite_HasPrefix: function 116 -/
def stringslite_HasPrefix.f (a0 : ByteArray) (a1 : ByteArray) : Option (Bool):=if (a0.size : Int) ≥ (a1.size : Int) then (if 0 ≤ (a1.size : Int) then (if (a1.size : Int) ≤ (a0.size : Int) then (some ((a0.extract 0 ((a1.size : Int) : Int).toNat).toList == a1.toList)) else (none)) else (none)) else (some false)
set_option maxHeartbeats 8000000 in
set_option maxRecDepth 100000 in
theorem stringslite_HasPrefix.calls (a0 : ByteArray) (a1 : ByteArray) (r : Bool) (w : World) (h : stringslite_HasPrefix.f a0 a1 = some r) :
  Calls Tryz.prog 116 #[.string a0,.string a1] w fun e w' => e = .returned (.bool r) ∧ Drawn0 w w' := by
 have H : (if (a0.size : Int) ≥ (a1.size : Int) then (if 0 ≤ (a1.size : Int) then (if (a1.size : Int) ≤ (a0.size : Int) then (some ((a0.extract 0 ((a1.size : Int) : Int).toNat).toList == a1.toList)) else (none)) else (none)) else (some false)) = some r:=h
 clear h
 by_cases c3 : (a0.size : Int) ≥ (a1.size : Int)
 ·rw [if_pos c3] at H
  have c3b0 : decide ((a1.size : Int) ≤ (a0.size : Int)) = true:=decide_eq_true c3
  have c3b1 : decide (a1.size ≤ a0.size) = true:=decide_eq_true (Int.ofNat_le.mp c3)
  clear c3
  by_cases c4 : 0 ≤ (a1.size : Int)
  ·rw [if_pos c4] at H
   have c4b0:=eq_true c4
   have c4b1 : decide (0 ≤ (a1.size : Int)) = true:=decide_eq_true c4
   clear c4
   by_cases c5 : (a1.size : Int) ≤ (a0.size : Int)
   ·rw [if_pos c5] at H
    have c5b0:=eq_true c5
    have c5b1 : decide ((a1.size : Int) ≤ (a0.size : Int)) = true:=decide_eq_true c5
    clear c5
    obtain rfl:=Option.some.inj H
    go_enter Tryz.func116,Tryz.ntmps116
    go_wp2
    go_ret
    exact ⟨by first | rfl | (simp;done) | (simp [*];done),by repeat (first | exact Drawn0.refl _ | apply Drawn0.step)⟩
   ·rw [if_neg c5] at H
    exact absurd H (by simp)
  ·rw [if_neg c4] at H
   exact absurd H (by simp)
 ·rw [if_neg c3] at H
  have c3b0 : decide ((a1.size : Int) ≤ (a0.size : Int)) = false:=decide_eq_false c3
  have c3b1 : decide (a1.size ≤ a0.size) = false:=decide_eq_false (fun h => c3 (Int.ofNat_le.mpr h))
  clear c3
  obtain rfl:=Option.some.inj H
  go_enter Tryz.func116,Tryz.ntmps116
  go_wp2
  go_ret
  exact ⟨by first | rfl | (simp;done) | (simp [*];done),by repeat (first | exact Drawn0.refl _ | apply Drawn0.step)⟩

/-! ### strings_HasPrefix: function 130 -/
def strings_HasPrefix.f (a0 : ByteArray) (a1 : ByteArray) : Option (Bool):=(stringslite_HasPrefix.f a0 a1).bind fun t263 => (some t263)
set_option maxHeartbeats 8000000 in
set_option maxRecDepth 100000 in
theorem strings_HasPrefix.calls (a0 : ByteArray) (a1 : ByteArray) (r : Bool) (w : World) (h : strings_HasPrefix.f a0 a1 = some r) :
  Calls Tryz.prog 130 #[.string a0,.string a1] w fun e w' => e = .returned (.bool r) ∧ Drawn0 w w' := by
 have H : ((stringslite_HasPrefix.f a0 a1).bind fun t263 => (some t263)) = some r:=h
 clear h
 replace H:=Option.bind_eq_some_iff.mp H
 obtain ⟨t263,A30,H⟩:=H
 replace H : (some t263) = some r:=H
 have A3:=Aside0.mk A30
 clear A30
 obtain rfl:=Option.some.inj H
 go_enter Tryz.func130,Tryz.ntmps130
 go_wp2_with (first | ((with_reducible refine gate_callee (f:=116) rfl ?_);refine goesL_ (some 7) rfl rfl Tryz.func116 (by kernel_rfl) rfl #[.string a0,.string a1] rfl (by (try simp only [List.map_toArray,List.map_cons,List.map_nil]);first | done | rfl | (simp only [List.length_drop,List.length_take];rfl)) ?_;(with_reducible refine (stringslite_HasPrefix.calls a0 a1 t263 _ A3.out).mono ?_);rintro e w' ⟨rfl,⟨nd,rfl⟩⟩;refine ⟨_,rfl,?_⟩))
 go_ret
 exact ⟨by first | rfl | (simp;done) | (simp [*];done),by repeat (first | exact Drawn0.refl _ | apply Drawn0.step)⟩

-- NOT PRINTED: function 153 (abi_NoEscape)

-- NOT PRINTED: function 145 (strings_Builder_copyCheck)

-- NOT PRINTED: function 154 (bytealg_MakeNoZero)

-- NOT PRINTED: function 146 (strings_Builder_grow)

-- NOT PRINTED: function 131 (strings_Builder_Grow)

-- NOT PRINTED: function 132 (strings_Builder_WriteString)

-- NOT PRINTED: function 133 (strings_Builder_Len)

-- NOT PRINTED: function 134 (strings_Builder_String)

-- NOT PRINTED: function 110 (strings_Repeat)

-- NOT PRINTED: function 75 (manifest_name)

-- NOT PRINTED: function 44 (manifest_Name)

-- NOT PRINTED: function 61 (remote_Remote_call)

-- NOT PRINTED: function 45 (remote_Remote_PutNew)

-- NOT PRINTED: function 46 (remote_Remote_Get)

-- NOT PRINTED: function 14 (publish_Next)

/-! ### stringslite_CutPrefix: function 95 -/
def stringslite_CutPrefix.f (a0 : ByteArray) (a1 : ByteArray) : Option (ByteArray × Bool):=(stringslite_HasPrefix.f a0 a1).bind fun t264 => (if t264 = true then (if 0 ≤ (a1.size : Int) then (if (a1.size : Int) ≤ (a0.size : Int) then (some (a0.extract ((a1.size : Int) : Int).toNat a0.size,true)) else (none)) else (none)) else (some (a0,false)))
set_option maxHeartbeats 8000000 in
set_option maxRecDepth 100000 in
theorem stringslite_CutPrefix.calls (a0 : ByteArray) (a1 : ByteArray) (r1 : ByteArray) (r2 : Bool) (w : World) (h : stringslite_CutPrefix.f a0 a1 = some (r1,r2)) :
  Calls Tryz.prog 95 #[.string a0,.string a1] w fun e w' => e = .returned (.tuple #[.string r1,.bool r2]) ∧ Drawn0 w w' := by
 have H : ((stringslite_HasPrefix.f a0 a1).bind fun t264 => (if t264 = true then (if 0 ≤ (a1.size : Int) then (if (a1.size : Int) ≤ (a0.size : Int) then (some (a0.extract ((a1.size : Int) : Int).toNat a0.size,true)) else (none)) else (none)) else (some (a0,false)))) = some (r1,r2):=h
 clear h
 replace H:=Option.bind_eq_some_iff.mp H
 obtain ⟨t264,A30,H⟩:=H
 replace H : (if t264 = true then (if 0 ≤ (a1.size : Int) then (if (a1.size : Int) ≤ (a0.size : Int) then (some (a0.extract ((a1.size : Int) : Int).toNat a0.size,true)) else (none)) else (none)) else (some (a0,false))) = some (r1,r2):=H
 have A3:=Aside0.mk A30
 clear A30
 by_cases c4 : t264 = true
 ·subst c4
  have H1 : (if 0 ≤ (a1.size : Int) then (if (a1.size : Int) ≤ (a0.size : Int) then (some (a0.extract ((a1.size : Int) : Int).toNat a0.size,true)) else (none)) else (none)) = some (r1,r2):=by rw [if_pos rfl] at H;exact H
  clear H
  have H:=H1
  clear H1
  by_cases c5 : 0 ≤ (a1.size : Int)
  ·rw [if_pos c5] at H
   have c5b0:=eq_true c5
   have c5b1 : decide (0 ≤ (a1.size : Int)) = true:=decide_eq_true c5
   clear c5
   by_cases c6 : (a1.size : Int) ≤ (a0.size : Int)
   ·rw [if_pos c6] at H
    have c6b0:=eq_true c6
    have c6b1 : decide ((a1.size : Int) ≤ (a0.size : Int)) = true:=decide_eq_true c6
    clear c6
    simp only [Option.some.injEq,Prod.mk.injEq] at H
    obtain ⟨rfl,rfl⟩:=H
    go_enter Tryz.func95,Tryz.ntmps95
    go_wp2_with (first | ((with_reducible refine gate_callee (f:=116) rfl ?_);refine goesL_ (some 8) rfl rfl Tryz.func116 (by kernel_rfl) rfl #[.string a0,.string a1] rfl (by (try simp only [List.map_toArray,List.map_cons,List.map_nil]);first | done | rfl | (simp only [List.length_drop,List.length_take];rfl)) ?_;(with_reducible refine (stringslite_HasPrefix.calls a0 a1 true _ A3.out).mono ?_);rintro e w' ⟨rfl,⟨nd,rfl⟩⟩;refine ⟨_,rfl,?_⟩))
    go_ret2
    exact ⟨by first | rfl | (simp;done) | (simp [*];done),by repeat (first | exact Drawn0.refl _ | apply Drawn0.step)⟩
   ·rw [if_neg c6] at H
    exact absurd H (by simp)
  ·rw [if_neg c5] at H
   exact absurd H (by simp)
 ·replace c4:=Bool.eq_false_iff.mpr c4
  subst c4
  have H1 : (some (a0,false)) = some (r1,r2):=by rw [if_neg (show ¬ (false = true) by decide)] at H;exact H
  clear H
  have H:=H1
  clear H1
  simp only [Option.some.injEq,Prod.mk.injEq] at H
  obtain ⟨rfl,rfl⟩:=H
  go_enter Tryz.func95,Tryz.ntmps95
  go_wp2_with (first | ((with_reducible refine gate_callee (f:=116) rfl ?_);refine goesL_ (some 8) rfl rfl Tryz.func116 (by kernel_rfl) rfl #[.string a0,.string a1] rfl (by (try simp only [List.map_toArray,List.map_cons,List.map_nil]);first | done | rfl | (simp only [List.length_drop,List.length_take];rfl)) ?_;(with_reducible refine (stringslite_HasPrefix.calls a0 a1 false _ A3.out).mono ?_);rintro e w' ⟨rfl,⟨nd,rfl⟩⟩;refine ⟨_,rfl,?_⟩))
  go_ret2
  exact ⟨by first | rfl | (simp;done) | (simp [*];done),by repeat (first | exact Drawn0.refl _ | apply Drawn0.step)⟩

/-! ### strings_CutPrefix: function 66 -/
def strings_CutPrefix.f (a0 : ByteArray) (a1 : ByteArray) : Option (ByteArray × Bool):=(stringslite_CutPrefix.f a0 a1).bind fun bt265 => (some (bt265.1,bt265.2))
set_option maxHeartbeats 8000000 in
set_option maxRecDepth 100000 in
theorem strings_CutPrefix.calls (a0 : ByteArray) (a1 : ByteArray) (r1 : ByteArray) (r2 : Bool) (w : World) (h : strings_CutPrefix.f a0 a1 = some (r1,r2)) :
  Calls Tryz.prog 66 #[.string a0,.string a1] w fun e w' => e = .returned (.tuple #[.string r1,.bool r2]) ∧ Drawn0 w w' := by
 have H : ((stringslite_CutPrefix.f a0 a1).bind fun bt265 => (some (bt265.1,bt265.2))) = some (r1,r2):=h
 clear h
 replace H:=Option.bind_eq_some_iff.mp H
 obtain ⟨⟨t265,t266⟩,A30,H⟩:=H
 replace H : (some (t265,t266)) = some (r1,r2):=H
 have A3:=Aside0.mk A30
 clear A30
 simp only [Option.some.injEq,Prod.mk.injEq] at H
 obtain ⟨rfl,rfl⟩:=H
 go_enter Tryz.func66,Tryz.ntmps66
 go_wp2_with (first | ((with_reducible refine gate_callee (f:=95) rfl ?_);refine goesL_ (some 8) rfl rfl Tryz.func95 (by kernel_rfl) rfl #[.string a0,.string a1] rfl (by (try simp only [List.map_toArray,List.map_cons,List.map_nil]);first | done | rfl | (simp only [List.length_drop,List.length_take];rfl)) ?_;(with_reducible refine (stringslite_CutPrefix.calls a0 a1 t265 t266 _ A3.out).mono ?_);rintro e w' ⟨rfl,⟨nd,rfl⟩⟩;refine ⟨_,rfl,?_⟩))
 go_ret2
 exact ⟨by first | rfl | (simp;done) | (simp [*];done),by repeat (first | exact Drawn0.refl _ | apply Drawn0.step)⟩

-- NOT PRINTED: function 147 (strconv_lower)

-- NOT PRINTED: function 148 (strconv_underscoreOK)

-- NOT PRINTED: function 138 (strconv_ParseUint)

-- NOT PRINTED: function 117 (strconv_ParseInt)

-- NOT PRINTED: function 96 (strconv_Atoi_96)

-- NOT PRINTED: function 139 (stringslite_Clone)

-- NOT PRINTED: function 118 (strconv_syntaxError)

-- NOT PRINTED: function 119 (strconv_rangeError)

-- NOT PRINTED: function 140 (errors_New)

-- NOT PRINTED: function 120 (strconv_baseError)

-- NOT PRINTED: function 121 (strconv_bitSizeError)

-- NOT PRINTED: function 97 (strconv_toError)

-- NOT PRINTED: function 67 (strconv_Atoi_67)

-- NOT PRINTED: function 30 (manifest_Version)

-- NOT PRINTED: function 135 (slices_AppendSeq_string_string)

-- NOT PRINTED: function 111 (slices_Collect_string)

-- NOT PRINTED: function 79 (slices_Sorted_string)

-- NOT PRINTED: function 80 (maps_Keys_map_string_string_string_string)

-- NOT PRINTED: function 47 (remote_Remote_List)

-- NOT PRINTED: function 48 (slices_Backward_string_string)

end Go.Proofs.YtlnbekaldemebaaGreatDoor.Print
