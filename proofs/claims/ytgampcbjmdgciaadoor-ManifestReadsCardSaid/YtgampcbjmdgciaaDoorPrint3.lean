/- Written by a program of mine (give.py, over the kit's print) out of the translation: contracts of the Go functions. Lean checks it. -/
import Derived.Test.YtgampcbjmdgciaaDoorPrint0
import Derived.Test.YtgampcbjmdgciaaDoorPrint2
namespace Go.Proofs.YtgampcbjmdgciaaDoor.Print
open Go.RowKit Go.Proofs.YtgampcbjmdgciaaDoorW.PrintWords Go.Proofs.YtgampcbjmdgciaaDoorW.PrintLast Go.Proofs.YtgampcbjmdgciaaDoorW.PrintMore
attribute [local go_sem] max2_int min2_int max_two min_two max_three min_three max_four min_four   -- for this text's walks alone
set_option linter.unusedVariables false
set_option linter.unusedSimpArgs false

/-! ### manifest_Bytes: function 8 -/
def manifest_Bytes.l0 : Nat → ByteArray → List (S46) → Int → Int → Option (ByteArray × Int)
 | 0,_,_,_,_ => none
 | k + 1,x4,x21,x22,x23 => if x23 < x22 then (if 0 ≤ x23 then (if x23 < (x21.length : Int) then ((varint_Put.f (IntKind.u64.wrap ((rd_T46 x21 x23).f0))).bind fun t111 => ((varint_Put.f (IntKind.u64.wrap ((rd_T46 x21 x23).f1))).bind fun t112 => (if t111.size + t112.size ≤ 9223372036854775807 then ((varint_Put.f (IntKind.u64.wrap ((rd_T46 x21 x23).f2))).bind fun t113 => (if t111.size + t112.size + t113.size ≤ 9223372036854775807 then (if x4.size + (t111.size + t112.size + t113.size) ≤ 9223372036854775807 then (manifest_Bytes.l0 k (x4 ++ ((t111 ++ t112) ++ t113)) x21 x22 (wrap64 (x23 + 1))) else (none)) else (none))) else (none)))) else (none)) else (none)) else ((crc_Seal.f x4).bind fun t114 => (some (t114,0)))
def manifest_Bytes.f (k : Nat) (a0_0 : Int) (l0_1 : List (S46)) : Option (ByteArray × Int):=(manifest_Right.f k a0_0 l0_1).bind fun t106 => (if t106 = true then ((varint_Put.f (IntKind.u64.wrap (a0_0))).bind fun t107 => ((varint_Put.f (IntKind.u64.wrap ((l0_1.length : Int)))).bind fun t108 => (if t107.size + t108.size ≤ 9223372036854775807 then (manifest_Bytes.l0 k (t107 ++ t108) l0_1 (l0_1.length : Int) 0) else (none)))) else (some ((⟨#[]⟩ : ByteArray),1)))
theorem manifest_Bytes.mono_l : ∀ k,(∀ y0 y1 y2 y3,LeO (manifest_Bytes.l0 k y0 y1 y2 y3) (manifest_Bytes.l0 (k + 1) y0 y1 y2 y3))
 | 0 => fun _ _ _ _ r h => by simp [manifest_Bytes.l0] at h
 | k + 1 => by
  have ih0:=manifest_Bytes.mono_l k
  ·intro y0 y1 y2 y3
   unfold manifest_Bytes.l0
   repeat' first
   | (with_reducible exact ih0 _ _ _ _)
   | (with_reducible exact manifest_Right.mono _ _ _)
   | (with_reducible exact LeO.refl _)
   | (with_reducible exact LeO.none _)
   | (with_reducible refine LeO.ite ?_ ?_)
   | (with_reducible refine LeO.bind ?_ (fun _ => ?_))
   | exact ih0 _ _ _ _
   | exact manifest_Right.mono _ _ _
   | exact LeO.none _
   | refine LeO.ite ?_ ?_
   | refine LeO.bind ?_ (fun _ => ?_)
theorem manifest_Bytes.mono : ∀ a0 a1 k,LeO (manifest_Bytes.f k a0 a1) (manifest_Bytes.f (k + 1) a0 a1):=by
 intro a0 a1 k
 have ih0:=manifest_Bytes.mono_l k
 unfold manifest_Bytes.f
 repeat' first
   | (with_reducible exact ih0 _ _ _ _)
   | (with_reducible exact manifest_Right.mono _ _ _)
   | (with_reducible exact LeO.refl _)
   | (with_reducible exact LeO.none _)
   | (with_reducible refine LeO.ite ?_ ?_)
   | (with_reducible refine LeO.bind ?_ (fun _ => ?_))
   | exact ih0 _ _ _ _
   | exact manifest_Right.mono _ _ _
   | exact LeO.none _
   | refine LeO.ite ?_ ?_
   | refine LeO.bind ?_ (fun _ => ?_)
def manifest_Bytes.T3 : Bool × List (List Nat × List Nat):=(true,[([],[]),([0],[0]),([1],[1]),([2],[2]),([],[]),([4],[4]),([5],[5]),([6],[6]),([7,3],[7]),([3,8],[3,8]),([9,8,0,1,2,3,4,5,6,7,8,9],[9])])
def manifest_Bytes.B3 : List Nat:=[0,1,3,7,0,16,48,112,255,511,1023]
theorem manifest_Bytes.tab3 : rtab .any (opsOf Tryd.f8 3) = manifest_Bytes.T3:=by kernel_rfl
theorem manifest_Bytes.bits3 : waitsOk manifest_Bytes.T3.2 manifest_Bytes.B3 = true:=by kernel_rfl
def manifest_Bytes.T7 : Bool × List (List Nat × List Nat):=(true,[([],[]),([],[]),([1],[1]),([2],[2]),([3],[3]),([],[]),([5],[5]),([6],[6]),([7,4],[7]),([4,8],[4,8]),([],[]),([10],[10]),([11],[11]),([12,8],[12]),([9,13],[9,13]),([0,14],[0,14]),([15,13,0,1,2,3,4,5,6,7,8,9,10,11,12,13,14,15],[0,15])])
def manifest_Bytes.B7 : List Nat:=[0,0,2,6,14,0,32,96,254,510,0,1024,3072,7678,16382,32767,65535]
theorem manifest_Bytes.tab7 : rtab .any (opsOf Tryd.f8 7) = manifest_Bytes.T7:=by kernel_rfl
theorem manifest_Bytes.bits7 : waitsOk manifest_Bytes.T7.2 manifest_Bytes.B7 = true:=by kernel_rfl
set_option maxHeartbeats 8000000 in
set_option maxRecDepth 100000 in
theorem manifest_Bytes.calls (k : Nat) (a0_0 : Int) (A0_1 : Option Addr) (c0_1 : Nat) (l0_1 : List (S46)) (r1 : ByteArray) (r2 : Int) (w : World) (hr0_1 : Kd.C k46 w A0_1 l0_1.length l0_1) (hc0_1 : l0_1.length ≤ c0_1) (h : manifest_Bytes.f k a0_0 l0_1 = some (r1,r2)) :
  Calls Tryd.prog 8 #[.agg #[.int .i64 a0_0,.slice A0_1 l0_1.length c0_1]] w fun e w' => e = .returned (.tuple #[.string r1,.int .i64 r2]) ∧ Below w.heap.size w w' := by
 have hu24:=Tryd.underlying24
 have hu46:=Tryd.underlying46
 have HR0_1:=Aside0.mk hr0_1
 have HC0_1:=Aside0.mk hc0_1
 clear hr0_1 hc0_1
 have HB:=Aside0.mk (Below.refl w.heap.size w)
 have H : ((manifest_Right.f k a0_0 l0_1).bind fun t106 => (if t106 = true then ((varint_Put.f (IntKind.u64.wrap (a0_0))).bind fun t107 => ((varint_Put.f (IntKind.u64.wrap ((l0_1.length : Int)))).bind fun t108 => (if t107.size + t108.size ≤ 9223372036854775807 then (manifest_Bytes.l0 k (t107 ++ t108) l0_1 (l0_1.length : Int) 0) else (none)))) else (some ((⟨#[]⟩ : ByteArray),1)))) = some (r1,r2):=h
 clear h
 replace H:=Option.bind_eq_some_iff.mp H
 obtain ⟨t106,A20,H⟩:=H
 replace H : (if t106 = true then ((varint_Put.f (IntKind.u64.wrap (a0_0))).bind fun t107 => ((varint_Put.f (IntKind.u64.wrap ((l0_1.length : Int)))).bind fun t108 => (if t107.size + t108.size ≤ 9223372036854775807 then (manifest_Bytes.l0 k (t107 ++ t108) l0_1 (l0_1.length : Int) 0) else (none)))) else (some ((⟨#[]⟩ : ByteArray),1))) = some (r1,r2):=H
 have A2:=Aside0.mk A20
 clear A20
 by_cases c3 : t106 = true
 ·subst c3
  have H1 : ((varint_Put.f (IntKind.u64.wrap (a0_0))).bind fun t107 => ((varint_Put.f (IntKind.u64.wrap ((l0_1.length : Int)))).bind fun t108 => (if t107.size + t108.size ≤ 9223372036854775807 then (manifest_Bytes.l0 k (t107 ++ t108) l0_1 (l0_1.length : Int) 0) else (none)))) = some (r1,r2):=by rw [if_pos rfl] at H;exact H
  clear H
  have H:=H1
  clear H1
  replace H:=Option.bind_eq_some_iff.mp H
  obtain ⟨t107,A40,H⟩:=H
  replace H : ((varint_Put.f (IntKind.u64.wrap ((l0_1.length : Int)))).bind fun t108 => (if t107.size + t108.size ≤ 9223372036854775807 then (manifest_Bytes.l0 k (t107 ++ t108) l0_1 (l0_1.length : Int) 0) else (none))) = some (r1,r2):=H
  have A4:=Aside0.mk A40
  clear A40
  replace H:=Option.bind_eq_some_iff.mp H
  obtain ⟨t108,A50,H⟩:=H
  replace H : (if t107.size + t108.size ≤ 9223372036854775807 then (manifest_Bytes.l0 k (t107 ++ t108) l0_1 (l0_1.length : Int) 0) else (none)) = some (r1,r2):=H
  have A5:=Aside0.mk A50
  clear A50
  by_cases c6 : t107.size + t108.size ≤ 9223372036854775807
  ·rw [if_pos c6] at H
   have c6b0:=eq_true c6
   have c6b1 : decide (t107.size + t108.size ≤ 9223372036854775807) = true:=decide_eq_true c6
   try have c6b2 : (9223372036854775807 < t107.size + t108.size) = False:=eq_false (Nat.not_lt.2 c6)
   have H' := Aside0.mk H
   clear H
   go_enter Tryd.func8,Tryd.ntmps8
   try go_wp2_with (first | ((with_reducible refine gate_dst (N:=1) rfl ?_);refine box_event ?hg (N:=1) ?hd (cs := #[.int .i64 a0_0,.slice A0_1 l0_1.length c0_1]) (t:=24) ?hr ?_;(case hd => rfl);(case hg => rfl);(case hr => first | (go_simp;done) | (go_simp;rfl));intro gb105 hg w7 hbox hb;have n0_:=Aside0.mk (below_step (by repeat (first | (with_reducible first | exact HB.out | apply below_alloc | apply pw_below_drewN | apply below_drew1) | exact HB.out)) hb);have n1_:=Aside0.mk (hbox);have n2_:=Aside0.mk ((by rw [hg];exact (below_size (by repeat (first | (with_reducible first | exact HB.out | apply below_alloc | apply pw_below_drewN | apply below_drew1) | exact HB.out))) : w.heap.size ≤ gb105));have n3_:=Aside0.mk ((by rw [hg];exact (below_size (by repeat (first | (with_reducible first | exact HB.out | apply below_alloc | apply pw_below_drewN | apply below_drew1) | exact HB.out))) : w.heap.size ≤ gb105));clear HB;have HB:=n0_;have BK105:=n1_;have GW105:=n2_;have GE105:=n3_;clear n0_ n1_ n2_ n3_;clear hb hbox hg;have hcz8_0 : w7.cell? ⟨gb105,0,none⟩ = some (.int .i64 a0_0):=(blk_cell BK105.out 0).trans rfl;have hcz8_1 : w7.cell? ⟨gb105,1,none⟩ = some (.slice A0_1 l0_1.length c0_1):=(blk_cell BK105.out 1).trans rfl;have hfz8_0:=blk_frozen BK105.out 0;have hfz8_1:=blk_frozen BK105.out 1) | ((with_reducible refine gate_callee (f:=14) rfl ?_);refine goesL_ (some 8) rfl rfl Tryd.func14 (by kernel_rfl) rfl #[.agg #[.int .i64 a0_0,.slice A0_1 l0_1.length c0_1]] rfl (by (try simp only [List.map_toArray,List.map_cons,List.map_nil]);first | done | rfl | (simp only [List.length_drop,List.length_take];rfl)) ?_;(with_reducible refine (manifest_Right.calls k a0_0 _ _ l0_1 true _ ?side1 ?side2 A2.out).mono ?_);(case side1 => repeat (first | exact (Kd.C_below HR0_1.out HB.out) | (with_reducible refine Kd.C_alloc ?_ _) | (with_reducible refine Kd.C_drewN ?_ _) | (with_reducible refine Kd.C_drew ?_)));(case side2 => exact HC0_1.out);rintro e w9 ⟨rfl,hb⟩;refine ⟨_,rfl,?_⟩;have n0_:=Aside0.mk (blk_below (g:=gb105) (o := .cells #[.int .i64 a0_0,.slice A0_1 l0_1.length c0_1] 24 (0,0)) (by (with_reducible repeat (first | refine blk_drewN ?_ _ | refine blk_drew ?_ | refine blk_alloc ?_ _));exact BK105.out) hb);have n1_:=Aside0.mk (below_step (by repeat (first | (with_reducible first | exact HB.out | apply below_alloc | apply pw_below_drewN | apply below_drew1 | refine below_set ?_ GE105.out) | exact HB.out)) hb);clear BK105;clear HB;have BK105:=n0_;have HB:=n1_;clear n0_ n1_;(try clear hb);(try clear hb2);(try clear hk);(try clear hi)))
   have n0_:=Aside0.mk (blk_drew BK105.out)
   have n1_:=Aside0.mk (below_drew1 HB.out)
   clear BK105
   clear HB
   have BK105:=n0_
   have HB:=n1_
   clear n0_ n1_
   refine start_ (n:=11) (S:=fun w' => w'.cell? ⟨gb105,0,none⟩ = some (.int .i64 a0_0) ∧ w'.cell? ⟨gb105,1,none⟩ = some (.slice A0_1 l0_1.length c0_1)) (ds:=[]) #[false,false,false,false,false,false,false,false,false,false,false] (by kernel_rfl) rfl rfl ⟨(blk_cell BK105.out 0).trans rfl,(blk_cell BK105.out 1).trans rfl⟩ (fun hHeld => ?_);refine with_tabW manifest_Bytes.tab3 manifest_Bytes.bits3 (fun HT_ HW_ => ?_)
   generalize w9.drew = w10 at BK105 HB hHeld ⊢
   refine pure_ (i:=0) (N:=some 10) (v := ?_) (a' := ?_) #[true,false,false,false,false,false,false,false,false,false,false] rfl rfl (any_of HT_.out (by kernel_rfl)) (fun _ _ _ h => h) (Or.inl ⟨by rfl,?_⟩) ?_ ?_
   rotate_left
   ·intro w'
    go_simp
    with_reducible rfl
   rotate_left
   ·simp only [Act.put,List.setIfInBounds_toArray,List.set_cons_zero,List.set_cons_succ,i64_w,i32_w]
    rfl
   refine pure_ (i:=4) (N:=some 14) (v := ?_) (a' := ?_) #[true,false,false,false,true,false,false,false,false,false,false] rfl rfl (any_of HT_.out (by kernel_rfl)) (fun _ _ _ h => h) (Or.inl ⟨by rfl,?_⟩) ?_ ?_
   rotate_left
   ·intro w'
    go_simp
    with_reducible rfl
   rotate_left
   ·simp only [Act.put,List.setIfInBounds_toArray,List.set_cons_zero,List.set_cons_succ,i64_w,i32_w]
    rfl
   refine take_ (i:=1) (N:=some 11) (v := ?_) (a' := ?_) #[true,true,false,false,true,false,false,false,false,false,false] rfl rfl (take_ofW HT_.out HW_.out (by kernel_rfl)) (fun _ _ _ h => h) (Or.inl ⟨by rfl,?_⟩) hHeld ?_ ?_
   rotate_left
   ·rintro w' ⟨s0,s1⟩
    go_simp
    with_reducible rfl
   rotate_left
   ·simp only [Act.put,List.setIfInBounds_toArray,List.set_cons_zero,List.set_cons_succ,i64_w,i32_w]
    rfl
   refine pure_ (i:=2) (N:=some 12) (v := ?_) (a' := ?_) #[true,true,true,false,true,false,false,false,false,false,false] rfl rfl (any_of HT_.out (by kernel_rfl)) (fun _ _ _ h => h) (Or.inl ⟨by rfl,?_⟩) ?_ ?_
   rotate_left
   ·intro w'
    go_simp
    with_reducible rfl
   rotate_left
   ·simp only [Act.put,List.setIfInBounds_toArray,List.set_cons_zero,List.set_cons_succ,i64_w,i32_w]
    rfl
   refine take_ (i:=5) (N:=some 15) (v := ?_) (a' := ?_) #[true,true,true,false,true,true,false,false,false,false,false] rfl rfl (take_ofW HT_.out HW_.out (by kernel_rfl)) (fun _ _ _ h => h) (Or.inl ⟨by rfl,?_⟩) hHeld ?_ ?_
   rotate_left
   ·rintro w' ⟨s0,s1⟩
    go_simp
    with_reducible rfl
   rotate_left
   ·simp only [Act.put,List.setIfInBounds_toArray,List.set_cons_zero,List.set_cons_succ,i64_w,i32_w]
    rfl
   refine pure_ (i:=6) (N:=some 16) (v := ?_) (a' := ?_) #[true,true,true,false,true,true,true,false,false,false,false] rfl rfl (any_of HT_.out (by kernel_rfl)) (fun _ _ _ h => h) (Or.inl ⟨by rfl,?_⟩) ?_ ?_
   rotate_left
   ·intro w'
    go_simp
    with_reducible rfl
   rotate_left
   ·simp only [Act.put,List.setIfInBounds_toArray,List.set_cons_zero,List.set_cons_succ,i64_w,i32_w]
    rfl
   refine pure_ (i:=7) (N:=some 17) (v := ?_) (a' := ?_) #[true,true,true,false,true,true,true,true,false,false,false] rfl rfl (any_of HT_.out (by kernel_rfl)) (fun _ _ _ h => h) (Or.inl ⟨by rfl,?_⟩) ?_ ?_
   rotate_left
   ·intro w'
    go_simp
    with_reducible rfl
   rotate_left
   ·simp only [Act.put,List.setIfInBounds_toArray,List.set_cons_zero,List.set_cons_succ,i64_w,i32_w]
    rfl
   refine one_ (i:=3) (N:=some 13) #[true,true,true,true,true,true,true,true,false,false,false] rfl rfl (one_of HT_.out (by kernel_rfl)) (by decide) (fun K hK => ?_)
   refine goes_ Tryd.func24 (by kernel_rfl) rfl #[.int .u64 (IntKind.u64.wrap (a0_0))] (by rfl) rfl rfl (by (try simp only [List.map_toArray,List.map_cons,List.map_nil]);first | done | rfl | (simp only [List.length_drop,List.length_take];rfl)) ?_
   with_reducible refine (varint_Put.calls (IntKind.u64.wrap (a0_0)) t107 _ A4.out).mono ?_
   rintro e w11 ⟨rfl,hb⟩
   refine ⟨_,rfl,?_⟩
   have n0_:=Aside0.mk (blk_below (g:=gb105) (o := .cells #[.int .i64 a0_0,.slice A0_1 l0_1.length c0_1] 24 (0,0)) (by (with_reducible repeat (first | refine blk_drewN ?_ _ | refine blk_drew ?_ | refine blk_alloc ?_ _));exact BK105.out) hb)
   have n1_:=Aside0.mk (below_step (by repeat (first | (with_reducible first | exact HB.out | apply below_alloc | apply pw_below_drewN | apply below_drew1 | refine below_set ?_ GE105.out) | exact HB.out)) hb)
   clear BK105
   clear HB
   have BK105:=n0_
   have HB:=n1_
   clear n0_ n1_
   (try clear hb)
   (try clear hb2)
   (try clear hk)
   (try clear hi)
   refine hK.out _ _ ⟨(blk_cell BK105.out 0).trans rfl,(blk_cell BK105.out 1).trans rfl⟩ (fun hHeld => ?_)
   clear hK K
   refine norm_ (a' := ?_) ?_ ?_
   rotate_left
   ·show Act.put _ (some 13) _ = _
    simp only [Act.put,List.setIfInBounds_toArray,List.set_cons_zero,List.set_cons_succ,i64_w,i32_w]
    rfl
   refine one_ (i:=8) (N:=some 18) #[true,true,true,true,true,true,true,true,true,false,false] rfl rfl (one_of HT_.out (by kernel_rfl)) (by decide) (fun K hK => ?_)
   refine goes_ Tryd.func24 (by kernel_rfl) rfl #[.int .u64 (IntKind.u64.wrap ((l0_1.length : Int)))] (by rfl) rfl rfl (by (try simp only [List.map_toArray,List.map_cons,List.map_nil]);first | done | rfl | (simp only [List.length_drop,List.length_take];rfl)) ?_
   with_reducible refine (varint_Put.calls (IntKind.u64.wrap ((l0_1.length : Int))) t108 _ A5.out).mono ?_
   rintro e w12 ⟨rfl,hb⟩
   refine ⟨_,rfl,?_⟩
   have n0_:=Aside0.mk (blk_below (g:=gb105) (o := .cells #[.int .i64 a0_0,.slice A0_1 l0_1.length c0_1] 24 (0,0)) (by (with_reducible repeat (first | refine blk_drewN ?_ _ | refine blk_drew ?_ | refine blk_alloc ?_ _));exact BK105.out) hb)
   have n1_:=Aside0.mk (below_step (by repeat (first | (with_reducible first | exact HB.out | apply below_alloc | apply pw_below_drewN | apply below_drew1 | refine below_set ?_ GE105.out) | exact HB.out)) hb)
   clear BK105
   clear HB
   have BK105:=n0_
   have HB:=n1_
   clear n0_ n1_
   (try clear hb)
   (try clear hb2)
   (try clear hk)
   (try clear hi)
   refine hK.out _ _ ⟨(blk_cell BK105.out 0).trans rfl,(blk_cell BK105.out 1).trans rfl⟩ (fun hHeld => ?_)
   clear hK K
   refine norm_ (a' := ?_) ?_ ?_
   rotate_left
   ·show Act.put _ (some 18) _ = _
    simp only [Act.put,List.setIfInBounds_toArray,List.set_cons_zero,List.set_cons_succ,i64_w,i32_w]
    rfl
   refine pure_ (i:=9) (N:=some 19) (v := ?_) (a' := ?_) #[true,true,true,true,true,true,true,true,true,true,false] rfl rfl (any_of HT_.out (by kernel_rfl)) (fun _ _ _ h => h) (Or.inl ⟨by rfl,?_⟩) ?_ ?_
   rotate_left
   ·intro w'
    go_simp
    with_reducible rfl
   rotate_left
   ·simp only [Act.put,List.setIfInBounds_toArray,List.set_cons_zero,List.set_cons_succ,i64_w,i32_w]
    rfl
   refine pure_ (i:=10) (N:=some 4) (v := ?_) (a' := ?_) #[true,true,true,true,true,true,true,true,true,true,true] rfl rfl (any_of HT_.out (by kernel_rfl)) (fun _ _ _ h => h) (Or.inl ⟨by rfl,?_⟩) ?_ ?_
   rotate_left
   ·intro w'
    go_simp
    with_reducible rfl
   rotate_left
   ·simp only [Act.put,List.setIfInBounds_toArray,List.set_cons_zero,List.set_cons_succ,i64_w,i32_w]
    rfl
   refine done_ (done_of HT_.out (by kernel_rfl)) ?_
   have hcz13_0 : w12.cell? ⟨gb105,0,none⟩ = some (.int .i64 a0_0):=(blk_cell BK105.out 0).trans rfl
   have hcz13_1 : w12.cell? ⟨gb105,1,none⟩ = some (.slice A0_1 l0_1.length c0_1):=(blk_cell BK105.out 1).trans rfl
   have hfz13_0:=blk_frozen BK105.out 0
   have hfz13_1:=blk_frozen BK105.out 1
   try go_wp2
   go_loopg [4,23] k (fun kq v4 v23 w' => ∃ (x4_1 : ByteArray) (x23_1 : Int),v4 = .string x4_1 ∧ v23 = .int .i64 x23_1 ∧ Aside0 (manifest_Bytes.l0 kq x4_1 l0_1 (l0_1.length : Int) x23_1 = some (r1,r2)) ∧ Aside0 (kq ≤ k) ∧ Aside0 (w'.heap[gb105]? = some (.cells #[.int .i64 a0_0,(.slice A0_1 l0_1.length c0_1)] 24 (0,0))) ∧ Aside0 (Below w.heap.size w w'))
   case atStart => exact ⟨(t107 ++ t108),(0),(by first | rfl | (simp;done) | (simp [*];done)),(by first | rfl | (simp;done) | (simp [*];done)),H',⟨Nat.le_refl _⟩,⟨by (with_reducible repeat (first | refine blk_drewN ?_ _ | refine blk_drew ?_ | refine blk_alloc ?_ _));exact BK105.out⟩,⟨by repeat (first | (with_reducible first | exact HB.out | apply below_alloc | apply pw_below_drewN | apply below_drew1 | refine below_set ?_ GE105.out) | exact HB.out)⟩⟩
   case round =>
    clear H'
    try clear c1
    try clear c2
    try clear p2
    try clear c3
    try clear c6
    try clear c6b0
    try clear c6b1
    try clear c6b2
    try clear c8
    try clear hcz13_0
    try clear hcz13_1
    try clear hcz8_0
    try clear hcz8_1
    try clear hfz13_0
    try clear hfz13_1
    try clear hfz8_0
    try clear hfz8_1
    obtain ⟨x4_1,x23_1,rfl,rfl,HA,HK1,BK105,HB⟩:=hrel
    cases gk with
    | zero => exact absurd HA.out (by simp [manifest_Bytes.l0])
    | succ k1 =>
     have H:=HA.out
     clear HA
     simp only [manifest_Bytes.l0] at H
     by_cases c14 : x23_1 < (l0_1.length : Int)
     ·rw [if_pos c14] at H
      have c14b0 : decide (x23_1 < (l0_1.length : Int)) = true:=decide_eq_true c14
      clear c14
      by_cases c15 : 0 ≤ x23_1
      ·rw [if_pos c15] at H
       have c15b0 : decide (0 ≤ x23_1) = true:=decide_eq_true c15
       clear c15
       by_cases c16 : x23_1 < (l0_1.length : Int)
       ·rw [if_pos c16] at H
        have c16b0 : decide (x23_1 < (l0_1.length : Int)) = true:=decide_eq_true c16
        clear c16
        replace H:=Option.bind_eq_some_iff.mp H
        obtain ⟨t111,A170,H⟩:=H
        replace H : ((varint_Put.f (IntKind.u64.wrap ((rd_T46 l0_1 x23_1).f1))).bind fun t112 => (if t111.size + t112.size ≤ 9223372036854775807 then ((varint_Put.f (IntKind.u64.wrap ((rd_T46 l0_1 x23_1).f2))).bind fun t113 => (if t111.size + t112.size + t113.size ≤ 9223372036854775807 then (if x4_1.size + (t111.size + t112.size + t113.size) ≤ 9223372036854775807 then (manifest_Bytes.l0 k1 (x4_1 ++ ((t111 ++ t112) ++ t113)) l0_1 (l0_1.length : Int) (wrap64 (x23_1 + 1))) else (none)) else (none))) else (none))) = some (r1,r2):=H
        have A17:=Aside0.mk A170
        clear A170
        replace H:=Option.bind_eq_some_iff.mp H
        obtain ⟨t112,A180,H⟩:=H
        replace H : (if t111.size + t112.size ≤ 9223372036854775807 then ((varint_Put.f (IntKind.u64.wrap ((rd_T46 l0_1 x23_1).f2))).bind fun t113 => (if t111.size + t112.size + t113.size ≤ 9223372036854775807 then (if x4_1.size + (t111.size + t112.size + t113.size) ≤ 9223372036854775807 then (manifest_Bytes.l0 k1 (x4_1 ++ ((t111 ++ t112) ++ t113)) l0_1 (l0_1.length : Int) (wrap64 (x23_1 + 1))) else (none)) else (none))) else (none)) = some (r1,r2):=H
        have A18:=Aside0.mk A180
        clear A180
        by_cases c19 : t111.size + t112.size ≤ 9223372036854775807
        ·rw [if_pos c19] at H
         have c19b0:=eq_true c19
         have c19b1 : decide (t111.size + t112.size ≤ 9223372036854775807) = true:=decide_eq_true c19
         try have c19b2 : (9223372036854775807 < t111.size + t112.size) = False:=eq_false (Nat.not_lt.2 c19)
         replace H:=Option.bind_eq_some_iff.mp H
         obtain ⟨t113,A200,H⟩:=H
         replace H : (if t111.size + t112.size + t113.size ≤ 9223372036854775807 then (if x4_1.size + (t111.size + t112.size + t113.size) ≤ 9223372036854775807 then (manifest_Bytes.l0 k1 (x4_1 ++ ((t111 ++ t112) ++ t113)) l0_1 (l0_1.length : Int) (wrap64 (x23_1 + 1))) else (none)) else (none)) = some (r1,r2):=H
         have A20:=Aside0.mk A200
         clear A200
         by_cases c21 : t111.size + t112.size + t113.size ≤ 9223372036854775807
         ·rw [if_pos c21] at H
          have c21b0:=eq_true c21
          have c21b1 : decide (t111.size + t112.size + t113.size ≤ 9223372036854775807) = true:=decide_eq_true c21
          try have c21b2 : (9223372036854775807 < t111.size + t112.size + t113.size) = False:=eq_false (Nat.not_lt.2 c21)
          by_cases c22 : x4_1.size + (t111.size + t112.size + t113.size) ≤ 9223372036854775807
          ·rw [if_pos c22] at H
           have c22b0:=eq_true c22
           have c22b1 : decide (x4_1.size + (t111.size + t112.size + t113.size) ≤ 9223372036854775807) = true:=decide_eq_true c22
           try have c22b2 : (9223372036854775807 < x4_1.size + (t111.size + t112.size + t113.size)) = False:=eq_false (Nat.not_lt.2 c22)
           have H' := Aside0.mk H
           clear H
           have p109 : 0 ≤ (x23_1 : Int):=of_decide_eq_true (by first | (with_reducible assumption) | assumption)
           have q109 : x23_1 < (l0_1.length : Int):=of_decide_eq_true (by first | (with_reducible assumption) | assumption)
           obtain ⟨ad109,e109,hx109_0,hx109_1,hx109_2⟩:=at_T46 HR0_1.out x23_1 p109 q109
           cases e109
           replace hx109_0:=(HB.out.cell (World.block_lt_of_cell? w _ hx109_0)).trans hx109_0
           replace hx109_1:=(HB.out.cell (World.block_lt_of_cell? w _ hx109_1)).trans hx109_1
           replace hx109_2:=(HB.out.cell (World.block_lt_of_cell? w _ hx109_2)).trans hx109_2
           replace p109:=eq_true p109
           replace q109:=eq_true q109
           try go_wp2_with (first | ((with_reducible refine gate_dst (N:=6) rfl ?_);refine box_event ?hg (N:=6) ?hd (cs := #[.int .i64 0,.int .i64 0,.int .u32 0]) (t:=46) ?hr ?_;(case hd => rfl);(case hg => rfl);(case hr => first | (go_simp;done) | (go_simp;rfl));intro gb110 hg w23 hbox hb;have n0_:=Aside0.mk (blk_below (g:=gb105) (o := .cells #[.int .i64 a0_0,.slice (some ad109) l0_1.length c0_1] 24 (0,0)) (by (with_reducible repeat (first | refine blk_drewN ?_ _ | refine blk_drew ?_ | refine blk_alloc ?_ _));exact BK105.out) hb);have n1_:=Aside0.mk (below_step (by repeat (first | (with_reducible first | exact HB.out | apply below_alloc | apply pw_below_drewN | apply below_drew1 | refine below_set ?_ GE105.out) | exact HB.out)) hb);have n2_:=Aside0.mk (hbox);have n3_:=Aside0.mk ((by rw [hg];exact (below_size (by repeat (first | (with_reducible first | exact HB.out | apply below_alloc | apply pw_below_drewN | apply below_drew1 | refine below_set ?_ GE105.out) | exact HB.out))) : w.heap.size ≤ gb110));have n4_:=Aside0.mk ((by rw [hg];exact (below_size (by repeat (first | (with_reducible first | exact HB.out | apply below_alloc | apply pw_below_drewN | apply below_drew1 | refine below_set ?_ GE105.out) | exact HB.out))) : w.heap.size ≤ gb110));have n5_:=Aside0.mk ((by rw [hg];exact Nat.ne_of_lt (blk_lt (g:=gb105) (o := .cells #[.int .i64 a0_0,.slice (some ad109) l0_1.length c0_1] 24 (0,0)) (by (with_reducible repeat (first | refine blk_drewN ?_ _ | refine blk_drew ?_ | refine blk_alloc ?_ _));exact BK105.out)) : gb105 ≠ gb110));have n6_:=Aside0.mk ((by rw [hg];exact Nat.ne_of_gt (blk_lt (g:=gb105) (o := .cells #[.int .i64 a0_0,.slice (some ad109) l0_1.length c0_1] 24 (0,0)) (by (with_reducible repeat (first | refine blk_drewN ?_ _ | refine blk_drew ?_ | refine blk_alloc ?_ _));exact BK105.out)) : gb110 ≠ gb105));clear BK105;clear HB;have BK105:=n0_;have HB:=n1_;have BK110:=n2_;have GW110:=n3_;have GE110:=n4_;have NB105_110:=n5_;have NB110_105:=n6_;clear n0_ n1_ n2_ n3_ n4_ n5_ n6_;clear hb hbox hg;have hnb24:=NB110_105.out;have hnc24:=NB105_110.out;have hcz25_0 : w23.cell? ⟨gb110,0,none⟩ = some (.int .i64 0):=(blk_cell BK110.out 0).trans rfl;have hcz25_1 : w23.cell? ⟨gb110,1,none⟩ = some (.int .i64 0):=(blk_cell BK110.out 1).trans rfl;have hcz25_2 : w23.cell? ⟨gb110,2,none⟩ = some (.int .u32 0):=(blk_cell BK110.out 2).trans rfl;have hfz25_0:=blk_frozen BK110.out 0;have hfz25_1:=blk_frozen BK110.out 1;have hfz25_2:=blk_frozen BK110.out 2))
           have n0_ : Aside0 ((((w23.setCell ⟨gb110,0,none⟩ (.int .i64 ((rd_T46 l0_1 x23_1).f0))).setCell ⟨gb110,1,none⟩ (.int .i64 ((rd_T46 l0_1 x23_1).f1))).setCell ⟨gb110,2,none⟩ (.int .u32 ((rd_T46 l0_1 x23_1).f2))).heap[gb105]? = some (.cells #[.int .i64 a0_0,.slice (some ad109) l0_1.length c0_1] 24 (0,0))):=⟨by (with_reducible repeat (first | refine blk_drewN ?_ _ | refine blk_drew ?_ | refine blk_alloc ?_ _));refine blk_far ?_ NB105_110.out _;(with_reducible repeat (first | refine blk_drewN ?_ _ | refine blk_drew ?_ | refine blk_alloc ?_ _));refine blk_far ?_ NB105_110.out _;(with_reducible repeat (first | refine blk_drewN ?_ _ | refine blk_drew ?_ | refine blk_alloc ?_ _));refine blk_far ?_ NB105_110.out _;(with_reducible repeat (first | refine blk_drewN ?_ _ | refine blk_drew ?_ | refine blk_alloc ?_ _));exact BK105.out⟩
           have n1_ : Aside0 ((((w23.setCell ⟨gb110,0,none⟩ (.int .i64 ((rd_T46 l0_1 x23_1).f0))).setCell ⟨gb110,1,none⟩ (.int .i64 ((rd_T46 l0_1 x23_1).f1))).setCell ⟨gb110,2,none⟩ (.int .u32 ((rd_T46 l0_1 x23_1).f2))).heap[gb110]? = some (.cells #[.int .i64 ((rd_T46 l0_1 x23_1).f0),.int .i64 ((rd_T46 l0_1 x23_1).f1),.int .u32 ((rd_T46 l0_1 x23_1).f2)] 46 (0,0))):=⟨by (with_reducible repeat (first | refine blk_drewN ?_ _ | refine blk_drew ?_ | refine blk_alloc ?_ _));refine blk_put (cs := #[.int .i64 ((rd_T46 l0_1 x23_1).f0),.int .i64 ((rd_T46 l0_1 x23_1).f1),.int .u32 0]) ?_ 2 _ rfl;(with_reducible repeat (first | refine blk_drewN ?_ _ | refine blk_drew ?_ | refine blk_alloc ?_ _));refine blk_put (cs := #[.int .i64 ((rd_T46 l0_1 x23_1).f0),.int .i64 0,.int .u32 0]) ?_ 1 _ rfl;(with_reducible repeat (first | refine blk_drewN ?_ _ | refine blk_drew ?_ | refine blk_alloc ?_ _));refine blk_put (cs := #[.int .i64 0,.int .i64 0,.int .u32 0]) ?_ 0 _ rfl;(with_reducible repeat (first | refine blk_drewN ?_ _ | refine blk_drew ?_ | refine blk_alloc ?_ _));exact BK110.out⟩
           have n2_ : Aside0 (Below w.heap.size w (((w23.setCell ⟨gb110,0,none⟩ (.int .i64 ((rd_T46 l0_1 x23_1).f0))).setCell ⟨gb110,1,none⟩ (.int .i64 ((rd_T46 l0_1 x23_1).f1))).setCell ⟨gb110,2,none⟩ (.int .u32 ((rd_T46 l0_1 x23_1).f2)))):=⟨by repeat (first | (with_reducible first | exact HB.out | apply below_alloc | apply pw_below_drewN | apply below_drew1 | refine below_set ?_ GE105.out | refine below_set ?_ GE110.out) | exact HB.out)⟩
           (try clear BK105)
           (try clear BK110)
           (try clear HB)
           generalize (((w23.setCell ⟨gb110,0,none⟩ (.int .i64 ((rd_T46 l0_1 x23_1).f0))).setCell ⟨gb110,1,none⟩ (.int .i64 ((rd_T46 l0_1 x23_1).f1))).setCell ⟨gb110,2,none⟩ (.int .u32 ((rd_T46 l0_1 x23_1).f2))) = w26 at n0_ n1_ n2_ ⊢
           have BK105:=n0_
           have BK110:=n1_
           have HB:=n2_
           clear n0_ n1_ n2_
           have n0_:=Aside0.mk (blk_drew BK105.out)
           have n1_:=Aside0.mk (blk_drew BK110.out)
           have n2_:=Aside0.mk (below_drew1 HB.out)
           clear BK105
           clear BK110
           clear HB
           have BK105:=n0_
           have BK110:=n1_
           have HB:=n2_
           clear n0_ n1_ n2_
           refine start_ (n:=17) (S:=fun w' => w'.cell? ⟨gb110,0,none⟩ = some (.int .i64 ((rd_T46 l0_1 x23_1).f0)) ∧ w'.cell? ⟨gb110,1,none⟩ = some (.int .i64 ((rd_T46 l0_1 x23_1).f1)) ∧ w'.cell? ⟨gb110,2,none⟩ = some (.int .u32 ((rd_T46 l0_1 x23_1).f2))) (ds:=[]) #[false,false,false,false,false,false,false,false,false,false,false,false,false,false,false,false,false] (by kernel_rfl) rfl rfl ⟨(blk_cell BK110.out 0).trans rfl,(blk_cell BK110.out 1).trans rfl,(blk_cell BK110.out 2).trans rfl⟩ (fun hHeld => ?_);refine with_tabW manifest_Bytes.tab7 manifest_Bytes.bits7 (fun HT_ HW_ => ?_)
           generalize w26.drew = w27 at BK105 BK110 HB hHeld ⊢
           refine pure_ (i:=0) (N:=some 27) (v := ?_) (a' := ?_) #[true,false,false,false,false,false,false,false,false,false,false,false,false,false,false,false,false] rfl rfl (any_of HT_.out (by kernel_rfl)) (fun _ _ _ h => h) (Or.inl ⟨by rfl,?_⟩) ?_ ?_
           rotate_left
           ·intro w'
            go_simp
            with_reducible rfl
           rotate_left
           ·simp only [Act.put,List.setIfInBounds_toArray,List.set_cons_zero,List.set_cons_succ,i64_w,i32_w]
            rfl
           refine pure_ (i:=1) (N:=some 28) (v := ?_) (a' := ?_) #[true,true,false,false,false,false,false,false,false,false,false,false,false,false,false,false,false] rfl rfl (any_of HT_.out (by kernel_rfl)) (fun _ _ _ h => h) (Or.inl ⟨by rfl,?_⟩) ?_ ?_
           rotate_left
           ·intro w'
            go_simp
            with_reducible rfl
           rotate_left
           ·simp only [Act.put,List.setIfInBounds_toArray,List.set_cons_zero,List.set_cons_succ,i64_w,i32_w]
            rfl
           refine pure_ (i:=5) (N:=some 32) (v := ?_) (a' := ?_) #[true,true,false,false,false,true,false,false,false,false,false,false,false,false,false,false,false] rfl rfl (any_of HT_.out (by kernel_rfl)) (fun _ _ _ h => h) (Or.inl ⟨by rfl,?_⟩) ?_ ?_
           rotate_left
           ·intro w'
            go_simp
            with_reducible rfl
           rotate_left
           ·simp only [Act.put,List.setIfInBounds_toArray,List.set_cons_zero,List.set_cons_succ,i64_w,i32_w]
            rfl
           refine pure_ (i:=10) (N:=some 37) (v := ?_) (a' := ?_) #[true,true,false,false,false,true,false,false,false,false,true,false,false,false,false,false,false] rfl rfl (any_of HT_.out (by kernel_rfl)) (fun _ _ _ h => h) (Or.inl ⟨by rfl,?_⟩) ?_ ?_
           rotate_left
           ·intro w'
            go_simp
            with_reducible rfl
           rotate_left
           ·simp only [Act.put,List.setIfInBounds_toArray,List.set_cons_zero,List.set_cons_succ,i64_w,i32_w]
            rfl
           refine take_ (i:=2) (N:=some 29) (v := ?_) (a' := ?_) #[true,true,true,false,false,true,false,false,false,false,true,false,false,false,false,false,false] rfl rfl (take_ofW HT_.out HW_.out (by kernel_rfl)) (fun _ _ _ h => h) (Or.inl ⟨by rfl,?_⟩) hHeld ?_ ?_
           rotate_left
           ·rintro w' ⟨s0,s1,s2⟩
            go_simp
            with_reducible rfl
           rotate_left
           ·simp only [Act.put,List.setIfInBounds_toArray,List.set_cons_zero,List.set_cons_succ,i64_w,i32_w]
            rfl
           refine pure_ (i:=3) (N:=some 30) (v := ?_) (a' := ?_) #[true,true,true,true,false,true,false,false,false,false,true,false,false,false,false,false,false] rfl rfl (any_of HT_.out (by kernel_rfl)) (fun _ _ _ h => h) (Or.inl ⟨by rfl,?_⟩) ?_ ?_
           rotate_left
           ·intro w'
            go_simp
            with_reducible rfl
           rotate_left
           ·simp only [Act.put,List.setIfInBounds_toArray,List.set_cons_zero,List.set_cons_succ,i64_w,i32_w]
            rfl
           refine take_ (i:=6) (N:=some 33) (v := ?_) (a' := ?_) #[true,true,true,true,false,true,true,false,false,false,true,false,false,false,false,false,false] rfl rfl (take_ofW HT_.out HW_.out (by kernel_rfl)) (fun _ _ _ h => h) (Or.inl ⟨by rfl,?_⟩) hHeld ?_ ?_
           rotate_left
           ·rintro w' ⟨s0,s1,s2⟩
            go_simp
            with_reducible rfl
           rotate_left
           ·simp only [Act.put,List.setIfInBounds_toArray,List.set_cons_zero,List.set_cons_succ,i64_w,i32_w]
            rfl
           refine pure_ (i:=7) (N:=some 34) (v := ?_) (a' := ?_) #[true,true,true,true,false,true,true,true,false,false,true,false,false,false,false,false,false] rfl rfl (any_of HT_.out (by kernel_rfl)) (fun _ _ _ h => h) (Or.inl ⟨by rfl,?_⟩) ?_ ?_
           rotate_left
           ·intro w'
            go_simp
            with_reducible rfl
           rotate_left
           ·simp only [Act.put,List.setIfInBounds_toArray,List.set_cons_zero,List.set_cons_succ,i64_w,i32_w]
            rfl
           refine take_ (i:=11) (N:=some 38) (v := ?_) (a' := ?_) #[true,true,true,true,false,true,true,true,false,false,true,true,false,false,false,false,false] rfl rfl (take_ofW HT_.out HW_.out (by kernel_rfl)) (fun _ _ _ h => h) (Or.inl ⟨by rfl,?_⟩) hHeld ?_ ?_
           rotate_left
           ·rintro w' ⟨s0,s1,s2⟩
            go_simp
            with_reducible rfl
           rotate_left
           ·simp only [Act.put,List.setIfInBounds_toArray,List.set_cons_zero,List.set_cons_succ,i64_w,i32_w]
            rfl
           refine pure_ (i:=12) (N:=some 39) (v := ?_) (a' := ?_) #[true,true,true,true,false,true,true,true,false,false,true,true,true,false,false,false,false] rfl rfl (any_of HT_.out (by kernel_rfl)) (fun _ _ _ h => h) (Or.inl ⟨by rfl,?_⟩) ?_ ?_
           rotate_left
           ·intro w'
            go_simp
            with_reducible rfl
           rotate_left
           ·simp only [Act.put,List.setIfInBounds_toArray,List.set_cons_zero,List.set_cons_succ,i64_w,i32_w]
            rfl
           refine one_ (i:=4) (N:=some 31) #[true,true,true,true,true,true,true,true,false,false,true,true,true,false,false,false,false] rfl rfl (one_of HT_.out (by kernel_rfl)) (by decide) (fun K hK => ?_)
           refine goes_ Tryd.func24 (by kernel_rfl) rfl #[.int .u64 (IntKind.u64.wrap ((rd_T46 l0_1 x23_1).f0))] (by rfl) rfl rfl (by (try simp only [List.map_toArray,List.map_cons,List.map_nil]);first | done | rfl | (simp only [List.length_drop,List.length_take];rfl)) ?_
           with_reducible refine (varint_Put.calls (IntKind.u64.wrap ((rd_T46 l0_1 x23_1).f0)) t111 _ A17.out).mono ?_
           rintro e w28 ⟨rfl,hb⟩
           refine ⟨_,rfl,?_⟩
           have n0_:=Aside0.mk (blk_below (g:=gb105) (o := .cells #[.int .i64 a0_0,.slice (some ad109) l0_1.length c0_1] 24 (0,0)) (by (with_reducible repeat (first | refine blk_drewN ?_ _ | refine blk_drew ?_ | refine blk_alloc ?_ _));exact BK105.out) hb)
           have n1_:=Aside0.mk (blk_below (g:=gb110) (o := .cells #[.int .i64 ((rd_T46 l0_1 x23_1).f0),.int .i64 ((rd_T46 l0_1 x23_1).f1),.int .u32 ((rd_T46 l0_1 x23_1).f2)] 46 (0,0)) (by (with_reducible repeat (first | refine blk_drewN ?_ _ | refine blk_drew ?_ | refine blk_alloc ?_ _));exact BK110.out) hb)
           have n2_:=Aside0.mk (below_step (by repeat (first | (with_reducible first | exact HB.out | apply below_alloc | apply pw_below_drewN | apply below_drew1 | refine below_set ?_ GE105.out | refine below_set ?_ GE110.out) | exact HB.out)) hb)
           clear BK105
           clear BK110
           clear HB
           have BK105:=n0_
           have BK110:=n1_
           have HB:=n2_
           clear n0_ n1_ n2_
           (try clear hb)
           (try clear hb2)
           (try clear hk)
           (try clear hi)
           refine hK.out _ _ ⟨(blk_cell BK110.out 0).trans rfl,(blk_cell BK110.out 1).trans rfl,(blk_cell BK110.out 2).trans rfl⟩ (fun hHeld => ?_)
           clear hK K
           refine norm_ (a' := ?_) ?_ ?_
           rotate_left
           ·show Act.put _ (some 31) _ = _
            simp only [Act.put,List.setIfInBounds_toArray,List.set_cons_zero,List.set_cons_succ,i64_w,i32_w]
            rfl
           refine one_ (i:=8) (N:=some 35) #[true,true,true,true,true,true,true,true,true,false,true,true,true,false,false,false,false] rfl rfl (one_of HT_.out (by kernel_rfl)) (by decide) (fun K hK => ?_)
           refine goes_ Tryd.func24 (by kernel_rfl) rfl #[.int .u64 (IntKind.u64.wrap ((rd_T46 l0_1 x23_1).f1))] (by rfl) rfl rfl (by (try simp only [List.map_toArray,List.map_cons,List.map_nil]);first | done | rfl | (simp only [List.length_drop,List.length_take];rfl)) ?_
           with_reducible refine (varint_Put.calls (IntKind.u64.wrap ((rd_T46 l0_1 x23_1).f1)) t112 _ A18.out).mono ?_
           rintro e w29 ⟨rfl,hb⟩
           refine ⟨_,rfl,?_⟩
           have n0_:=Aside0.mk (blk_below (g:=gb105) (o := .cells #[.int .i64 a0_0,.slice (some ad109) l0_1.length c0_1] 24 (0,0)) (by (with_reducible repeat (first | refine blk_drewN ?_ _ | refine blk_drew ?_ | refine blk_alloc ?_ _));exact BK105.out) hb)
           have n1_:=Aside0.mk (blk_below (g:=gb110) (o := .cells #[.int .i64 ((rd_T46 l0_1 x23_1).f0),.int .i64 ((rd_T46 l0_1 x23_1).f1),.int .u32 ((rd_T46 l0_1 x23_1).f2)] 46 (0,0)) (by (with_reducible repeat (first | refine blk_drewN ?_ _ | refine blk_drew ?_ | refine blk_alloc ?_ _));exact BK110.out) hb)
           have n2_:=Aside0.mk (below_step (by repeat (first | (with_reducible first | exact HB.out | apply below_alloc | apply pw_below_drewN | apply below_drew1 | refine below_set ?_ GE105.out | refine below_set ?_ GE110.out) | exact HB.out)) hb)
           clear BK105
           clear BK110
           clear HB
           have BK105:=n0_
           have BK110:=n1_
           have HB:=n2_
           clear n0_ n1_ n2_
           (try clear hb)
           (try clear hb2)
           (try clear hk)
           (try clear hi)
           refine hK.out _ _ ⟨(blk_cell BK110.out 0).trans rfl,(blk_cell BK110.out 1).trans rfl,(blk_cell BK110.out 2).trans rfl⟩ (fun hHeld => ?_)
           clear hK K
           refine norm_ (a' := ?_) ?_ ?_
           rotate_left
           ·show Act.put _ (some 35) _ = _
            simp only [Act.put,List.setIfInBounds_toArray,List.set_cons_zero,List.set_cons_succ,i64_w,i32_w]
            rfl
           refine pure_ (i:=9) (N:=some 36) (v := ?_) (a' := ?_) #[true,true,true,true,true,true,true,true,true,true,true,true,true,false,false,false,false] rfl rfl (any_of HT_.out (by kernel_rfl)) (fun _ _ _ h => h) (Or.inl ⟨by rfl,?_⟩) ?_ ?_
           rotate_left
           ·intro w'
            go_simp
            with_reducible rfl
           rotate_left
           ·simp only [Act.put,List.setIfInBounds_toArray,List.set_cons_zero,List.set_cons_succ,i64_w,i32_w]
            rfl
           refine one_ (i:=13) (N:=some 40) #[true,true,true,true,true,true,true,true,true,true,true,true,true,true,false,false,false] rfl rfl (one_of HT_.out (by kernel_rfl)) (by decide) (fun K hK => ?_)
           refine goes_ Tryd.func24 (by kernel_rfl) rfl #[.int .u64 (IntKind.u64.wrap ((rd_T46 l0_1 x23_1).f2))] (by rfl) rfl rfl (by (try simp only [List.map_toArray,List.map_cons,List.map_nil]);first | done | rfl | (simp only [List.length_drop,List.length_take];rfl)) ?_
           with_reducible refine (varint_Put.calls (IntKind.u64.wrap ((rd_T46 l0_1 x23_1).f2)) t113 _ A20.out).mono ?_
           rintro e w30 ⟨rfl,hb⟩
           refine ⟨_,rfl,?_⟩
           have n0_:=Aside0.mk (blk_below (g:=gb105) (o := .cells #[.int .i64 a0_0,.slice (some ad109) l0_1.length c0_1] 24 (0,0)) (by (with_reducible repeat (first | refine blk_drewN ?_ _ | refine blk_drew ?_ | refine blk_alloc ?_ _));exact BK105.out) hb)
           have n1_:=Aside0.mk (blk_below (g:=gb110) (o := .cells #[.int .i64 ((rd_T46 l0_1 x23_1).f0),.int .i64 ((rd_T46 l0_1 x23_1).f1),.int .u32 ((rd_T46 l0_1 x23_1).f2)] 46 (0,0)) (by (with_reducible repeat (first | refine blk_drewN ?_ _ | refine blk_drew ?_ | refine blk_alloc ?_ _));exact BK110.out) hb)
           have n2_:=Aside0.mk (below_step (by repeat (first | (with_reducible first | exact HB.out | apply below_alloc | apply pw_below_drewN | apply below_drew1 | refine below_set ?_ GE105.out | refine below_set ?_ GE110.out) | exact HB.out)) hb)
           clear BK105
           clear BK110
           clear HB
           have BK105:=n0_
           have BK110:=n1_
           have HB:=n2_
           clear n0_ n1_ n2_
           (try clear hb)
           (try clear hb2)
           (try clear hk)
           (try clear hi)
           refine hK.out _ _ ⟨(blk_cell BK110.out 0).trans rfl,(blk_cell BK110.out 1).trans rfl,(blk_cell BK110.out 2).trans rfl⟩ (fun hHeld => ?_)
           clear hK K
           refine norm_ (a' := ?_) ?_ ?_
           rotate_left
           ·show Act.put _ (some 40) _ = _
            simp only [Act.put,List.setIfInBounds_toArray,List.set_cons_zero,List.set_cons_succ,i64_w,i32_w]
            rfl
           refine pure_ (i:=14) (N:=some 41) (v := ?_) (a' := ?_) #[true,true,true,true,true,true,true,true,true,true,true,true,true,true,true,false,false] rfl rfl (any_of HT_.out (by kernel_rfl)) (fun _ _ _ h => h) (Or.inl ⟨by rfl,?_⟩) ?_ ?_
           rotate_left
           ·intro w'
            go_simp
            with_reducible rfl
           rotate_left
           ·simp only [Act.put,List.setIfInBounds_toArray,List.set_cons_zero,List.set_cons_succ,i64_w,i32_w]
            rfl
           refine pure_ (i:=15) (N:=some 42) (v := ?_) (a' := ?_) #[true,true,true,true,true,true,true,true,true,true,true,true,true,true,true,true,false] rfl rfl (any_of HT_.out (by kernel_rfl)) (fun _ _ _ h => h) (Or.inl ⟨by rfl,?_⟩) ?_ ?_
           rotate_left
           ·intro w'
            go_simp
            with_reducible rfl
           rotate_left
           ·simp only [Act.put,List.setIfInBounds_toArray,List.set_cons_zero,List.set_cons_succ,i64_w,i32_w]
            rfl
           refine pure_ (i:=16) (N:=some 4) (v := ?_) (a' := ?_) #[true,true,true,true,true,true,true,true,true,true,true,true,true,true,true,true,true] rfl rfl (any_of HT_.out (by kernel_rfl)) (fun _ _ _ h => h) (Or.inl ⟨by rfl,?_⟩) ?_ ?_
           rotate_left
           ·intro w'
            go_simp
            with_reducible rfl
           rotate_left
           ·simp only [Act.put,List.setIfInBounds_toArray,List.set_cons_zero,List.set_cons_succ,i64_w,i32_w]
            rfl
           refine done_ (done_of HT_.out (by kernel_rfl)) ?_
           try go_wp2
           go_roundg k1
           case measure => have:=HK1.out;omega
           case rel => exact ⟨(x4_1 ++ ((t111 ++ t112) ++ t113)),(wrap64 (x23_1 + 1)),(by first | rfl | (simp;done) | (simp [*];done)),(by first | rfl | (simp;done) | (simp [*];done)),H',⟨by have:=HK1.out;omega⟩,⟨by (with_reducible repeat (first | refine blk_drewN ?_ _ | refine blk_drew ?_ | refine blk_alloc ?_ _));exact BK105.out⟩,⟨by repeat (first | (with_reducible first | exact HB.out | apply below_alloc | apply pw_below_drewN | apply below_drew1 | refine below_set ?_ GE105.out | refine below_set ?_ GE110.out) | exact HB.out)⟩⟩
          ·rw [if_neg c22] at H
           exact absurd H (by simp)
         ·rw [if_neg c21] at H
          exact absurd H (by simp)
        ·rw [if_neg c19] at H
         exact absurd H (by simp)
       ·rw [if_neg c16] at H
        exact absurd H (by simp)
      ·rw [if_neg c15] at H
       exact absurd H (by simp)
     ·rw [if_neg c14] at H
      have c14b0 : decide (x23_1 < (l0_1.length : Int)) = false:=decide_eq_false c14
      clear c14
      replace H:=Option.bind_eq_some_iff.mp H
      obtain ⟨t114,A310,H⟩:=H
      replace H : (some (t114,0)) = some (r1,r2):=H
      have A31:=Aside0.mk A310
      clear A310
      simp only [Option.some.injEq,Prod.mk.injEq] at H
      obtain ⟨rfl,rfl⟩:=H
      go_wp2_with (first | ((with_reducible refine gate_callee (f:=25) rfl ?_);refine goesL_ (some 45) rfl rfl Tryd.func25 (by kernel_rfl) rfl #[.string x4_1] rfl (by (try simp only [List.map_toArray,List.map_cons,List.map_nil]);first | done | rfl | (simp only [List.length_drop,List.length_take];rfl)) ?_;(with_reducible refine (crc_Seal.calls x4_1 t114 _ A31.out).mono ?_);rintro e w32 ⟨rfl,hb⟩;refine ⟨_,rfl,?_⟩;have n0_:=Aside0.mk (blk_below (g:=gb105) (o := .cells #[.int .i64 a0_0,.slice A0_1 l0_1.length c0_1] 24 (0,0)) (by (with_reducible repeat (first | refine blk_drewN ?_ _ | refine blk_drew ?_ | refine blk_alloc ?_ _));exact BK105.out) hb);have n1_:=Aside0.mk (below_step (by repeat (first | (with_reducible first | exact HB.out | apply below_alloc | apply pw_below_drewN | apply below_drew1 | refine below_set ?_ GE105.out) | exact HB.out)) hb);clear BK105;clear HB;have BK105:=n0_;have HB:=n1_;clear n0_ n1_;(try clear hb);(try clear hb2);(try clear hk);(try clear hi)))
      go_ret2
      exact ⟨by first | rfl | (simp [errW_none,errW_some] <;> rfl) | (simp [*,errW_none,errW_some] <;> rfl) | (simp [errW_none,errW_some];exact isEmpty_bne _),by repeat (first | (with_reducible first | exact HB.out | apply below_alloc | apply pw_below_drewN | apply below_drew1 | refine below_set ?_ GE105.out) | exact HB.out)⟩
  ·rw [if_neg c6] at H
   exact absurd H (by simp)
 ·replace c3:=Bool.eq_false_iff.mpr c3
  subst c3
  have H1 : (some ((⟨#[]⟩ : ByteArray),1)) = some (r1,r2):=by rw [if_neg (show ¬ (false = true) by decide)] at H;exact H
  clear H
  have H:=H1
  clear H1
  simp only [Option.some.injEq,Prod.mk.injEq] at H
  obtain ⟨rfl,rfl⟩:=H
  go_enter Tryd.func8,Tryd.ntmps8
  go_wp2_with (first | ((with_reducible refine gate_dst (N:=1) rfl ?_);refine box_event ?hg (N:=1) ?hd (cs := #[.int .i64 a0_0,.slice A0_1 l0_1.length c0_1]) (t:=24) ?hr ?_;(case hd => rfl);(case hg => rfl);(case hr => first | (go_simp;done) | (go_simp;rfl));intro gb105 hg w33 hbox hb;have n0_:=Aside0.mk (below_step (by repeat (first | (with_reducible first | exact HB.out | apply below_alloc | apply pw_below_drewN | apply below_drew1) | exact HB.out)) hb);have n1_:=Aside0.mk (hbox);have n2_:=Aside0.mk ((by rw [hg];exact (below_size (by repeat (first | (with_reducible first | exact HB.out | apply below_alloc | apply pw_below_drewN | apply below_drew1) | exact HB.out))) : w.heap.size ≤ gb105));have n3_:=Aside0.mk ((by rw [hg];exact (below_size (by repeat (first | (with_reducible first | exact HB.out | apply below_alloc | apply pw_below_drewN | apply below_drew1) | exact HB.out))) : w.heap.size ≤ gb105));clear HB;have HB:=n0_;have BK105:=n1_;have GW105:=n2_;have GE105:=n3_;clear n0_ n1_ n2_ n3_;clear hb hbox hg;have hcz34_0 : w33.cell? ⟨gb105,0,none⟩ = some (.int .i64 a0_0):=(blk_cell BK105.out 0).trans rfl;have hcz34_1 : w33.cell? ⟨gb105,1,none⟩ = some (.slice A0_1 l0_1.length c0_1):=(blk_cell BK105.out 1).trans rfl;have hfz34_0:=blk_frozen BK105.out 0;have hfz34_1:=blk_frozen BK105.out 1) | ((with_reducible refine gate_callee (f:=14) rfl ?_);refine goesL_ (some 8) rfl rfl Tryd.func14 (by kernel_rfl) rfl #[.agg #[.int .i64 a0_0,.slice A0_1 l0_1.length c0_1]] rfl (by (try simp only [List.map_toArray,List.map_cons,List.map_nil]);first | done | rfl | (simp only [List.length_drop,List.length_take];rfl)) ?_;(with_reducible refine (manifest_Right.calls k a0_0 _ _ l0_1 false _ ?side1 ?side2 A2.out).mono ?_);(case side1 => repeat (first | exact (Kd.C_below HR0_1.out HB.out) | (with_reducible refine Kd.C_alloc ?_ _) | (with_reducible refine Kd.C_drewN ?_ _) | (with_reducible refine Kd.C_drew ?_)));(case side2 => exact HC0_1.out);rintro e w35 ⟨rfl,hb⟩;refine ⟨_,rfl,?_⟩;have n0_:=Aside0.mk (blk_below (g:=gb105) (o := .cells #[.int .i64 a0_0,.slice A0_1 l0_1.length c0_1] 24 (0,0)) (by (with_reducible repeat (first | refine blk_drewN ?_ _ | refine blk_drew ?_ | refine blk_alloc ?_ _));exact BK105.out) hb);have n1_:=Aside0.mk (below_step (by repeat (first | (with_reducible first | exact HB.out | apply below_alloc | apply pw_below_drewN | apply below_drew1 | refine below_set ?_ GE105.out) | exact HB.out)) hb);clear BK105;clear HB;have BK105:=n0_;have HB:=n1_;clear n0_ n1_;(try clear hb);(try clear hb2);(try clear hk);(try clear hi)))
  go_ret2
  exact ⟨by first | rfl | (simp [errW_none,errW_some] <;> rfl) | (simp [*,errW_none,errW_some] <;> rfl) | (simp [errW_none,errW_some];exact isEmpty_bne _),by repeat (first | (with_reducible first | exact HB.out | apply below_alloc | apply pw_below_drewN | apply below_drew1 | refine below_set ?_ GE105.out) | exact HB.out)⟩

/-! ### crc_Open: function 29 -/
def crc_Open.f (a0 : ByteArray) : Option (ByteArray × Bool):=if (a0.size : Int) < 4 then (some ((⟨#[]⟩ : ByteArray),false)) else (if 4 ≤ (a0.size : Int) then ((crc_Seal.f (a0.extract 4 a0.size)).bind fun t115 => (if 0 ≤ 4 then (if 4 ≤ (t115.size : Int) then (if (t115.extract 0 4).toList = (a0.extract 0 4).toList then (some (a0.extract 4 a0.size,true)) else (some ((⟨#[]⟩ : ByteArray),false))) else (none)) else (none))) else (none))
set_option maxHeartbeats 8000000 in
set_option maxRecDepth 100000 in
theorem crc_Open.calls (a0 : ByteArray) (r1 : ByteArray) (r2 : Bool) (w : World) (h : crc_Open.f a0 = some (r1,r2)) :
  Calls Tryd.prog 29 #[.string a0] w fun e w' => e = .returned (.tuple #[.string r1,.bool r2]) ∧ Below w.heap.size w w' := by
 have HB:=Aside0.mk (Below.refl w.heap.size w)
 have H : (if (a0.size : Int) < 4 then (some ((⟨#[]⟩ : ByteArray),false)) else (if 4 ≤ (a0.size : Int) then ((crc_Seal.f (a0.extract 4 a0.size)).bind fun t115 => (if 0 ≤ 4 then (if 4 ≤ (t115.size : Int) then (if (t115.extract 0 4).toList = (a0.extract 0 4).toList then (some (a0.extract 4 a0.size,true)) else (some ((⟨#[]⟩ : ByteArray),false))) else (none)) else (none))) else (none))) = some (r1,r2):=h
 clear h
 by_cases c2 : (a0.size : Int) < 4
 ·rw [if_pos c2] at H
  have c2b0 : decide ((a0.size : Int) < 4) = true:=decide_eq_true c2
  have c2b1 : decide (a0.size < 4) = true:=decide_eq_true (by omega)
  clear c2
  simp only [Option.some.injEq,Prod.mk.injEq] at H
  obtain ⟨rfl,rfl⟩:=H
  go_enter Tryd.func29,Tryd.ntmps29
  go_wp2
  go_ret2
  exact ⟨by first | rfl | (simp [errW_none,errW_some] <;> rfl) | (simp [*,errW_none,errW_some] <;> rfl) | (simp [errW_none,errW_some];exact isEmpty_bne _),by repeat (first | (with_reducible first | exact HB.out | apply below_alloc | apply pw_below_drewN | apply below_drew1) | exact HB.out)⟩
 ·rw [if_neg c2] at H
  have c2b0 : decide ((a0.size : Int) < 4) = false:=decide_eq_false c2
  have c2b1 : decide (a0.size < 4) = false:=decide_eq_false (by omega)
  clear c2
  by_cases c3 : 4 ≤ (a0.size : Int)
  ·rw [if_pos c3] at H
   have c3b0:=eq_true c3
   have c3b1 : decide (4 ≤ (a0.size : Int)) = true:=decide_eq_true c3
   clear c3
   replace H:=Option.bind_eq_some_iff.mp H
   obtain ⟨t115,A40,H⟩:=H
   replace H : (if 0 ≤ 4 then (if 4 ≤ (t115.size : Int) then (if (t115.extract 0 4).toList = (a0.extract 0 4).toList then (some (a0.extract 4 a0.size,true)) else (some ((⟨#[]⟩ : ByteArray),false))) else (none)) else (none)) = some (r1,r2):=H
   have A4:=Aside0.mk A40
   clear A40
   by_cases c5 : 0 ≤ 4
   ·rw [if_pos c5] at H
    have c5b0:=eq_true c5
    have c5b1 : decide (0 ≤ 4) = true:=decide_eq_true c5
    clear c5
    by_cases c6 : 4 ≤ (t115.size : Int)
    ·rw [if_pos c6] at H
     have c6b0:=eq_true c6
     have c6b1 : decide (4 ≤ (t115.size : Int)) = true:=decide_eq_true c6
     clear c6
     have c7b0:=eq_true (of_decide_eq_true (by first | (with_reducible assumption) | assumption) : 0 ≤ 4)
     have c8b0:=eq_true (of_decide_eq_true (by first | (with_reducible assumption) | assumption) : 4 ≤ (a0.size : Int))
     by_cases c9 : (t115.extract 0 4).toList = (a0.extract 0 4).toList
     ·rw [if_pos c9] at H
      have c9b0 : ((t115.extract 0 4).toList == (a0.extract 0 4).toList) = true:=beq_iff_eq.mpr c9
      have c9b1 : ((t115.extract 0 4).toList != (a0.extract 0 4).toList) = false:=bne_eq_false_iff_eq.mpr c9
      clear c9
      have c10b0:=eq_true (of_decide_eq_true (by first | (with_reducible assumption) | assumption) : 4 ≤ (a0.size : Int))
      simp only [Option.some.injEq,Prod.mk.injEq] at H
      obtain ⟨rfl,rfl⟩:=H
      go_enter Tryd.func29,Tryd.ntmps29
      try go_wp2
      have n0_:=Aside0.mk (below_drew1 HB.out)
      clear HB
      have HB:=n0_
      clear n0_
      refine start_ (n:=7) (S:=fun w' => True) (ds:=[]) #[false,false,false,false,false,false,false] (by kernel_rfl) rfl rfl trivial (fun hHeld => ?_)
      generalize w.drew = w11 at HB hHeld ⊢
      refine pure_ (i:=0) (N:=some 7) (v := ?_) (a' := ?_) #[true,false,false,false,false,false,false] rfl rfl (by kernel_rfl) (fun _ _ _ h => h) (Or.inl ⟨by rfl,?_⟩) ?_ ?_
      rotate_left
      ·intro w'
       go_simp
       with_reducible rfl
      rotate_left
      ·simp only [Act.put,List.setIfInBounds_toArray,List.set_cons_zero,List.set_cons_succ,i64_w,i32_w]
       rfl
      refine pure_ (i:=1) (N:=some 8) (v := ?_) (a' := ?_) #[true,true,false,false,false,false,false] rfl rfl (by kernel_rfl) (fun _ _ _ h => h) (Or.inl ⟨by rfl,?_⟩) ?_ ?_
      rotate_left
      ·intro w'
       go_simp
       with_reducible rfl
      rotate_left
      ·simp only [Act.put,List.setIfInBounds_toArray,List.set_cons_zero,List.set_cons_succ,i64_w,i32_w]
       rfl
      refine pure_ (i:=4) (N:=some 11) (v := ?_) (a' := ?_) #[true,true,false,false,true,false,false] rfl rfl (by kernel_rfl) (fun _ _ _ h => h) (Or.inl ⟨by rfl,?_⟩) ?_ ?_
      rotate_left
      ·intro w'
       go_simp
       with_reducible rfl
      rotate_left
      ·simp only [Act.put,List.setIfInBounds_toArray,List.set_cons_zero,List.set_cons_succ,i64_w,i32_w]
       rfl
      refine pure_ (i:=5) (N:=some 12) (v := ?_) (a' := ?_) #[true,true,false,false,true,true,false] rfl rfl (by kernel_rfl) (fun _ _ _ h => h) (Or.inl ⟨by rfl,?_⟩) ?_ ?_
      rotate_left
      ·intro w'
       go_simp
       with_reducible rfl
      rotate_left
      ·simp only [Act.put,List.setIfInBounds_toArray,List.set_cons_zero,List.set_cons_succ,i64_w,i32_w]
       rfl
      refine one_ (i:=2) (N:=some 9) #[true,true,true,false,true,true,false] rfl rfl (by kernel_rfl) (by decide) (fun K hK => ?_)
      refine goes_ Tryd.func25 (by kernel_rfl) rfl #[.string (a0.extract 4 a0.size)] (by rfl) rfl rfl (by (try simp only [List.map_toArray,List.map_cons,List.map_nil]);first | done | rfl | (simp only [List.length_drop,List.length_take];rfl)) ?_
      with_reducible refine (crc_Seal.calls (a0.extract 4 a0.size) t115 _ A4.out).mono ?_
      rintro e w12 ⟨rfl,hb⟩
      refine ⟨_,rfl,?_⟩
      have n0_:=Aside0.mk (below_step (by repeat (first | (with_reducible first | exact HB.out | apply below_alloc | apply pw_below_drewN | apply below_drew1) | exact HB.out)) hb)
      clear HB
      have HB:=n0_
      clear n0_
      (try clear hb)
      (try clear hb2)
      (try clear hk)
      (try clear hi)
      refine hK.out _ _ trivial (fun hHeld => ?_)
      clear hK K
      refine norm_ (a' := ?_) ?_ ?_
      rotate_left
      ·show Act.put _ (some 9) _ = _
       simp only [Act.put,List.setIfInBounds_toArray,List.set_cons_zero,List.set_cons_succ,i64_w,i32_w]
       rfl
      refine pure_ (i:=3) (N:=some 10) (v := ?_) (a' := ?_) #[true,true,true,true,true,true,false] rfl rfl (by kernel_rfl) (fun _ _ _ h => h) (Or.inl ⟨by rfl,?_⟩) ?_ ?_
      rotate_left
      ·intro w'
       go_simp
       with_reducible rfl
      rotate_left
      ·simp only [Act.put,List.setIfInBounds_toArray,List.set_cons_zero,List.set_cons_succ,i64_w,i32_w]
       rfl
      refine pure_ (i:=6) (N:=some 13) (v := ?_) (a' := ?_) #[true,true,true,true,true,true,true] rfl rfl (by kernel_rfl) (fun _ _ _ h => h) (Or.inl ⟨by rfl,?_⟩) ?_ ?_
      rotate_left
      ·intro w'
       go_simp
       with_reducible rfl
      rotate_left
      ·simp only [Act.put,List.setIfInBounds_toArray,List.set_cons_zero,List.set_cons_succ,i64_w,i32_w]
       rfl
      refine done_ (by kernel_rfl) ?_
      try go_wp2
      go_ret2
      exact ⟨by first | rfl | (simp [errW_none,errW_some] <;> rfl) | (simp [*,errW_none,errW_some] <;> rfl) | (simp [errW_none,errW_some];exact isEmpty_bne _),by repeat (first | (with_reducible first | exact HB.out | apply below_alloc | apply pw_below_drewN | apply below_drew1) | exact HB.out)⟩
     ·rw [if_neg c9] at H
      have c9b0 : ((t115.extract 0 4).toList == (a0.extract 0 4).toList) = false:=beq_eq_false_iff_ne.mpr c9
      have c9b1 : ((t115.extract 0 4).toList != (a0.extract 0 4).toList) = true:=bne_iff_ne.mpr c9
      simp only [Option.some.injEq,Prod.mk.injEq] at H
      obtain ⟨rfl,rfl⟩:=H
      go_enter Tryd.func29,Tryd.ntmps29
      try go_wp2
      have n0_:=Aside0.mk (below_drew1 HB.out)
      clear HB
      have HB:=n0_
      clear n0_
      refine start_ (n:=7) (S:=fun w' => True) (ds:=[]) #[false,false,false,false,false,false,false] (by kernel_rfl) rfl rfl trivial (fun hHeld => ?_)
      generalize w.drew = w13 at HB hHeld ⊢
      refine pure_ (i:=0) (N:=some 7) (v := ?_) (a' := ?_) #[true,false,false,false,false,false,false] rfl rfl (by kernel_rfl) (fun _ _ _ h => h) (Or.inl ⟨by rfl,?_⟩) ?_ ?_
      rotate_left
      ·intro w'
       go_simp
       with_reducible rfl
      rotate_left
      ·simp only [Act.put,List.setIfInBounds_toArray,List.set_cons_zero,List.set_cons_succ,i64_w,i32_w]
       rfl
      refine pure_ (i:=1) (N:=some 8) (v := ?_) (a' := ?_) #[true,true,false,false,false,false,false] rfl rfl (by kernel_rfl) (fun _ _ _ h => h) (Or.inl ⟨by rfl,?_⟩) ?_ ?_
      rotate_left
      ·intro w'
       go_simp
       with_reducible rfl
      rotate_left
      ·simp only [Act.put,List.setIfInBounds_toArray,List.set_cons_zero,List.set_cons_succ,i64_w,i32_w]
       rfl
      refine pure_ (i:=4) (N:=some 11) (v := ?_) (a' := ?_) #[true,true,false,false,true,false,false] rfl rfl (by kernel_rfl) (fun _ _ _ h => h) (Or.inl ⟨by rfl,?_⟩) ?_ ?_
      rotate_left
      ·intro w'
       go_simp
       with_reducible rfl
      rotate_left
      ·simp only [Act.put,List.setIfInBounds_toArray,List.set_cons_zero,List.set_cons_succ,i64_w,i32_w]
       rfl
      refine pure_ (i:=5) (N:=some 12) (v := ?_) (a' := ?_) #[true,true,false,false,true,true,false] rfl rfl (by kernel_rfl) (fun _ _ _ h => h) (Or.inl ⟨by rfl,?_⟩) ?_ ?_
      rotate_left
      ·intro w'
       go_simp
       with_reducible rfl
      rotate_left
      ·simp only [Act.put,List.setIfInBounds_toArray,List.set_cons_zero,List.set_cons_succ,i64_w,i32_w]
       rfl
      refine one_ (i:=2) (N:=some 9) #[true,true,true,false,true,true,false] rfl rfl (by kernel_rfl) (by decide) (fun K hK => ?_)
      refine goes_ Tryd.func25 (by kernel_rfl) rfl #[.string (a0.extract 4 a0.size)] (by rfl) rfl rfl (by (try simp only [List.map_toArray,List.map_cons,List.map_nil]);first | done | rfl | (simp only [List.length_drop,List.length_take];rfl)) ?_
      with_reducible refine (crc_Seal.calls (a0.extract 4 a0.size) t115 _ A4.out).mono ?_
      rintro e w14 ⟨rfl,hb⟩
      refine ⟨_,rfl,?_⟩
      have n0_:=Aside0.mk (below_step (by repeat (first | (with_reducible first | exact HB.out | apply below_alloc | apply pw_below_drewN | apply below_drew1) | exact HB.out)) hb)
      clear HB
      have HB:=n0_
      clear n0_
      (try clear hb)
      (try clear hb2)
      (try clear hk)
      (try clear hi)
      refine hK.out _ _ trivial (fun hHeld => ?_)
      clear hK K
      refine norm_ (a' := ?_) ?_ ?_
      rotate_left
      ·show Act.put _ (some 9) _ = _
       simp only [Act.put,List.setIfInBounds_toArray,List.set_cons_zero,List.set_cons_succ,i64_w,i32_w]
       rfl
      refine pure_ (i:=3) (N:=some 10) (v := ?_) (a' := ?_) #[true,true,true,true,true,true,false] rfl rfl (by kernel_rfl) (fun _ _ _ h => h) (Or.inl ⟨by rfl,?_⟩) ?_ ?_
      rotate_left
      ·intro w'
       go_simp
       with_reducible rfl
      rotate_left
      ·simp only [Act.put,List.setIfInBounds_toArray,List.set_cons_zero,List.set_cons_succ,i64_w,i32_w]
       rfl
      refine pure_ (i:=6) (N:=some 13) (v := ?_) (a' := ?_) #[true,true,true,true,true,true,true] rfl rfl (by kernel_rfl) (fun _ _ _ h => h) (Or.inl ⟨by rfl,?_⟩) ?_ ?_
      rotate_left
      ·intro w'
       go_simp
       with_reducible rfl
      rotate_left
      ·simp only [Act.put,List.setIfInBounds_toArray,List.set_cons_zero,List.set_cons_succ,i64_w,i32_w]
       rfl
      refine done_ (by kernel_rfl) ?_
      try go_wp2
      go_ret2
      exact ⟨by first | rfl | (simp [errW_none,errW_some] <;> rfl) | (simp [*,errW_none,errW_some] <;> rfl) | (simp [errW_none,errW_some];exact isEmpty_bne _),by repeat (first | (with_reducible first | exact HB.out | apply below_alloc | apply pw_below_drewN | apply below_drew1) | exact HB.out)⟩
    ·rw [if_neg c6] at H
     exact absurd H (by simp)
   ·rw [if_neg c5] at H
    exact absurd H (by simp)
  ·rw [if_neg c3] at H
   exact absurd H (by simp)

-- NOT PRINTED: function 31 (manifest_must)

end Go.Proofs.YtgampcbjmdgciaaDoor.Print
