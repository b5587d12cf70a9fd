/- Written by a program of mine (give.py, over the kit's print) out of the translation: contracts of the Go functions. Lean checks it. -/
import Derived.Test.YthndpknocofioaaGreatDoorPrint0
import Derived.Test.YthndpknocofioaaGreatDoorPrint4
namespace Go.Proofs.YthndpknocofioaaGreatDoor.Print
open Go.RowKit Go.Proofs.YthndpknocofioaaGreatDoorW.PrintWords Go.Proofs.YthndpknocofioaaGreatDoorW.PrintLast Go.Proofs.YthndpknocofioaaGreatDoorW.PrintMore
attribute [local go_sem] max2_int min2_int max_two min_two max_three min_three max_four min_four   -- for this text's walks alone
set_option linter.unusedVariables false
set_option linter.unusedSimpArgs false

/-! ### record_Bytes: function 97 -/
def record_Bytes.f (k : Nat) (a0_0 : Int) (a0_1 : ByteArray) (a0_2 : ByteArray) (a0_3 : Bool) : Option (ByteArray × Int):=(record_Right.f k a0_0 a0_1 a0_2 a0_3).bind fun t130 => (if t130 = true then (if a0_3 = true then ((varint_Put.f (Go.bits .or .u64 (IntKind.u64.wrap (a0_0 * 2)) 1)).bind fun t131 => ((varint_Text.f a0_1).bind fun t132 => (if t131.size + t132.size ≤ 9223372036854775807 then (some (t131 ++ t132,0)) else (none)))) else ((varint_Put.f (IntKind.u64.wrap (a0_0 * 2))).bind fun t133 => ((varint_Text.f a0_1).bind fun t134 => (if t133.size + t134.size ≤ 9223372036854775807 then ((varint_Text.f a0_2).bind fun t135 => (if t133.size + t134.size + t135.size ≤ 9223372036854775807 then (some ((t133 ++ t134) ++ t135,0)) else (none))) else (none))))) else (some ((⟨#[]⟩ : ByteArray),1)))
theorem record_Bytes.mono : ∀ a0 a1 a2 a3 k,LeO (record_Bytes.f k a0 a1 a2 a3) (record_Bytes.f (k + 1) a0 a1 a2 a3):=by
 intro a0 a1 a2 a3 k
 unfold record_Bytes.f
 repeat' first
   | (with_reducible exact record_Right.mono _ _ _ _ _)
   | (with_reducible exact LeO.refl _)
   | (with_reducible exact LeO.none _)
   | (with_reducible refine LeO.ite ?_ ?_)
   | (with_reducible refine LeO.bind ?_ (fun _ => ?_))
   | exact record_Right.mono _ _ _ _ _
   | exact LeO.none _
   | refine LeO.ite ?_ ?_
   | refine LeO.bind ?_ (fun _ => ?_)
def record_Bytes.T5 : Bool × List (List Nat × List Nat):=(true,[([],[]),([0],[0]),([1],[1]),([],[]),([3],[3]),([4,2],[4]),([2,5],[2,5]),([6,5,0,1,2,3,4,5,6],[6]),([7,0,1,2,3,4,5,6,7],[])])
def record_Bytes.B5 : List Nat:=[0,1,3,0,8,31,63,127,255]
theorem record_Bytes.tab5 : rtab .any (opsOf Tryz.f97 5) = record_Bytes.T5:=by kernel_rfl
theorem record_Bytes.bits5 : waitsOk record_Bytes.T5.2 record_Bytes.B5 = true:=by kernel_rfl
def record_Bytes.T6 : Bool × List (List Nat × List Nat):=(true,[([],[]),([0],[0]),([],[]),([2],[2]),([3,1],[3]),([1,4],[1,4]),([],[]),([6],[6]),([7,4],[7]),([5,8],[5,8]),([9,8,0,1,2,3,4,5,6,7,8,9],[9]),([10,0,1,2,3,4,5,6,7,8,9,10],[])])
def record_Bytes.B6 : List Nat:=[0,1,0,4,15,31,0,64,223,511,1023,2047]
theorem record_Bytes.tab6 : rtab .any (opsOf Tryz.f97 6) = record_Bytes.T6:=by kernel_rfl
theorem record_Bytes.bits6 : waitsOk record_Bytes.T6.2 record_Bytes.B6 = true:=by kernel_rfl
set_option maxHeartbeats 8000000 in
set_option maxRecDepth 100000 in
theorem record_Bytes.calls (k : Nat) (a0_0 : Int) (a0_1 : ByteArray) (a0_2 : ByteArray) (a0_3 : Bool) (r1 : ByteArray) (r2 : Int) (w : World) (h : record_Bytes.f k a0_0 a0_1 a0_2 a0_3 = some (r1,r2)) :
  Calls Tryz.prog 97 #[.agg #[.int .u64 a0_0,.string a0_1,.string a0_2,.bool a0_3]] w fun e w' => e = .returned (.tuple #[.string r1,.int .i64 r2]) ∧ Below w.heap.size w w' := by
 have hu50:=Tryz.underlying50
 have HB:=Aside0.mk (Below.refl w.heap.size w)
 have H : ((record_Right.f k a0_0 a0_1 a0_2 a0_3).bind fun t130 => (if t130 = true then (if a0_3 = true then ((varint_Put.f (Go.bits .or .u64 (IntKind.u64.wrap (a0_0 * 2)) 1)).bind fun t131 => ((varint_Text.f a0_1).bind fun t132 => (if t131.size + t132.size ≤ 9223372036854775807 then (some (t131 ++ t132,0)) else (none)))) else ((varint_Put.f (IntKind.u64.wrap (a0_0 * 2))).bind fun t133 => ((varint_Text.f a0_1).bind fun t134 => (if t133.size + t134.size ≤ 9223372036854775807 then ((varint_Text.f a0_2).bind fun t135 => (if t133.size + t134.size + t135.size ≤ 9223372036854775807 then (some ((t133 ++ t134) ++ t135,0)) else (none))) else (none))))) else (some ((⟨#[]⟩ : ByteArray),1)))) = some (r1,r2):=h
 clear h
 replace H:=Option.bind_eq_some_iff.mp H
 obtain ⟨t130,A20,H⟩:=H
 replace H : (if t130 = true then (if a0_3 = true then ((varint_Put.f (Go.bits .or .u64 (IntKind.u64.wrap (a0_0 * 2)) 1)).bind fun t131 => ((varint_Text.f a0_1).bind fun t132 => (if t131.size + t132.size ≤ 9223372036854775807 then (some (t131 ++ t132,0)) else (none)))) else ((varint_Put.f (IntKind.u64.wrap (a0_0 * 2))).bind fun t133 => ((varint_Text.f a0_1).bind fun t134 => (if t133.size + t134.size ≤ 9223372036854775807 then ((varint_Text.f a0_2).bind fun t135 => (if t133.size + t134.size + t135.size ≤ 9223372036854775807 then (some ((t133 ++ t134) ++ t135,0)) else (none))) else (none))))) else (some ((⟨#[]⟩ : ByteArray),1))) = some (r1,r2):=H
 have A2:=Aside0.mk A20
 clear A20
 by_cases c3 : t130 = true
 ·subst c3
  have H1 : (if a0_3 = true then ((varint_Put.f (Go.bits .or .u64 (IntKind.u64.wrap (a0_0 * 2)) 1)).bind fun t131 => ((varint_Text.f a0_1).bind fun t132 => (if t131.size + t132.size ≤ 9223372036854775807 then (some (t131 ++ t132,0)) else (none)))) else ((varint_Put.f (IntKind.u64.wrap (a0_0 * 2))).bind fun t133 => ((varint_Text.f a0_1).bind fun t134 => (if t133.size + t134.size ≤ 9223372036854775807 then ((varint_Text.f a0_2).bind fun t135 => (if t133.size + t134.size + t135.size ≤ 9223372036854775807 then (some ((t133 ++ t134) ++ t135,0)) else (none))) else (none))))) = some (r1,r2):=by rw [if_pos rfl] at H;exact H
  clear H
  have H:=H1
  clear H1
  by_cases c4 : a0_3 = true
  ·subst c4
   have H1 : ((varint_Put.f (Go.bits .or .u64 (IntKind.u64.wrap (a0_0 * 2)) 1)).bind fun t131 => ((varint_Text.f a0_1).bind fun t132 => (if t131.size + t132.size ≤ 9223372036854775807 then (some (t131 ++ t132,0)) else (none)))) = some (r1,r2):=by rw [if_pos rfl] at H;exact H
   clear H
   have H:=H1
   clear H1
   replace H:=Option.bind_eq_some_iff.mp H
   obtain ⟨t131,A50,H⟩:=H
   replace H : ((varint_Text.f a0_1).bind fun t132 => (if t131.size + t132.size ≤ 9223372036854775807 then (some (t131 ++ t132,0)) else (none))) = some (r1,r2):=H
   have A5:=Aside0.mk A50
   clear A50
   replace H:=Option.bind_eq_some_iff.mp H
   obtain ⟨t132,A60,H⟩:=H
   replace H : (if t131.size + t132.size ≤ 9223372036854775807 then (some (t131 ++ t132,0)) else (none)) = some (r1,r2):=H
   have A6:=Aside0.mk A60
   clear A60
   by_cases c7 : t131.size + t132.size ≤ 9223372036854775807
   ·rw [if_pos c7] at H
    have c7b0:=eq_true c7
    have c7b1 : decide (t131.size + t132.size ≤ 9223372036854775807) = true:=decide_eq_true c7
    try have c7b2 : (9223372036854775807 < t131.size + t132.size) = False:=eq_false (Nat.not_lt.2 c7)
    simp only [Option.some.injEq,Prod.mk.injEq] at H
    obtain ⟨rfl,rfl⟩:=H
    go_enter Tryz.func97,Tryz.ntmps97
    try go_wp2_with (first | ((with_reducible refine gate_dst (N:=1) rfl ?_);refine box_event ?hg (N:=1) ?hd (cs := #[.int .u64 a0_0,.string a0_1,.string a0_2,.bool true]) (t:=50) ?hr ?_;(case hd => rfl);(case hg => rfl);(case hr => first | (go_simp;done) | (go_simp;rfl));intro gb129 hg w8 hbox hb;have n0_:=Aside0.mk (below_step (by repeat (first | (with_reducible first | exact HB.out | apply below_alloc | apply pw_below_drewN | apply below_drew1) | exact HB.out)) hb);have n1_:=Aside0.mk (hbox);have n2_:=Aside0.mk ((by rw [hg];exact (below_size (by repeat (first | (with_reducible first | exact HB.out | apply below_alloc | apply pw_below_drewN | apply below_drew1) | exact HB.out))) : w.heap.size ≤ gb129));have n3_:=Aside0.mk ((by rw [hg];exact (below_size (by repeat (first | (with_reducible first | exact HB.out | apply below_alloc | apply pw_below_drewN | apply below_drew1) | exact HB.out))) : w.heap.size ≤ gb129));clear HB;have HB:=n0_;have BK129:=n1_;have GW129:=n2_;have GE129:=n3_;clear n0_ n1_ n2_ n3_;clear hb hbox hg;have hcz9_0 : w8.cell? ⟨gb129,0,none⟩ = some (.int .u64 a0_0):=(blk_cell BK129.out 0).trans rfl;have hcz9_1 : w8.cell? ⟨gb129,1,none⟩ = some (.string a0_1):=(blk_cell BK129.out 1).trans rfl;have hcz9_2 : w8.cell? ⟨gb129,2,none⟩ = some (.string a0_2):=(blk_cell BK129.out 2).trans rfl;have hcz9_3 : w8.cell? ⟨gb129,3,none⟩ = some (.bool true):=(blk_cell BK129.out 3).trans rfl;have hfz9_0:=blk_frozen BK129.out 0;have hfz9_1:=blk_frozen BK129.out 1;have hfz9_2:=blk_frozen BK129.out 2;have hfz9_3:=blk_frozen BK129.out 3) | ((with_reducible refine gate_callee (f:=141) rfl ?_);refine goesL_ (some 6) rfl rfl Tryz.func141 (by kernel_rfl) rfl #[.agg #[.int .u64 a0_0,.string a0_1,.string a0_2,.bool true]] rfl (by (try simp only [List.map_toArray,List.map_cons,List.map_nil]);first | done | rfl | (simp only [List.length_drop,List.length_take];rfl)) ?_;(with_reducible refine (record_Right.calls k a0_0 a0_1 a0_2 true true _ A2.out).mono ?_);rintro e w10 ⟨rfl,hb⟩;refine ⟨_,rfl,?_⟩;have n0_:=Aside0.mk (blk_below (g:=gb129) (o := .cells #[.int .u64 a0_0,.string a0_1,.string a0_2,.bool true] 50 (0,0)) (by (with_reducible repeat (first | refine blk_drewN ?_ _ | refine blk_drew ?_ | refine blk_alloc ?_ _));exact BK129.out) hb);have n1_:=Aside0.mk (below_step (by repeat (first | (with_reducible first | exact HB.out | apply below_alloc | apply pw_below_drewN | apply below_drew1 | refine below_set ?_ GE129.out) | exact HB.out)) hb);clear BK129;clear HB;have BK129:=n0_;have HB:=n1_;clear n0_ n1_;(try clear hb);(try clear hb2);(try clear hk);(try clear hi);have hcz11_0 : w10.cell? ⟨gb129,0,none⟩ = some (.int .u64 a0_0):=(blk_cell BK129.out 0).trans rfl;have hcz11_1 : w10.cell? ⟨gb129,1,none⟩ = some (.string a0_1):=(blk_cell BK129.out 1).trans rfl;have hcz11_2 : w10.cell? ⟨gb129,2,none⟩ = some (.string a0_2):=(blk_cell BK129.out 2).trans rfl;have hcz11_3 : w10.cell? ⟨gb129,3,none⟩ = some (.bool true):=(blk_cell BK129.out 3).trans rfl;have hfz11_0:=blk_frozen BK129.out 0;have hfz11_1:=blk_frozen BK129.out 1;have hfz11_2:=blk_frozen BK129.out 2;have hfz11_3:=blk_frozen BK129.out 3))
    have n0_:=Aside0.mk (blk_drew BK129.out)
    have n1_:=Aside0.mk (below_drew1 HB.out)
    clear BK129
    clear HB
    have BK129:=n0_
    have HB:=n1_
    clear n0_ n1_
    refine start_ (n:=9) (S:=fun w' => w'.cell? ⟨gb129,0,none⟩ = some (.int .u64 a0_0) ∧ w'.cell? ⟨gb129,1,none⟩ = some (.string a0_1) ∧ w'.cell? ⟨gb129,2,none⟩ = some (.string a0_2) ∧ w'.cell? ⟨gb129,3,none⟩ = some (.bool true)) (ds:=[]) #[false,false,false,false,false,false,false,false,false] (by kernel_rfl) rfl rfl ⟨(blk_cell BK129.out 0).trans rfl,(blk_cell BK129.out 1).trans rfl,(blk_cell BK129.out 2).trans rfl,(blk_cell BK129.out 3).trans rfl⟩ (fun hHeld => ?_);refine with_tabW record_Bytes.tab5 record_Bytes.bits5 (fun HT_ HW_ => ?_)
    generalize w10.drew = w12 at BK129 HB hHeld ⊢
    refine pure_ (i:=0) (N:=some 13) (v := ?_) (a' := ?_) #[true,false,false,false,false,false,false,false,false] rfl rfl (any_of HT_.out (by kernel_rfl)) (fun _ _ _ h => h) (Or.inl ⟨by rfl,?_⟩) ?_ ?_
    rotate_left
    ·intro w'
     go_simp
     with_reducible rfl
    rotate_left
    ·simp only [Act.put,List.setIfInBounds_toArray,List.set_cons_zero,List.set_cons_succ,i64_w,i32_w]
     rfl
    refine pure_ (i:=1) (N:=some 14) (v := ?_) (a' := ?_) #[true,true,false,false,false,false,false,false,false] rfl rfl (any_of HT_.out (by kernel_rfl)) (fun _ _ _ h => h) (Or.inl ⟨by rfl,?_⟩) ?_ ?_
    rotate_left
    ·intro w'
     go_simp
     with_reducible rfl
    rotate_left
    ·simp only [Act.put,List.setIfInBounds_toArray,List.set_cons_zero,List.set_cons_succ,i64_w,i32_w]
     rfl
    refine pure_ (i:=3) (N:=some 16) (v := ?_) (a' := ?_) #[true,true,false,true,false,false,false,false,false] rfl rfl (any_of HT_.out (by kernel_rfl)) (fun _ _ _ h => h) (Or.inl ⟨by rfl,?_⟩) ?_ ?_
    rotate_left
    ·intro w'
     go_simp
     with_reducible rfl
    rotate_left
    ·simp only [Act.put,List.setIfInBounds_toArray,List.set_cons_zero,List.set_cons_succ,i64_w,i32_w]
     rfl
    refine take_ (i:=4) (N:=some 17) (v := ?_) (a' := ?_) #[true,true,false,true,true,false,false,false,false] rfl rfl (take_ofW HT_.out HW_.out (by kernel_rfl)) (fun _ _ _ h => h) (Or.inl ⟨by rfl,?_⟩) hHeld ?_ ?_
    rotate_left
    ·rintro w' ⟨s0,s1,s2,s3⟩
     go_simp
     with_reducible rfl
    rotate_left
    ·simp only [Act.put,List.setIfInBounds_toArray,List.set_cons_zero,List.set_cons_succ,i64_w,i32_w]
     rfl
    refine one_ (i:=2) (N:=some 15) #[true,true,true,true,true,false,false,false,false] rfl rfl (one_of HT_.out (by kernel_rfl)) (by decide) (fun K hK => ?_)
    refine goes_ Tryz.func113 (by kernel_rfl) rfl #[.int .u64 (Go.bits .or .u64 (IntKind.u64.wrap (a0_0 * 2)) 1)] (by rfl) rfl rfl (by (try simp only [List.map_toArray,List.map_cons,List.map_nil]);first | done | rfl | (simp only [List.length_drop,List.length_take];rfl)) ?_
    with_reducible refine (varint_Put.calls (Go.bits .or .u64 (IntKind.u64.wrap (a0_0 * 2)) 1) t131 _ A5.out).mono ?_
    rintro e w13 ⟨rfl,hb⟩
    refine ⟨_,rfl,?_⟩
    have n0_:=Aside0.mk (blk_below (g:=gb129) (o := .cells #[.int .u64 a0_0,.string a0_1,.string a0_2,.bool true] 50 (0,0)) (by (with_reducible repeat (first | refine blk_drewN ?_ _ | refine blk_drew ?_ | refine blk_alloc ?_ _));exact BK129.out) hb)
    have n1_:=Aside0.mk (below_step (by repeat (first | (with_reducible first | exact HB.out | apply below_alloc | apply pw_below_drewN | apply below_drew1 | refine below_set ?_ GE129.out) | exact HB.out)) hb)
    clear BK129
    clear HB
    have BK129:=n0_
    have HB:=n1_
    clear n0_ n1_
    (try clear hb)
    (try clear hb2)
    (try clear hk)
    (try clear hi)
    refine hK.out _ _ ⟨(blk_cell BK129.out 0).trans rfl,(blk_cell BK129.out 1).trans rfl,(blk_cell BK129.out 2).trans rfl,(blk_cell BK129.out 3).trans rfl⟩ (fun hHeld => ?_)
    clear hK K
    refine norm_ (a' := ?_) ?_ ?_
    rotate_left
    ·show Act.put _ (some 15) _ = _
     simp only [Act.put,List.setIfInBounds_toArray,List.set_cons_zero,List.set_cons_succ,i64_w,i32_w]
     rfl
    refine one_ (i:=5) (N:=some 18) #[true,true,true,true,true,true,false,false,false] rfl rfl (one_of HT_.out (by kernel_rfl)) (by decide) (fun K hK => ?_)
    refine goes_ Tryz.func94 (by kernel_rfl) rfl #[.string a0_1] (by rfl) rfl rfl (by (try simp only [List.map_toArray,List.map_cons,List.map_nil]);first | done | rfl | (simp only [List.length_drop,List.length_take];rfl)) ?_
    with_reducible refine (varint_Text.calls a0_1 t132 _ A6.out).mono ?_
    rintro e w14 ⟨rfl,hb⟩
    refine ⟨_,rfl,?_⟩
    have n0_:=Aside0.mk (blk_below (g:=gb129) (o := .cells #[.int .u64 a0_0,.string a0_1,.string a0_2,.bool true] 50 (0,0)) (by (with_reducible repeat (first | refine blk_drewN ?_ _ | refine blk_drew ?_ | refine blk_alloc ?_ _));exact BK129.out) hb)
    have n1_:=Aside0.mk (below_step (by repeat (first | (with_reducible first | exact HB.out | apply below_alloc | apply pw_below_drewN | apply below_drew1 | refine below_set ?_ GE129.out) | exact HB.out)) hb)
    clear BK129
    clear HB
    have BK129:=n0_
    have HB:=n1_
    clear n0_ n1_
    (try clear hb)
    (try clear hb2)
    (try clear hk)
    (try clear hi)
    refine hK.out _ _ ⟨(blk_cell BK129.out 0).trans rfl,(blk_cell BK129.out 1).trans rfl,(blk_cell BK129.out 2).trans rfl,(blk_cell BK129.out 3).trans rfl⟩ (fun hHeld => ?_)
    clear hK K
    refine norm_ (a' := ?_) ?_ ?_
    rotate_left
    ·show Act.put _ (some 18) _ = _
     simp only [Act.put,List.setIfInBounds_toArray,List.set_cons_zero,List.set_cons_succ,i64_w,i32_w]
     rfl
    refine pure_ (i:=6) (N:=some 19) (v := ?_) (a' := ?_) #[true,true,true,true,true,true,true,false,false] rfl rfl (any_of HT_.out (by kernel_rfl)) (fun _ _ _ h => h) (Or.inl ⟨by rfl,?_⟩) ?_ ?_
    rotate_left
    ·intro w'
     go_simp
     with_reducible rfl
    rotate_left
    ·simp only [Act.put,List.setIfInBounds_toArray,List.set_cons_zero,List.set_cons_succ,i64_w,i32_w]
     rfl
    refine pure_ (i:=7) (N:=some 2) (v := ?_) (a' := ?_) #[true,true,true,true,true,true,true,true,false] rfl rfl (any_of HT_.out (by kernel_rfl)) (fun _ _ _ h => h) (Or.inl ⟨by rfl,?_⟩) ?_ ?_
    rotate_left
    ·intro w'
     go_simp
     with_reducible rfl
    rotate_left
    ·simp only [Act.put,List.setIfInBounds_toArray,List.set_cons_zero,List.set_cons_succ,i64_w,i32_w]
     rfl
    refine pure_ (i:=8) (N:=some 3) (v := ?_) (a' := ?_) #[true,true,true,true,true,true,true,true,true] rfl rfl (any_of HT_.out (by kernel_rfl)) (fun _ _ _ h => h) (Or.inl ⟨by rfl,?_⟩) ?_ ?_
    rotate_left
    ·intro w'
     go_simp
     with_reducible rfl
    rotate_left
    ·simp only [Act.put,List.setIfInBounds_toArray,List.set_cons_zero,List.set_cons_succ,i64_w,i32_w]
     rfl
    refine done_ (done_of HT_.out (by kernel_rfl)) ?_
    try go_wp2
    go_ret2
    exact ⟨by first | rfl | (simp [errW_none,errW_some] <;> rfl) | (simp [*,errW_none,errW_some] <;> rfl) | (simp [errW_none,errW_some];exact isEmpty_bne _),by repeat (first | (with_reducible first | exact HB.out | apply below_alloc | apply pw_below_drewN | apply below_drew1 | refine below_set ?_ GE129.out) | exact HB.out)⟩
   ·rw [if_neg c7] at H
    exact absurd H (by simp)
  ·replace c4:=Bool.eq_false_iff.mpr c4
   subst c4
   have H1 : ((varint_Put.f (IntKind.u64.wrap (a0_0 * 2))).bind fun t133 => ((varint_Text.f a0_1).bind fun t134 => (if t133.size + t134.size ≤ 9223372036854775807 then ((varint_Text.f a0_2).bind fun t135 => (if t133.size + t134.size + t135.size ≤ 9223372036854775807 then (some ((t133 ++ t134) ++ t135,0)) else (none))) else (none)))) = some (r1,r2):=by rw [if_neg (show ¬ (false = true) by decide)] at H;exact H
   clear H
   have H:=H1
   clear H1
   replace H:=Option.bind_eq_some_iff.mp H
   obtain ⟨t133,A150,H⟩:=H
   replace H : ((varint_Text.f a0_1).bind fun t134 => (if t133.size + t134.size ≤ 9223372036854775807 then ((varint_Text.f a0_2).bind fun t135 => (if t133.size + t134.size + t135.size ≤ 9223372036854775807 then (some ((t133 ++ t134) ++ t135,0)) else (none))) else (none))) = some (r1,r2):=H
   have A15:=Aside0.mk A150
   clear A150
   replace H:=Option.bind_eq_some_iff.mp H
   obtain ⟨t134,A160,H⟩:=H
   replace H : (if t133.size + t134.size ≤ 9223372036854775807 then ((varint_Text.f a0_2).bind fun t135 => (if t133.size + t134.size + t135.size ≤ 9223372036854775807 then (some ((t133 ++ t134) ++ t135,0)) else (none))) else (none)) = some (r1,r2):=H
   have A16:=Aside0.mk A160
   clear A160
   by_cases c17 : t133.size + t134.size ≤ 9223372036854775807
   ·rw [if_pos c17] at H
    have c17b0:=eq_true c17
    have c17b1 : decide (t133.size + t134.size ≤ 9223372036854775807) = true:=decide_eq_true c17
    try have c17b2 : (9223372036854775807 < t133.size + t134.size) = False:=eq_false (Nat.not_lt.2 c17)
    replace H:=Option.bind_eq_some_iff.mp H
    obtain ⟨t135,A180,H⟩:=H
    replace H : (if t133.size + t134.size + t135.size ≤ 9223372036854775807 then (some ((t133 ++ t134) ++ t135,0)) else (none)) = some (r1,r2):=H
    have A18:=Aside0.mk A180
    clear A180
    by_cases c19 : t133.size + t134.size + t135.size ≤ 9223372036854775807
    ·rw [if_pos c19] at H
     have c19b0:=eq_true c19
     have c19b1 : decide (t133.size + t134.size + t135.size ≤ 9223372036854775807) = true:=decide_eq_true c19
     try have c19b2 : (9223372036854775807 < t133.size + t134.size + t135.size) = False:=eq_false (Nat.not_lt.2 c19)
     simp only [Option.some.injEq,Prod.mk.injEq] at H
     obtain ⟨rfl,rfl⟩:=H
     go_enter Tryz.func97,Tryz.ntmps97
     try go_wp2_with (first | ((with_reducible refine gate_dst (N:=1) rfl ?_);refine box_event ?hg (N:=1) ?hd (cs := #[.int .u64 a0_0,.string a0_1,.string a0_2,.bool false]) (t:=50) ?hr ?_;(case hd => rfl);(case hg => rfl);(case hr => first | (go_simp;done) | (go_simp;rfl));intro gb129 hg w20 hbox hb;have n0_:=Aside0.mk (below_step (by repeat (first | (with_reducible first | exact HB.out | apply below_alloc | apply pw_below_drewN | apply below_drew1) | exact HB.out)) hb);have n1_:=Aside0.mk (hbox);have n2_:=Aside0.mk ((by rw [hg];exact (below_size (by repeat (first | (with_reducible first | exact HB.out | apply below_alloc | apply pw_below_drewN | apply below_drew1) | exact HB.out))) : w.heap.size ≤ gb129));have n3_:=Aside0.mk ((by rw [hg];exact (below_size (by repeat (first | (with_reducible first | exact HB.out | apply below_alloc | apply pw_below_drewN | apply below_drew1) | exact HB.out))) : w.heap.size ≤ gb129));clear HB;have HB:=n0_;have BK129:=n1_;have GW129:=n2_;have GE129:=n3_;clear n0_ n1_ n2_ n3_;clear hb hbox hg;have hcz21_0 : w20.cell? ⟨gb129,0,none⟩ = some (.int .u64 a0_0):=(blk_cell BK129.out 0).trans rfl;have hcz21_1 : w20.cell? ⟨gb129,1,none⟩ = some (.string a0_1):=(blk_cell BK129.out 1).trans rfl;have hcz21_2 : w20.cell? ⟨gb129,2,none⟩ = some (.string a0_2):=(blk_cell BK129.out 2).trans rfl;have hcz21_3 : w20.cell? ⟨gb129,3,none⟩ = some (.bool false):=(blk_cell BK129.out 3).trans rfl;have hfz21_0:=blk_frozen BK129.out 0;have hfz21_1:=blk_frozen BK129.out 1;have hfz21_2:=blk_frozen BK129.out 2;have hfz21_3:=blk_frozen BK129.out 3) | ((with_reducible refine gate_callee (f:=141) rfl ?_);refine goesL_ (some 6) rfl rfl Tryz.func141 (by kernel_rfl) rfl #[.agg #[.int .u64 a0_0,.string a0_1,.string a0_2,.bool false]] rfl (by (try simp only [List.map_toArray,List.map_cons,List.map_nil]);first | done | rfl | (simp only [List.length_drop,List.length_take];rfl)) ?_;(with_reducible refine (record_Right.calls k a0_0 a0_1 a0_2 false true _ A2.out).mono ?_);rintro e w22 ⟨rfl,hb⟩;refine ⟨_,rfl,?_⟩;have n0_:=Aside0.mk (blk_below (g:=gb129) (o := .cells #[.int .u64 a0_0,.string a0_1,.string a0_2,.bool false] 50 (0,0)) (by (with_reducible repeat (first | refine blk_drewN ?_ _ | refine blk_drew ?_ | refine blk_alloc ?_ _));exact BK129.out) hb);have n1_:=Aside0.mk (below_step (by repeat (first | (with_reducible first | exact HB.out | apply below_alloc | apply pw_below_drewN | apply below_drew1 | refine below_set ?_ GE129.out) | exact HB.out)) hb);clear BK129;clear HB;have BK129:=n0_;have HB:=n1_;clear n0_ n1_;(try clear hb);(try clear hb2);(try clear hk);(try clear hi);have hcz23_0 : w22.cell? ⟨gb129,0,none⟩ = some (.int .u64 a0_0):=(blk_cell BK129.out 0).trans rfl;have hcz23_1 : w22.cell? ⟨gb129,1,none⟩ = some (.string a0_1):=(blk_cell BK129.out 1).trans rfl;have hcz23_2 : w22.cell? ⟨gb129,2,none⟩ = some (.string a0_2):=(blk_cell BK129.out 2).trans rfl;have hcz23_3 : w22.cell? ⟨gb129,3,none⟩ = some (.bool false):=(blk_cell BK129.out 3).trans rfl;have hfz23_0:=blk_frozen BK129.out 0;have hfz23_1:=blk_frozen BK129.out 1;have hfz23_2:=blk_frozen BK129.out 2;have hfz23_3:=blk_frozen BK129.out 3))
     have n0_:=Aside0.mk (blk_drew BK129.out)
     have n1_:=Aside0.mk (below_drew1 HB.out)
     clear BK129
     clear HB
     have BK129:=n0_
     have HB:=n1_
     clear n0_ n1_
     refine start_ (n:=12) (S:=fun w' => w'.cell? ⟨gb129,0,none⟩ = some (.int .u64 a0_0) ∧ w'.cell? ⟨gb129,1,none⟩ = some (.string a0_1) ∧ w'.cell? ⟨gb129,2,none⟩ = some (.string a0_2) ∧ w'.cell? ⟨gb129,3,none⟩ = some (.bool false)) (ds:=[]) #[false,false,false,false,false,false,false,false,false,false,false,false] (by kernel_rfl) rfl rfl ⟨(blk_cell BK129.out 0).trans rfl,(blk_cell BK129.out 1).trans rfl,(blk_cell BK129.out 2).trans rfl,(blk_cell BK129.out 3).trans rfl⟩ (fun hHeld => ?_);refine with_tabW record_Bytes.tab6 record_Bytes.bits6 (fun HT_ HW_ => ?_)
     generalize w22.drew = w24 at BK129 HB hHeld ⊢
     refine pure_ (i:=0) (N:=some 20) (v := ?_) (a' := ?_) #[true,false,false,false,false,false,false,false,false,false,false,false] rfl rfl (any_of HT_.out (by kernel_rfl)) (fun _ _ _ h => h) (Or.inl ⟨by rfl,?_⟩) ?_ ?_
     rotate_left
     ·intro w'
      go_simp
      with_reducible rfl
     rotate_left
     ·simp only [Act.put,List.setIfInBounds_toArray,List.set_cons_zero,List.set_cons_succ,i64_w,i32_w]
      rfl
     refine pure_ (i:=2) (N:=some 22) (v := ?_) (a' := ?_) #[true,false,true,false,false,false,false,false,false,false,false,false] rfl rfl (any_of HT_.out (by kernel_rfl)) (fun _ _ _ h => h) (Or.inl ⟨by rfl,?_⟩) ?_ ?_
     rotate_left
     ·intro w'
      go_simp
      with_reducible rfl
     rotate_left
     ·simp only [Act.put,List.setIfInBounds_toArray,List.set_cons_zero,List.set_cons_succ,i64_w,i32_w]
      rfl
     refine pure_ (i:=6) (N:=some 26) (v := ?_) (a' := ?_) #[true,false,true,false,false,false,true,false,false,false,false,false] rfl rfl (any_of HT_.out (by kernel_rfl)) (fun _ _ _ h => h) (Or.inl ⟨by rfl,?_⟩) ?_ ?_
     rotate_left
     ·intro w'
      go_simp
      with_reducible rfl
     rotate_left
     ·simp only [Act.put,List.setIfInBounds_toArray,List.set_cons_zero,List.set_cons_succ,i64_w,i32_w]
      rfl
     refine take_ (i:=3) (N:=some 23) (v := ?_) (a' := ?_) #[true,false,true,true,false,false,true,false,false,false,false,false] rfl rfl (take_ofW HT_.out HW_.out (by kernel_rfl)) (fun _ _ _ h => h) (Or.inl ⟨by rfl,?_⟩) hHeld ?_ ?_
     rotate_left
     ·rintro w' ⟨s0,s1,s2,s3⟩
      go_simp
      with_reducible rfl
     rotate_left
     ·simp only [Act.put,List.setIfInBounds_toArray,List.set_cons_zero,List.set_cons_succ,i64_w,i32_w]
      rfl
     refine take_ (i:=7) (N:=some 27) (v := ?_) (a' := ?_) #[true,false,true,true,false,false,true,true,false,false,false,false] rfl rfl (take_ofW HT_.out HW_.out (by kernel_rfl)) (fun _ _ _ h => h) (Or.inl ⟨by rfl,?_⟩) hHeld ?_ ?_
     rotate_left
     ·rintro w' ⟨s0,s1,s2,s3⟩
      go_simp
      with_reducible rfl
     rotate_left
     ·simp only [Act.put,List.setIfInBounds_toArray,List.set_cons_zero,List.set_cons_succ,i64_w,i32_w]
      rfl
     refine one_ (i:=1) (N:=some 21) #[true,true,true,true,false,false,true,true,false,false,false,false] rfl rfl (one_of HT_.out (by kernel_rfl)) (by decide) (fun K hK => ?_)
     refine goes_ Tryz.func113 (by kernel_rfl) rfl #[.int .u64 (IntKind.u64.wrap (a0_0 * 2))] (by rfl) rfl rfl (by (try simp only [List.map_toArray,List.map_cons,List.map_nil]);first | done | rfl | (simp only [List.length_drop,List.length_take];rfl)) ?_
     with_reducible refine (varint_Put.calls (IntKind.u64.wrap (a0_0 * 2)) t133 _ A15.out).mono ?_
     rintro e w25 ⟨rfl,hb⟩
     refine ⟨_,rfl,?_⟩
     have n0_:=Aside0.mk (blk_below (g:=gb129) (o := .cells #[.int .u64 a0_0,.string a0_1,.string a0_2,.bool false] 50 (0,0)) (by (with_reducible repeat (first | refine blk_drewN ?_ _ | refine blk_drew ?_ | refine blk_alloc ?_ _));exact BK129.out) hb)
     have n1_:=Aside0.mk (below_step (by repeat (first | (with_reducible first | exact HB.out | apply below_alloc | apply pw_below_drewN | apply below_drew1 | refine below_set ?_ GE129.out) | exact HB.out)) hb)
     clear BK129
     clear HB
     have BK129:=n0_
     have HB:=n1_
     clear n0_ n1_
     (try clear hb)
     (try clear hb2)
     (try clear hk)
     (try clear hi)
     refine hK.out _ _ ⟨(blk_cell BK129.out 0).trans rfl,(blk_cell BK129.out 1).trans rfl,(blk_cell BK129.out 2).trans rfl,(blk_cell BK129.out 3).trans rfl⟩ (fun hHeld => ?_)
     clear hK K
     refine norm_ (a' := ?_) ?_ ?_
     rotate_left
     ·show Act.put _ (some 21) _ = _
      simp only [Act.put,List.setIfInBounds_toArray,List.set_cons_zero,List.set_cons_succ,i64_w,i32_w]
      rfl
     refine one_ (i:=4) (N:=some 24) #[true,true,true,true,true,false,true,true,false,false,false,false] rfl rfl (one_of HT_.out (by kernel_rfl)) (by decide) (fun K hK => ?_)
     refine goes_ Tryz.func94 (by kernel_rfl) rfl #[.string a0_1] (by rfl) rfl rfl (by (try simp only [List.map_toArray,List.map_cons,List.map_nil]);first | done | rfl | (simp only [List.length_drop,List.length_take];rfl)) ?_
     with_reducible refine (varint_Text.calls a0_1 t134 _ A16.out).mono ?_
     rintro e w26 ⟨rfl,hb⟩
     refine ⟨_,rfl,?_⟩
     have n0_:=Aside0.mk (blk_below (g:=gb129) (o := .cells #[.int .u64 a0_0,.string a0_1,.string a0_2,.bool false] 50 (0,0)) (by (with_reducible repeat (first | refine blk_drewN ?_ _ | refine blk_drew ?_ | refine blk_alloc ?_ _));exact BK129.out) hb)
     have n1_:=Aside0.mk (below_step (by repeat (first | (with_reducible first | exact HB.out | apply below_alloc | apply pw_below_drewN | apply below_drew1 | refine below_set ?_ GE129.out) | exact HB.out)) hb)
     clear BK129
     clear HB
     have BK129:=n0_
     have HB:=n1_
     clear n0_ n1_
     (try clear hb)
     (try clear hb2)
     (try clear hk)
     (try clear hi)
     refine hK.out _ _ ⟨(blk_cell BK129.out 0).trans rfl,(blk_cell BK129.out 1).trans rfl,(blk_cell BK129.out 2).trans rfl,(blk_cell BK129.out 3).trans rfl⟩ (fun hHeld => ?_)
     clear hK K
     refine norm_ (a' := ?_) ?_ ?_
     rotate_left
     ·show Act.put _ (some 24) _ = _
      simp only [Act.put,List.setIfInBounds_toArray,List.set_cons_zero,List.set_cons_succ,i64_w,i32_w]
      rfl
     refine pure_ (i:=5) (N:=some 25) (v := ?_) (a' := ?_) #[true,true,true,true,true,true,true,true,false,false,false,false] rfl rfl (any_of HT_.out (by kernel_rfl)) (fun _ _ _ h => h) (Or.inl ⟨by rfl,?_⟩) ?_ ?_
     rotate_left
     ·intro w'
      go_simp
      with_reducible rfl
     rotate_left
     ·simp only [Act.put,List.setIfInBounds_toArray,List.set_cons_zero,List.set_cons_succ,i64_w,i32_w]
      rfl
     refine one_ (i:=8) (N:=some 28) #[true,true,true,true,true,true,true,true,true,false,false,false] rfl rfl (one_of HT_.out (by kernel_rfl)) (by decide) (fun K hK => ?_)
     refine goes_ Tryz.func94 (by kernel_rfl) rfl #[.string a0_2] (by rfl) rfl rfl (by (try simp only [List.map_toArray,List.map_cons,List.map_nil]);first | done | rfl | (simp only [List.length_drop,List.length_take];rfl)) ?_
     with_reducible refine (varint_Text.calls a0_2 t135 _ A18.out).mono ?_
     rintro e w27 ⟨rfl,hb⟩
     refine ⟨_,rfl,?_⟩
     have n0_:=Aside0.mk (blk_below (g:=gb129) (o := .cells #[.int .u64 a0_0,.string a0_1,.string a0_2,.bool false] 50 (0,0)) (by (with_reducible repeat (first | refine blk_drewN ?_ _ | refine blk_drew ?_ | refine blk_alloc ?_ _));exact BK129.out) hb)
     have n1_:=Aside0.mk (below_step (by repeat (first | (with_reducible first | exact HB.out | apply below_alloc | apply pw_below_drewN | apply below_drew1 | refine below_set ?_ GE129.out) | exact HB.out)) hb)
     clear BK129
     clear HB
     have BK129:=n0_
     have HB:=n1_
     clear n0_ n1_
     (try clear hb)
     (try clear hb2)
     (try clear hk)
     (try clear hi)
     refine hK.out _ _ ⟨(blk_cell BK129.out 0).trans rfl,(blk_cell BK129.out 1).trans rfl,(blk_cell BK129.out 2).trans rfl,(blk_cell BK129.out 3).trans rfl⟩ (fun hHeld => ?_)
     clear hK K
     refine norm_ (a' := ?_) ?_ ?_
     rotate_left
     ·show Act.put _ (some 28) _ = _
      simp only [Act.put,List.setIfInBounds_toArray,List.set_cons_zero,List.set_cons_succ,i64_w,i32_w]
      rfl
     refine pure_ (i:=9) (N:=some 29) (v := ?_) (a' := ?_) #[true,true,true,true,true,true,true,true,true,true,false,false] rfl rfl (any_of HT_.out (by kernel_rfl)) (fun _ _ _ h => h) (Or.inl ⟨by rfl,?_⟩) ?_ ?_
     rotate_left
     ·intro w'
      go_simp
      with_reducible rfl
     rotate_left
     ·simp only [Act.put,List.setIfInBounds_toArray,List.set_cons_zero,List.set_cons_succ,i64_w,i32_w]
      rfl
     refine pure_ (i:=10) (N:=some 2) (v := ?_) (a' := ?_) #[true,true,true,true,true,true,true,true,true,true,true,false] rfl rfl (any_of HT_.out (by kernel_rfl)) (fun _ _ _ h => h) (Or.inl ⟨by rfl,?_⟩) ?_ ?_
     rotate_left
     ·intro w'
      go_simp
      with_reducible rfl
     rotate_left
     ·simp only [Act.put,List.setIfInBounds_toArray,List.set_cons_zero,List.set_cons_succ,i64_w,i32_w]
      rfl
     refine pure_ (i:=11) (N:=some 3) (v := ?_) (a' := ?_) #[true,true,true,true,true,true,true,true,true,true,true,true] rfl rfl (any_of HT_.out (by kernel_rfl)) (fun _ _ _ h => h) (Or.inl ⟨by rfl,?_⟩) ?_ ?_
     rotate_left
     ·intro w'
      go_simp
      with_reducible rfl
     rotate_left
     ·simp only [Act.put,List.setIfInBounds_toArray,List.set_cons_zero,List.set_cons_succ,i64_w,i32_w]
      rfl
     refine done_ (done_of HT_.out (by kernel_rfl)) ?_
     try go_wp2
     go_ret2
     exact ⟨by first | rfl | (simp [errW_none,errW_some] <;> rfl) | (simp [*,errW_none,errW_some] <;> rfl) | (simp [errW_none,errW_some];exact isEmpty_bne _),by repeat (first | (with_reducible first | exact HB.out | apply below_alloc | apply pw_below_drewN | apply below_drew1 | refine below_set ?_ GE129.out) | exact HB.out)⟩
    ·rw [if_neg c19] at H
     exact absurd H (by simp)
   ·rw [if_neg c17] at H
    exact absurd H (by simp)
 ·replace c3:=Bool.eq_false_iff.mpr c3
  subst c3
  have H1 : (some ((⟨#[]⟩ : ByteArray),1)) = some (r1,r2):=by rw [if_neg (show ¬ (false = true) by decide)] at H;exact H
  clear H
  have H:=H1
  clear H1
  simp only [Option.some.injEq,Prod.mk.injEq] at H
  obtain ⟨rfl,rfl⟩:=H
  go_enter Tryz.func97,Tryz.ntmps97
  go_wp2_with (first | ((with_reducible refine gate_dst (N:=1) rfl ?_);refine box_event ?hg (N:=1) ?hd (cs := #[.int .u64 a0_0,.string a0_1,.string a0_2,.bool a0_3]) (t:=50) ?hr ?_;(case hd => rfl);(case hg => rfl);(case hr => first | (go_simp;done) | (go_simp;rfl));intro gb129 hg w28 hbox hb;have n0_:=Aside0.mk (below_step (by repeat (first | (with_reducible first | exact HB.out | apply below_alloc | apply pw_below_drewN | apply below_drew1) | exact HB.out)) hb);have n1_:=Aside0.mk (hbox);have n2_:=Aside0.mk ((by rw [hg];exact (below_size (by repeat (first | (with_reducible first | exact HB.out | apply below_alloc | apply pw_below_drewN | apply below_drew1) | exact HB.out))) : w.heap.size ≤ gb129));have n3_:=Aside0.mk ((by rw [hg];exact (below_size (by repeat (first | (with_reducible first | exact HB.out | apply below_alloc | apply pw_below_drewN | apply below_drew1) | exact HB.out))) : w.heap.size ≤ gb129));clear HB;have HB:=n0_;have BK129:=n1_;have GW129:=n2_;have GE129:=n3_;clear n0_ n1_ n2_ n3_;clear hb hbox hg;have hcz29_0 : w28.cell? ⟨gb129,0,none⟩ = some (.int .u64 a0_0):=(blk_cell BK129.out 0).trans rfl;have hcz29_1 : w28.cell? ⟨gb129,1,none⟩ = some (.string a0_1):=(blk_cell BK129.out 1).trans rfl;have hcz29_2 : w28.cell? ⟨gb129,2,none⟩ = some (.string a0_2):=(blk_cell BK129.out 2).trans rfl;have hcz29_3 : w28.cell? ⟨gb129,3,none⟩ = some (.bool a0_3):=(blk_cell BK129.out 3).trans rfl;have hfz29_0:=blk_frozen BK129.out 0;have hfz29_1:=blk_frozen BK129.out 1;have hfz29_2:=blk_frozen BK129.out 2;have hfz29_3:=blk_frozen BK129.out 3) | ((with_reducible refine gate_callee (f:=141) rfl ?_);refine goesL_ (some 6) rfl rfl Tryz.func141 (by kernel_rfl) rfl #[.agg #[.int .u64 a0_0,.string a0_1,.string a0_2,.bool a0_3]] rfl (by (try simp only [List.map_toArray,List.map_cons,List.map_nil]);first | done | rfl | (simp only [List.length_drop,List.length_take];rfl)) ?_;(with_reducible refine (record_Right.calls k a0_0 a0_1 a0_2 a0_3 false _ A2.out).mono ?_);rintro e w30 ⟨rfl,hb⟩;refine ⟨_,rfl,?_⟩;have n0_:=Aside0.mk (blk_below (g:=gb129) (o := .cells #[.int .u64 a0_0,.string a0_1,.string a0_2,.bool a0_3] 50 (0,0)) (by (with_reducible repeat (first | refine blk_drewN ?_ _ | refine blk_drew ?_ | refine blk_alloc ?_ _));exact BK129.out) hb);have n1_:=Aside0.mk (below_step (by repeat (first | (with_reducible first | exact HB.out | apply below_alloc | apply pw_below_drewN | apply below_drew1 | refine below_set ?_ GE129.out) | exact HB.out)) hb);clear BK129;clear HB;have BK129:=n0_;have HB:=n1_;clear n0_ n1_;(try clear hb);(try clear hb2);(try clear hk);(try clear hi)))
  go_ret2
  exact ⟨by first | rfl | (simp [errW_none,errW_some] <;> rfl) | (simp [*,errW_none,errW_some] <;> rfl) | (simp [errW_none,errW_some];exact isEmpty_bne _),by repeat (first | (with_reducible first | exact HB.out | apply below_alloc | apply pw_below_drewN | apply below_drew1 | refine below_set ?_ GE129.out) | exact HB.out)⟩

/-! ### record_All: function 93 -/
def record_All.l0 : Nat → ByteArray → List (S50) → Int → Int → Option (ByteArray × Int)
 | 0,_,_,_,_ => none
 | k + 1,x4,x9,x10,x11 => if x11 < x10 then (if 0 ≤ x11 then (if x11 < (x9.length : Int) then ((record_Bytes.f k ((rd_T50 x9 x11).f0) ((rd_T50 x9 x11).f1) ((rd_T50 x9 x11).f2) ((rd_T50 x9 x11).f3)).bind fun bt138 => (if bt138.2 = 0 then (if x4.size + bt138.1.size ≤ 9223372036854775807 then (record_All.l0 k (x4 ++ bt138.1) x9 x10 (wrap64 (x11 + 1))) else (none)) else (some ((⟨#[]⟩ : ByteArray),bt138.2)))) else (none)) else (none)) else (some (x4,0))
def record_All.f (k : Nat) (l0 : List (S50)) : Option (ByteArray × Int):=record_All.l0 k (⟨#[]⟩ : ByteArray) l0 (l0.length : Int) 0
theorem record_All.mono_l : ∀ k,(∀ y0 y1 y2 y3,LeO (record_All.l0 k y0 y1 y2 y3) (record_All.l0 (k + 1) y0 y1 y2 y3))
 | 0 => fun _ _ _ _ r h => by simp [record_All.l0] at h
 | k + 1 => by
  have ih0:=record_All.mono_l k
  ·intro y0 y1 y2 y3
   unfold record_All.l0
   repeat' first
   | (with_reducible exact ih0 _ _ _ _)
   | (with_reducible exact record_Bytes.mono _ _ _ _ _)
   | (with_reducible exact LeO.refl _)
   | (with_reducible exact LeO.none _)
   | (with_reducible refine LeO.ite ?_ ?_)
   | (with_reducible refine LeO.bind ?_ (fun _ => ?_))
   | exact ih0 _ _ _ _
   | exact record_Bytes.mono _ _ _ _ _
   | exact LeO.none _
   | refine LeO.ite ?_ ?_
   | refine LeO.bind ?_ (fun _ => ?_)
theorem record_All.mono : ∀ a0 k,LeO (record_All.f k a0) (record_All.f (k + 1) a0):=by
 intro a0 k
 have ih0:=record_All.mono_l k
 unfold record_All.f
 repeat' first
   | (with_reducible exact ih0 _ _ _ _)
   | (with_reducible exact record_Bytes.mono _ _ _ _ _)
   | (with_reducible exact LeO.refl _)
   | (with_reducible exact LeO.none _)
   | (with_reducible refine LeO.ite ?_ ?_)
   | (with_reducible refine LeO.bind ?_ (fun _ => ?_))
   | exact ih0 _ _ _ _
   | exact record_Bytes.mono _ _ _ _ _
   | exact LeO.none _
   | refine LeO.ite ?_ ?_
   | refine LeO.bind ?_ (fun _ => ?_)
set_option maxHeartbeats 8000000 in
set_option maxRecDepth 100000 in
theorem record_All.calls (k : Nat) (A0 : Option Addr) (c0 : Nat) (l0 : List (S50)) (r1 : ByteArray) (r2 : Int) (w : World) (hr0 : Kd.C k50 w A0 l0.length l0) (hc0 : l0.length ≤ c0) (h : record_All.f k l0 = some (r1,r2)) :
  Calls Tryz.prog 93 #[.slice A0 l0.length c0] w fun e w' => e = .returned (.tuple #[.string r1,.int .i64 r2]) ∧ Below w.heap.size w w' := by
 have hu50:=Tryz.underlying50
 have HR0:=Aside0.mk hr0
 have HC0:=Aside0.mk hc0
 clear hr0 hc0
 have HB:=Aside0.mk (Below.refl w.heap.size w)
 have H : (record_All.l0 k (⟨#[]⟩ : ByteArray) l0 (l0.length : Int) 0) = some (r1,r2):=h
 clear h
 have H' := Aside0.mk H
 clear H
 go_enter Tryz.func93,Tryz.ntmps93
 go_wp2
 go_loopg [4,11] k (fun kq v4 v11 w' => ∃ (x4_1 : ByteArray) (x11_1 : Int),v4 = .string x4_1 ∧ v11 = .int .i64 x11_1 ∧ Aside0 (record_All.l0 kq x4_1 l0 (l0.length : Int) x11_1 = some (r1,r2)) ∧ Aside0 (kq ≤ k) ∧ Aside0 (Below w.heap.size w w'))
 case atStart => exact ⟨((⟨#[]⟩ : ByteArray)),(0),(by first | rfl | (simp;done) | (simp [*];done)),(by first | rfl | (simp;done) | (simp [*];done)),H',⟨Nat.le_refl _⟩,⟨by repeat (first | (with_reducible first | exact HB.out | apply below_alloc | apply pw_below_drewN | apply below_drew1) | exact HB.out)⟩⟩
 case round =>
  clear H'
  obtain ⟨x4_1,x11_1,rfl,rfl,HA,HK1,HB⟩:=hrel
  cases gk with
  | zero => exact absurd HA.out (by simp [record_All.l0])
  | succ k1 =>
   have H:=HA.out
   clear HA
   simp only [record_All.l0] at H
   by_cases c2 : x11_1 < (l0.length : Int)
   ·rw [if_pos c2] at H
    have c2b0 : decide (x11_1 < (l0.length : Int)) = true:=decide_eq_true c2
    clear c2
    by_cases c3 : 0 ≤ x11_1
    ·rw [if_pos c3] at H
     have c3b0 : decide (0 ≤ x11_1) = true:=decide_eq_true c3
     clear c3
     by_cases c4 : x11_1 < (l0.length : Int)
     ·rw [if_pos c4] at H
      have c4b0 : decide (x11_1 < (l0.length : Int)) = true:=decide_eq_true c4
      clear c4
      replace H:=Option.bind_eq_some_iff.mp H
      obtain ⟨⟨t138,t139⟩,A50,H⟩:=H
      replace H : (if t139 = 0 then (if x4_1.size + t138.size ≤ 9223372036854775807 then (record_All.l0 k1 (x4_1 ++ t138) l0 (l0.length : Int) (wrap64 (x11_1 + 1))) else (none)) else (some ((⟨#[]⟩ : ByteArray),t139))) = some (r1,r2):=H
      have A5:=Aside0.mk A50
      clear A50
      by_cases c6 : t139 = 0
      ·rw [if_pos c6] at H
       have c6b0 : (t139 == 0) = true:=beq_iff_eq.mpr c6
       have c6b1 : (t139 != 0) = false:=bne_eq_false_iff_eq.mpr c6
       clear c6
       by_cases c7 : x4_1.size + t138.size ≤ 9223372036854775807
       ·rw [if_pos c7] at H
        have c7b0:=eq_true c7
        have c7b1 : decide (x4_1.size + t138.size ≤ 9223372036854775807) = true:=decide_eq_true c7
        try have c7b2 : (9223372036854775807 < x4_1.size + t138.size) = False:=eq_false (Nat.not_lt.2 c7)
        have H' := Aside0.mk H
        clear H
        have p136 : 0 ≤ (x11_1 : Int):=of_decide_eq_true (by first | (with_reducible assumption) | assumption)
        have q136 : x11_1 < (l0.length : Int):=of_decide_eq_true (by first | (with_reducible assumption) | assumption)
        obtain ⟨ad136,e136,hx136_0,hx136_1,hx136_2,hx136_3⟩:=at_T50 HR0.out x11_1 p136 q136
        cases e136
        replace hx136_0:=(HB.out.cell (World.block_lt_of_cell? w _ hx136_0)).trans hx136_0
        replace hx136_1:=(HB.out.cell (World.block_lt_of_cell? w _ hx136_1)).trans hx136_1
        replace hx136_2:=(HB.out.cell (World.block_lt_of_cell? w _ hx136_2)).trans hx136_2
        replace hx136_3:=(HB.out.cell (World.block_lt_of_cell? w _ hx136_3)).trans hx136_3
        replace p136:=eq_true p136
        replace q136:=eq_true q136
        go_wp2_with (first | ((with_reducible refine gate_dst (N:=6) rfl ?_);refine box_event ?hg (N:=6) ?hd (cs := #[.int .u64 0,.string (⟨#[]⟩ : ByteArray),.string (⟨#[]⟩ : ByteArray),.bool false]) (t:=50) ?hr ?_;(case hd => rfl);(case hg => rfl);(case hr => first | (go_simp;done) | (go_simp;rfl));intro gb137 hg w8 hbox hb;have n0_:=Aside0.mk (below_step (by repeat (first | (with_reducible first | exact HB.out | apply below_alloc | apply pw_below_drewN | apply below_drew1) | exact HB.out)) hb);have n1_:=Aside0.mk (hbox);have n2_:=Aside0.mk ((by rw [hg];exact (below_size (by repeat (first | (with_reducible first | exact HB.out | apply below_alloc | apply pw_below_drewN | apply below_drew1) | exact HB.out))) : w.heap.size ≤ gb137));have n3_:=Aside0.mk ((by rw [hg];exact (below_size (by repeat (first | (with_reducible first | exact HB.out | apply below_alloc | apply pw_below_drewN | apply below_drew1) | exact HB.out))) : w.heap.size ≤ gb137));clear HB;have HB:=n0_;have BK137:=n1_;have GW137:=n2_;have GE137:=n3_;clear n0_ n1_ n2_ n3_;clear hb hbox hg;have hcz9_0 : w8.cell? ⟨gb137,0,none⟩ = some (.int .u64 0):=(blk_cell BK137.out 0).trans rfl;have hcz9_1 : w8.cell? ⟨gb137,1,none⟩ = some (.string (⟨#[]⟩ : ByteArray)):=(blk_cell BK137.out 1).trans rfl;have hcz9_2 : w8.cell? ⟨gb137,2,none⟩ = some (.string (⟨#[]⟩ : ByteArray)):=(blk_cell BK137.out 2).trans rfl;have hcz9_3 : w8.cell? ⟨gb137,3,none⟩ = some (.bool false):=(blk_cell BK137.out 3).trans rfl;have hfz9_0:=blk_frozen BK137.out 0;have hfz9_1:=blk_frozen BK137.out 1;have hfz9_2:=blk_frozen BK137.out 2;have hfz9_3:=blk_frozen BK137.out 3) | ((with_reducible refine gate_callee (f:=97) rfl ?_);refine goesL_ (some 17) rfl rfl Tryz.func97 (by kernel_rfl) rfl #[.agg #[.int .u64 ((rd_T50 l0 x11_1).f0),.string ((rd_T50 l0 x11_1).f1),.string ((rd_T50 l0 x11_1).f2),.bool ((rd_T50 l0 x11_1).f3)]] rfl (by (try simp only [List.map_toArray,List.map_cons,List.map_nil]);first | done | rfl | (simp only [List.length_drop,List.length_take];rfl)) ?_;(with_reducible refine (record_Bytes.calls k1 ((rd_T50 l0 x11_1).f0) ((rd_T50 l0 x11_1).f1) ((rd_T50 l0 x11_1).f2) ((rd_T50 l0 x11_1).f3) t138 t139 _ A5.out).mono ?_);rintro e w10 ⟨rfl,hb⟩;refine ⟨_,rfl,?_⟩;have n0_:=Aside0.mk (blk_below (g:=gb137) (o := .cells #[.int .u64 ((rd_T50 l0 x11_1).f0),.string ((rd_T50 l0 x11_1).f1),.string ((rd_T50 l0 x11_1).f2),.bool ((rd_T50 l0 x11_1).f3)] 50 (0,0)) (by (with_reducible repeat (first | refine blk_drewN ?_ _ | refine blk_drew ?_ | refine blk_alloc ?_ _));refine blk_put (cs := #[.int .u64 ((rd_T50 l0 x11_1).f0),.string ((rd_T50 l0 x11_1).f1),.string ((rd_T50 l0 x11_1).f2),.bool false]) ?_ 3 _ rfl;(with_reducible repeat (first | refine blk_drewN ?_ _ | refine blk_drew ?_ | refine blk_alloc ?_ _));refine blk_put (cs := #[.int .u64 ((rd_T50 l0 x11_1).f0),.string ((rd_T50 l0 x11_1).f1),.string (⟨#[]⟩ : ByteArray),.bool false]) ?_ 2 _ rfl;(with_reducible repeat (first | refine blk_drewN ?_ _ | refine blk_drew ?_ | refine blk_alloc ?_ _));refine blk_put (cs := #[.int .u64 ((rd_T50 l0 x11_1).f0),.string (⟨#[]⟩ : ByteArray),.string (⟨#[]⟩ : ByteArray),.bool false]) ?_ 1 _ rfl;(with_reducible repeat (first | refine blk_drewN ?_ _ | refine blk_drew ?_ | refine blk_alloc ?_ _));refine blk_put (cs := #[.int .u64 0,.string (⟨#[]⟩ : ByteArray),.string (⟨#[]⟩ : ByteArray),.bool false]) ?_ 0 _ rfl;(with_reducible repeat (first | refine blk_drewN ?_ _ | refine blk_drew ?_ | refine blk_alloc ?_ _));exact BK137.out) hb);have n1_:=Aside0.mk (below_step (by repeat (first | (with_reducible first | exact HB.out | apply below_alloc | apply pw_below_drewN | apply below_drew1 | refine below_set ?_ GE137.out) | exact HB.out)) hb);clear BK137;clear HB;have BK137:=n0_;have HB:=n1_;clear n0_ n1_;(try clear hb);(try clear hb2);(try clear hk);(try clear hi)))
        go_roundg k1
        case measure => have:=HK1.out;omega
        case rel => exact ⟨(x4_1 ++ t138),(wrap64 (x11_1 + 1)),(by first | rfl | (simp;done) | (simp [*];done)),(by first | rfl | (simp;done) | (simp [*];done)),H',⟨by have:=HK1.out;omega⟩,⟨by repeat (first | (with_reducible first | exact HB.out | apply below_alloc | apply pw_below_drewN | apply below_drew1 | refine below_set ?_ GE137.out) | exact HB.out)⟩⟩
       ·rw [if_neg c7] at H
        exact absurd H (by simp)
      ·rw [if_neg c6] at H
       have c6b0 : (t139 == 0) = false:=beq_eq_false_iff_ne.mpr c6
       have c6b1 : (t139 != 0) = true:=bne_iff_ne.mpr c6
       simp only [Option.some.injEq,Prod.mk.injEq] at H
       obtain ⟨rfl,rfl⟩:=H
       have p136 : 0 ≤ (x11_1 : Int):=of_decide_eq_true (by first | (with_reducible assumption) | assumption)
       have q136 : x11_1 < (l0.length : Int):=of_decide_eq_true (by first | (with_reducible assumption) | assumption)
       obtain ⟨ad136,e136,hx136_0,hx136_1,hx136_2,hx136_3⟩:=at_T50 HR0.out x11_1 p136 q136
       cases e136
       replace hx136_0:=(HB.out.cell (World.block_lt_of_cell? w _ hx136_0)).trans hx136_0
       replace hx136_1:=(HB.out.cell (World.block_lt_of_cell? w _ hx136_1)).trans hx136_1
       replace hx136_2:=(HB.out.cell (World.block_lt_of_cell? w _ hx136_2)).trans hx136_2
       replace hx136_3:=(HB.out.cell (World.block_lt_of_cell? w _ hx136_3)).trans hx136_3
       replace p136:=eq_true p136
       replace q136:=eq_true q136
       go_wp2_with (first | ((with_reducible refine gate_dst (N:=6) rfl ?_);refine box_event ?hg (N:=6) ?hd (cs := #[.int .u64 0,.string (⟨#[]⟩ : ByteArray),.string (⟨#[]⟩ : ByteArray),.bool false]) (t:=50) ?hr ?_;(case hd => rfl);(case hg => rfl);(case hr => first | (go_simp;done) | (go_simp;rfl));intro gb137 hg w11 hbox hb;have n0_:=Aside0.mk (below_step (by repeat (first | (with_reducible first | exact HB.out | apply below_alloc | apply pw_below_drewN | apply below_drew1) | exact HB.out)) hb);have n1_:=Aside0.mk (hbox);have n2_:=Aside0.mk ((by rw [hg];exact (below_size (by repeat (first | (with_reducible first | exact HB.out | apply below_alloc | apply pw_below_drewN | apply below_drew1) | exact HB.out))) : w.heap.size ≤ gb137));have n3_:=Aside0.mk ((by rw [hg];exact (below_size (by repeat (first | (with_reducible first | exact HB.out | apply below_alloc | apply pw_below_drewN | apply below_drew1) | exact HB.out))) : w.heap.size ≤ gb137));clear HB;have HB:=n0_;have BK137:=n1_;have GW137:=n2_;have GE137:=n3_;clear n0_ n1_ n2_ n3_;clear hb hbox hg;have hcz12_0 : w11.cell? ⟨gb137,0,none⟩ = some (.int .u64 0):=(blk_cell BK137.out 0).trans rfl;have hcz12_1 : w11.cell? ⟨gb137,1,none⟩ = some (.string (⟨#[]⟩ : ByteArray)):=(blk_cell BK137.out 1).trans rfl;have hcz12_2 : w11.cell? ⟨gb137,2,none⟩ = some (.string (⟨#[]⟩ : ByteArray)):=(blk_cell BK137.out 2).trans rfl;have hcz12_3 : w11.cell? ⟨gb137,3,none⟩ = some (.bool false):=(blk_cell BK137.out 3).trans rfl;have hfz12_0:=blk_frozen BK137.out 0;have hfz12_1:=blk_frozen BK137.out 1;have hfz12_2:=blk_frozen BK137.out 2;have hfz12_3:=blk_frozen BK137.out 3) | ((with_reducible refine gate_callee (f:=97) rfl ?_);refine goesL_ (some 17) rfl rfl Tryz.func97 (by kernel_rfl) rfl #[.agg #[.int .u64 ((rd_T50 l0 x11_1).f0),.string ((rd_T50 l0 x11_1).f1),.string ((rd_T50 l0 x11_1).f2),.bool ((rd_T50 l0 x11_1).f3)]] rfl (by (try simp only [List.map_toArray,List.map_cons,List.map_nil]);first | done | rfl | (simp only [List.length_drop,List.length_take];rfl)) ?_;(with_reducible refine (record_Bytes.calls k1 ((rd_T50 l0 x11_1).f0) ((rd_T50 l0 x11_1).f1) ((rd_T50 l0 x11_1).f2) ((rd_T50 l0 x11_1).f3) t138 t139 _ A5.out).mono ?_);rintro e w13 ⟨rfl,hb⟩;refine ⟨_,rfl,?_⟩;have n0_:=Aside0.mk (blk_below (g:=gb137) (o := .cells #[.int .u64 ((rd_T50 l0 x11_1).f0),.string ((rd_T50 l0 x11_1).f1),.string ((rd_T50 l0 x11_1).f2),.bool ((rd_T50 l0 x11_1).f3)] 50 (0,0)) (by (with_reducible repeat (first | refine blk_drewN ?_ _ | refine blk_drew ?_ | refine blk_alloc ?_ _));refine blk_put (cs := #[.int .u64 ((rd_T50 l0 x11_1).f0),.string ((rd_T50 l0 x11_1).f1),.string ((rd_T50 l0 x11_1).f2),.bool false]) ?_ 3 _ rfl;(with_reducible repeat (first | refine blk_drewN ?_ _ | refine blk_drew ?_ | refine blk_alloc ?_ _));refine blk_put (cs := #[.int .u64 ((rd_T50 l0 x11_1).f0),.string ((rd_T50 l0 x11_1).f1),.string (⟨#[]⟩ : ByteArray),.bool false]) ?_ 2 _ rfl;(with_reducible repeat (first | refine blk_drewN ?_ _ | refine blk_drew ?_ | refine blk_alloc ?_ _));refine blk_put (cs := #[.int .u64 ((rd_T50 l0 x11_1).f0),.string (⟨#[]⟩ : ByteArray),.string (⟨#[]⟩ : ByteArray),.bool false]) ?_ 1 _ rfl;(with_reducible repeat (first | refine blk_drewN ?_ _ | refine blk_drew ?_ | refine blk_alloc ?_ _));refine blk_put (cs := #[.int .u64 0,.string (⟨#[]⟩ : ByteArray),.string (⟨#[]⟩ : ByteArray),.bool false]) ?_ 0 _ rfl;(with_reducible repeat (first | refine blk_drewN ?_ _ | refine blk_drew ?_ | refine blk_alloc ?_ _));exact BK137.out) hb);have n1_:=Aside0.mk (below_step (by repeat (first | (with_reducible first | exact HB.out | apply below_alloc | apply pw_below_drewN | apply below_drew1 | refine below_set ?_ GE137.out) | exact HB.out)) hb);clear BK137;clear HB;have BK137:=n0_;have HB:=n1_;clear n0_ n1_;(try clear hb);(try clear hb2);(try clear hk);(try clear hi)))
       go_ret2
       exact ⟨by first | rfl | (simp [errW_none,errW_some] <;> rfl) | (simp [*,errW_none,errW_some] <;> rfl) | (simp [errW_none,errW_some];exact isEmpty_bne _),by repeat (first | (with_reducible first | exact HB.out | apply below_alloc | apply pw_below_drewN | apply below_drew1 | refine below_set ?_ GE137.out) | exact HB.out)⟩
     ·rw [if_neg c4] at H
      exact absurd H (by simp)
    ·rw [if_neg c3] at H
     exact absurd H (by simp)
   ·rw [if_neg c2] at H
    have c2b0 : decide (x11_1 < (l0.length : Int)) = false:=decide_eq_false c2
    clear c2
    simp only [Option.some.injEq,Prod.mk.injEq] at H
    obtain ⟨rfl,rfl⟩:=H
    go_wp2
    go_ret2
    exact ⟨by first | rfl | (simp [errW_none,errW_some] <;> rfl) | (simp [*,errW_none,errW_some] <;> rfl) | (simp [errW_none,errW_some];exact isEmpty_bne _),by repeat (first | (with_reducible first | exact HB.out | apply below_alloc | apply pw_below_drewN | apply below_drew1) | exact HB.out)⟩

-- NOT PRINTED: function 193 (crc_table)

/-! ### crc_More: function 167 -/
def zs256 : Array Value := (List.replicate 256 (Value.int .u32 0)).toArray
theorem zs256_zero (w : World) : (zeroValue 222).run Tryz.prog w = .ok (.agg zs256) w := by kernel_rfl
def crcStep (c : Int) : Int := Go.bits .xor .u32 (c / 2) (Go.bits .and .u32 2197175160 ((-(Go.bits .and .u32 c 1)) % 4294967296))
def iterI (f : Int → Int) : Nat → Int → Int
  | 0, x => x
  | n + 1, x => f (iterI f n x)
def crcOf (i : Nat) : Int := iterI crcStep 8 i
def tabL (k : Nat) : List Int := (List.range k).map crcOf ++ List.replicate (256 - k) 0
def tabA (k : Nat) : Array Value := ((tabL k).map (Value.int .u32)).toArray
theorem tabA_zero : tabA 0 = zs256 := by simp only [tabA, tabL, zs256, List.range_zero, List.map_nil, List.nil_append, Nat.sub_zero, List.map_replicate]
theorem tabA_at (k : Nat) (h : k < 256) : (tabA k)[k]? = some (.int .u32 0) := by
  simp [tabA, tabL, List.getElem?_append, List.getElem?_replicate]
  omega
theorem tabA_size (k : Nat) (h : k ≤ 256) : (tabA k).size = 256 := by simp [tabA, tabL]; omega
theorem tabA_set (k : Nat) (h : k < 256) : (tabA k).setIfInBounds k (.int .u32 (crcOf k)) = tabA (k + 1) := by
  apply Array.ext_getElem?
  intro i
  simp only [tabA, tabL, Array.getElem?_setIfInBounds, List.getElem?_toArray, List.size_toArray, List.length_map, List.length_append, List.length_range, List.length_replicate, List.getElem?_map, List.getElem?_append, List.getElem?_replicate]
  by_cases h1 : k = i
  · subst h1; simp; omega
  · rcases Nat.lt_or_ge i k with h2 | h2
    · simp [h1, h2, show i < k + 1 by omega, List.getElem?_range, show i < k from h2]
    · simp [h1, show ¬ i < k by omega, show ¬ i < k + 1 by omega, List.getElem?_range]
      split <;> split <;> first | rfl | omega
theorem tabA_one (k : Nat) : (tabA k).all (·.oneCell') = true := by
  rw [Array.all_eq_true_iff_forall_mem]
  intro v hv
  simp only [tabA, List.mem_toArray, List.mem_map] at hv
  obtain ⟨x, _, rfl⟩ := hv
  rfl
set_option maxHeartbeats 800000 in
set_option maxRecDepth 100000 in
theorem crc_table.calls (w : World) :
    Calls Tryz.prog 193 #[] w fun e w' => e = .returned (.agg (tabA 256)) ∧ Below w.heap.size w w' := by
  have hz := zs256_zero
  go_enter Tryz.func193, Tryz.ntmps193
  go_wp2
  go_loopw [4] (fun i wr => ∃ k : Nat, k ≤ 256 ∧ i = .int .i64 k ∧ wr = (w.alloc (.cells zs256 222)).alloc (.cells (tabA k) 222)) (fun i _ => 256 - (intOf i).toNat)
  case atStart => exact ⟨0, by omega, rfl, by rw [tabA_zero]⟩
  case round =>
    obtain ⟨k, hk, rfl, rfl⟩ := hrel
    by_cases hlt : k < 256
    · have hck := tabA_at k hlt
      go_wp2
      go_loop [9, 3] (fun j c => ∃ n : Nat, n ≤ 8 ∧ j = .int .i64 n ∧ c = .int .u32 (iterI crcStep n k)) (fun j _ => 8 - (intOf j).toNat)
      case atStart => exact ⟨0, by omega, rfl, rfl⟩
      case round =>
        obtain ⟨n, hn, rfl, rfl⟩ := hrel
        by_cases hlt2 : n < 8
        · go_wp2
          go_round
          case rel => exact ⟨n + 1, by omega, by go_num, rfl⟩
          case measure => simp [intOf]; omega
        · obtain rfl : n = 8 := by omega
          go_wp2
          refine ⟨⟨k + 1, by omega, by go_num, ?_⟩, ?_⟩
          · exact congrArg _ (congrArg (fun c => Obj.cells c 222) (tabA_set k hlt))
          · simp [intOf]; omega
    · obtain rfl : k = 256 := by omega
      have hg1 : ((w.alloc (.cells zs256 222)).alloc (.cells (tabA 256) 222)).heap[w.heap.size + 1]? = some (.cells (tabA 256) 222 (0, 0)) := by have := heap_alloc_new (w.alloc (.cells zs256 222)) (.cells (tabA 256) 222); rwa [World.size_alloc] at this
      have hg2 : ((w.alloc (.cells zs256 222)).alloc (.cells (tabA 256) 222)).heap[w.heap.size]? = some (.cells zs256 222 (0, 0)) := by simp [World.alloc, -World.alloc_eq, Array.getElem?_push]
      have hi : (Tryz.prog.info? 222).map (·.size) = some (tabA 256).size := by rw [tabA_size 256 (Nat.le_refl _)]; kernel_rfl
      have ho : zs256.size = (tabA 256).size := by rw [tabA_size 256 (Nat.le_refl _)]; rfl
      have h1 : (tabA 256).all (·.oneCell') = true := by
        rw [Array.all_eq_true_iff_forall_mem]
        intro v hv
        simp only [tabA, List.mem_toArray, List.mem_map] at hv
        obtain ⟨x, _, rfl⟩ := hv
        rfl
      have HB := Aside0.mk (below_setRow (B := w.heap.size) (g := w.heap.size) (((Below.refl _ _).alloc (Nat.le_refl _) (.cells zs256 222)).alloc (by simp) (.cells (tabA 256) 222)) (Nat.le_refl _) (tabA 256))
      have HG := Aside0.mk (setRow_heap _ _ _ (tabA 256) _ _ hg2)
      generalize hW : (w.alloc (.cells zs256 222)).alloc (.cells (tabA 256) 222) = W at hg1 hg2 HB HG ⊢
      clear hW
      go_wp2_with (first | (refine wpList_load_row rfl 222 _ rfl (w.heap.size + 1) rfl 222 (tabA 256) (0, 0) _ hg1 Tryz.underlying222 rfl hi ?_) | (refine wpList_store_row rfl 222 _ _ rfl w.heap.size (tabA 256) rfl rfl 222 zs256 hg2 hi ho h1 ?_))
      exact bodyPost_ret (v := .agg (tabA 256)) (results_cell_row rfl _ _ w.heap.size 222 (tabA 256) (0, 0) _ rfl HG.out Tryz.underlying222 rfl hi) rfl ⟨rfl, HB.out⟩

theorem xor8_range (a b : Int) (h0 : 0 ≤ a) (h1 : a < 256) (h2 : 0 ≤ b) (h3 : b < 256) : 0 ≤ Go.bits .xor .u8 a b ∧ Go.bits .xor .u8 a b < 256 := by
  rw [u8_xor a b h0 h1 h2 h3]
  have := Nat.xor_lt_two_pow (n := 8) (x := a.toNat) (y := b.toNat) (by omega) (by omega)
  omega
def crcNext (c : Int) (x : Int) : Int := Go.bits .xor .u32 (crcOf (Go.bits .xor .u8 (c % 256) x).toNat) (c / 256)
def moreL (l : List UInt8) (c : Int) : Int := l.foldl (fun c b => crcNext c (b.toNat : Int)) c
theorem below_bytesWorld {B : Nat} {w0 w : World} (h : Below B w0 w) (hB : B ≤ w.heap.size) (e : TypeId) (s : ByteArray) : Below B w0 (Lib.bytesWorld w e s) :=
  h.trans ⟨rfl, rfl, rfl, by rw [Lib.bytesWorld_size]; omega, fun k hk => Lib.bytesWorld_at_old w e s k (by omega)⟩
theorem moreL_take (b : ByteArray) (k : Nat) (h : k < b.size) (c : Int) : moreL (b.data.toList.take (k + 1)) c = crcNext (moreL (b.data.toList.take k) c) ((b.data.toList.getD k 0).toNat : Int) := by
  have hl : k < b.data.toList.length := by rw [← Lib.size_eq]; exact h
  rw [List.take_succ_eq_append_getElem hl, moreL, List.foldl_append, List.getD_eq_getElem?_getD, List.getElem?_eq_getElem hl]
  rfl
set_option maxHeartbeats 800000 in
set_option maxRecDepth 100000 in
theorem crc_More.calls0 (sum : Int) (b : ByteArray) (w : World) (hb : b.size ≤ 4611686018427387904) (r : Int) (hr : Go.bits .xor .u32 IntKind.u32.max (moreL b.data.toList (Go.bits .xor .u32 IntKind.u32.max sum)) = r) :
    Calls Tryz.prog 167 #[.int .u32 sum, .string b] w fun e w' => e = .returned (.int .u32 r) ∧ Below w.heap.size w w' := by
  have hz := zs256_zero
  have HR := Aside0.mk hr
  clear hr
  have hsg : IntKind.u32.signed = false := rfl
  go_enter Tryz.func167, Tryz.ntmps167
  go_wp2_with fail
  refine (crc_table.calls _).mono ?_
  rintro e w1 ⟨rfl, hb1⟩
  have hi : (Tryz.prog.info? 222).map (·.size) = some (tabA 256).size := by rw [tabA_size 256 (Nat.le_refl _)]; kernel_rfl
  have ho : zs256.size = (tabA 256).size := by rw [tabA_size 256 (Nat.le_refl _)]; rfl
  have h1 := tabA_one 256
  have hcv := fun W => Lib.run_convert_string_bytes (P := Tryz.prog) W 9 129 5 b Tryz.underlying9 Tryz.underlying129 Tryz.underlying5
  go_wp2_with (refine wpList_store_row rfl 222 _ _ rfl w1.heap.size (tabA 256) rfl rfl 222 zs256 (heap_alloc_new _ _) hi ho h1 ?_; rw [World.setRow_alloc_new]; clear hi ho h1)
  have hT : ∀ j : Nat, j < 256 → (Lib.bytesWorld (w1.alloc (.cells (tabA 256) 222)) 5 b).cell? ⟨w1.heap.size, j, none⟩ = some (.int .u32 (crcOf j)) := by
    intro j hj
    rw [Lib.bytesWorld_old _ _ _ _ (by simp), World.cell?, heap_alloc_new]
    simp [tabA, tabL, List.getElem?_append, hj]
  have hS : ∀ j : Nat, j < b.size → (Lib.bytesWorld (w1.alloc (.cells (tabA 256) 222)) 5 b).cell? ⟨w1.heap.size + 1, j, none⟩ = some (.int .u8 ((b.data.toList.getD j 0).toNat : Int)) := by
    intro j hj
    have := Lib.bytesWorld_cell (w1.alloc (.cells (tabA 256) 222)) 5 b j hj
    rwa [World.size_alloc] at this
  have HB := Aside0.mk (below_bytesWorld (hb1.alloc hb1.size (.cells (tabA 256) 222)) (by have := hb1.size; simp; omega) 5 b)
  generalize Lib.bytesWorld (w1.alloc (.cells (tabA 256) 222)) 5 b = W at hT hS HB ⊢
  generalize grownCap (w1.alloc (.cells (tabA 256) 222)) b.size 0 5 = cap
  have HT := Aside0.mk hT
  have HS := Aside0.mk hS
  clear hT hS hcv hz hb1
  go_loop [15, 6] (fun i c => ∃ k : Nat, k ≤ b.size ∧ i = .int .i64 k ∧ c = .int .u32 (moreL (b.data.toList.take k) (Go.bits .xor .u32 IntKind.u32.max sum))) (fun i _ => b.size - (intOf i).toNat)
  case atStart => exact ⟨0, by omega, rfl, rfl⟩
  case round =>
    obtain ⟨k, hk, rfl, rfl⟩ := hrel
    generalize hc : moreL (b.data.toList.take k) (Go.bits .xor .u32 IntKind.u32.max sum) = c
    have HC := Aside0.mk hc
    clear hc
    by_cases hlt : k < b.size
    · have hx := HS.out k hlt
      generalize hg : (((b.data.toList.getD k 0).toNat : Nat) : Int) = x at hx
      have HG := Aside0.mk hg
      have x0 : 0 ≤ x := by omega
      have x1 : x < 256 := by have := (b.data.toList.getD k 0).toNat_lt; omega
      clear hg
      have hi := xor8_range (c % 256) x (by omega) (by omega) x0 x1
      obtain ⟨i0, i1⟩ := hi
      have ht := HT.out (Go.bits .xor .u8 (c % 256) x).toNat (by omega)
      go_wp2
      go_round
      case rel => exact ⟨k + 1, by omega, by go_num, by rw [moreL_take b k hlt, HC.out, HG.out]; rfl⟩
      case measure => simp [intOf]; omega
    · go_wp2
      go_ret
      exact ⟨by rw [← HR.out, ← HC.out, List.take_of_length_le (by rw [← Lib.size_eq]; omega)]; rfl, HB.out⟩
/-- More, in words: the check is turned round, goes on byte by byte, and is turned round again. -/
def crc_More.f (a0 : Int) (a1 : ByteArray) : Option Int := if a1.size ≤ 4611686018427387904 then some (Go.bits .xor .u32 IntKind.u32.max (moreL a1.data.toList (Go.bits .xor .u32 IntKind.u32.max a0))) else none
theorem crc_More.calls (a0 : Int) (a1 : ByteArray) (r : Int) (w : World) (h : crc_More.f a0 a1 = some r) :
    Calls Tryz.prog 167 #[.int .u32 a0, .string a1] w fun e w' => e = .returned (.int .u32 r) ∧ Below w.heap.size w w' := by
  unfold crc_More.f at h
  by_cases hz : a1.size ≤ 4611686018427387904
  case neg => rw [if_neg hz] at h; exact absurd h (by simp)
  rw [if_pos hz] at h
  exact crc_More.calls0 a0 a1 w hz r (Option.some.inj h)

/-! ### crc_Sum: function 139 -/
def crc_Sum.f (a0 : ByteArray) : Option (Int):=(crc_More.f 0 a0).bind fun t140 => (some t140)
set_option maxHeartbeats 8000000 in
set_option maxRecDepth 100000 in
theorem crc_Sum.calls (a0 : ByteArray) (r : Int) (w : World) (h : crc_Sum.f a0 = some r) :
  Calls Tryz.prog 139 #[.string a0] w fun e w' => e = .returned (.int .u32 r) ∧ Below w.heap.size w w' := by
 have HB:=Aside0.mk (Below.refl w.heap.size w)
 have H : ((crc_More.f 0 a0).bind fun t140 => (some t140)) = some r:=h
 clear h
 replace H:=Option.bind_eq_some_iff.mp H
 obtain ⟨t140,A20,H⟩:=H
 replace H : (some t140) = some r:=H
 have A2:=Aside0.mk A20
 clear A20
 obtain rfl:=Option.some.inj H
 go_enter Tryz.func139,Tryz.ntmps139
 go_wp2_with (first | ((with_reducible refine gate_callee (f:=167) rfl ?_);refine goesL_ (some 4) rfl rfl Tryz.func167 (by kernel_rfl) rfl #[.int .u32 0,.string a0] rfl (by (try simp only [List.map_toArray,List.map_cons,List.map_nil]);first | done | rfl | (simp only [List.length_drop,List.length_take];rfl)) ?_;(with_reducible refine (crc_More.calls 0 a0 t140 _ A2.out).mono ?_);rintro e w3 ⟨rfl,hb⟩;refine ⟨_,rfl,?_⟩;have n0_:=Aside0.mk (below_step (by repeat (first | (with_reducible first | exact HB.out | apply below_alloc | apply pw_below_drewN | apply below_drew1) | exact HB.out)) hb);clear HB;have HB:=n0_;clear n0_;(try clear hb);(try clear hb2);(try clear hk);(try clear hi)))
 go_ret
 exact ⟨by first | rfl | (simp [errW_none,errW_some] <;> rfl) | (simp [*,errW_none,errW_some] <;> rfl) | (simp [errW_none,errW_some];exact isEmpty_bne _),by repeat (first | (with_reducible first | exact HB.out | apply below_alloc | apply pw_below_drewN | apply below_drew1) | exact HB.out)⟩

/-! ### crc_Seal: function 95 -/
def seal4 (n : Int) : List Int := [n % 256, n / 256 % 256, n / 65536 % 256, n / 16777216 % 256]
def crc_Seal.f (a0 : ByteArray) : Option ByteArray := (crc_Sum.f a0).bind fun n => if a0.size ≤ 4611686018427387904 then some (strOfNums (seal4 n) ++ a0) else none
set_option maxHeartbeats 800000 in
theorem crc_Seal.calls (a0 : ByteArray) (r : ByteArray) (w : World) (h : crc_Seal.f a0 = some r) :
    Calls Tryz.prog 95 #[.string a0] w fun e w' => e = .returned (.string r) ∧ Below w.heap.size w w' := by
  obtain ⟨n, h1, h2⟩ := Option.bind_eq_some_iff.mp h
  clear h
  by_cases hz : a0.size ≤ 4611686018427387904
  case neg => rw [if_neg hz] at h2; exact absurd h2 (by simp)
  rw [if_pos hz] at h2
  have HR := Aside0.mk (Option.some.inj h2)
  have H1 := Aside0.mk h1
  have hs : (strOfNums (seal4 n)).size = 4 := by simp [strOfNums, seal4, ByteArray.size]
  have hd : decide ((strOfNums (seal4 n)).size + a0.size ≤ 9223372036854775807) = true := by rw [hs]; simp; omega
  have hs4 : (strOfNums (seal4 n)).size ≤ 4 := by omega
  clear h1 h2 hs
  go_enter Tryz.func95, Tryz.ntmps95
  go_wp2_with fail
  refine (crc_Sum.calls a0 n _ H1.out).mono ?_
  rintro e w1 ⟨rfl, hb⟩
  go_wp2
  go_loopw [8] (fun i wr => (i = .int .i64 0 ∧ wr = w1.alloc (.cells #[.int .u8 0, .int .u8 0, .int .u8 0, .int .u8 0] 169)) ∨ (i = .int .i64 1 ∧ wr = w1.alloc (.cells #[.int .u8 (n % 256), .int .u8 0, .int .u8 0, .int .u8 0] 169))
    ∨ (i = .int .i64 2 ∧ wr = w1.alloc (.cells #[.int .u8 (n % 256), .int .u8 (n / 256 % 256), .int .u8 0, .int .u8 0] 169)) ∨ (i = .int .i64 3 ∧ wr = w1.alloc (.cells #[.int .u8 (n % 256), .int .u8 (n / 256 % 256), .int .u8 (n / 65536 % 256), .int .u8 0] 169))
    ∨ (i = .int .i64 4 ∧ wr = w1.alloc (.cells #[.int .u8 (n % 256), .int .u8 (n / 256 % 256), .int .u8 (n / 65536 % 256), .int .u8 (n / 16777216 % 256)] 169))) (fun i _ => 4 - (intOf i).toNat)
  case atStart => exact .inl ⟨rfl, rfl⟩
  case round =>
    rcases hrel with ⟨rfl, rfl⟩ | ⟨rfl, rfl⟩ | ⟨rfl, rfl⟩ | ⟨rfl, rfl⟩ | ⟨rfl, rfl⟩
    · go_wp2
      exact ⟨.inr (.inl ⟨rfl, by first | rfl | trivial⟩), by simp [intOf]⟩
    · go_wp2
      exact ⟨.inr (.inr (.inl ⟨rfl, by first | rfl | trivial⟩)), by simp [intOf]⟩
    · go_wp2
      exact ⟨.inr (.inr (.inr (.inl ⟨rfl, by first | rfl | trivial⟩))), by simp [intOf]⟩
    · go_wp2
      exact ⟨.inr (.inr (.inr (.inr ⟨rfl, by first | rfl | trivial⟩))), by simp [intOf]⟩
    · have hcv := run_convert_bytes_arg (P := Tryz.prog) (w1.alloc (.cells #[.int .u8 (n % 256), .int .u8 (n / 256 % 256), .int .u8 (n / 65536 % 256), .int .u8 (n / 16777216 % 256)] 169)) 129 5 Tryz.underlying129 Tryz.underlying5 w1.heap.size 0 4 4 (seal4 n) rfl
        (fun i hi => by
          rw [World.cell?, heap_alloc_new]
          match i, hi with
          | 0, _ => rfl
          | 1, _ => rfl
          | 2, _ => rfl
          | 3, _ => rfl) 9 Tryz.underlying9
      go_wp2
      go_ret
      exact ⟨by rw [HR.out]; rfl, hb.alloc hb.size _⟩

/-! ### frame_Bytes: function 58 -/
def frame_Bytes.f (k : Nat) (l0 : List (S50)) : Option (ByteArray × Int):=(frame_fits.f (l0.length : Int)).bind fun t141 => (if t141 = true then ((record_All.f k l0).bind fun bt142 => (if bt142.2 = 0 then ((crc_Seal.f bt142.1).bind fun t144 => ((varint_Text.f t144).bind fun t145 => (some (t145,0)))) else (some ((⟨#[]⟩ : ByteArray),bt142.2)))) else (some ((⟨#[]⟩ : ByteArray),1)))
theorem frame_Bytes.mono : ∀ a0 k,LeO (frame_Bytes.f k a0) (frame_Bytes.f (k + 1) a0):=by
 intro a0 k
 unfold frame_Bytes.f
 repeat' first
   | (with_reducible exact record_All.mono _ _)
   | (with_reducible exact LeO.refl _)
   | (with_reducible exact LeO.none _)
   | (with_reducible refine LeO.ite ?_ ?_)
   | (with_reducible refine LeO.bind ?_ (fun _ => ?_))
   | exact record_All.mono _ _
   | exact LeO.none _
   | refine LeO.ite ?_ ?_
   | refine LeO.bind ?_ (fun _ => ?_)
set_option maxHeartbeats 8000000 in
set_option maxRecDepth 100000 in
theorem frame_Bytes.calls (k : Nat) (A0 : Option Addr) (c0 : Nat) (l0 : List (S50)) (r1 : ByteArray) (r2 : Int) (w : World) (hr0 : Kd.C k50 w A0 l0.length l0) (hc0 : l0.length ≤ c0) (h : frame_Bytes.f k l0 = some (r1,r2)) :
  Calls Tryz.prog 58 #[.slice A0 l0.length c0] w fun e w' => e = .returned (.tuple #[.string r1,.int .i64 r2]) ∧ Below w.heap.size w w' := by
 have HR0:=Aside0.mk hr0
 have HC0:=Aside0.mk hc0
 clear hr0 hc0
 have HB:=Aside0.mk (Below.refl w.heap.size w)
 have H : ((frame_fits.f (l0.length : Int)).bind fun t141 => (if t141 = true then ((record_All.f k l0).bind fun bt142 => (if bt142.2 = 0 then ((crc_Seal.f bt142.1).bind fun t144 => ((varint_Text.f t144).bind fun t145 => (some (t145,0)))) else (some ((⟨#[]⟩ : ByteArray),bt142.2)))) else (some ((⟨#[]⟩ : ByteArray),1)))) = some (r1,r2):=h
 clear h
 replace H:=Option.bind_eq_some_iff.mp H
 obtain ⟨t141,A20,H⟩:=H
 replace H : (if t141 = true then ((record_All.f k l0).bind fun bt142 => (if bt142.2 = 0 then ((crc_Seal.f bt142.1).bind fun t144 => ((varint_Text.f t144).bind fun t145 => (some (t145,0)))) else (some ((⟨#[]⟩ : ByteArray),bt142.2)))) else (some ((⟨#[]⟩ : ByteArray),1))) = some (r1,r2):=H
 have A2:=Aside0.mk A20
 clear A20
 by_cases c3 : t141 = true
 ·subst c3
  have H1 : ((record_All.f k l0).bind fun bt142 => (if bt142.2 = 0 then ((crc_Seal.f bt142.1).bind fun t144 => ((varint_Text.f t144).bind fun t145 => (some (t145,0)))) else (some ((⟨#[]⟩ : ByteArray),bt142.2)))) = some (r1,r2):=by rw [if_pos rfl] at H;exact H
  clear H
  have H:=H1
  clear H1
  replace H:=Option.bind_eq_some_iff.mp H
  obtain ⟨⟨t142,t143⟩,A40,H⟩:=H
  replace H : (if t143 = 0 then ((crc_Seal.f t142).bind fun t144 => ((varint_Text.f t144).bind fun t145 => (some (t145,0)))) else (some ((⟨#[]⟩ : ByteArray),t143))) = some (r1,r2):=H
  have A4:=Aside0.mk A40
  clear A40
  by_cases c5 : t143 = 0
  ·rw [if_pos c5] at H
   have c5b0 : (t143 == 0) = true:=beq_iff_eq.mpr c5
   have c5b1 : (t143 != 0) = false:=bne_eq_false_iff_eq.mpr c5
   clear c5
   replace H:=Option.bind_eq_some_iff.mp H
   obtain ⟨t144,A60,H⟩:=H
   replace H : ((varint_Text.f t144).bind fun t145 => (some (t145,0))) = some (r1,r2):=H
   have A6:=Aside0.mk A60
   clear A60
   replace H:=Option.bind_eq_some_iff.mp H
   obtain ⟨t145,A70,H⟩:=H
   replace H : (some (t145,0)) = some (r1,r2):=H
   have A7:=Aside0.mk A70
   clear A70
   simp only [Option.some.injEq,Prod.mk.injEq] at H
   obtain ⟨rfl,rfl⟩:=H
   go_enter Tryz.func58,Tryz.ntmps58
   go_wp2_with (first | ((with_reducible refine gate_callee (f:=92) rfl ?_);refine goesL_ (some 8) rfl rfl Tryz.func92 (by kernel_rfl) rfl #[.int .i64 (l0.length : Int)] rfl (by (try simp only [List.map_toArray,List.map_cons,List.map_nil]);first | done | rfl | (simp only [List.length_drop,List.length_take];rfl)) ?_;(with_reducible refine (frame_fits.calls (l0.length : Int) true _ A2.out).mono ?_);rintro e w' ⟨rfl,⟨nd,rfl⟩⟩;refine ⟨_,rfl,?_⟩) | ((with_reducible refine gate_callee (f:=93) rfl ?_);refine goesL_ (some 12) rfl rfl Tryz.func93 (by kernel_rfl) rfl #[.slice A0 l0.length c0] rfl (by (try simp only [List.map_toArray,List.map_cons,List.map_nil]);first | done | rfl | (simp only [List.length_drop,List.length_take];rfl)) ?_;(with_reducible refine (record_All.calls k _ _ l0 t142 t143 _ ?side1 ?side2 A4.out).mono ?_);(case side1 => repeat (first | exact HR0.out | (with_reducible refine Kd.C_alloc ?_ _) | (with_reducible refine Kd.C_drewN ?_ _) | (with_reducible refine Kd.C_drew ?_)));(case side2 => exact HC0.out);rintro e w8 ⟨rfl,hb⟩;refine ⟨_,rfl,?_⟩;have n0_:=Aside0.mk (below_step (by repeat (first | (with_reducible first | exact HB.out | apply below_alloc | apply pw_below_drewN | apply below_drew1) | exact HB.out)) hb);clear HB;have HB:=n0_;clear n0_;(try clear hb);(try clear hb2);(try clear hk);(try clear hi)) | ((with_reducible refine gate_callee (f:=95) rfl ?_);refine goesL_ (some 19) rfl rfl Tryz.func95 (by kernel_rfl) rfl #[.string t142] rfl (by (try simp only [List.map_toArray,List.map_cons,List.map_nil]);first | done | rfl | (simp only [List.length_drop,List.length_take];rfl)) ?_;(with_reducible refine (crc_Seal.calls t142 t144 _ A6.out).mono ?_);rintro e w9 ⟨rfl,hb⟩;refine ⟨_,rfl,?_⟩;have n0_:=Aside0.mk (below_step (by repeat (first | (with_reducible first | exact HB.out | apply below_alloc | apply pw_below_drewN | apply below_drew1) | exact HB.out)) hb);clear HB;have HB:=n0_;clear n0_;(try clear hb);(try clear hb2);(try clear hk);(try clear hi)) | ((with_reducible refine gate_callee (f:=94) rfl ?_);refine goesL_ (some 20) rfl rfl Tryz.func94 (by kernel_rfl) rfl #[.string t144] rfl (by (try simp only [List.map_toArray,List.map_cons,List.map_nil]);first | done | rfl | (simp only [List.length_drop,List.length_take];rfl)) ?_;(with_reducible refine (varint_Text.calls t144 t145 _ A7.out).mono ?_);rintro e w10 ⟨rfl,hb⟩;refine ⟨_,rfl,?_⟩;have n0_:=Aside0.mk (below_step (by repeat (first | (with_reducible first | exact HB.out | apply below_alloc | apply pw_below_drewN | apply below_drew1) | exact HB.out)) hb);clear HB;have HB:=n0_;clear n0_;(try clear hb);(try clear hb2);(try clear hk);(try clear hi)))
   go_ret2
   exact ⟨by first | rfl | (simp [errW_none,errW_some] <;> rfl) | (simp [*,errW_none,errW_some] <;> rfl) | (simp [errW_none,errW_some];exact isEmpty_bne _),by repeat (first | (with_reducible first | exact HB.out | apply below_alloc | apply pw_below_drewN | apply below_drew1) | exact HB.out)⟩
  ·rw [if_neg c5] at H
   have c5b0 : (t143 == 0) = false:=beq_eq_false_iff_ne.mpr c5
   have c5b1 : (t143 != 0) = true:=bne_iff_ne.mpr c5
   simp only [Option.some.injEq,Prod.mk.injEq] at H
   obtain ⟨rfl,rfl⟩:=H
   go_enter Tryz.func58,Tryz.ntmps58
   go_wp2_with (first | ((with_reducible refine gate_callee (f:=92) rfl ?_);refine goesL_ (some 8) rfl rfl Tryz.func92 (by kernel_rfl) rfl #[.int .i64 (l0.length : Int)] rfl (by (try simp only [List.map_toArray,List.map_cons,List.map_nil]);first | done | rfl | (simp only [List.length_drop,List.length_take];rfl)) ?_;(with_reducible refine (frame_fits.calls (l0.length : Int) true _ A2.out).mono ?_);rintro e w' ⟨rfl,⟨nd,rfl⟩⟩;refine ⟨_,rfl,?_⟩) | ((with_reducible refine gate_callee (f:=93) rfl ?_);refine goesL_ (some 12) rfl rfl Tryz.func93 (by kernel_rfl) rfl #[.slice A0 l0.length c0] rfl (by (try simp only [List.map_toArray,List.map_cons,List.map_nil]);first | done | rfl | (simp only [List.length_drop,List.length_take];rfl)) ?_;(with_reducible refine (record_All.calls k _ _ l0 t142 t143 _ ?side1 ?side2 A4.out).mono ?_);(case side1 => repeat (first | exact HR0.out | (with_reducible refine Kd.C_alloc ?_ _) | (with_reducible refine Kd.C_drewN ?_ _) | (with_reducible refine Kd.C_drew ?_)));(case side2 => exact HC0.out);rintro e w11 ⟨rfl,hb⟩;refine ⟨_,rfl,?_⟩;have n0_:=Aside0.mk (below_step (by repeat (first | (with_reducible first | exact HB.out | apply below_alloc | apply pw_below_drewN | apply below_drew1) | exact HB.out)) hb);clear HB;have HB:=n0_;clear n0_;(try clear hb);(try clear hb2);(try clear hk);(try clear hi)))
   go_ret2
   exact ⟨by first | rfl | (simp [errW_none,errW_some] <;> rfl) | (simp [*,errW_none,errW_some] <;> rfl) | (simp [errW_none,errW_some];exact isEmpty_bne _),by repeat (first | (with_reducible first | exact HB.out | apply below_alloc | apply pw_below_drewN | apply below_drew1) | exact HB.out)⟩
 ·replace c3:=Bool.eq_false_iff.mpr c3
  subst c3
  have H1 : (some ((⟨#[]⟩ : ByteArray),1)) = some (r1,r2):=by rw [if_neg (show ¬ (false = true) by decide)] at H;exact H
  clear H
  have H:=H1
  clear H1
  simp only [Option.some.injEq,Prod.mk.injEq] at H
  obtain ⟨rfl,rfl⟩:=H
  go_enter Tryz.func58,Tryz.ntmps58
  go_wp2_with (first | ((with_reducible refine gate_callee (f:=92) rfl ?_);refine goesL_ (some 8) rfl rfl Tryz.func92 (by kernel_rfl) rfl #[.int .i64 (l0.length : Int)] rfl (by (try simp only [List.map_toArray,List.map_cons,List.map_nil]);first | done | rfl | (simp only [List.length_drop,List.length_take];rfl)) ?_;(with_reducible refine (frame_fits.calls (l0.length : Int) false _ A2.out).mono ?_);rintro e w' ⟨rfl,⟨nd,rfl⟩⟩;refine ⟨_,rfl,?_⟩))
  go_ret2
  exact ⟨by first | rfl | (simp [errW_none,errW_some] <;> rfl) | (simp [*,errW_none,errW_some] <;> rfl) | (simp [errW_none,errW_some];exact isEmpty_bne _),by repeat (first | (with_reducible first | exact HB.out | apply below_alloc | apply pw_below_drewN | apply below_drew1) | exact HB.out)⟩

end Go.Proofs.YthndpknocofioaaGreatDoor.Print
