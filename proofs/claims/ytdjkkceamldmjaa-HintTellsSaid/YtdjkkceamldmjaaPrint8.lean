/- Written by a program of mine (give.py, over the kit's print) out of the translation: contracts of the Go functions. Lean checks it. -/
import Derived.Test.YtdjkkceamldmjaaPrint0
import Derived.Test.YtdjkkceamldmjaaPrint4
import Derived.Test.YtdjkkceamldmjaaPrint7
namespace Go.Proofs.Ytdjkkceamldmjaa.Print
open Go.RowKit Go.Proofs.YtdjkkceamldmjaaW.PrintWords Go.Proofs.YtdjkkceamldmjaaW.PrintLast Go.Proofs.YtdjkkceamldmjaaW.PrintMore
attribute [local go_sem] max2_int min2_int max_two min_two max_three min_three max_four min_four   -- for this text's walks alone
set_option linter.unusedVariables false
set_option linter.unusedSimpArgs false

/-! ### record_Bytes: function 39 -/
def record_Bytes.f (k : Nat) (a0_0 : Int) (a0_1 : ByteArray) (a0_2 : ByteArray) (a0_3 : Bool) : Option (ByteArray × Int):=(record_Right.f k a0_0 a0_1 a0_2 a0_3).bind fun t139 => (if t139 = true then (if a0_3 = true then ((varint_Put.f (Go.bits .or .u64 (IntKind.u64.wrap (a0_0 * 2)) 1)).bind fun t140 => ((varint_Text.f a0_1).bind fun t141 => (if t140.size + t141.size ≤ 9223372036854775807 then (some (t140 ++ t141,0)) else (none)))) else ((varint_Put.f (IntKind.u64.wrap (a0_0 * 2))).bind fun t142 => ((varint_Text.f a0_1).bind fun t143 => (if t142.size + t143.size ≤ 9223372036854775807 then ((varint_Text.f a0_2).bind fun t144 => (if t142.size + t143.size + t144.size ≤ 9223372036854775807 then (some ((t142 ++ t143) ++ t144,0)) else (none))) else (none))))) else (some ((⟨#[]⟩ : ByteArray),1)))
theorem record_Bytes.mono : ∀ a0 a1 a2 a3 k,LeO (record_Bytes.f k a0 a1 a2 a3) (record_Bytes.f (k + 1) a0 a1 a2 a3):=by
 intro a0 a1 a2 a3 k
 unfold record_Bytes.f
 repeat' first
   | (with_reducible exact record_Right.mono _ _ _ _ _)
   | (with_reducible exact LeO.refl _)
   | (with_reducible exact LeO.none _)
   | (with_reducible refine LeO.ite ?_ ?_)
   | (with_reducible refine LeO.bind ?_ (fun _ => ?_))
   | exact record_Right.mono _ _ _ _ _
   | exact LeO.none _
   | refine LeO.ite ?_ ?_
   | refine LeO.bind ?_ (fun _ => ?_)
def record_Bytes.T5 : Bool × List (List Nat × List Nat):=(true,[([],[]),([0],[0]),([1],[1]),([],[]),([3],[3]),([4,2],[4]),([2,5],[2,5]),([6,5,0,1,2,3,4,5,6],[6]),([7,0,1,2,3,4,5,6,7],[])])
def record_Bytes.B5 : List Nat:=[0,1,3,0,8,31,63,127,255]
theorem record_Bytes.tab5 : rtab .any (opsOf Try.f39 5) = record_Bytes.T5:=by kernel_rfl
theorem record_Bytes.bits5 : waitsOk record_Bytes.T5.2 record_Bytes.B5 = true:=by kernel_rfl
def record_Bytes.T6 : Bool × List (List Nat × List Nat):=(true,[([],[]),([0],[0]),([],[]),([2],[2]),([3,1],[3]),([1,4],[1,4]),([],[]),([6],[6]),([7,4],[7]),([5,8],[5,8]),([9,8,0,1,2,3,4,5,6,7,8,9],[9]),([10,0,1,2,3,4,5,6,7,8,9,10],[])])
def record_Bytes.B6 : List Nat:=[0,1,0,4,15,31,0,64,223,511,1023,2047]
theorem record_Bytes.tab6 : rtab .any (opsOf Try.f39 6) = record_Bytes.T6:=by kernel_rfl
theorem record_Bytes.bits6 : waitsOk record_Bytes.T6.2 record_Bytes.B6 = true:=by kernel_rfl
set_option maxHeartbeats 8000000 in
set_option maxRecDepth 100000 in
theorem record_Bytes.calls (k : Nat) (a0_0 : Int) (a0_1 : ByteArray) (a0_2 : ByteArray) (a0_3 : Bool) (r1 : ByteArray) (r2 : Int) (w : World) (h : record_Bytes.f k a0_0 a0_1 a0_2 a0_3 = some (r1,r2)) :
  Calls Try.prog 39 #[.agg #[.int .u64 a0_0,.string a0_1,.string a0_2,.bool a0_3]] w fun e w' => e = .returned (.tuple #[.string r1,.int .i64 r2]) ∧ Below w.heap.size w w' := by
 have hu45:=Try.underlying45
 have HB:=Aside0.mk (Below.refl w.heap.size w)
 have H : ((record_Right.f k a0_0 a0_1 a0_2 a0_3).bind fun t139 => (if t139 = true then (if a0_3 = true then ((varint_Put.f (Go.bits .or .u64 (IntKind.u64.wrap (a0_0 * 2)) 1)).bind fun t140 => ((varint_Text.f a0_1).bind fun t141 => (if t140.size + t141.size ≤ 9223372036854775807 then (some (t140 ++ t141,0)) else (none)))) else ((varint_Put.f (IntKind.u64.wrap (a0_0 * 2))).bind fun t142 => ((varint_Text.f a0_1).bind fun t143 => (if t142.size + t143.size ≤ 9223372036854775807 then ((varint_Text.f a0_2).bind fun t144 => (if t142.size + t143.size + t144.size ≤ 9223372036854775807 then (some ((t142 ++ t143) ++ t144,0)) else (none))) else (none))))) else (some ((⟨#[]⟩ : ByteArray),1)))) = some (r1,r2):=h
 clear h
 replace H:=Option.bind_eq_some_iff.mp H
 obtain ⟨t139,A20,H⟩:=H
 replace H : (if t139 = true then (if a0_3 = true then ((varint_Put.f (Go.bits .or .u64 (IntKind.u64.wrap (a0_0 * 2)) 1)).bind fun t140 => ((varint_Text.f a0_1).bind fun t141 => (if t140.size + t141.size ≤ 9223372036854775807 then (some (t140 ++ t141,0)) else (none)))) else ((varint_Put.f (IntKind.u64.wrap (a0_0 * 2))).bind fun t142 => ((varint_Text.f a0_1).bind fun t143 => (if t142.size + t143.size ≤ 9223372036854775807 then ((varint_Text.f a0_2).bind fun t144 => (if t142.size + t143.size + t144.size ≤ 9223372036854775807 then (some ((t142 ++ t143) ++ t144,0)) else (none))) else (none))))) else (some ((⟨#[]⟩ : ByteArray),1))) = some (r1,r2):=H
 have A2:=Aside0.mk A20
 clear A20
 by_cases c3 : t139 = true
 ·subst c3
  have H1 : (if a0_3 = true then ((varint_Put.f (Go.bits .or .u64 (IntKind.u64.wrap (a0_0 * 2)) 1)).bind fun t140 => ((varint_Text.f a0_1).bind fun t141 => (if t140.size + t141.size ≤ 9223372036854775807 then (some (t140 ++ t141,0)) else (none)))) else ((varint_Put.f (IntKind.u64.wrap (a0_0 * 2))).bind fun t142 => ((varint_Text.f a0_1).bind fun t143 => (if t142.size + t143.size ≤ 9223372036854775807 then ((varint_Text.f a0_2).bind fun t144 => (if t142.size + t143.size + t144.size ≤ 9223372036854775807 then (some ((t142 ++ t143) ++ t144,0)) else (none))) else (none))))) = some (r1,r2):=by rw [if_pos rfl] at H;exact H
  clear H
  have H:=H1
  clear H1
  by_cases c4 : a0_3 = true
  ·subst c4
   have H1 : ((varint_Put.f (Go.bits .or .u64 (IntKind.u64.wrap (a0_0 * 2)) 1)).bind fun t140 => ((varint_Text.f a0_1).bind fun t141 => (if t140.size + t141.size ≤ 9223372036854775807 then (some (t140 ++ t141,0)) else (none)))) = some (r1,r2):=by rw [if_pos rfl] at H;exact H
   clear H
   have H:=H1
   clear H1
   replace H:=Option.bind_eq_some_iff.mp H
   obtain ⟨t140,A50,H⟩:=H
   replace H : ((varint_Text.f a0_1).bind fun t141 => (if t140.size + t141.size ≤ 9223372036854775807 then (some (t140 ++ t141,0)) else (none))) = some (r1,r2):=H
   have A5:=Aside0.mk A50
   clear A50
   replace H:=Option.bind_eq_some_iff.mp H
   obtain ⟨t141,A60,H⟩:=H
   replace H : (if t140.size + t141.size ≤ 9223372036854775807 then (some (t140 ++ t141,0)) else (none)) = some (r1,r2):=H
   have A6:=Aside0.mk A60
   clear A60
   by_cases c7 : t140.size + t141.size ≤ 9223372036854775807
   ·rw [if_pos c7] at H
    have c7b0:=eq_true c7
    have c7b1 : decide (t140.size + t141.size ≤ 9223372036854775807) = true:=decide_eq_true c7
    try have c7b2 : (9223372036854775807 < t140.size + t141.size) = False:=eq_false (Nat.not_lt.2 c7)
    simp only [Option.some.injEq,Prod.mk.injEq] at H
    obtain ⟨rfl,rfl⟩:=H
    go_enter Try.func39,Try.ntmps39
    try go_wp2_with (first | ((with_reducible refine gate_dst (N:=1) rfl ?_);refine box_event ?hg (N:=1) ?hd (cs := #[.int .u64 a0_0,.string a0_1,.string a0_2,.bool true]) (t:=45) ?hr ?_;(case hd => rfl);(case hg => rfl);(case hr => first | (go_simp;done) | (go_simp;rfl));intro gb138 hg w8 hbox hb;have n0_:=Aside0.mk (below_step (by repeat (first | (with_reducible first | exact HB.out | apply below_alloc | apply pw_below_drewN | apply below_drew1) | exact HB.out)) hb);have n1_:=Aside0.mk (hbox);have n2_:=Aside0.mk ((by rw [hg];exact (below_size (by repeat (first | (with_reducible first | exact HB.out | apply below_alloc | apply pw_below_drewN | apply below_drew1) | exact HB.out))) : w.heap.size ≤ gb138));have n3_:=Aside0.mk ((by rw [hg];exact (below_size (by repeat (first | (with_reducible first | exact HB.out | apply below_alloc | apply pw_below_drewN | apply below_drew1) | exact HB.out))) : w.heap.size ≤ gb138));clear HB;have HB:=n0_;have BK138:=n1_;have GW138:=n2_;have GE138:=n3_;clear n0_ n1_ n2_ n3_;clear hb hbox hg;have hcz9_0 : w8.cell? ⟨gb138,0,none⟩ = some (.int .u64 a0_0):=(blk_cell BK138.out 0).trans rfl;have hcz9_1 : w8.cell? ⟨gb138,1,none⟩ = some (.string a0_1):=(blk_cell BK138.out 1).trans rfl;have hcz9_2 : w8.cell? ⟨gb138,2,none⟩ = some (.string a0_2):=(blk_cell BK138.out 2).trans rfl;have hcz9_3 : w8.cell? ⟨gb138,3,none⟩ = some (.bool true):=(blk_cell BK138.out 3).trans rfl;have hfz9_0:=blk_frozen BK138.out 0;have hfz9_1:=blk_frozen BK138.out 1;have hfz9_2:=blk_frozen BK138.out 2;have hfz9_3:=blk_frozen BK138.out 3) | ((with_reducible refine gate_callee (f:=54) rfl ?_);refine goesL_ (some 6) rfl rfl Try.func54 (by kernel_rfl) rfl #[.agg #[.int .u64 a0_0,.string a0_1,.string a0_2,.bool true]] rfl (by (try simp only [List.map_toArray,List.map_cons,List.map_nil]);first | done | rfl | (simp only [List.length_drop,List.length_take];rfl)) ?_;(with_reducible refine (record_Right.calls k a0_0 a0_1 a0_2 true true _ A2.out).mono ?_);rintro e w10 ⟨rfl,hb⟩;refine ⟨_,rfl,?_⟩;have n0_:=Aside0.mk (blk_below (g:=gb138) (o := .cells #[.int .u64 a0_0,.string a0_1,.string a0_2,.bool true] 45 (0,0)) (by (with_reducible repeat (first | refine blk_drewN ?_ _ | refine blk_drew ?_ | refine blk_alloc ?_ _));exact BK138.out) hb);have n1_:=Aside0.mk (below_step (by repeat (first | (with_reducible first | exact HB.out | apply below_alloc | apply pw_below_drewN | apply below_drew1 | refine below_set ?_ GE138.out) | exact HB.out)) hb);clear BK138;clear HB;have BK138:=n0_;have HB:=n1_;clear n0_ n1_;(try clear hb);(try clear hb2);(try clear hk);(try clear hi);have hcz11_0 : w10.cell? ⟨gb138,0,none⟩ = some (.int .u64 a0_0):=(blk_cell BK138.out 0).trans rfl;have hcz11_1 : w10.cell? ⟨gb138,1,none⟩ = some (.string a0_1):=(blk_cell BK138.out 1).trans rfl;have hcz11_2 : w10.cell? ⟨gb138,2,none⟩ = some (.string a0_2):=(blk_cell BK138.out 2).trans rfl;have hcz11_3 : w10.cell? ⟨gb138,3,none⟩ = some (.bool true):=(blk_cell BK138.out 3).trans rfl;have hfz11_0:=blk_frozen BK138.out 0;have hfz11_1:=blk_frozen BK138.out 1;have hfz11_2:=blk_frozen BK138.out 2;have hfz11_3:=blk_frozen BK138.out 3))
    have n0_:=Aside0.mk (blk_drew BK138.out)
    have n1_:=Aside0.mk (below_drew1 HB.out)
    clear BK138
    clear HB
    have BK138:=n0_
    have HB:=n1_
    clear n0_ n1_
    refine start_ (n:=9) (S:=fun w' => w'.cell? ⟨gb138,0,none⟩ = some (.int .u64 a0_0) ∧ w'.cell? ⟨gb138,1,none⟩ = some (.string a0_1) ∧ w'.cell? ⟨gb138,2,none⟩ = some (.string a0_2) ∧ w'.cell? ⟨gb138,3,none⟩ = some (.bool true)) (ds:=[]) #[false,false,false,false,false,false,false,false,false] (by kernel_rfl) rfl rfl ⟨(blk_cell BK138.out 0).trans rfl,(blk_cell BK138.out 1).trans rfl,(blk_cell BK138.out 2).trans rfl,(blk_cell BK138.out 3).trans rfl⟩ (fun hHeld => ?_);refine with_tabW record_Bytes.tab5 record_Bytes.bits5 (fun HT_ HW_ => ?_)
    generalize w10.drew = w12 at BK138 HB hHeld ⊢
    refine pure_ (i:=0) (N:=some 13) (v := ?_) (a' := ?_) #[true,false,false,false,false,false,false,false,false] rfl rfl (any_of HT_.out (by kernel_rfl)) (fun _ _ _ h => h) (Or.inl ⟨by rfl,?_⟩) ?_ ?_
    rotate_left
    ·intro w'
     go_simp
     with_reducible rfl
    rotate_left
    ·simp only [Act.put,List.setIfInBounds_toArray,List.set_cons_zero,List.set_cons_succ,i64_w,i32_w]
     rfl
    refine pure_ (i:=1) (N:=some 14) (v := ?_) (a' := ?_) #[true,true,false,false,false,false,false,false,false] rfl rfl (any_of HT_.out (by kernel_rfl)) (fun _ _ _ h => h) (Or.inl ⟨by rfl,?_⟩) ?_ ?_
    rotate_left
    ·intro w'
     go_simp
     with_reducible rfl
    rotate_left
    ·simp only [Act.put,List.setIfInBounds_toArray,List.set_cons_zero,List.set_cons_succ,i64_w,i32_w]
     rfl
    refine pure_ (i:=3) (N:=some 16) (v := ?_) (a' := ?_) #[true,true,false,true,false,false,false,false,false] rfl rfl (any_of HT_.out (by kernel_rfl)) (fun _ _ _ h => h) (Or.inl ⟨by rfl,?_⟩) ?_ ?_
    rotate_left
    ·intro w'
     go_simp
     with_reducible rfl
    rotate_left
    ·simp only [Act.put,List.setIfInBounds_toArray,List.set_cons_zero,List.set_cons_succ,i64_w,i32_w]
     rfl
    refine take_ (i:=4) (N:=some 17) (v := ?_) (a' := ?_) #[true,true,false,true,true,false,false,false,false] rfl rfl (take_ofW HT_.out HW_.out (by kernel_rfl)) (fun _ _ _ h => h) (Or.inl ⟨by rfl,?_⟩) hHeld ?_ ?_
    rotate_left
    ·rintro w' ⟨s0,s1,s2,s3⟩
     go_simp
     with_reducible rfl
    rotate_left
    ·simp only [Act.put,List.setIfInBounds_toArray,List.set_cons_zero,List.set_cons_succ,i64_w,i32_w]
     rfl
    refine one_ (i:=2) (N:=some 15) #[true,true,true,true,true,false,false,false,false] rfl rfl (one_of HT_.out (by kernel_rfl)) (by decide) (fun K hK => ?_)
    refine goes_ Try.func22 (by kernel_rfl) rfl #[.int .u64 (Go.bits .or .u64 (IntKind.u64.wrap (a0_0 * 2)) 1)] (by rfl) rfl rfl (by (try simp only [List.map_toArray,List.map_cons,List.map_nil]);first | done | rfl | (simp only [List.length_drop,List.length_take];rfl)) ?_
    with_reducible refine (varint_Put.calls (Go.bits .or .u64 (IntKind.u64.wrap (a0_0 * 2)) 1) t140 _ A5.out).mono ?_
    rintro e w13 ⟨rfl,hb⟩
    refine ⟨_,rfl,?_⟩
    have n0_:=Aside0.mk (blk_below (g:=gb138) (o := .cells #[.int .u64 a0_0,.string a0_1,.string a0_2,.bool true] 45 (0,0)) (by (with_reducible repeat (first | refine blk_drewN ?_ _ | refine blk_drew ?_ | refine blk_alloc ?_ _));exact BK138.out) hb)
    have n1_:=Aside0.mk (below_step (by repeat (first | (with_reducible first | exact HB.out | apply below_alloc | apply pw_below_drewN | apply below_drew1 | refine below_set ?_ GE138.out) | exact HB.out)) hb)
    clear BK138
    clear HB
    have BK138:=n0_
    have HB:=n1_
    clear n0_ n1_
    (try clear hb)
    (try clear hb2)
    (try clear hk)
    (try clear hi)
    refine hK.out _ _ ⟨(blk_cell BK138.out 0).trans rfl,(blk_cell BK138.out 1).trans rfl,(blk_cell BK138.out 2).trans rfl,(blk_cell BK138.out 3).trans rfl⟩ (fun hHeld => ?_)
    clear hK K
    refine norm_ (a' := ?_) ?_ ?_
    rotate_left
    ·show Act.put _ (some 15) _ = _
     simp only [Act.put,List.setIfInBounds_toArray,List.set_cons_zero,List.set_cons_succ,i64_w,i32_w]
     rfl
    refine one_ (i:=5) (N:=some 18) #[true,true,true,true,true,true,false,false,false] rfl rfl (one_of HT_.out (by kernel_rfl)) (by decide) (fun K hK => ?_)
    refine goes_ Try.func24 (by kernel_rfl) rfl #[.string a0_1] (by rfl) rfl rfl (by (try simp only [List.map_toArray,List.map_cons,List.map_nil]);first | done | rfl | (simp only [List.length_drop,List.length_take];rfl)) ?_
    with_reducible refine (varint_Text.calls a0_1 t141 _ A6.out).mono ?_
    rintro e w14 ⟨rfl,hb⟩
    refine ⟨_,rfl,?_⟩
    have n0_:=Aside0.mk (blk_below (g:=gb138) (o := .cells #[.int .u64 a0_0,.string a0_1,.string a0_2,.bool true] 45 (0,0)) (by (with_reducible repeat (first | refine blk_drewN ?_ _ | refine blk_drew ?_ | refine blk_alloc ?_ _));exact BK138.out) hb)
    have n1_:=Aside0.mk (below_step (by repeat (first | (with_reducible first | exact HB.out | apply below_alloc | apply pw_below_drewN | apply below_drew1 | refine below_set ?_ GE138.out) | exact HB.out)) hb)
    clear BK138
    clear HB
    have BK138:=n0_
    have HB:=n1_
    clear n0_ n1_
    (try clear hb)
    (try clear hb2)
    (try clear hk)
    (try clear hi)
    refine hK.out _ _ ⟨(blk_cell BK138.out 0).trans rfl,(blk_cell BK138.out 1).trans rfl,(blk_cell BK138.out 2).trans rfl,(blk_cell BK138.out 3).trans rfl⟩ (fun hHeld => ?_)
    clear hK K
    refine norm_ (a' := ?_) ?_ ?_
    rotate_left
    ·show Act.put _ (some 18) _ = _
     simp only [Act.put,List.setIfInBounds_toArray,List.set_cons_zero,List.set_cons_succ,i64_w,i32_w]
     rfl
    refine pure_ (i:=6) (N:=some 19) (v := ?_) (a' := ?_) #[true,true,true,true,true,true,true,false,false] rfl rfl (any_of HT_.out (by kernel_rfl)) (fun _ _ _ h => h) (Or.inl ⟨by rfl,?_⟩) ?_ ?_
    rotate_left
    ·intro w'
     go_simp
     with_reducible rfl
    rotate_left
    ·simp only [Act.put,List.setIfInBounds_toArray,List.set_cons_zero,List.set_cons_succ,i64_w,i32_w]
     rfl
    refine pure_ (i:=7) (N:=some 2) (v := ?_) (a' := ?_) #[true,true,true,true,true,true,true,true,false] rfl rfl (any_of HT_.out (by kernel_rfl)) (fun _ _ _ h => h) (Or.inl ⟨by rfl,?_⟩) ?_ ?_
    rotate_left
    ·intro w'
     go_simp
     with_reducible rfl
    rotate_left
    ·simp only [Act.put,List.setIfInBounds_toArray,List.set_cons_zero,List.set_cons_succ,i64_w,i32_w]
     rfl
    refine pure_ (i:=8) (N:=some 3) (v := ?_) (a' := ?_) #[true,true,true,true,true,true,true,true,true] rfl rfl (any_of HT_.out (by kernel_rfl)) (fun _ _ _ h => h) (Or.inl ⟨by rfl,?_⟩) ?_ ?_
    rotate_left
    ·intro w'
     go_simp
     with_reducible rfl
    rotate_left
    ·simp only [Act.put,List.setIfInBounds_toArray,List.set_cons_zero,List.set_cons_succ,i64_w,i32_w]
     rfl
    refine done_ (done_of HT_.out (by kernel_rfl)) ?_
    try go_wp2
    go_ret2
    exact ⟨by first | rfl | (simp [errW_none,errW_some] <;> rfl) | (simp [*,errW_none,errW_some] <;> rfl) | (simp [errW_none,errW_some];exact isEmpty_bne _),by repeat (first | (with_reducible first | exact HB.out | apply below_alloc | apply pw_below_drewN | apply below_drew1 | refine below_set ?_ GE138.out) | exact HB.out)⟩
   ·rw [if_neg c7] at H
    exact absurd H (by simp)
  ·replace c4:=Bool.eq_false_iff.mpr c4
   subst c4
   have H1 : ((varint_Put.f (IntKind.u64.wrap (a0_0 * 2))).bind fun t142 => ((varint_Text.f a0_1).bind fun t143 => (if t142.size + t143.size ≤ 9223372036854775807 then ((varint_Text.f a0_2).bind fun t144 => (if t142.size + t143.size + t144.size ≤ 9223372036854775807 then (some ((t142 ++ t143) ++ t144,0)) else (none))) else (none)))) = some (r1,r2):=by rw [if_neg (show ¬ (false = true) by decide)] at H;exact H
   clear H
   have H:=H1
   clear H1
   replace H:=Option.bind_eq_some_iff.mp H
   obtain ⟨t142,A150,H⟩:=H
   replace H : ((varint_Text.f a0_1).bind fun t143 => (if t142.size + t143.size ≤ 9223372036854775807 then ((varint_Text.f a0_2).bind fun t144 => (if t142.size + t143.size + t144.size ≤ 9223372036854775807 then (some ((t142 ++ t143) ++ t144,0)) else (none))) else (none))) = some (r1,r2):=H
   have A15:=Aside0.mk A150
   clear A150
   replace H:=Option.bind_eq_some_iff.mp H
   obtain ⟨t143,A160,H⟩:=H
   replace H : (if t142.size + t143.size ≤ 9223372036854775807 then ((varint_Text.f a0_2).bind fun t144 => (if t142.size + t143.size + t144.size ≤ 9223372036854775807 then (some ((t142 ++ t143) ++ t144,0)) else (none))) else (none)) = some (r1,r2):=H
   have A16:=Aside0.mk A160
   clear A160
   by_cases c17 : t142.size + t143.size ≤ 9223372036854775807
   ·rw [if_pos c17] at H
    have c17b0:=eq_true c17
    have c17b1 : decide (t142.size + t143.size ≤ 9223372036854775807) = true:=decide_eq_true c17
    try have c17b2 : (9223372036854775807 < t142.size + t143.size) = False:=eq_false (Nat.not_lt.2 c17)
    replace H:=Option.bind_eq_some_iff.mp H
    obtain ⟨t144,A180,H⟩:=H
    replace H : (if t142.size + t143.size + t144.size ≤ 9223372036854775807 then (some ((t142 ++ t143) ++ t144,0)) else (none)) = some (r1,r2):=H
    have A18:=Aside0.mk A180
    clear A180
    by_cases c19 : t142.size + t143.size + t144.size ≤ 9223372036854775807
    ·rw [if_pos c19] at H
     have c19b0:=eq_true c19
     have c19b1 : decide (t142.size + t143.size + t144.size ≤ 9223372036854775807) = true:=decide_eq_true c19
     try have c19b2 : (9223372036854775807 < t142.size + t143.size + t144.size) = False:=eq_false (Nat.not_lt.2 c19)
     simp only [Option.some.injEq,Prod.mk.injEq] at H
     obtain ⟨rfl,rfl⟩:=H
     go_enter Try.func39,Try.ntmps39
     try go_wp2_with (first | ((with_reducible refine gate_dst (N:=1) rfl ?_);refine box_event ?hg (N:=1) ?hd (cs := #[.int .u64 a0_0,.string a0_1,.string a0_2,.bool false]) (t:=45) ?hr ?_;(case hd => rfl);(case hg => rfl);(case hr => first | (go_simp;done) | (go_simp;rfl));intro gb138 hg w20 hbox hb;have n0_:=Aside0.mk (below_step (by repeat (first | (with_reducible first | exact HB.out | apply below_alloc | apply pw_below_drewN | apply below_drew1) | exact HB.out)) hb);have n1_:=Aside0.mk (hbox);have n2_:=Aside0.mk ((by rw [hg];exact (below_size (by repeat (first | (with_reducible first | exact HB.out | apply below_alloc | apply pw_below_drewN | apply below_drew1) | exact HB.out))) : w.heap.size ≤ gb138));have n3_:=Aside0.mk ((by rw [hg];exact (below_size (by repeat (first | (with_reducible first | exact HB.out | apply below_alloc | apply pw_below_drewN | apply below_drew1) | exact HB.out))) : w.heap.size ≤ gb138));clear HB;have HB:=n0_;have BK138:=n1_;have GW138:=n2_;have GE138:=n3_;clear n0_ n1_ n2_ n3_;clear hb hbox hg;have hcz21_0 : w20.cell? ⟨gb138,0,none⟩ = some (.int .u64 a0_0):=(blk_cell BK138.out 0).trans rfl;have hcz21_1 : w20.cell? ⟨gb138,1,none⟩ = some (.string a0_1):=(blk_cell BK138.out 1).trans rfl;have hcz21_2 : w20.cell? ⟨gb138,2,none⟩ = some (.string a0_2):=(blk_cell BK138.out 2).trans rfl;have hcz21_3 : w20.cell? ⟨gb138,3,none⟩ = some (.bool false):=(blk_cell BK138.out 3).trans rfl;have hfz21_0:=blk_frozen BK138.out 0;have hfz21_1:=blk_frozen BK138.out 1;have hfz21_2:=blk_frozen BK138.out 2;have hfz21_3:=blk_frozen BK138.out 3) | ((with_reducible refine gate_callee (f:=54) rfl ?_);refine goesL_ (some 6) rfl rfl Try.func54 (by kernel_rfl) rfl #[.agg #[.int .u64 a0_0,.string a0_1,.string a0_2,.bool false]] rfl (by (try simp only [List.map_toArray,List.map_cons,List.map_nil]);first | done | rfl | (simp only [List.length_drop,List.length_take];rfl)) ?_;(with_reducible refine (record_Right.calls k a0_0 a0_1 a0_2 false true _ A2.out).mono ?_);rintro e w22 ⟨rfl,hb⟩;refine ⟨_,rfl,?_⟩;have n0_:=Aside0.mk (blk_below (g:=gb138) (o := .cells #[.int .u64 a0_0,.string a0_1,.string a0_2,.bool false] 45 (0,0)) (by (with_reducible repeat (first | refine blk_drewN ?_ _ | refine blk_drew ?_ | refine blk_alloc ?_ _));exact BK138.out) hb);have n1_:=Aside0.mk (below_step (by repeat (first | (with_reducible first | exact HB.out | apply below_alloc | apply pw_below_drewN | apply below_drew1 | refine below_set ?_ GE138.out) | exact HB.out)) hb);clear BK138;clear HB;have BK138:=n0_;have HB:=n1_;clear n0_ n1_;(try clear hb);(try clear hb2);(try clear hk);(try clear hi);have hcz23_0 : w22.cell? ⟨gb138,0,none⟩ = some (.int .u64 a0_0):=(blk_cell BK138.out 0).trans rfl;have hcz23_1 : w22.cell? ⟨gb138,1,none⟩ = some (.string a0_1):=(blk_cell BK138.out 1).trans rfl;have hcz23_2 : w22.cell? ⟨gb138,2,none⟩ = some (.string a0_2):=(blk_cell BK138.out 2).trans rfl;have hcz23_3 : w22.cell? ⟨gb138,3,none⟩ = some (.bool false):=(blk_cell BK138.out 3).trans rfl;have hfz23_0:=blk_frozen BK138.out 0;have hfz23_1:=blk_frozen BK138.out 1;have hfz23_2:=blk_frozen BK138.out 2;have hfz23_3:=blk_frozen BK138.out 3))
     have n0_:=Aside0.mk (blk_drew BK138.out)
     have n1_:=Aside0.mk (below_drew1 HB.out)
     clear BK138
     clear HB
     have BK138:=n0_
     have HB:=n1_
     clear n0_ n1_
     refine start_ (n:=12) (S:=fun w' => w'.cell? ⟨gb138,0,none⟩ = some (.int .u64 a0_0) ∧ w'.cell? ⟨gb138,1,none⟩ = some (.string a0_1) ∧ w'.cell? ⟨gb138,2,none⟩ = some (.string a0_2) ∧ w'.cell? ⟨gb138,3,none⟩ = some (.bool false)) (ds:=[]) #[false,false,false,false,false,false,false,false,false,false,false,false] (by kernel_rfl) rfl rfl ⟨(blk_cell BK138.out 0).trans rfl,(blk_cell BK138.out 1).trans rfl,(blk_cell BK138.out 2).trans rfl,(blk_cell BK138.out 3).trans rfl⟩ (fun hHeld => ?_);refine with_tabW record_Bytes.tab6 record_Bytes.bits6 (fun HT_ HW_ => ?_)
     generalize w22.drew = w24 at BK138 HB hHeld ⊢
     refine pure_ (i:=0) (N:=some 20) (v := ?_) (a' := ?_) #[true,false,false,false,false,false,false,false,false,false,false,false] rfl rfl (any_of HT_.out (by kernel_rfl)) (fun _ _ _ h => h) (Or.inl ⟨by rfl,?_⟩) ?_ ?_
     rotate_left
     ·intro w'
      go_simp
      with_reducible rfl
     rotate_left
     ·simp only [Act.put,List.setIfInBounds_toArray,List.set_cons_zero,List.set_cons_succ,i64_w,i32_w]
      rfl
     refine pure_ (i:=2) (N:=some 22) (v := ?_) (a' := ?_) #[true,false,true,false,false,false,false,false,false,false,false,false] rfl rfl (any_of HT_.out (by kernel_rfl)) (fun _ _ _ h => h) (Or.inl ⟨by rfl,?_⟩) ?_ ?_
     rotate_left
     ·intro w'
      go_simp
      with_reducible rfl
     rotate_left
     ·simp only [Act.put,List.setIfInBounds_toArray,List.set_cons_zero,List.set_cons_succ,i64_w,i32_w]
      rfl
     refine pure_ (i:=6) (N:=some 26) (v := ?_) (a' := ?_) #[true,false,true,false,false,false,true,false,false,false,false,false] rfl rfl (any_of HT_.out (by kernel_rfl)) (fun _ _ _ h => h) (Or.inl ⟨by rfl,?_⟩) ?_ ?_
     rotate_left
     ·intro w'
      go_simp
      with_reducible rfl
     rotate_left
     ·simp only [Act.put,List.setIfInBounds_toArray,List.set_cons_zero,List.set_cons_succ,i64_w,i32_w]
      rfl
     refine take_ (i:=3) (N:=some 23) (v := ?_) (a' := ?_) #[true,false,true,true,false,false,true,false,false,false,false,false] rfl rfl (take_ofW HT_.out HW_.out (by kernel_rfl)) (fun _ _ _ h => h) (Or.inl ⟨by rfl,?_⟩) hHeld ?_ ?_
     rotate_left
     ·rintro w' ⟨s0,s1,s2,s3⟩
      go_simp
      with_reducible rfl
     rotate_left
     ·simp only [Act.put,List.setIfInBounds_toArray,List.set_cons_zero,List.set_cons_succ,i64_w,i32_w]
      rfl
     refine take_ (i:=7) (N:=some 27) (v := ?_) (a' := ?_) #[true,false,true,true,false,false,true,true,false,false,false,false] rfl rfl (take_ofW HT_.out HW_.out (by kernel_rfl)) (fun _ _ _ h => h) (Or.inl ⟨by rfl,?_⟩) hHeld ?_ ?_
     rotate_left
     ·rintro w' ⟨s0,s1,s2,s3⟩
      go_simp
      with_reducible rfl
     rotate_left
     ·simp only [Act.put,List.setIfInBounds_toArray,List.set_cons_zero,List.set_cons_succ,i64_w,i32_w]
      rfl
     refine one_ (i:=1) (N:=some 21) #[true,true,true,true,false,false,true,true,false,false,false,false] rfl rfl (one_of HT_.out (by kernel_rfl)) (by decide) (fun K hK => ?_)
     refine goes_ Try.func22 (by kernel_rfl) rfl #[.int .u64 (IntKind.u64.wrap (a0_0 * 2))] (by rfl) rfl rfl (by (try simp only [List.map_toArray,List.map_cons,List.map_nil]);first | done | rfl | (simp only [List.length_drop,List.length_take];rfl)) ?_
     with_reducible refine (varint_Put.calls (IntKind.u64.wrap (a0_0 * 2)) t142 _ A15.out).mono ?_
     rintro e w25 ⟨rfl,hb⟩
     refine ⟨_,rfl,?_⟩
     have n0_:=Aside0.mk (blk_below (g:=gb138) (o := .cells #[.int .u64 a0_0,.string a0_1,.string a0_2,.bool false] 45 (0,0)) (by (with_reducible repeat (first | refine blk_drewN ?_ _ | refine blk_drew ?_ | refine blk_alloc ?_ _));exact BK138.out) hb)
     have n1_:=Aside0.mk (below_step (by repeat (first | (with_reducible first | exact HB.out | apply below_alloc | apply pw_below_drewN | apply below_drew1 | refine below_set ?_ GE138.out) | exact HB.out)) hb)
     clear BK138
     clear HB
     have BK138:=n0_
     have HB:=n1_
     clear n0_ n1_
     (try clear hb)
     (try clear hb2)
     (try clear hk)
     (try clear hi)
     refine hK.out _ _ ⟨(blk_cell BK138.out 0).trans rfl,(blk_cell BK138.out 1).trans rfl,(blk_cell BK138.out 2).trans rfl,(blk_cell BK138.out 3).trans rfl⟩ (fun hHeld => ?_)
     clear hK K
     refine norm_ (a' := ?_) ?_ ?_
     rotate_left
     ·show Act.put _ (some 21) _ = _
      simp only [Act.put,List.setIfInBounds_toArray,List.set_cons_zero,List.set_cons_succ,i64_w,i32_w]
      rfl
     refine one_ (i:=4) (N:=some 24) #[true,true,true,true,true,false,true,true,false,false,false,false] rfl rfl (one_of HT_.out (by kernel_rfl)) (by decide) (fun K hK => ?_)
     refine goes_ Try.func24 (by kernel_rfl) rfl #[.string a0_1] (by rfl) rfl rfl (by (try simp only [List.map_toArray,List.map_cons,List.map_nil]);first | done | rfl | (simp only [List.length_drop,List.length_take];rfl)) ?_
     with_reducible refine (varint_Text.calls a0_1 t143 _ A16.out).mono ?_
     rintro e w26 ⟨rfl,hb⟩
     refine ⟨_,rfl,?_⟩
     have n0_:=Aside0.mk (blk_below (g:=gb138) (o := .cells #[.int .u64 a0_0,.string a0_1,.string a0_2,.bool false] 45 (0,0)) (by (with_reducible repeat (first | refine blk_drewN ?_ _ | refine blk_drew ?_ | refine blk_alloc ?_ _));exact BK138.out) hb)
     have n1_:=Aside0.mk (below_step (by repeat (first | (with_reducible first | exact HB.out | apply below_alloc | apply pw_below_drewN | apply below_drew1 | refine below_set ?_ GE138.out) | exact HB.out)) hb)
     clear BK138
     clear HB
     have BK138:=n0_
     have HB:=n1_
     clear n0_ n1_
     (try clear hb)
     (try clear hb2)
     (try clear hk)
     (try clear hi)
     refine hK.out _ _ ⟨(blk_cell BK138.out 0).trans rfl,(blk_cell BK138.out 1).trans rfl,(blk_cell BK138.out 2).trans rfl,(blk_cell BK138.out 3).trans rfl⟩ (fun hHeld => ?_)
     clear hK K
     refine norm_ (a' := ?_) ?_ ?_
     rotate_left
     ·show Act.put _ (some 24) _ = _
      simp only [Act.put,List.setIfInBounds_toArray,List.set_cons_zero,List.set_cons_succ,i64_w,i32_w]
      rfl
     refine pure_ (i:=5) (N:=some 25) (v := ?_) (a' := ?_) #[true,true,true,true,true,true,true,true,false,false,false,false] rfl rfl (any_of HT_.out (by kernel_rfl)) (fun _ _ _ h => h) (Or.inl ⟨by rfl,?_⟩) ?_ ?_
     rotate_left
     ·intro w'
      go_simp
      with_reducible rfl
     rotate_left
     ·simp only [Act.put,List.setIfInBounds_toArray,List.set_cons_zero,List.set_cons_succ,i64_w,i32_w]
      rfl
     refine one_ (i:=8) (N:=some 28) #[true,true,true,true,true,true,true,true,true,false,false,false] rfl rfl (one_of HT_.out (by kernel_rfl)) (by decide) (fun K hK => ?_)
     refine goes_ Try.func24 (by kernel_rfl) rfl #[.string a0_2] (by rfl) rfl rfl (by (try simp only [List.map_toArray,List.map_cons,List.map_nil]);first | done | rfl | (simp only [List.length_drop,List.length_take];rfl)) ?_
     with_reducible refine (varint_Text.calls a0_2 t144 _ A18.out).mono ?_
     rintro e w27 ⟨rfl,hb⟩
     refine ⟨_,rfl,?_⟩
     have n0_:=Aside0.mk (blk_below (g:=gb138) (o := .cells #[.int .u64 a0_0,.string a0_1,.string a0_2,.bool false] 45 (0,0)) (by (with_reducible repeat (first | refine blk_drewN ?_ _ | refine blk_drew ?_ | refine blk_alloc ?_ _));exact BK138.out) hb)
     have n1_:=Aside0.mk (below_step (by repeat (first | (with_reducible first | exact HB.out | apply below_alloc | apply pw_below_drewN | apply below_drew1 | refine below_set ?_ GE138.out) | exact HB.out)) hb)
     clear BK138
     clear HB
     have BK138:=n0_
     have HB:=n1_
     clear n0_ n1_
     (try clear hb)
     (try clear hb2)
     (try clear hk)
     (try clear hi)
     refine hK.out _ _ ⟨(blk_cell BK138.out 0).trans rfl,(blk_cell BK138.out 1).trans rfl,(blk_cell BK138.out 2).trans rfl,(blk_cell BK138.out 3).trans rfl⟩ (fun hHeld => ?_)
     clear hK K
     refine norm_ (a' := ?_) ?_ ?_
     rotate_left
     ·show Act.put _ (some 28) _ = _
      simp only [Act.put,List.setIfInBounds_toArray,List.set_cons_zero,List.set_cons_succ,i64_w,i32_w]
      rfl
     refine pure_ (i:=9) (N:=some 29) (v := ?_) (a' := ?_) #[true,true,true,true,true,true,true,true,true,true,false,false] rfl rfl (any_of HT_.out (by kernel_rfl)) (fun _ _ _ h => h) (Or.inl ⟨by rfl,?_⟩) ?_ ?_
     rotate_left
     ·intro w'
      go_simp
      with_reducible rfl
     rotate_left
     ·simp only [Act.put,List.setIfInBounds_toArray,List.set_cons_zero,List.set_cons_succ,i64_w,i32_w]
      rfl
     refine pure_ (i:=10) (N:=some 2) (v := ?_) (a' := ?_) #[true,true,true,true,true,true,true,true,true,true,true,false] rfl rfl (any_of HT_.out (by kernel_rfl)) (fun _ _ _ h => h) (Or.inl ⟨by rfl,?_⟩) ?_ ?_
     rotate_left
     ·intro w'
      go_simp
      with_reducible rfl
     rotate_left
     ·simp only [Act.put,List.setIfInBounds_toArray,List.set_cons_zero,List.set_cons_succ,i64_w,i32_w]
      rfl
     refine pure_ (i:=11) (N:=some 3) (v := ?_) (a' := ?_) #[true,true,true,true,true,true,true,true,true,true,true,true] rfl rfl (any_of HT_.out (by kernel_rfl)) (fun _ _ _ h => h) (Or.inl ⟨by rfl,?_⟩) ?_ ?_
     rotate_left
     ·intro w'
      go_simp
      with_reducible rfl
     rotate_left
     ·simp only [Act.put,List.setIfInBounds_toArray,List.set_cons_zero,List.set_cons_succ,i64_w,i32_w]
      rfl
     refine done_ (done_of HT_.out (by kernel_rfl)) ?_
     try go_wp2
     go_ret2
     exact ⟨by first | rfl | (simp [errW_none,errW_some] <;> rfl) | (simp [*,errW_none,errW_some] <;> rfl) | (simp [errW_none,errW_some];exact isEmpty_bne _),by repeat (first | (with_reducible first | exact HB.out | apply below_alloc | apply pw_below_drewN | apply below_drew1 | refine below_set ?_ GE138.out) | exact HB.out)⟩
    ·rw [if_neg c19] at H
     exact absurd H (by simp)
   ·rw [if_neg c17] at H
    exact absurd H (by simp)
 ·replace c3:=Bool.eq_false_iff.mpr c3
  subst c3
  have H1 : (some ((⟨#[]⟩ : ByteArray),1)) = some (r1,r2):=by rw [if_neg (show ¬ (false = true) by decide)] at H;exact H
  clear H
  have H:=H1
  clear H1
  simp only [Option.some.injEq,Prod.mk.injEq] at H
  obtain ⟨rfl,rfl⟩:=H
  go_enter Try.func39,Try.ntmps39
  go_wp2_with (first | ((with_reducible refine gate_dst (N:=1) rfl ?_);refine box_event ?hg (N:=1) ?hd (cs := #[.int .u64 a0_0,.string a0_1,.string a0_2,.bool a0_3]) (t:=45) ?hr ?_;(case hd => rfl);(case hg => rfl);(case hr => first | (go_simp;done) | (go_simp;rfl));intro gb138 hg w28 hbox hb;have n0_:=Aside0.mk (below_step (by repeat (first | (with_reducible first | exact HB.out | apply below_alloc | apply pw_below_drewN | apply below_drew1) | exact HB.out)) hb);have n1_:=Aside0.mk (hbox);have n2_:=Aside0.mk ((by rw [hg];exact (below_size (by repeat (first | (with_reducible first | exact HB.out | apply below_alloc | apply pw_below_drewN | apply below_drew1) | exact HB.out))) : w.heap.size ≤ gb138));have n3_:=Aside0.mk ((by rw [hg];exact (below_size (by repeat (first | (with_reducible first | exact HB.out | apply below_alloc | apply pw_below_drewN | apply below_drew1) | exact HB.out))) : w.heap.size ≤ gb138));clear HB;have HB:=n0_;have BK138:=n1_;have GW138:=n2_;have GE138:=n3_;clear n0_ n1_ n2_ n3_;clear hb hbox hg;have hcz29_0 : w28.cell? ⟨gb138,0,none⟩ = some (.int .u64 a0_0):=(blk_cell BK138.out 0).trans rfl;have hcz29_1 : w28.cell? ⟨gb138,1,none⟩ = some (.string a0_1):=(blk_cell BK138.out 1).trans rfl;have hcz29_2 : w28.cell? ⟨gb138,2,none⟩ = some (.string a0_2):=(blk_cell BK138.out 2).trans rfl;have hcz29_3 : w28.cell? ⟨gb138,3,none⟩ = some (.bool a0_3):=(blk_cell BK138.out 3).trans rfl;have hfz29_0:=blk_frozen BK138.out 0;have hfz29_1:=blk_frozen BK138.out 1;have hfz29_2:=blk_frozen BK138.out 2;have hfz29_3:=blk_frozen BK138.out 3) | ((with_reducible refine gate_callee (f:=54) rfl ?_);refine goesL_ (some 6) rfl rfl Try.func54 (by kernel_rfl) rfl #[.agg #[.int .u64 a0_0,.string a0_1,.string a0_2,.bool a0_3]] rfl (by (try simp only [List.map_toArray,List.map_cons,List.map_nil]);first | done | rfl | (simp only [List.length_drop,List.length_take];rfl)) ?_;(with_reducible refine (record_Right.calls k a0_0 a0_1 a0_2 a0_3 false _ A2.out).mono ?_);rintro e w30 ⟨rfl,hb⟩;refine ⟨_,rfl,?_⟩;have n0_:=Aside0.mk (blk_below (g:=gb138) (o := .cells #[.int .u64 a0_0,.string a0_1,.string a0_2,.bool a0_3] 45 (0,0)) (by (with_reducible repeat (first | refine blk_drewN ?_ _ | refine blk_drew ?_ | refine blk_alloc ?_ _));exact BK138.out) hb);have n1_:=Aside0.mk (below_step (by repeat (first | (with_reducible first | exact HB.out | apply below_alloc | apply pw_below_drewN | apply below_drew1 | refine below_set ?_ GE138.out) | exact HB.out)) hb);clear BK138;clear HB;have BK138:=n0_;have HB:=n1_;clear n0_ n1_;(try clear hb);(try clear hb2);(try clear hk);(try clear hi)))
  go_ret2
  exact ⟨by first | rfl | (simp [errW_none,errW_some] <;> rfl) | (simp [*,errW_none,errW_some] <;> rfl) | (simp [errW_none,errW_some];exact isEmpty_bne _),by repeat (first | (with_reducible first | exact HB.out | apply below_alloc | apply pw_below_drewN | apply below_drew1 | refine below_set ?_ GE138.out) | exact HB.out)⟩

/-! ### hint_Of: function 15 -/
mutual
def hint_Of.l0 : Nat → ByteArray → List (S39) → Int → Option ((List (S39)) × Int)
 | 0,_,_,_ => none
 | k + 1,x0,x4,x5 => if 0 ≤ x5 then (if x5 ≤ (x0.size : Int) then ((frame_Take.f k (x0.extract (x5 : Int).toNat x0.size)).bind fun bt145 => (if bt145.2.2 = 0 then (if 0 ≤ (bt145.1.length : Int) then (if ((bt145.1.length : Int) : Int).toNat ≤ 5864062014805 then (hint_Of.l1 k x0 x4 x5 bt145.1 bt145.2.1 (wrap64 (x5 + bt145.2.1)) (List.replicate ((bt145.1.length : Int) : Int).toNat z39) (wrap64 ((bt145.1.length : Int) - 1))) else (none)) else (none)) else (some (x4,x5)))) else (none)) else (none)
def hint_Of.l1 : Nat → ByteArray → List (S39) → Int → List (S45) → Int → Int → List (S39) → Int → Option ((List (S39)) × Int)
 | 0,_,_,_,_,_,_,_,_ => none
 | k + 1,x0,x4,x5,x6,x7,x9,x10,x11 => if x11 ≥ 0 then (if 0 ≤ x11 then (if x11 < (x6.length : Int) then ((record_Bytes.f k ((rd_T45 x6 x11).f0) ((rd_T45 x6 x11).f1) ((rd_T45 x6 x11).f2) ((rd_T45 x6 x11).f3)).bind fun bt154 => (if x11 < (x10.length : Int) then (hint_Of.l1 k x0 x4 x5 x6 x7 (wrap64 (x9 - (bt154.1.size : Int))) (x10.set (x11 : Int).toNat (⟨(rd_T45 x6 x11).f1,wrap64 (x9 - (bt154.1.size : Int)),(bt154.1.size : Int),(rd_T45 x6 x11).f0,(rd_T45 x6 x11).f3⟩ : S39)) (wrap64 (x11 - 1))) else (none))) else (none)) else (none)) else (if x4.length + x10.length < 2932031007402 then (hint_Of.l0 k x0 (x4 ++ x10) (wrap64 (x5 + x7))) else (none))
end
def hint_Of.f (k : Nat) (a0 : ByteArray) : Option ((List (S39)) × Int):=hint_Of.l0 k a0 ([] : List (S39)) 0
theorem hint_Of.mono_l : ∀ k,(∀ y0 y1 y2,LeO (hint_Of.l0 k y0 y1 y2) (hint_Of.l0 (k + 1) y0 y1 y2)) ∧ (∀ y0 y1 y2 y3 y4 y5 y6 y7,LeO (hint_Of.l1 k y0 y1 y2 y3 y4 y5 y6 y7) (hint_Of.l1 (k + 1) y0 y1 y2 y3 y4 y5 y6 y7))
 | 0 => ⟨fun _ _ _ r h => by simp [hint_Of.l0] at h,fun _ _ _ _ _ _ _ _ r h => by simp [hint_Of.l1] at h⟩
 | k + 1 => by
  obtain ⟨ih0,ih1⟩:=hint_Of.mono_l k
  refine ⟨?_,?_⟩
  ·intro y0 y1 y2
   unfold hint_Of.l0
   repeat' first
   | (with_reducible exact ih0 _ _ _)
   | (with_reducible exact ih1 _ _ _ _ _ _ _ _)
   | (with_reducible exact frame_Take.mono _ _)
   | (with_reducible exact record_Bytes.mono _ _ _ _ _)
   | (with_reducible exact LeO.refl _)
   | (with_reducible exact LeO.none _)
   | (with_reducible refine LeO.ite ?_ ?_)
   | (with_reducible refine LeO.bind ?_ (fun _ => ?_))
   | exact ih0 _ _ _
   | exact ih1 _ _ _ _ _ _ _ _
   | exact frame_Take.mono _ _
   | exact record_Bytes.mono _ _ _ _ _
   | exact LeO.none _
   | refine LeO.ite ?_ ?_
   | refine LeO.bind ?_ (fun _ => ?_)
  ·intro y0 y1 y2 y3 y4 y5 y6 y7
   unfold hint_Of.l1
   repeat' first
   | (with_reducible exact ih0 _ _ _)
   | (with_reducible exact ih1 _ _ _ _ _ _ _ _)
   | (with_reducible exact frame_Take.mono _ _)
   | (with_reducible exact record_Bytes.mono _ _ _ _ _)
   | (with_reducible exact LeO.refl _)
   | (with_reducible exact LeO.none _)
   | (with_reducible refine LeO.ite ?_ ?_)
   | (with_reducible refine LeO.bind ?_ (fun _ => ?_))
   | exact ih0 _ _ _
   | exact ih1 _ _ _ _ _ _ _ _
   | exact frame_Take.mono _ _
   | exact record_Bytes.mono _ _ _ _ _
   | exact LeO.none _
   | refine LeO.ite ?_ ?_
   | refine LeO.bind ?_ (fun _ => ?_)
theorem hint_Of.mono : ∀ a0 k,LeO (hint_Of.f k a0) (hint_Of.f (k + 1) a0):=by
 intro a0 k
 obtain ⟨ih0,ih1⟩:=hint_Of.mono_l k
 unfold hint_Of.f
 repeat' first
   | (with_reducible exact ih0 _ _ _)
   | (with_reducible exact ih1 _ _ _ _ _ _ _ _)
   | (with_reducible exact frame_Take.mono _ _)
   | (with_reducible exact record_Bytes.mono _ _ _ _ _)
   | (with_reducible exact LeO.refl _)
   | (with_reducible exact LeO.none _)
   | (with_reducible refine LeO.ite ?_ ?_)
   | (with_reducible refine LeO.bind ?_ (fun _ => ?_))
   | exact ih0 _ _ _
   | exact ih1 _ _ _ _ _ _ _ _
   | exact frame_Take.mono _ _
   | exact record_Bytes.mono _ _ _ _ _
   | exact LeO.none _
   | refine LeO.ite ?_ ?_
   | refine LeO.bind ?_ (fun _ => ?_)
def hint_Of.T13 : Bool × List (List Nat × List Nat):=(true,[([],[]),([],[]),([],[]),([],[]),([2,3],[2,3]),([4],[4]),([5],[5]),([],[]),([],[]),([8],[8]),([],[]),([],[]),([10,11],[10,11]),([12],[12]),([13],[13]),([],[]),([],[]),([15,16],[15,16]),([17],[17]),([18],[18]),([6,7,9,14,19],[6,7,9,14,19]),([0,1,0,1,2,3,4,5,6,7,8,9,10,11,12,13,14,15,16,17,18,19,20],[0,1]),([21,20,0,1,2,3,4,5,6,7,8,9,10,11,12,13,14,15,16,17,18,19,20],[20,21])])
def hint_Of.B13 : List Nat:=[0,0,0,0,12,28,60,0,0,256,0,0,3072,7168,15360,0,0,98304,229376,491520,1048572,2097151,4194303]
theorem hint_Of.tab13 : rtab .any (opsOf Try.f15 13) = hint_Of.T13:=by kernel_rfl
theorem hint_Of.bits13 : waitsOk hint_Of.T13.2 hint_Of.B13 = true:=by kernel_rfl
set_option maxHeartbeats 8000000 in
set_option maxRecDepth 100000 in
theorem hint_Of.calls (k : Nat) (a0 : ByteArray) (r1 : List (S39)) (r2 : Int) (w : World) (h : hint_Of.f k a0 = some (r1,r2)) :
  Calls Try.prog 15 #[.string a0] w fun e w' => ∃ v0_ : Value,e = .returned (.tuple #[v0_,.int .i64 r2]) ∧ Kd.R k39 39 w' w.heap.size (fun _ => True) v0_ r1 ∧ Below w.heap.size w w' := by
 have hu45:=Try.underlying45
 have hu39:=Try.underlying39
 have HB:=Aside0.mk (Below.refl w.heap.size w)
 have H : (hint_Of.l0 k a0 ([] : List (S39)) 0) = some (r1,r2):=h
 clear h
 have H' := Aside0.mk H
 clear H
 go_enter Try.func15,Try.ntmps15
 go_wp2
 go_loopg [4,5] k (fun kq v4 v5 w' => ∃ (x4_1 : List (S39)) (x5_1 : Int),v5 = .int .i64 x5_1 ∧ Aside0 (hint_Of.l0 kq a0 x4_1 x5_1 = some (r1,r2)) ∧ Aside0 (kq ≤ k) ∧ Aside0 (Kd.R k39 39 w' w.heap.size (fun _ => True) v4 x4_1) ∧ Aside0 (Below w.heap.size w w'))
 case atStart => exact ⟨(([] : List (S39))),(0),(by first | rfl | (simp;done) | (simp [*];done)),H',⟨Nat.le_refl _⟩,⟨by first | exact Kd.R_nil _ _ _ _ _ | exact Kd.N_nil _ _ _ _ _ | exact Kd.V_nil _ _ _ _ _ | exact Kd.Q_nil _ _ _ _ _ | exact Kd.S_nil _ _ _ _ _⟩,⟨by repeat (first | (with_reducible first | exact HB.out | apply below_alloc | apply pw_below_drewN | apply below_drew1) | exact HB.out)⟩⟩
 case round =>
  clear H'
  try clear c1
  obtain ⟨x4_1,x5_1,rfl,HA,HK1,HO_4,HB⟩:=hrel
  cases gk with
  | zero => exact absurd HA.out (by simp [hint_Of.l0])
  | succ k1 =>
   have H:=HA.out
   clear HA
   simp only [hint_Of.l0] at H
   by_cases c2 : 0 ≤ x5_1
   ·rw [if_pos c2] at H
    have c2b0:=eq_true c2
    have c2b1 : decide (0 ≤ x5_1) = true:=decide_eq_true c2
    clear c2
    by_cases c3 : x5_1 ≤ (a0.size : Int)
    ·rw [if_pos c3] at H
     have c3b0:=eq_true c3
     have c3b1 : decide (x5_1 ≤ (a0.size : Int)) = true:=decide_eq_true c3
     clear c3
     replace H:=Option.bind_eq_some_iff.mp H
     obtain ⟨⟨t145,t146,t147⟩,A40,H⟩:=H
     replace H : (if t147 = 0 then (if 0 ≤ (t145.length : Int) then (if ((t145.length : Int) : Int).toNat ≤ 5864062014805 then (hint_Of.l1 k1 a0 x4_1 x5_1 t145 t146 (wrap64 (x5_1 + t146)) (List.replicate ((t145.length : Int) : Int).toNat z39) (wrap64 ((t145.length : Int) - 1))) else (none)) else (none)) else (some (x4_1,x5_1))) = some (r1,r2):=H
     have A4:=Aside0.mk A40
     clear A40
     by_cases c5 : t147 = 0
     ·rw [if_pos c5] at H
      have c5b0 : (t147 == 0) = true:=beq_iff_eq.mpr c5
      have c5b1 : (t147 != 0) = false:=bne_eq_false_iff_eq.mpr c5
      clear c5
      by_cases c6 : 0 ≤ (t145.length : Int)
      ·rw [if_pos c6] at H
       have c6b0:=eq_true c6
       have c6b1 : decide (0 ≤ (t145.length : Int)) = true:=decide_eq_true c6
       clear c6
       by_cases c7 : ((t145.length : Int) : Int).toNat ≤ 5864062014805
       ·rw [if_pos c7] at H
        have c7b0:=eq_true c7
        have c7b1 : decide (((t145.length : Int) : Int).toNat ≤ 5864062014805) = true:=decide_eq_true c7
        clear c7
        obtain ⟨y150,hy150⟩ : ∃ y_ : List (S39),y_ = (List.replicate ((t145.length : Int) : Int).toNat z39):=⟨_,rfl⟩
        replace H : (hint_Of.l1 k1 a0 x4_1 x5_1 t145 t146 (wrap64 (x5_1 + t146)) y150 (wrap64 ((t145.length : Int) - 1))) = some (r1,r2):=by first | (rw [hy150];with_reducible exact H) | (have H2_:=(Option.bind_some _ _).symm.trans H;rw [hy150];with_reducible exact H2_) | (have H2_:=(Option.bind_some _ _).symm.trans H;with_reducible exact H2_) | with_reducible exact H | (rw [hy150];exact H) | exact H
        have Ny150:=Aside0.mk hy150
        clear hy150
        have H' := Aside0.mk H
        clear H
        go_wp2_with (first | ((with_reducible refine gate_callee (f:=38) rfl ?_);refine goesL_ (some 18) rfl rfl Try.func38 (by kernel_rfl) rfl #[.string (a0.extract (x5_1 : Int).toNat a0.size)] rfl (by (try simp only [List.map_toArray,List.map_cons,List.map_nil]);first | done | rfl | (simp only [List.length_drop,List.length_take];rfl)) ?_;(with_reducible refine (frame_Take.calls k1 (a0.extract (x5_1 : Int).toNat a0.size) t145 t146 t147 _ A4.out).mono ?_);rintro e w8 ⟨v148,rfl,ho0,hb⟩;refine ⟨_,rfl,?_⟩;have n0_:=Aside0.mk (Kd.R_below (by (with_reducible repeat (first | apply Kd.R_alloc | apply Kd.R_drewN | apply Kd.R_drew));exact HO_4.out) hb);have n1_:=Aside0.mk (Kd.R_lower ho0 (below_size (by repeat (first | (with_reducible first | exact HB.out | apply below_alloc | apply pw_below_drewN | apply below_drew1) | exact HB.out))));have n2_:=Aside0.mk (below_step (by repeat (first | (with_reducible first | exact HB.out | apply below_alloc | apply pw_below_drewN | apply below_drew1) | exact HB.out)) hb);clear HO_4;clear HB;have HO_4:=n0_;have HO149:=n1_;have HB:=n2_;clear n0_ n1_ n2_;(try clear hb);(try clear hb2);(try clear hk);(try clear hi);(try clear ho0);obtain ⟨Ao9,co9,eo9⟩:=Kd.R_slice HO149.out;subst eo9) | ((with_reducible refine gate_dst (N:=31) rfl ?_);refine Kd.R_make k39 _ 39 rfl (N:=31) rfl 22 _ _ rfl (t145.length : Int) rfl rfl Try.underlying22 (.agg #[(.string ⟨#[]⟩),(.int .i64 0),(.int .i64 0),(.int .u64 0),(.bool false)]) 48 info39 rfl (by decide) (by omega) z39 (ok:=fun _ => True) (okp:=fun _ => True) (k39_mkM _ _ _ z39 ) (fun _ hk => hk) trivial (of_decide_eq_true (by first | (with_reducible assumption) | assumption)) (Nat.le_trans (Nat.mul_le_mul_right _ (of_decide_eq_true (by first | (with_reducible assumption) | assumption) : (t145.length : Int).toNat ≤ 5864062014805)) (by omega)) (Below.refl _ _) (Nat.le_refl _) ?_;intro v151 w10 ho11 hb hg_ hnew_;clear hg_ hnew_;(first | rw [← Ny150.out] at ho11 | (simp only [Int.reduceToNat] at ho11;rw [← Ny150.out] at ho11));have n0_:=Aside0.mk (Kd.R_elder' (by (with_reducible repeat (first | apply Kd.R_alloc | apply Kd.R_drewN | apply Kd.R_drew));exact HO_4.out) (Kd.R_base ho11) hb);have n1_:=Aside0.mk (Kd.R_below (by (with_reducible repeat (first | apply Kd.R_alloc | apply Kd.R_drewN | apply Kd.R_drew));exact HO149.out) hb);have n2_:=Aside0.mk (Kd.R_lower (Kd.R_new' ho11 (Kd.R_lt (by (with_reducible repeat (first | apply Kd.R_alloc | apply Kd.R_drewN | apply Kd.R_drew));exact HO_4.out))) (below_size (by repeat (first | (with_reducible first | exact HB.out | apply below_alloc | apply pw_below_drewN | apply below_drew1) | exact HB.out))));have n3_:=Aside0.mk (below_step (by repeat (first | (with_reducible first | exact HB.out | apply below_alloc | apply pw_below_drewN | apply below_drew1) | exact HB.out)) hb);clear HO_4;clear HO149;clear HB;have HO_4:=n0_;have HO149:=n1_;have HO152:=n2_;have HB:=n3_;clear n0_ n1_ n2_ n3_;clear hb ho11))
        go_loopg [9,11] k1 (fun kq v9 v11 w' => ∃ (x9_2 : Int) (x10_2 : List (S39)) (x11_2 : Int),v9 = .int .i64 x9_2 ∧ v11 = .int .i64 x11_2 ∧ Aside0 (hint_Of.l1 kq a0 x4_1 x5_1 t145 t146 x9_2 x10_2 x11_2 = some (r1,r2)) ∧ Aside0 (kq ≤ k1) ∧ Aside0 (Kd.R k39 39 w' w.heap.size (fun k_ => some k_ ≠ (v151 : Value).ownBlock) u4 x4_1) ∧ Aside0 (Kd.R k45 45 w' w.heap.size (fun _ => True) (.slice Ao9 t145.length co9) t145) ∧ Aside0 (Kd.R k39 39 w' w.heap.size (fun k_ => some k_ ≠ (u4 : Value).ownBlock) v151 x10_2) ∧ Aside0 (Below w.heap.size w w'))
        case atStart => exact ⟨(wrap64 (x5_1 + t146)),(y150),(wrap64 ((t145.length : Int) - 1)),(by first | rfl | (simp;done) | (simp [*];done)),(by first | rfl | (simp;done) | (simp [*];done)),H',⟨Nat.le_refl _⟩,⟨by (with_reducible repeat (first | apply Kd.R_alloc | apply Kd.R_drewN | apply Kd.R_drew));exact Kd.R_mono HO_4.out (fun _ hk => hk.2)⟩,⟨by (with_reducible repeat (first | apply Kd.R_alloc | apply Kd.R_drewN | apply Kd.R_drew));exact HO149.out⟩,⟨by (with_reducible repeat (first | apply Kd.R_alloc | apply Kd.R_drewN | apply Kd.R_drew));exact Kd.R_mono HO152.out (fun _ hk => hk.2)⟩,⟨by repeat (first | (with_reducible first | exact HB.out | apply below_alloc | apply pw_below_drewN | apply below_drew1) | exact HB.out)⟩⟩
        case round =>
         clear H'
         try clear c1
         try clear c2
         try clear c2b0
         try clear c2b1
         try clear p2
         try clear c3
         try clear c3b0
         try clear c3b1
         try clear c5
         try clear c5b0
         try clear c5b1
         try clear c6
         try clear c6b0
         try clear c6b1
         try clear p6
         try clear c7
         try clear c7b0
         try clear c7b1
         obtain ⟨x9_2,x10_2,x11_2,rfl,rfl,HA,HK2,HO_4,HO_6,HO_10,HB⟩:=hrel
         cases gk with
         | zero => exact absurd HA.out (by simp [hint_Of.l1])
         | succ k2 =>
          have H:=HA.out
          clear HA
          simp only [hint_Of.l1] at H
          by_cases c12 : x11_2 ≥ 0
          ·rw [if_pos c12] at H
           have c12b0 : decide (0 ≤ x11_2) = true:=decide_eq_true c12
           clear c12
           by_cases c13 : 0 ≤ x11_2
           ·rw [if_pos c13] at H
            have c13b0 : decide (0 ≤ x11_2) = true:=decide_eq_true c13
            clear c13
            by_cases c14 : x11_2 < (t145.length : Int)
            ·rw [if_pos c14] at H
             have c14b0 : decide (x11_2 < (t145.length : Int)) = true:=decide_eq_true c14
             clear c14
             replace H:=Option.bind_eq_some_iff.mp H
             obtain ⟨⟨t154,t155⟩,A150,H⟩:=H
             replace H : (if x11_2 < (x10_2.length : Int) then (hint_Of.l1 k2 a0 x4_1 x5_1 t145 t146 (wrap64 (x9_2 - (t154.size : Int))) (x10_2.set (x11_2 : Int).toNat (⟨(rd_T45 t145 x11_2).f1,wrap64 (x9_2 - (t154.size : Int)),(t154.size : Int),(rd_T45 t145 x11_2).f0,(rd_T45 t145 x11_2).f3⟩ : S39)) (wrap64 (x11_2 - 1))) else (none)) = some (r1,r2):=H
             have A15:=Aside0.mk A150
             clear A150
             by_cases c16 : x11_2 < (x10_2.length : Int)
             ·rw [if_pos c16] at H
              have c16b0 : decide (x11_2 < (x10_2.length : Int)) = true:=decide_eq_true c16
              clear c16
              obtain ⟨y159,hy159⟩ : ∃ y_ : List (S39),y_ = (x10_2.set (x11_2 : Int).toNat (⟨(rd_T45 t145 x11_2).f1,wrap64 (x9_2 - (t154.size : Int)),(t154.size : Int),(rd_T45 t145 x11_2).f0,(rd_T45 t145 x11_2).f3⟩ : S39)):=⟨_,rfl⟩
              replace H : (hint_Of.l1 k2 a0 x4_1 x5_1 t145 t146 (wrap64 (x9_2 - (t154.size : Int))) y159 (wrap64 (x11_2 - 1))) = some (r1,r2):=by first | (rw [hy159];with_reducible exact H) | (have H2_:=(Option.bind_some _ _).symm.trans H;rw [hy159];with_reducible exact H2_) | (have H2_:=(Option.bind_some _ _).symm.trans H;with_reducible exact H2_) | with_reducible exact H | (rw [hy159];exact H) | exact H
              have Ny159:=Aside0.mk hy159
              clear hy159
              have H' := Aside0.mk H
              clear H
              have p153 : 0 ≤ (x11_2 : Int):=of_decide_eq_true (by first | (with_reducible assumption) | assumption)
              have q153 : x11_2 < (t145.length : Int):=of_decide_eq_true (by first | (with_reducible assumption) | assumption)
              obtain ⟨ad153,e153,hx153_0,hx153_1,hx153_2,hx153_3⟩:=at_T45 (Kd.R_reads' HO_6.out).2.2 x11_2 p153 q153
              cases e153
              replace p153:=eq_true p153
              replace q153:=eq_true q153
              try go_wp2_with (first | ((with_reducible refine gate_callee (f:=39) rfl ?_);refine goesL_ (some 44) rfl rfl Try.func39 (by kernel_rfl) rfl #[.agg #[.int .u64 ((rd_T45 t145 x11_2).f0),.string ((rd_T45 t145 x11_2).f1),.string ((rd_T45 t145 x11_2).f2),.bool ((rd_T45 t145 x11_2).f3)]] rfl (by (try simp only [List.map_toArray,List.map_cons,List.map_nil]);first | done | rfl | (simp only [List.length_drop,List.length_take];rfl)) ?_;(with_reducible refine (record_Bytes.calls k2 ((rd_T45 t145 x11_2).f0) ((rd_T45 t145 x11_2).f1) ((rd_T45 t145 x11_2).f2) ((rd_T45 t145 x11_2).f3) t154 t155 _ A15.out).mono ?_);rintro e w18 ⟨rfl,hb⟩;refine ⟨_,rfl,?_⟩;have n0_:=Aside0.mk (Kd.R_below (by (with_reducible repeat (first | apply Kd.R_alloc | apply Kd.R_drewN | apply Kd.R_drew));exact HO_4.out) hb);have n1_:=Aside0.mk (Kd.R_below (by (with_reducible repeat (first | apply Kd.R_alloc | apply Kd.R_drewN | apply Kd.R_drew));exact HO_6.out) hb);have n2_:=Aside0.mk (Kd.R_below (by (with_reducible repeat (first | apply Kd.R_alloc | apply Kd.R_drewN | apply Kd.R_drew));exact HO_10.out) hb);have n3_:=Aside0.mk (below_step (by repeat (first | (with_reducible first | exact HB.out | apply below_alloc | apply pw_below_drewN | apply below_drew1) | exact HB.out)) hb);clear HO_4;clear HO_6;clear HO_10;clear HB;have HO_4:=n0_;have HO_6:=n1_;have HO_10:=n2_;have HB:=n3_;clear n0_ n1_ n2_ n3_;(try clear hb);(try clear hb2);(try clear hk);(try clear hi)))
              have n0_:=Aside0.mk (Kd.R_drew HO_4.out)
              have n1_:=Aside0.mk (Kd.R_drew HO_6.out)
              have n2_:=Aside0.mk (Kd.R_drew HO_10.out)
              have n3_:=Aside0.mk (below_drew1 HB.out)
              clear HO_4
              clear HO_6
              clear HO_10
              clear HB
              have HO_4:=n0_
              have HO_6:=n1_
              have HO_10:=n2_
              have HB:=n3_
              clear n0_ n1_ n2_ n3_
              have p156 : 0 ≤ (x11_2 : Int):=of_decide_eq_true (by first | (with_reducible assumption) | assumption)
              have q156 : x11_2 < (t145.length : Int):=of_decide_eq_true (by first | (with_reducible assumption) | assumption)
              obtain ⟨ad156,e156,hx156_0,hx156_1,hx156_2,hx156_3⟩:=at_T45 (Kd.R_reads' HO_6.out).2.2 x11_2 p156 q156
              obtain rfl : ad153 = ad156:=(by injection e156)
              replace p156:=eq_true p156
              replace q156:=eq_true q156
              have p157 : 0 ≤ (x11_2 : Int):=of_decide_eq_true (by first | (with_reducible assumption) | assumption)
              have q157 : x11_2 < (t145.length : Int):=of_decide_eq_true (by first | (with_reducible assumption) | assumption)
              obtain ⟨ad157,e157,hx157_0,hx157_1,hx157_2,hx157_3⟩:=at_T45 (Kd.R_reads' HO_6.out).2.2 x11_2 p157 q157
              obtain rfl : ad153 = ad157:=(by injection e157)
              replace p157:=eq_true p157
              replace q157:=eq_true q157
              have p158 : 0 ≤ (x11_2 : Int):=of_decide_eq_true (by first | (with_reducible assumption) | assumption)
              have q158 : x11_2 < (t145.length : Int):=of_decide_eq_true (by first | (with_reducible assumption) | assumption)
              obtain ⟨ad158,e158,hx158_0,hx158_1,hx158_2,hx158_3⟩:=at_T45 (Kd.R_reads' HO_6.out).2.2 x11_2 p158 q158
              obtain rfl : ad153 = ad158:=(by injection e158)
              replace p158:=eq_true p158
              replace q158:=eq_true q158
              have p17 : 0 ≤ (x11_2 : Int):=of_decide_eq_true (by first | (with_reducible assumption) | assumption)
              have q17 : (x11_2 : Int) < ((x10_2.length : Int) : Int):=of_decide_eq_true (by first | (with_reducible assumption) | assumption)
              obtain ⟨go17,co17,eo17,gb17,gl17,cl17,HG17⟩:=Kd.R_form HO_10.out (by omega)
              (first | cases eo17 | (injection eo17 with ea_ en_ ec_;(first | subst ea_ | (injection ea_ with ea_;subst ea_));subst ec_;clear en_))
              have GB17:=Aside0.mk gb17
              have GG17:=Aside0.mk HG17
              clear gb17 gl17 HG17
              obtain ⟨ce17,hcl17,hM17,hcc17,hfr17⟩:=Kd.R_elem HO_10.out z39 (x11_2 : Int) p17 q17
              obtain rfl:=k39_openM hM17
              have hx17_0 : World.cell? _ ⟨go17,(x11_2 : Int).toNat * 5,none⟩ = some (.string ((rd_T39 x10_2 x11_2).f0)):=hcc17 0 _ rfl
              have hx17_1 : World.cell? _ ⟨go17,(x11_2 : Int).toNat * 5 + 1,none⟩ = some (.int .i64 ((rd_T39 x10_2 x11_2).f1)):=hcc17 1 _ rfl
              have hx17_2 : World.cell? _ ⟨go17,(x11_2 : Int).toNat * 5 + 2,none⟩ = some (.int .i64 ((rd_T39 x10_2 x11_2).f2)):=hcc17 2 _ rfl
              have hx17_3 : World.cell? _ ⟨go17,(x11_2 : Int).toNat * 5 + 3,none⟩ = some (.int .u64 ((rd_T39 x10_2 x11_2).f3)):=hcc17 3 _ rfl
              have hx17_4 : World.cell? _ ⟨go17,(x11_2 : Int).toNat * 5 + 4,none⟩ = some (.bool ((rd_T39 x10_2 x11_2).f4)):=hcc17 4 _ rfl
              have hf17_0 : World.frozen? _ ⟨go17,(x11_2 : Int).toNat * 5,none⟩ = false:=hfr17 0
              have hf17_1 : World.frozen? _ ⟨go17,(x11_2 : Int).toNat * 5 + 1,none⟩ = false:=hfr17 1
              have hf17_2 : World.frozen? _ ⟨go17,(x11_2 : Int).toNat * 5 + 2,none⟩ = false:=hfr17 2
              have hf17_3 : World.frozen? _ ⟨go17,(x11_2 : Int).toNat * 5 + 3,none⟩ = false:=hfr17 3
              have hf17_4 : World.frozen? _ ⟨go17,(x11_2 : Int).toNat * 5 + 4,none⟩ = false:=hfr17 4
              clear hcl17 hcc17 hfr17 hM17
              replace p17:=eq_true p17
              replace q17:=eq_true q17
              obtain ⟨ce20,hcl20,hM20,hcc20,hfr20⟩:=Kd.R_elem HO_10.out z39 (x11_2 : Int) (of_decide_eq_true (by first | (with_reducible assumption) | assumption)) (by have h_ : (x11_2 : Int) < ((x10_2.length : Int) : Int):=of_decide_eq_true (by first | (with_reducible assumption) | assumption);first | exact h_ | (have e_:=(Kd.R_reads' HO_10.out).1;omega) | simpa using h_)
              obtain rfl:=k39_openM hM20
              have HP20:=(Kd.R_seg HO_10.out (x11_2 : Int) (of_decide_eq_true (by first | (with_reducible assumption) | assumption)) (by have h_ : (x11_2 : Int) < ((x10_2.length : Int) : Int):=of_decide_eq_true (by first | (with_reducible assumption) | assumption);first | exact h_ | (have e_:=(Kd.R_reads' HO_10.out).1;omega) | simpa using h_) (seg:=[.string ((rd_T45 t145 x11_2).f1),.int .i64 (wrap64 (x9_2 - (t154.size : Int))),.int .i64 (t154.size : Int),.int .u64 ((rd_T45 t145 x11_2).f0),.bool ((rd_T45 t145 x11_2).f3)]) (j:=0) hcl20 hcc20 (show 5 ≤ 5 from by decide) (x' := (⟨(rd_T45 t145 x11_2).f1,wrap64 (x9_2 - (t154.size : Int)),(t154.size : Int),(rd_T45 t145 x11_2).f0,(rd_T45 t145 x11_2).f3⟩ : S39)) (k39_mkM _ _ _ (⟨(rd_T45 t145 x11_2).f1,wrap64 (x9_2 - (t154.size : Int)),(t154.size : Int),(rd_T45 t145 x11_2).f0,(rd_T45 t145 x11_2).f3⟩ : S39) ) (fun _ hk => hk)).1
              rw [← Ny159.out] at HP20
              have HQ20:=Aside0.mk HP20
              clear hcl20 hcc20 hfr20 hM20 HP20
              refine start_ (n:=23) (S:=fun w' => w'.cell? (ad153.add ((x11_2).toNat * 4)) = some (.int .u64 ((rd_T45 t145 x11_2).f0)) ∧ w'.cell? ⟨(ad153.add ((x11_2).toNat * 4)).block,(ad153.add ((x11_2).toNat * 4)).off + 1,none⟩ = some (.string ((rd_T45 t145 x11_2).f1)) ∧ w'.cell? ⟨(ad153.add ((x11_2).toNat * 4)).block,(ad153.add ((x11_2).toNat * 4)).off + 2,none⟩ = some (.string ((rd_T45 t145 x11_2).f2)) ∧ w'.cell? ⟨(ad153.add ((x11_2).toNat * 4)).block,(ad153.add ((x11_2).toNat * 4)).off + 3,none⟩ = some (.bool ((rd_T45 t145 x11_2).f3)) ∧ w'.cell? (ad153.add ((x11_2).toNat * 4)) = some (.int .u64 ((rd_T45 t145 x11_2).f0)) ∧ w'.cell? ⟨(ad153.add ((x11_2).toNat * 4)).block,(ad153.add ((x11_2).toNat * 4)).off + 1,none⟩ = some (.string ((rd_T45 t145 x11_2).f1)) ∧ w'.cell? ⟨(ad153.add ((x11_2).toNat * 4)).block,(ad153.add ((x11_2).toNat * 4)).off + 2,none⟩ = some (.string ((rd_T45 t145 x11_2).f2)) ∧ w'.cell? ⟨(ad153.add ((x11_2).toNat * 4)).block,(ad153.add ((x11_2).toNat * 4)).off + 3,none⟩ = some (.bool ((rd_T45 t145 x11_2).f3)) ∧ w'.cell? (ad153.add ((x11_2).toNat * 4)) = some (.int .u64 ((rd_T45 t145 x11_2).f0)) ∧ w'.cell? ⟨(ad153.add ((x11_2).toNat * 4)).block,(ad153.add ((x11_2).toNat * 4)).off + 1,none⟩ = some (.string ((rd_T45 t145 x11_2).f1)) ∧ w'.cell? ⟨(ad153.add ((x11_2).toNat * 4)).block,(ad153.add ((x11_2).toNat * 4)).off + 2,none⟩ = some (.string ((rd_T45 t145 x11_2).f2)) ∧ w'.cell? ⟨(ad153.add ((x11_2).toNat * 4)).block,(ad153.add ((x11_2).toNat * 4)).off + 3,none⟩ = some (.bool ((rd_T45 t145 x11_2).f3))) (ds:=[22]) #[false,false,false,false,false,false,false,false,false,false,false,false,false,false,false,false,false,false,false,false,false,false,false] (by kernel_rfl) rfl rfl ⟨hx156_0,hx156_1,hx156_2,hx156_3,hx157_0,hx157_1,hx157_2,hx157_3,hx158_0,hx158_1,hx158_2,hx158_3⟩ (fun hHeld => ?_);refine with_tabW hint_Of.tab13 hint_Of.bits13 (fun HT_ HW_ => ?_)
              generalize w18.drew = w19 at HO_4 HO_6 HO_10 HB GG17 HQ20 hf17_0 hf17_1 hf17_2 hf17_3 hf17_4 hx156_0 hx156_1 hx156_2 hx156_3 hx157_0 hx157_1 hx157_2 hx157_3 hx158_0 hx158_1 hx158_2 hx158_3 hx17_0 hx17_1 hx17_2 hx17_3 hx17_4 hHeld ⊢
              refine pure_ (i:=0) (N:=some 51) (v := ?_) (a' := ?_) #[true,false,false,false,false,false,false,false,false,false,false,false,false,false,false,false,false,false,false,false,false,false,false] rfl rfl (any_of HT_.out (by kernel_rfl)) (fun _ _ _ h => h) (Or.inl ⟨by rfl,?_⟩) ?_ ?_
              rotate_left
              ·intro w'
               go_simp
               with_reducible rfl
              rotate_left
              ·simp only [Act.put,List.setIfInBounds_toArray,List.set_cons_zero,List.set_cons_succ,i64_w,i32_w]
               rfl
              refine pure_ (i:=1) (N:=some 52) (v := ?_) (a' := ?_) #[true,true,false,false,false,false,false,false,false,false,false,false,false,false,false,false,false,false,false,false,false,false,false] rfl rfl (any_of HT_.out (by kernel_rfl)) (fun _ _ _ h => h) (Or.inl ⟨by rfl,?_⟩) ?_ ?_
              rotate_left
              ·intro w'
               go_simp
               with_reducible rfl
              rotate_left
              ·simp only [Act.put,List.setIfInBounds_toArray,List.set_cons_zero,List.set_cons_succ,i64_w,i32_w]
               rfl
              refine pure_ (i:=2) (N:=some 53) (v := ?_) (a' := ?_) #[true,true,true,false,false,false,false,false,false,false,false,false,false,false,false,false,false,false,false,false,false,false,false] rfl rfl (any_of HT_.out (by kernel_rfl)) (fun _ _ _ h => h) (Or.inl ⟨by rfl,?_⟩) ?_ ?_
              rotate_left
              ·intro w'
               go_simp
               with_reducible rfl
              rotate_left
              ·simp only [Act.put,List.setIfInBounds_toArray,List.set_cons_zero,List.set_cons_succ,i64_w,i32_w]
               rfl
              refine pure_ (i:=3) (N:=some 54) (v := ?_) (a' := ?_) #[true,true,true,true,false,false,false,false,false,false,false,false,false,false,false,false,false,false,false,false,false,false,false] rfl rfl (any_of HT_.out (by kernel_rfl)) (fun _ _ _ h => h) (Or.inl ⟨by rfl,?_⟩) ?_ ?_
              rotate_left
              ·intro w'
               go_simp
               with_reducible rfl
              rotate_left
              ·simp only [Act.put,List.setIfInBounds_toArray,List.set_cons_zero,List.set_cons_succ,i64_w,i32_w]
               rfl
              refine pure_ (i:=4) (N:=some 55) (v := ?_) (a' := ?_) #[true,true,true,true,true,false,false,false,false,false,false,false,false,false,false,false,false,false,false,false,false,false,false] rfl rfl (any_of HT_.out (by kernel_rfl)) (fun _ _ _ h => h) (Or.inl ⟨by rfl,?_⟩) ?_ ?_
              rotate_left
              ·intro w'
               go_simp
               with_reducible rfl
              rotate_left
              ·simp only [Act.put,List.setIfInBounds_toArray,List.set_cons_zero,List.set_cons_succ,i64_w,i32_w]
               rfl
              refine pure_ (i:=5) (N:=some 56) (v := ?_) (a' := ?_) #[true,true,true,true,true,true,false,false,false,false,false,false,false,false,false,false,false,false,false,false,false,false,false] rfl rfl (any_of HT_.out (by kernel_rfl)) (fun _ _ _ h => h) (Or.inl ⟨by rfl,?_⟩) ?_ ?_
              rotate_left
              ·intro w'
               go_simp
               with_reducible rfl
              rotate_left
              ·simp only [Act.put,List.setIfInBounds_toArray,List.set_cons_zero,List.set_cons_succ,i64_w,i32_w]
               rfl
              refine pure_ (i:=7) (N:=some 58) (v := ?_) (a' := ?_) #[true,true,true,true,true,true,false,true,false,false,false,false,false,false,false,false,false,false,false,false,false,false,false] rfl rfl (any_of HT_.out (by kernel_rfl)) (fun _ _ _ h => h) (Or.inl ⟨by rfl,?_⟩) ?_ ?_
              rotate_left
              ·intro w'
               go_simp
               with_reducible rfl
              rotate_left
              ·simp only [Act.put,List.setIfInBounds_toArray,List.set_cons_zero,List.set_cons_succ,i64_w,i32_w]
               rfl
              refine pure_ (i:=8) (N:=some 59) (v := ?_) (a' := ?_) #[true,true,true,true,true,true,false,true,true,false,false,false,false,false,false,false,false,false,false,false,false,false,false] rfl rfl (any_of HT_.out (by kernel_rfl)) (fun _ _ _ h => h) (Or.inl ⟨by rfl,?_⟩) ?_ ?_
              rotate_left
              ·intro w'
               go_simp
               with_reducible rfl
              rotate_left
              ·simp only [Act.put,List.setIfInBounds_toArray,List.set_cons_zero,List.set_cons_succ,i64_w,i32_w]
               rfl
              refine pure_ (i:=9) (N:=some 60) (v := ?_) (a' := ?_) #[true,true,true,true,true,true,false,true,true,true,false,false,false,false,false,false,false,false,false,false,false,false,false] rfl rfl (any_of HT_.out (by kernel_rfl)) (fun _ _ _ h => h) (Or.inl ⟨by rfl,?_⟩) ?_ ?_
              rotate_left
              ·intro w'
               go_simp
               with_reducible rfl
              rotate_left
              ·simp only [Act.put,List.setIfInBounds_toArray,List.set_cons_zero,List.set_cons_succ,i64_w,i32_w]
               rfl
              refine pure_ (i:=10) (N:=some 61) (v := ?_) (a' := ?_) #[true,true,true,true,true,true,false,true,true,true,true,false,false,false,false,false,false,false,false,false,false,false,false] rfl rfl (any_of HT_.out (by kernel_rfl)) (fun _ _ _ h => h) (Or.inl ⟨by rfl,?_⟩) ?_ ?_
              rotate_left
              ·intro w'
               go_simp
               with_reducible rfl
              rotate_left
              ·simp only [Act.put,List.setIfInBounds_toArray,List.set_cons_zero,List.set_cons_succ,i64_w,i32_w]
               rfl
              refine pure_ (i:=11) (N:=some 62) (v := ?_) (a' := ?_) #[true,true,true,true,true,true,false,true,true,true,true,true,false,false,false,false,false,false,false,false,false,false,false] rfl rfl (any_of HT_.out (by kernel_rfl)) (fun _ _ _ h => h) (Or.inl ⟨by rfl,?_⟩) ?_ ?_
              rotate_left
              ·intro w'
               go_simp
               with_reducible rfl
              rotate_left
              ·simp only [Act.put,List.setIfInBounds_toArray,List.set_cons_zero,List.set_cons_succ,i64_w,i32_w]
               rfl
              refine pure_ (i:=12) (N:=some 63) (v := ?_) (a' := ?_) #[true,true,true,true,true,true,false,true,true,true,true,true,true,false,false,false,false,false,false,false,false,false,false] rfl rfl (any_of HT_.out (by kernel_rfl)) (fun _ _ _ h => h) (Or.inl ⟨by rfl,?_⟩) ?_ ?_
              rotate_left
              ·intro w'
               go_simp
               with_reducible rfl
              rotate_left
              ·simp only [Act.put,List.setIfInBounds_toArray,List.set_cons_zero,List.set_cons_succ,i64_w,i32_w]
               rfl
              refine pure_ (i:=13) (N:=some 64) (v := ?_) (a' := ?_) #[true,true,true,true,true,true,false,true,true,true,true,true,true,true,false,false,false,false,false,false,false,false,false] rfl rfl (any_of HT_.out (by kernel_rfl)) (fun _ _ _ h => h) (Or.inl ⟨by rfl,?_⟩) ?_ ?_
              rotate_left
              ·intro w'
               go_simp
               with_reducible rfl
              rotate_left
              ·simp only [Act.put,List.setIfInBounds_toArray,List.set_cons_zero,List.set_cons_succ,i64_w,i32_w]
               rfl
              refine pure_ (i:=15) (N:=some 66) (v := ?_) (a' := ?_) #[true,true,true,true,true,true,false,true,true,true,true,true,true,true,false,true,false,false,false,false,false,false,false] rfl rfl (any_of HT_.out (by kernel_rfl)) (fun _ _ _ h => h) (Or.inl ⟨by rfl,?_⟩) ?_ ?_
              rotate_left
              ·intro w'
               go_simp
               with_reducible rfl
              rotate_left
              ·simp only [Act.put,List.setIfInBounds_toArray,List.set_cons_zero,List.set_cons_succ,i64_w,i32_w]
               rfl
              refine pure_ (i:=16) (N:=some 67) (v := ?_) (a' := ?_) #[true,true,true,true,true,true,false,true,true,true,true,true,true,true,false,true,true,false,false,false,false,false,false] rfl rfl (any_of HT_.out (by kernel_rfl)) (fun _ _ _ h => h) (Or.inl ⟨by rfl,?_⟩) ?_ ?_
              rotate_left
              ·intro w'
               go_simp
               with_reducible rfl
              rotate_left
              ·simp only [Act.put,List.setIfInBounds_toArray,List.set_cons_zero,List.set_cons_succ,i64_w,i32_w]
               rfl
              refine pure_ (i:=17) (N:=some 68) (v := ?_) (a' := ?_) #[true,true,true,true,true,true,false,true,true,true,true,true,true,true,false,true,true,true,false,false,false,false,false] rfl rfl (any_of HT_.out (by kernel_rfl)) (fun _ _ _ h => h) (Or.inl ⟨by rfl,?_⟩) ?_ ?_
              rotate_left
              ·intro w'
               go_simp
               with_reducible rfl
              rotate_left
              ·simp only [Act.put,List.setIfInBounds_toArray,List.set_cons_zero,List.set_cons_succ,i64_w,i32_w]
               rfl
              refine pure_ (i:=18) (N:=some 69) (v := ?_) (a' := ?_) #[true,true,true,true,true,true,false,true,true,true,true,true,true,true,false,true,true,true,true,false,false,false,false] rfl rfl (any_of HT_.out (by kernel_rfl)) (fun _ _ _ h => h) (Or.inl ⟨by rfl,?_⟩) ?_ ?_
              rotate_left
              ·intro w'
               go_simp
               with_reducible rfl
              rotate_left
              ·simp only [Act.put,List.setIfInBounds_toArray,List.set_cons_zero,List.set_cons_succ,i64_w,i32_w]
               rfl
              refine take_ (i:=6) (N:=some 57) (v := ?_) (a' := ?_) #[true,true,true,true,true,true,true,true,true,true,true,true,true,true,false,true,true,true,true,false,false,false,false] rfl rfl (take_ofW HT_.out HW_.out (by kernel_rfl)) (fun _ _ _ h => h) (Or.inl ⟨by rfl,?_⟩) hHeld ?_ ?_
              rotate_left
              ·rintro w' ⟨s0,s1,s2,s3,s4,s5,s6,s7,s8,s9,s10,s11⟩
               go_simp
               with_reducible rfl
              rotate_left
              ·simp only [Act.put,List.setIfInBounds_toArray,List.set_cons_zero,List.set_cons_succ,i64_w,i32_w]
               rfl
              refine take_ (i:=14) (N:=some 65) (v := ?_) (a' := ?_) #[true,true,true,true,true,true,true,true,true,true,true,true,true,true,true,true,true,true,true,false,false,false,false] rfl rfl (take_ofW HT_.out HW_.out (by kernel_rfl)) (fun _ _ _ h => h) (Or.inl ⟨by rfl,?_⟩) hHeld ?_ ?_
              rotate_left
              ·rintro w' ⟨s0,s1,s2,s3,s4,s5,s6,s7,s8,s9,s10,s11⟩
               go_simp
               with_reducible rfl
              rotate_left
              ·simp only [Act.put,List.setIfInBounds_toArray,List.set_cons_zero,List.set_cons_succ,i64_w,i32_w]
               rfl
              refine take_ (i:=19) (N:=some 70) (v := ?_) (a' := ?_) #[true,true,true,true,true,true,true,true,true,true,true,true,true,true,true,true,true,true,true,true,false,false,false] rfl rfl (take_ofW HT_.out HW_.out (by kernel_rfl)) (fun _ _ _ h => h) (Or.inl ⟨by rfl,?_⟩) hHeld ?_ ?_
              rotate_left
              ·rintro w' ⟨s0,s1,s2,s3,s4,s5,s6,s7,s8,s9,s10,s11⟩
               go_simp
               with_reducible rfl
              rotate_left
              ·simp only [Act.put,List.setIfInBounds_toArray,List.set_cons_zero,List.set_cons_succ,i64_w,i32_w]
               rfl
              refine pure_ (i:=20) (N:=some 71) (v := ?_) (a' := ?_) #[true,true,true,true,true,true,true,true,true,true,true,true,true,true,true,true,true,true,true,true,true,false,false] rfl rfl (any_of HT_.out (by kernel_rfl)) (fun _ _ _ h => h) (Or.inl ⟨by rfl,?_⟩) ?_ ?_
              rotate_left
              ·intro w'
               go_simp
               with_reducible rfl
              rotate_left
              ·simp only [Act.put,List.setIfInBounds_toArray,List.set_cons_zero,List.set_cons_succ,i64_w,i32_w]
               rfl
              refine pure_ (i:=21) (N:=some 72) (v := ?_) (a' := ?_) #[true,true,true,true,true,true,true,true,true,true,true,true,true,true,true,true,true,true,true,true,true,true,false] rfl rfl (any_of HT_.out (by kernel_rfl)) (fun _ _ _ h => h) (Or.inl ⟨by rfl,?_⟩) ?_ ?_
              rotate_left
              ·intro w'
               go_simp
               with_reducible rfl
              rotate_left
              ·simp only [Act.put,List.setIfInBounds_toArray,List.set_cons_zero,List.set_cons_succ,i64_w,i32_w]
               rfl
              refine last_ (i:=22) (N:=none) #[true,true,true,true,true,true,true,true,true,true,true,true,true,true,true,true,true,true,true,true,true,true,true] rfl rfl (one_of HT_.out (by kernel_rfl)) (by decide) (fun K hK => ?_)
              refine skip_ (w1 := ?_) (by rfl) rfl ?_ ?_
              rotate_left
              ·go_simp
               rfl
              refine hK.out _ _ ?_
              clear hK K
              refine done_ (done_of HT_.out (by kernel_rfl)) ?_
              try go_wp2
              go_roundg k2
              case measure => have:=HK1.out;have:=HK2.out;omega
              case rel => exact ⟨(wrap64 (x9_2 - (t154.size : Int))),(y159),(wrap64 (x11_2 - 1)),(by first | rfl | (simp;done) | (simp [*];done)),(by first | rfl | (simp;done) | (simp [*];done)),H',⟨by have:=HK1.out;have:=HK2.out;omega⟩,⟨by (with_reducible repeat (first | apply Kd.R_alloc | apply Kd.R_drewN | apply Kd.R_drew));exact Kd.R_mono (Kd.R_far (p:=⟨go17,(x11_2 : Int).toNat * 5 + 4,none⟩) (Kd.R_far (p:=⟨go17,(x11_2 : Int).toNat * 5 + 3,none⟩) (Kd.R_far (p:=⟨go17,(x11_2 : Int).toNat * 5 + 2,none⟩) (Kd.R_far (p:=⟨go17,(x11_2 : Int).toNat * 5 + 1,none⟩) (Kd.R_far (p:=⟨go17,(x11_2 : Int).toNat * 5,none⟩) (Kd.R_mono HO_4.out (fun k_ hk => (⟨hk,fun e_ => hk (by rw [e_];rfl)⟩ : _ ∧ k_ ≠ go17))) (fun _ hk => hk.2) (.string ((rd_T45 t145 x11_2).f1))) (fun _ hk => hk.2) (.int .i64 (wrap64 (x9_2 - (t154.size : Int))))) (fun _ hk => hk.2) (.int .i64 (t154.size : Int))) (fun _ hk => hk.2) (.int .u64 ((rd_T45 t145 x11_2).f0))) (fun _ hk => hk.2) (.bool ((rd_T45 t145 x11_2).f3))) (fun _ hk => hk.1)⟩,⟨by (with_reducible repeat (first | apply Kd.R_alloc | apply Kd.R_drewN | apply Kd.R_drew));exact Kd.R_mono (Kd.R_far (p:=⟨go17,(x11_2 : Int).toNat * 5 + 4,none⟩) (Kd.R_far (p:=⟨go17,(x11_2 : Int).toNat * 5 + 3,none⟩) (Kd.R_far (p:=⟨go17,(x11_2 : Int).toNat * 5 + 2,none⟩) (Kd.R_far (p:=⟨go17,(x11_2 : Int).toNat * 5 + 1,none⟩) (Kd.R_far (p:=⟨go17,(x11_2 : Int).toNat * 5,none⟩) (Kd.R_types HO_6.out GG17.out (by decide)) (fun _ hk => hk.2) (.string ((rd_T45 t145 x11_2).f1))) (fun _ hk => hk.2) (.int .i64 (wrap64 (x9_2 - (t154.size : Int))))) (fun _ hk => hk.2) (.int .i64 (t154.size : Int))) (fun _ hk => hk.2) (.int .u64 ((rd_T45 t145 x11_2).f0))) (fun _ hk => hk.2) (.bool ((rd_T45 t145 x11_2).f3))) (fun _ hk => trivial)⟩,⟨by (with_reducible repeat (first | apply Kd.R_alloc | apply Kd.R_drewN | apply Kd.R_drew));exact HQ20.out⟩,⟨by repeat (first | (with_reducible first | exact HB.out | apply below_alloc | apply pw_below_drewN | apply below_drew1 | refine below_set ?_ GB17.out | refine below_set ?_ GB17.out | refine below_set ?_ GB17.out | refine below_set ?_ GB17.out | refine below_set ?_ GB17.out) | exact HB.out)⟩⟩
             ·rw [if_neg c16] at H
              exact absurd H (by simp)
            ·rw [if_neg c14] at H
             exact absurd H (by simp)
           ·rw [if_neg c13] at H
            exact absurd H (by simp)
          ·rw [if_neg c12] at H
           have c12b0 : decide (0 ≤ x11_2) = false:=decide_eq_false c12
           clear c12
           by_cases c21 : x4_1.length + x10_2.length < 2932031007402
           ·rw [if_pos c21] at H
            have LMc21:=Aside0.mk c21
            clear c21
            obtain ⟨y160,hy160⟩ : ∃ y_ : List (S39),y_ = (x4_1 ++ x10_2):=⟨_,rfl⟩
            replace H : (hint_Of.l0 k2 a0 y160 (wrap64 (x5_1 + t146))) = some (r1,r2):=by first | (rw [hy160];with_reducible exact H) | (have H2_:=(Option.bind_some _ _).symm.trans H;rw [hy160];with_reducible exact H2_) | (have H2_:=(Option.bind_some _ _).symm.trans H;with_reducible exact H2_) | with_reducible exact H | (rw [hy160];exact H) | exact H
            have Ny160:=Aside0.mk hy160
            clear hy160
            have H' := Aside0.mk H
            clear H
            obtain ⟨Ao23,co23,eo23⟩:=Kd.R_slice HO_10.out
            subst eo23
            go_wp2_with (first | ((with_reducible refine gate_builtin (b := .append) (xs := #[.tmp 73,.tmp 74]) rfl ?_);at_builtin;refine Kd.R_append_rows k39 (w0:=w) w.heap.size rfl (.tmp 73) (.tmp 74) 22 39 (.agg #[(.string ⟨#[]⟩),(.int .i64 0),(.int .i64 0),(.int .u64 0),(.bool false)]) 48 rfl Try.underlying22 info39 rfl (by decide) (by omega) u4 x4_1 x10_2 _ _ _ (fun k_ => some k_ ≠ (.slice Ao23 x10_2.length co23 : Value).ownBlock) (fun _ => False) rfl rfl ?aO ?aR (fun _ _ h => h) (fun _ h => h.elim) ?aF ?aB ?aS ?aL ?_;(case aR => repeat (first | exact (Kd.R_reads' HO_10.out).2.2 | (with_reducible refine Kd.C_alloc ?_ _) | (with_reducible refine Kd.C_drewN ?_ _) | (with_reducible refine Kd.C_drew ?_)));(case aB => exact (by repeat (first | (with_reducible first | exact HB.out | apply below_alloc | apply pw_below_drewN | apply below_drew1) | exact HB.out)));(case aF => exact (fun k_ hk => Kd.fresh' (Kd.R_lt (by (with_reducible repeat (first | apply Kd.R_alloc | apply Kd.R_drewN | apply Kd.R_drew));exact HO_10.out)) k_ hk));(case aO => exact (by (with_reducible repeat (first | apply Kd.R_alloc | apply Kd.R_drewN | apply Kd.R_drew));exact HO_4.out));(case aS => exact (below_size (by repeat (first | (with_reducible first | exact HB.out | apply below_alloc | apply pw_below_drewN | apply below_drew1) | exact HB.out))));(case aL => have:=LMc21.out;omega);intro v161 w22 ho hb hg hat;rw [← Ny160.out] at ho;have n0_:=Aside0.mk (Kd.R_over' (by (with_reducible repeat (first | apply Kd.R_alloc | apply Kd.R_drewN | apply Kd.R_drew));exact HO_6.out) (Kd.R_typed (by (with_reducible repeat (first | apply Kd.R_alloc | apply Kd.R_drewN | apply Kd.R_drew));exact HO_4.out)) (by decide) hg);have n1_:=Aside0.mk (Kd.R_after (ok:=(fun _ => True)) (by (with_reducible repeat (first | apply Kd.R_alloc | apply Kd.R_drewN | apply Kd.R_drew));exact Kd.R_mono HO_10.out (fun _ hk => ⟨trivial,hk⟩)) hg hat);have n2_:=Aside0.mk (hb);have n3_:=Aside0.mk (ho);clear HO_6;clear HO_10;clear HB;clear HO_4;have HO_6:=n0_;have HO_10:=n1_;have HB:=n2_;have HO162:=n3_;clear n0_ n1_ n2_ n3_;clear ho hb hg hat))
            go_roundg k2
            case measure => have:=HK1.out;have:=HK2.out;omega
            case rel => exact ⟨(y160),(wrap64 (x5_1 + t146)),(by first | rfl | (simp;done) | (simp [*];done)),H',⟨by have:=HK1.out;have:=HK2.out;omega⟩,⟨by (with_reducible repeat (first | apply Kd.R_alloc | apply Kd.R_drewN | apply Kd.R_drew));exact Kd.R_mono HO162.out (fun _ hk => trivial)⟩,⟨by repeat (first | (with_reducible first | exact HB.out | apply below_alloc | apply pw_below_drewN | apply below_drew1) | exact HB.out)⟩⟩
           ·rw [if_neg c21] at H
            exact absurd H (by simp)
       ·rw [if_neg c7] at H
        exact absurd H (by simp)
      ·rw [if_neg c6] at H
       exact absurd H (by simp)
     ·rw [if_neg c5] at H
      have c5b0 : (t147 == 0) = false:=beq_eq_false_iff_ne.mpr c5
      have c5b1 : (t147 != 0) = true:=bne_iff_ne.mpr c5
      simp only [Option.some.injEq,Prod.mk.injEq] at H
      obtain ⟨rfl,rfl⟩:=H
      go_wp2_with (first | ((with_reducible refine gate_callee (f:=38) rfl ?_);refine goesL_ (some 18) rfl rfl Try.func38 (by kernel_rfl) rfl #[.string (a0.extract (x5_1 : Int).toNat a0.size)] rfl (by (try simp only [List.map_toArray,List.map_cons,List.map_nil]);first | done | rfl | (simp only [List.length_drop,List.length_take];rfl)) ?_;(with_reducible refine (frame_Take.calls k1 (a0.extract (x5_1 : Int).toNat a0.size) t145 t146 t147 _ A4.out).mono ?_);rintro e w24 ⟨v148,rfl,ho0,hb⟩;refine ⟨_,rfl,?_⟩;have n0_:=Aside0.mk (Kd.R_below (by (with_reducible repeat (first | apply Kd.R_alloc | apply Kd.R_drewN | apply Kd.R_drew));exact HO_4.out) hb);have n1_:=Aside0.mk (Kd.R_lower ho0 (below_size (by repeat (first | (with_reducible first | exact HB.out | apply below_alloc | apply pw_below_drewN | apply below_drew1) | exact HB.out))));have n2_:=Aside0.mk (below_step (by repeat (first | (with_reducible first | exact HB.out | apply below_alloc | apply pw_below_drewN | apply below_drew1) | exact HB.out)) hb);clear HO_4;clear HB;have HO_4:=n0_;have HO149:=n1_;have HB:=n2_;clear n0_ n1_ n2_;(try clear hb);(try clear hb2);(try clear hk);(try clear hi);(try clear ho0)))
      go_ret2
      exact ⟨_,by first | rfl | (simp [errW_none,errW_some] <;> rfl) | (simp [*,errW_none,errW_some] <;> rfl) | (simp [errW_none,errW_some];exact isEmpty_bne _),by (with_reducible repeat (first | apply Kd.R_alloc | apply Kd.R_drewN | apply Kd.R_drew));exact HO_4.out,by repeat (first | (with_reducible first | exact HB.out | apply below_alloc | apply pw_below_drewN | apply below_drew1) | exact HB.out)⟩
    ·rw [if_neg c3] at H
     exact absurd H (by simp)
   ·rw [if_neg c2] at H
    exact absurd H (by simp)

end Go.Proofs.Ytdjkkceamldmjaa.Print
