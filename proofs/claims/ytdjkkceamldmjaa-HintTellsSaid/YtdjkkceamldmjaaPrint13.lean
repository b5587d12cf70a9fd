/- Written by a program of mine (give.py, over the kit's print) out of the translation: contracts of the Go functions. Lean checks it. -/
import Derived.Test.YtdjkkceamldmjaaPrint0
import Derived.Test.YtdjkkceamldmjaaPrint10
import Derived.Test.YtdjkkceamldmjaaPrint11
import Derived.Test.YtdjkkceamldmjaaPrint12
namespace Go.Proofs.Ytdjkkceamldmjaa.Print
open Go.RowKit Go.Proofs.YtdjkkceamldmjaaW.PrintWords Go.Proofs.YtdjkkceamldmjaaW.PrintLast Go.Proofs.YtdjkkceamldmjaaW.PrintMore
attribute [local go_sem] max2_int min2_int max_two min_two max_three min_three max_four min_four   -- for this text's walks alone
set_option linter.unusedVariables false
set_option linter.unusedSimpArgs false

/-! ### thwartref03_Bytes: function 43 -/
def thwartref03_Bytes.f (k : Nat) (a0_0 : Int) (a0_1 : ByteArray) (a0_2 : ByteArray) (a0_3 : Bool) : Option (ByteArray × Int):=(thwartref03_Right.f a0_0 a0_1 a0_2 a0_3).bind fun t277 => (if t277 = true then (if a0_3 = true then ((thwartref01_Put.f k (IntKind.u64.wrap ((IntKind.u64.wrap (2 * a0_0)) + 1))).bind fun t278 => ((thwartref01_Text.f k a0_1).bind fun t279 => (if t278.size + t279.size ≤ 9223372036854775807 then (some (t278 ++ t279,0)) else (none)))) else ((thwartref01_Put.f k (IntKind.u64.wrap (2 * a0_0))).bind fun t280 => ((thwartref01_Text.f k a0_1).bind fun t281 => (if t280.size + t281.size ≤ 9223372036854775807 then ((thwartref01_Text.f k a0_2).bind fun t282 => (if t280.size + t281.size + t282.size ≤ 9223372036854775807 then (some ((t280 ++ t281) ++ t282,0)) else (none))) else (none))))) else (some ((⟨#[]⟩ : ByteArray),1)))
theorem thwartref03_Bytes.mono : ∀ a0 a1 a2 a3 k,LeO (thwartref03_Bytes.f k a0 a1 a2 a3) (thwartref03_Bytes.f (k + 1) a0 a1 a2 a3):=by
 intro a0 a1 a2 a3 k
 unfold thwartref03_Bytes.f
 repeat' first
   | (with_reducible exact thwartref01_Put.mono _ _)
   | (with_reducible exact thwartref01_Text.mono _ _)
   | (with_reducible exact LeO.refl _)
   | (with_reducible exact LeO.none _)
   | (with_reducible refine LeO.ite ?_ ?_)
   | (with_reducible refine LeO.bind ?_ (fun _ => ?_))
   | exact thwartref01_Put.mono _ _
   | exact thwartref01_Text.mono _ _
   | exact LeO.none _
   | refine LeO.ite ?_ ?_
   | refine LeO.bind ?_ (fun _ => ?_)
def thwartref03_Bytes.T5 : Bool × List (List Nat × List Nat):=(true,[([],[]),([0],[0]),([1],[1]),([],[]),([3],[3]),([4,2],[4]),([2,5],[2,5]),([6,5,0,1,2,3,4,5,6],[6]),([7,0,1,2,3,4,5,6,7],[])])
def thwartref03_Bytes.B5 : List Nat:=[0,1,3,0,8,31,63,127,255]
theorem thwartref03_Bytes.tab5 : rtab .any (opsOf Try.f43 5) = thwartref03_Bytes.T5:=by kernel_rfl
theorem thwartref03_Bytes.bits5 : waitsOk thwartref03_Bytes.T5.2 thwartref03_Bytes.B5 = true:=by kernel_rfl
def thwartref03_Bytes.T6 : Bool × List (List Nat × List Nat):=(true,[([],[]),([0],[0]),([],[]),([2],[2]),([3,1],[3]),([1,4],[1,4]),([],[]),([6],[6]),([7,4],[7]),([5,8],[5,8]),([9,8,0,1,2,3,4,5,6,7,8,9],[9]),([10,0,1,2,3,4,5,6,7,8,9,10],[])])
def thwartref03_Bytes.B6 : List Nat:=[0,1,0,4,15,31,0,64,223,511,1023,2047]
theorem thwartref03_Bytes.tab6 : rtab .any (opsOf Try.f43 6) = thwartref03_Bytes.T6:=by kernel_rfl
theorem thwartref03_Bytes.bits6 : waitsOk thwartref03_Bytes.T6.2 thwartref03_Bytes.B6 = true:=by kernel_rfl
set_option maxHeartbeats 8000000 in
set_option maxRecDepth 100000 in
theorem thwartref03_Bytes.calls (k : Nat) (a0_0 : Int) (a0_1 : ByteArray) (a0_2 : ByteArray) (a0_3 : Bool) (r1 : ByteArray) (r2 : Int) (w : World) (h : thwartref03_Bytes.f k a0_0 a0_1 a0_2 a0_3 = some (r1,r2)) :
  Calls Try.prog 43 #[.agg #[.int .u64 a0_0,.string a0_1,.string a0_2,.bool a0_3]] w fun e w' => e = .returned (.tuple #[.string r1,.int .i64 r2]) ∧ Below w.heap.size w w' := by
 have hu45:=Try.underlying45
 have HB:=Aside0.mk (Below.refl w.heap.size w)
 have H : ((thwartref03_Right.f a0_0 a0_1 a0_2 a0_3).bind fun t277 => (if t277 = true then (if a0_3 = true then ((thwartref01_Put.f k (IntKind.u64.wrap ((IntKind.u64.wrap (2 * a0_0)) + 1))).bind fun t278 => ((thwartref01_Text.f k a0_1).bind fun t279 => (if t278.size + t279.size ≤ 9223372036854775807 then (some (t278 ++ t279,0)) else (none)))) else ((thwartref01_Put.f k (IntKind.u64.wrap (2 * a0_0))).bind fun t280 => ((thwartref01_Text.f k a0_1).bind fun t281 => (if t280.size + t281.size ≤ 9223372036854775807 then ((thwartref01_Text.f k a0_2).bind fun t282 => (if t280.size + t281.size + t282.size ≤ 9223372036854775807 then (some ((t280 ++ t281) ++ t282,0)) else (none))) else (none))))) else (some ((⟨#[]⟩ : ByteArray),1)))) = some (r1,r2):=h
 clear h
 replace H:=Option.bind_eq_some_iff.mp H
 obtain ⟨t277,A20,H⟩:=H
 replace H : (if t277 = true then (if a0_3 = true then ((thwartref01_Put.f k (IntKind.u64.wrap ((IntKind.u64.wrap (2 * a0_0)) + 1))).bind fun t278 => ((thwartref01_Text.f k a0_1).bind fun t279 => (if t278.size + t279.size ≤ 9223372036854775807 then (some (t278 ++ t279,0)) else (none)))) else ((thwartref01_Put.f k (IntKind.u64.wrap (2 * a0_0))).bind fun t280 => ((thwartref01_Text.f k a0_1).bind fun t281 => (if t280.size + t281.size ≤ 9223372036854775807 then ((thwartref01_Text.f k a0_2).bind fun t282 => (if t280.size + t281.size + t282.size ≤ 9223372036854775807 then (some ((t280 ++ t281) ++ t282,0)) else (none))) else (none))))) else (some ((⟨#[]⟩ : ByteArray),1))) = some (r1,r2):=H
 have A2:=Aside0.mk A20
 clear A20
 by_cases c3 : t277 = true
 ·subst c3
  have H1 : (if a0_3 = true then ((thwartref01_Put.f k (IntKind.u64.wrap ((IntKind.u64.wrap (2 * a0_0)) + 1))).bind fun t278 => ((thwartref01_Text.f k a0_1).bind fun t279 => (if t278.size + t279.size ≤ 9223372036854775807 then (some (t278 ++ t279,0)) else (none)))) else ((thwartref01_Put.f k (IntKind.u64.wrap (2 * a0_0))).bind fun t280 => ((thwartref01_Text.f k a0_1).bind fun t281 => (if t280.size + t281.size ≤ 9223372036854775807 then ((thwartref01_Text.f k a0_2).bind fun t282 => (if t280.size + t281.size + t282.size ≤ 9223372036854775807 then (some ((t280 ++ t281) ++ t282,0)) else (none))) else (none))))) = some (r1,r2):=by rw [if_pos rfl] at H;exact H
  clear H
  have H:=H1
  clear H1
  by_cases c4 : a0_3 = true
  ·subst c4
   have H1 : ((thwartref01_Put.f k (IntKind.u64.wrap ((IntKind.u64.wrap (2 * a0_0)) + 1))).bind fun t278 => ((thwartref01_Text.f k a0_1).bind fun t279 => (if t278.size + t279.size ≤ 9223372036854775807 then (some (t278 ++ t279,0)) else (none)))) = some (r1,r2):=by rw [if_pos rfl] at H;exact H
   clear H
   have H:=H1
   clear H1
   replace H:=Option.bind_eq_some_iff.mp H
   obtain ⟨t278,A50,H⟩:=H
   replace H : ((thwartref01_Text.f k a0_1).bind fun t279 => (if t278.size + t279.size ≤ 9223372036854775807 then (some (t278 ++ t279,0)) else (none))) = some (r1,r2):=H
   have A5:=Aside0.mk A50
   clear A50
   replace H:=Option.bind_eq_some_iff.mp H
   obtain ⟨t279,A60,H⟩:=H
   replace H : (if t278.size + t279.size ≤ 9223372036854775807 then (some (t278 ++ t279,0)) else (none)) = some (r1,r2):=H
   have A6:=Aside0.mk A60
   clear A60
   by_cases c7 : t278.size + t279.size ≤ 9223372036854775807
   ·rw [if_pos c7] at H
    have c7b0:=eq_true c7
    have c7b1 : decide (t278.size + t279.size ≤ 9223372036854775807) = true:=decide_eq_true c7
    try have c7b2 : (9223372036854775807 < t278.size + t279.size) = False:=eq_false (Nat.not_lt.2 c7)
    simp only [Option.some.injEq,Prod.mk.injEq] at H
    obtain ⟨rfl,rfl⟩:=H
    go_enter Try.func43,Try.ntmps43
    try go_wp2_with (first | ((with_reducible refine gate_dst (N:=1) rfl ?_);refine box_event ?hg (N:=1) ?hd (cs := #[.int .u64 a0_0,.string a0_1,.string a0_2,.bool true]) (t:=45) ?hr ?_;(case hd => rfl);(case hg => rfl);(case hr => first | (go_simp;done) | (go_simp;rfl));intro gb276 hg w8 hbox hb;have n0_:=Aside0.mk (below_step (by repeat (first | (with_reducible first | exact HB.out | apply below_alloc | apply pw_below_drewN | apply below_drew1) | exact HB.out)) hb);have n1_:=Aside0.mk (hbox);have n2_:=Aside0.mk ((by rw [hg];exact (below_size (by repeat (first | (with_reducible first | exact HB.out | apply below_alloc | apply pw_below_drewN | apply below_drew1) | exact HB.out))) : w.heap.size ≤ gb276));have n3_:=Aside0.mk ((by rw [hg];exact (below_size (by repeat (first | (with_reducible first | exact HB.out | apply below_alloc | apply pw_below_drewN | apply below_drew1) | exact HB.out))) : w.heap.size ≤ gb276));clear HB;have HB:=n0_;have BK276:=n1_;have GW276:=n2_;have GE276:=n3_;clear n0_ n1_ n2_ n3_;clear hb hbox hg;have hcz9_0 : w8.cell? ⟨gb276,0,none⟩ = some (.int .u64 a0_0):=(blk_cell BK276.out 0).trans rfl;have hcz9_1 : w8.cell? ⟨gb276,1,none⟩ = some (.string a0_1):=(blk_cell BK276.out 1).trans rfl;have hcz9_2 : w8.cell? ⟨gb276,2,none⟩ = some (.string a0_2):=(blk_cell BK276.out 2).trans rfl;have hcz9_3 : w8.cell? ⟨gb276,3,none⟩ = some (.bool true):=(blk_cell BK276.out 3).trans rfl;have hfz9_0:=blk_frozen BK276.out 0;have hfz9_1:=blk_frozen BK276.out 1;have hfz9_2:=blk_frozen BK276.out 2;have hfz9_3:=blk_frozen BK276.out 3) | ((with_reducible refine gate_callee (f:=56) rfl ?_);refine goesL_ (some 6) rfl rfl Try.func56 (by kernel_rfl) rfl #[.agg #[.int .u64 a0_0,.string a0_1,.string a0_2,.bool true]] rfl (by (try simp only [List.map_toArray,List.map_cons,List.map_nil]);first | done | rfl | (simp only [List.length_drop,List.length_take];rfl)) ?_;(with_reducible refine (thwartref03_Right.calls a0_0 a0_1 a0_2 true true _ A2.out).mono ?_);rintro e w10 ⟨rfl,hb⟩;refine ⟨_,rfl,?_⟩;have n0_:=Aside0.mk (blk_below (g:=gb276) (o := .cells #[.int .u64 a0_0,.string a0_1,.string a0_2,.bool true] 45 (0,0)) (by (with_reducible repeat (first | refine blk_drewN ?_ _ | refine blk_drew ?_ | refine blk_alloc ?_ _));exact BK276.out) hb);have n1_:=Aside0.mk (below_step (by repeat (first | (with_reducible first | exact HB.out | apply below_alloc | apply pw_below_drewN | apply below_drew1 | refine below_set ?_ GE276.out) | exact HB.out)) hb);clear BK276;clear HB;have BK276:=n0_;have HB:=n1_;clear n0_ n1_;(try clear hb);(try clear hb2);(try clear hk);(try clear hi);have hcz11_0 : w10.cell? ⟨gb276,0,none⟩ = some (.int .u64 a0_0):=(blk_cell BK276.out 0).trans rfl;have hcz11_1 : w10.cell? ⟨gb276,1,none⟩ = some (.string a0_1):=(blk_cell BK276.out 1).trans rfl;have hcz11_2 : w10.cell? ⟨gb276,2,none⟩ = some (.string a0_2):=(blk_cell BK276.out 2).trans rfl;have hcz11_3 : w10.cell? ⟨gb276,3,none⟩ = some (.bool true):=(blk_cell BK276.out 3).trans rfl;have hfz11_0:=blk_frozen BK276.out 0;have hfz11_1:=blk_frozen BK276.out 1;have hfz11_2:=blk_frozen BK276.out 2;have hfz11_3:=blk_frozen BK276.out 3))
    have n0_:=Aside0.mk (blk_drew BK276.out)
    have n1_:=Aside0.mk (below_drew1 HB.out)
    clear BK276
    clear HB
    have BK276:=n0_
    have HB:=n1_
    clear n0_ n1_
    refine start_ (n:=9) (S:=fun w' => w'.cell? ⟨gb276,0,none⟩ = some (.int .u64 a0_0) ∧ w'.cell? ⟨gb276,1,none⟩ = some (.string a0_1) ∧ w'.cell? ⟨gb276,2,none⟩ = some (.string a0_2) ∧ w'.cell? ⟨gb276,3,none⟩ = some (.bool true)) (ds:=[]) #[false,false,false,false,false,false,false,false,false] (by kernel_rfl) rfl rfl ⟨(blk_cell BK276.out 0).trans rfl,(blk_cell BK276.out 1).trans rfl,(blk_cell BK276.out 2).trans rfl,(blk_cell BK276.out 3).trans rfl⟩ (fun hHeld => ?_);refine with_tabW thwartref03_Bytes.tab5 thwartref03_Bytes.bits5 (fun HT_ HW_ => ?_)
    generalize w10.drew = w12 at BK276 HB hHeld ⊢
    refine pure_ (i:=0) (N:=some 13) (v := ?_) (a' := ?_) #[true,false,false,false,false,false,false,false,false] rfl rfl (any_of HT_.out (by kernel_rfl)) (fun _ _ _ h => h) (Or.inl ⟨by rfl,?_⟩) ?_ ?_
    rotate_left
    ·intro w'
     go_simp
     with_reducible rfl
    rotate_left
    ·simp only [Act.put,List.setIfInBounds_toArray,List.set_cons_zero,List.set_cons_succ,i64_w,i32_w]
     rfl
    refine pure_ (i:=1) (N:=some 14) (v := ?_) (a' := ?_) #[true,true,false,false,false,false,false,false,false] rfl rfl (any_of HT_.out (by kernel_rfl)) (fun _ _ _ h => h) (Or.inl ⟨by rfl,?_⟩) ?_ ?_
    rotate_left
    ·intro w'
     go_simp
     with_reducible rfl
    rotate_left
    ·simp only [Act.put,List.setIfInBounds_toArray,List.set_cons_zero,List.set_cons_succ,i64_w,i32_w]
     rfl
    refine pure_ (i:=3) (N:=some 16) (v := ?_) (a' := ?_) #[true,true,false,true,false,false,false,false,false] rfl rfl (any_of HT_.out (by kernel_rfl)) (fun _ _ _ h => h) (Or.inl ⟨by rfl,?_⟩) ?_ ?_
    rotate_left
    ·intro w'
     go_simp
     with_reducible rfl
    rotate_left
    ·simp only [Act.put,List.setIfInBounds_toArray,List.set_cons_zero,List.set_cons_succ,i64_w,i32_w]
     rfl
    refine take_ (i:=4) (N:=some 17) (v := ?_) (a' := ?_) #[true,true,false,true,true,false,false,false,false] rfl rfl (take_ofW HT_.out HW_.out (by kernel_rfl)) (fun _ _ _ h => h) (Or.inl ⟨by rfl,?_⟩) hHeld ?_ ?_
    rotate_left
    ·rintro w' ⟨s0,s1,s2,s3⟩
     go_simp
     with_reducible rfl
    rotate_left
    ·simp only [Act.put,List.setIfInBounds_toArray,List.set_cons_zero,List.set_cons_succ,i64_w,i32_w]
     rfl
    refine one_ (i:=2) (N:=some 15) #[true,true,true,true,true,false,false,false,false] rfl rfl (one_of HT_.out (by kernel_rfl)) (by decide) (fun K hK => ?_)
    refine goes_ Try.func27 (by kernel_rfl) rfl #[.int .u64 (IntKind.u64.wrap ((IntKind.u64.wrap (2 * a0_0)) + 1))] (by rfl) rfl rfl (by (try simp only [List.map_toArray,List.map_cons,List.map_nil]);first | done | rfl | (simp only [List.length_drop,List.length_take];rfl)) ?_
    with_reducible refine (thwartref01_Put.calls k (IntKind.u64.wrap ((IntKind.u64.wrap (2 * a0_0)) + 1)) t278 _ A5.out).mono ?_
    rintro e w13 ⟨rfl,hb⟩
    refine ⟨_,rfl,?_⟩
    have n0_:=Aside0.mk (blk_below (g:=gb276) (o := .cells #[.int .u64 a0_0,.string a0_1,.string a0_2,.bool true] 45 (0,0)) (by (with_reducible repeat (first | refine blk_drewN ?_ _ | refine blk_drew ?_ | refine blk_alloc ?_ _));exact BK276.out) hb)
    have n1_:=Aside0.mk (below_step (by repeat (first | (with_reducible first | exact HB.out | apply below_alloc | apply pw_below_drewN | apply below_drew1 | refine below_set ?_ GE276.out) | exact HB.out)) hb)
    clear BK276
    clear HB
    have BK276:=n0_
    have HB:=n1_
    clear n0_ n1_
    (try clear hb)
    (try clear hb2)
    (try clear hk)
    (try clear hi)
    refine hK.out _ _ ⟨(blk_cell BK276.out 0).trans rfl,(blk_cell BK276.out 1).trans rfl,(blk_cell BK276.out 2).trans rfl,(blk_cell BK276.out 3).trans rfl⟩ (fun hHeld => ?_)
    clear hK K
    refine norm_ (a' := ?_) ?_ ?_
    rotate_left
    ·show Act.put _ (some 15) _ = _
     simp only [Act.put,List.setIfInBounds_toArray,List.set_cons_zero,List.set_cons_succ,i64_w,i32_w]
     rfl
    refine one_ (i:=5) (N:=some 18) #[true,true,true,true,true,true,false,false,false] rfl rfl (one_of HT_.out (by kernel_rfl)) (by decide) (fun K hK => ?_)
    refine goes_ Try.func51 (by kernel_rfl) rfl #[.string a0_1] (by rfl) rfl rfl (by (try simp only [List.map_toArray,List.map_cons,List.map_nil]);first | done | rfl | (simp only [List.length_drop,List.length_take];rfl)) ?_
    with_reducible refine (thwartref01_Text.calls k a0_1 t279 _ A6.out).mono ?_
    rintro e w14 ⟨rfl,hb⟩
    refine ⟨_,rfl,?_⟩
    have n0_:=Aside0.mk (blk_below (g:=gb276) (o := .cells #[.int .u64 a0_0,.string a0_1,.string a0_2,.bool true] 45 (0,0)) (by (with_reducible repeat (first | refine blk_drewN ?_ _ | refine blk_drew ?_ | refine blk_alloc ?_ _));exact BK276.out) hb)
    have n1_:=Aside0.mk (below_step (by repeat (first | (with_reducible first | exact HB.out | apply below_alloc | apply pw_below_drewN | apply below_drew1 | refine below_set ?_ GE276.out) | exact HB.out)) hb)
    clear BK276
    clear HB
    have BK276:=n0_
    have HB:=n1_
    clear n0_ n1_
    (try clear hb)
    (try clear hb2)
    (try clear hk)
    (try clear hi)
    refine hK.out _ _ ⟨(blk_cell BK276.out 0).trans rfl,(blk_cell BK276.out 1).trans rfl,(blk_cell BK276.out 2).trans rfl,(blk_cell BK276.out 3).trans rfl⟩ (fun hHeld => ?_)
    clear hK K
    refine norm_ (a' := ?_) ?_ ?_
    rotate_left
    ·show Act.put _ (some 18) _ = _
     simp only [Act.put,List.setIfInBounds_toArray,List.set_cons_zero,List.set_cons_succ,i64_w,i32_w]
     rfl
    refine pure_ (i:=6) (N:=some 19) (v := ?_) (a' := ?_) #[true,true,true,true,true,true,true,false,false] rfl rfl (any_of HT_.out (by kernel_rfl)) (fun _ _ _ h => h) (Or.inl ⟨by rfl,?_⟩) ?_ ?_
    rotate_left
    ·intro w'
     go_simp
     with_reducible rfl
    rotate_left
    ·simp only [Act.put,List.setIfInBounds_toArray,List.set_cons_zero,List.set_cons_succ,i64_w,i32_w]
     rfl
    refine pure_ (i:=7) (N:=some 2) (v := ?_) (a' := ?_) #[true,true,true,true,true,true,true,true,false] rfl rfl (any_of HT_.out (by kernel_rfl)) (fun _ _ _ h => h) (Or.inl ⟨by rfl,?_⟩) ?_ ?_
    rotate_left
    ·intro w'
     go_simp
     with_reducible rfl
    rotate_left
    ·simp only [Act.put,List.setIfInBounds_toArray,List.set_cons_zero,List.set_cons_succ,i64_w,i32_w]
     rfl
    refine pure_ (i:=8) (N:=some 3) (v := ?_) (a' := ?_) #[true,true,true,true,true,true,true,true,true] rfl rfl (any_of HT_.out (by kernel_rfl)) (fun _ _ _ h => h) (Or.inl ⟨by rfl,?_⟩) ?_ ?_
    rotate_left
    ·intro w'
     go_simp
     with_reducible rfl
    rotate_left
    ·simp only [Act.put,List.setIfInBounds_toArray,List.set_cons_zero,List.set_cons_succ,i64_w,i32_w]
     rfl
    refine done_ (done_of HT_.out (by kernel_rfl)) ?_
    try go_wp2
    go_ret2
    exact ⟨by first | rfl | (simp [errW_none,errW_some] <;> rfl) | (simp [*,errW_none,errW_some] <;> rfl) | (simp [errW_none,errW_some];exact isEmpty_bne _),by repeat (first | (with_reducible first | exact HB.out | apply below_alloc | apply pw_below_drewN | apply below_drew1 | refine below_set ?_ GE276.out) | exact HB.out)⟩
   ·rw [if_neg c7] at H
    exact absurd H (by simp)
  ·replace c4:=Bool.eq_false_iff.mpr c4
   subst c4
   have H1 : ((thwartref01_Put.f k (IntKind.u64.wrap (2 * a0_0))).bind fun t280 => ((thwartref01_Text.f k a0_1).bind fun t281 => (if t280.size + t281.size ≤ 9223372036854775807 then ((thwartref01_Text.f k a0_2).bind fun t282 => (if t280.size + t281.size + t282.size ≤ 9223372036854775807 then (some ((t280 ++ t281) ++ t282,0)) else (none))) else (none)))) = some (r1,r2):=by rw [if_neg (show ¬ (false = true) by decide)] at H;exact H
   clear H
   have H:=H1
   clear H1
   replace H:=Option.bind_eq_some_iff.mp H
   obtain ⟨t280,A150,H⟩:=H
   replace H : ((thwartref01_Text.f k a0_1).bind fun t281 => (if t280.size + t281.size ≤ 9223372036854775807 then ((thwartref01_Text.f k a0_2).bind fun t282 => (if t280.size + t281.size + t282.size ≤ 9223372036854775807 then (some ((t280 ++ t281) ++ t282,0)) else (none))) else (none))) = some (r1,r2):=H
   have A15:=Aside0.mk A150
   clear A150
   replace H:=Option.bind_eq_some_iff.mp H
   obtain ⟨t281,A160,H⟩:=H
   replace H : (if t280.size + t281.size ≤ 9223372036854775807 then ((thwartref01_Text.f k a0_2).bind fun t282 => (if t280.size + t281.size + t282.size ≤ 9223372036854775807 then (some ((t280 ++ t281) ++ t282,0)) else (none))) else (none)) = some (r1,r2):=H
   have A16:=Aside0.mk A160
   clear A160
   by_cases c17 : t280.size + t281.size ≤ 9223372036854775807
   ·rw [if_pos c17] at H
    have c17b0:=eq_true c17
    have c17b1 : decide (t280.size + t281.size ≤ 9223372036854775807) = true:=decide_eq_true c17
    try have c17b2 : (9223372036854775807 < t280.size + t281.size) = False:=eq_false (Nat.not_lt.2 c17)
    replace H:=Option.bind_eq_some_iff.mp H
    obtain ⟨t282,A180,H⟩:=H
    replace H : (if t280.size + t281.size + t282.size ≤ 9223372036854775807 then (some ((t280 ++ t281) ++ t282,0)) else (none)) = some (r1,r2):=H
    have A18:=Aside0.mk A180
    clear A180
    by_cases c19 : t280.size + t281.size + t282.size ≤ 9223372036854775807
    ·rw [if_pos c19] at H
     have c19b0:=eq_true c19
     have c19b1 : decide (t280.size + t281.size + t282.size ≤ 9223372036854775807) = true:=decide_eq_true c19
     try have c19b2 : (9223372036854775807 < t280.size + t281.size + t282.size) = False:=eq_false (Nat.not_lt.2 c19)
     simp only [Option.some.injEq,Prod.mk.injEq] at H
     obtain ⟨rfl,rfl⟩:=H
     go_enter Try.func43,Try.ntmps43
     try go_wp2_with (first | ((with_reducible refine gate_dst (N:=1) rfl ?_);refine box_event ?hg (N:=1) ?hd (cs := #[.int .u64 a0_0,.string a0_1,.string a0_2,.bool false]) (t:=45) ?hr ?_;(case hd => rfl);(case hg => rfl);(case hr => first | (go_simp;done) | (go_simp;rfl));intro gb276 hg w20 hbox hb;have n0_:=Aside0.mk (below_step (by repeat (first | (with_reducible first | exact HB.out | apply below_alloc | apply pw_below_drewN | apply below_drew1) | exact HB.out)) hb);have n1_:=Aside0.mk (hbox);have n2_:=Aside0.mk ((by rw [hg];exact (below_size (by repeat (first | (with_reducible first | exact HB.out | apply below_alloc | apply pw_below_drewN | apply below_drew1) | exact HB.out))) : w.heap.size ≤ gb276));have n3_:=Aside0.mk ((by rw [hg];exact (below_size (by repeat (first | (with_reducible first | exact HB.out | apply below_alloc | apply pw_below_drewN | apply below_drew1) | exact HB.out))) : w.heap.size ≤ gb276));clear HB;have HB:=n0_;have BK276:=n1_;have GW276:=n2_;have GE276:=n3_;clear n0_ n1_ n2_ n3_;clear hb hbox hg;have hcz21_0 : w20.cell? ⟨gb276,0,none⟩ = some (.int .u64 a0_0):=(blk_cell BK276.out 0).trans rfl;have hcz21_1 : w20.cell? ⟨gb276,1,none⟩ = some (.string a0_1):=(blk_cell BK276.out 1).trans rfl;have hcz21_2 : w20.cell? ⟨gb276,2,none⟩ = some (.string a0_2):=(blk_cell BK276.out 2).trans rfl;have hcz21_3 : w20.cell? ⟨gb276,3,none⟩ = some (.bool false):=(blk_cell BK276.out 3).trans rfl;have hfz21_0:=blk_frozen BK276.out 0;have hfz21_1:=blk_frozen BK276.out 1;have hfz21_2:=blk_frozen BK276.out 2;have hfz21_3:=blk_frozen BK276.out 3) | ((with_reducible refine gate_callee (f:=56) rfl ?_);refine goesL_ (some 6) rfl rfl Try.func56 (by kernel_rfl) rfl #[.agg #[.int .u64 a0_0,.string a0_1,.string a0_2,.bool false]] rfl (by (try simp only [List.map_toArray,List.map_cons,List.map_nil]);first | done | rfl | (simp only [List.length_drop,List.length_take];rfl)) ?_;(with_reducible refine (thwartref03_Right.calls a0_0 a0_1 a0_2 false true _ A2.out).mono ?_);rintro e w22 ⟨rfl,hb⟩;refine ⟨_,rfl,?_⟩;have n0_:=Aside0.mk (blk_below (g:=gb276) (o := .cells #[.int .u64 a0_0,.string a0_1,.string a0_2,.bool false] 45 (0,0)) (by (with_reducible repeat (first | refine blk_drewN ?_ _ | refine blk_drew ?_ | refine blk_alloc ?_ _));exact BK276.out) hb);have n1_:=Aside0.mk (below_step (by repeat (first | (with_reducible first | exact HB.out | apply below_alloc | apply pw_below_drewN | apply below_drew1 | refine below_set ?_ GE276.out) | exact HB.out)) hb);clear BK276;clear HB;have BK276:=n0_;have HB:=n1_;clear n0_ n1_;(try clear hb);(try clear hb2);(try clear hk);(try clear hi);have hcz23_0 : w22.cell? ⟨gb276,0,none⟩ = some (.int .u64 a0_0):=(blk_cell BK276.out 0).trans rfl;have hcz23_1 : w22.cell? ⟨gb276,1,none⟩ = some (.string a0_1):=(blk_cell BK276.out 1).trans rfl;have hcz23_2 : w22.cell? ⟨gb276,2,none⟩ = some (.string a0_2):=(blk_cell BK276.out 2).trans rfl;have hcz23_3 : w22.cell? ⟨gb276,3,none⟩ = some (.bool false):=(blk_cell BK276.out 3).trans rfl;have hfz23_0:=blk_frozen BK276.out 0;have hfz23_1:=blk_frozen BK276.out 1;have hfz23_2:=blk_frozen BK276.out 2;have hfz23_3:=blk_frozen BK276.out 3))
     have n0_:=Aside0.mk (blk_drew BK276.out)
     have n1_:=Aside0.mk (below_drew1 HB.out)
     clear BK276
     clear HB
     have BK276:=n0_
     have HB:=n1_
     clear n0_ n1_
     refine start_ (n:=12) (S:=fun w' => w'.cell? ⟨gb276,0,none⟩ = some (.int .u64 a0_0) ∧ w'.cell? ⟨gb276,1,none⟩ = some (.string a0_1) ∧ w'.cell? ⟨gb276,2,none⟩ = some (.string a0_2) ∧ w'.cell? ⟨gb276,3,none⟩ = some (.bool false)) (ds:=[]) #[false,false,false,false,false,false,false,false,false,false,false,false] (by kernel_rfl) rfl rfl ⟨(blk_cell BK276.out 0).trans rfl,(blk_cell BK276.out 1).trans rfl,(blk_cell BK276.out 2).trans rfl,(blk_cell BK276.out 3).trans rfl⟩ (fun hHeld => ?_);refine with_tabW thwartref03_Bytes.tab6 thwartref03_Bytes.bits6 (fun HT_ HW_ => ?_)
     generalize w22.drew = w24 at BK276 HB hHeld ⊢
     refine pure_ (i:=0) (N:=some 20) (v := ?_) (a' := ?_) #[true,false,false,false,false,false,false,false,false,false,false,false] rfl rfl (any_of HT_.out (by kernel_rfl)) (fun _ _ _ h => h) (Or.inl ⟨by rfl,?_⟩) ?_ ?_
     rotate_left
     ·intro w'
      go_simp
      with_reducible rfl
     rotate_left
     ·simp only [Act.put,List.setIfInBounds_toArray,List.set_cons_zero,List.set_cons_succ,i64_w,i32_w]
      rfl
     refine pure_ (i:=2) (N:=some 22) (v := ?_) (a' := ?_) #[true,false,true,false,false,false,false,false,false,false,false,false] rfl rfl (any_of HT_.out (by kernel_rfl)) (fun _ _ _ h => h) (Or.inl ⟨by rfl,?_⟩) ?_ ?_
     rotate_left
     ·intro w'
      go_simp
      with_reducible rfl
     rotate_left
     ·simp only [Act.put,List.setIfInBounds_toArray,List.set_cons_zero,List.set_cons_succ,i64_w,i32_w]
      rfl
     refine pure_ (i:=6) (N:=some 26) (v := ?_) (a' := ?_) #[true,false,true,false,false,false,true,false,false,false,false,false] rfl rfl (any_of HT_.out (by kernel_rfl)) (fun _ _ _ h => h) (Or.inl ⟨by rfl,?_⟩) ?_ ?_
     rotate_left
     ·intro w'
      go_simp
      with_reducible rfl
     rotate_left
     ·simp only [Act.put,List.setIfInBounds_toArray,List.set_cons_zero,List.set_cons_succ,i64_w,i32_w]
      rfl
     refine take_ (i:=3) (N:=some 23) (v := ?_) (a' := ?_) #[true,false,true,true,false,false,true,false,false,false,false,false] rfl rfl (take_ofW HT_.out HW_.out (by kernel_rfl)) (fun _ _ _ h => h) (Or.inl ⟨by rfl,?_⟩) hHeld ?_ ?_
     rotate_left
     ·rintro w' ⟨s0,s1,s2,s3⟩
      go_simp
      with_reducible rfl
     rotate_left
     ·simp only [Act.put,List.setIfInBounds_toArray,List.set_cons_zero,List.set_cons_succ,i64_w,i32_w]
      rfl
     refine take_ (i:=7) (N:=some 27) (v := ?_) (a' := ?_) #[true,false,true,true,false,false,true,true,false,false,false,false] rfl rfl (take_ofW HT_.out HW_.out (by kernel_rfl)) (fun _ _ _ h => h) (Or.inl ⟨by rfl,?_⟩) hHeld ?_ ?_
     rotate_left
     ·rintro w' ⟨s0,s1,s2,s3⟩
      go_simp
      with_reducible rfl
     rotate_left
     ·simp only [Act.put,List.setIfInBounds_toArray,List.set_cons_zero,List.set_cons_succ,i64_w,i32_w]
      rfl
     refine one_ (i:=1) (N:=some 21) #[true,true,true,true,false,false,true,true,false,false,false,false] rfl rfl (one_of HT_.out (by kernel_rfl)) (by decide) (fun K hK => ?_)
     refine goes_ Try.func27 (by kernel_rfl) rfl #[.int .u64 (IntKind.u64.wrap (2 * a0_0))] (by rfl) rfl rfl (by (try simp only [List.map_toArray,List.map_cons,List.map_nil]);first | done | rfl | (simp only [List.length_drop,List.length_take];rfl)) ?_
     with_reducible refine (thwartref01_Put.calls k (IntKind.u64.wrap (2 * a0_0)) t280 _ A15.out).mono ?_
     rintro e w25 ⟨rfl,hb⟩
     refine ⟨_,rfl,?_⟩
     have n0_:=Aside0.mk (blk_below (g:=gb276) (o := .cells #[.int .u64 a0_0,.string a0_1,.string a0_2,.bool false] 45 (0,0)) (by (with_reducible repeat (first | refine blk_drewN ?_ _ | refine blk_drew ?_ | refine blk_alloc ?_ _));exact BK276.out) hb)
     have n1_:=Aside0.mk (below_step (by repeat (first | (with_reducible first | exact HB.out | apply below_alloc | apply pw_below_drewN | apply below_drew1 | refine below_set ?_ GE276.out) | exact HB.out)) hb)
     clear BK276
     clear HB
     have BK276:=n0_
     have HB:=n1_
     clear n0_ n1_
     (try clear hb)
     (try clear hb2)
     (try clear hk)
     (try clear hi)
     refine hK.out _ _ ⟨(blk_cell BK276.out 0).trans rfl,(blk_cell BK276.out 1).trans rfl,(blk_cell BK276.out 2).trans rfl,(blk_cell BK276.out 3).trans rfl⟩ (fun hHeld => ?_)
     clear hK K
     refine norm_ (a' := ?_) ?_ ?_
     rotate_left
     ·show Act.put _ (some 21) _ = _
      simp only [Act.put,List.setIfInBounds_toArray,List.set_cons_zero,List.set_cons_succ,i64_w,i32_w]
      rfl
     refine one_ (i:=4) (N:=some 24) #[true,true,true,true,true,false,true,true,false,false,false,false] rfl rfl (one_of HT_.out (by kernel_rfl)) (by decide) (fun K hK => ?_)
     refine goes_ Try.func51 (by kernel_rfl) rfl #[.string a0_1] (by rfl) rfl rfl (by (try simp only [List.map_toArray,List.map_cons,List.map_nil]);first | done | rfl | (simp only [List.length_drop,List.length_take];rfl)) ?_
     with_reducible refine (thwartref01_Text.calls k a0_1 t281 _ A16.out).mono ?_
     rintro e w26 ⟨rfl,hb⟩
     refine ⟨_,rfl,?_⟩
     have n0_:=Aside0.mk (blk_below (g:=gb276) (o := .cells #[.int .u64 a0_0,.string a0_1,.string a0_2,.bool false] 45 (0,0)) (by (with_reducible repeat (first | refine blk_drewN ?_ _ | refine blk_drew ?_ | refine blk_alloc ?_ _));exact BK276.out) hb)
     have n1_:=Aside0.mk (below_step (by repeat (first | (with_reducible first | exact HB.out | apply below_alloc | apply pw_below_drewN | apply below_drew1 | refine below_set ?_ GE276.out) | exact HB.out)) hb)
     clear BK276
     clear HB
     have BK276:=n0_
     have HB:=n1_
     clear n0_ n1_
     (try clear hb)
     (try clear hb2)
     (try clear hk)
     (try clear hi)
     refine hK.out _ _ ⟨(blk_cell BK276.out 0).trans rfl,(blk_cell BK276.out 1).trans rfl,(blk_cell BK276.out 2).trans rfl,(blk_cell BK276.out 3).trans rfl⟩ (fun hHeld => ?_)
     clear hK K
     refine norm_ (a' := ?_) ?_ ?_
     rotate_left
     ·show Act.put _ (some 24) _ = _
      simp only [Act.put,List.setIfInBounds_toArray,List.set_cons_zero,List.set_cons_succ,i64_w,i32_w]
      rfl
     refine pure_ (i:=5) (N:=some 25) (v := ?_) (a' := ?_) #[true,true,true,true,true,true,true,true,false,false,false,false] rfl rfl (any_of HT_.out (by kernel_rfl)) (fun _ _ _ h => h) (Or.inl ⟨by rfl,?_⟩) ?_ ?_
     rotate_left
     ·intro w'
      go_simp
      with_reducible rfl
     rotate_left
     ·simp only [Act.put,List.setIfInBounds_toArray,List.set_cons_zero,List.set_cons_succ,i64_w,i32_w]
      rfl
     refine one_ (i:=8) (N:=some 28) #[true,true,true,true,true,true,true,true,true,false,false,false] rfl rfl (one_of HT_.out (by kernel_rfl)) (by decide) (fun K hK => ?_)
     refine goes_ Try.func51 (by kernel_rfl) rfl #[.string a0_2] (by rfl) rfl rfl (by (try simp only [List.map_toArray,List.map_cons,List.map_nil]);first | done | rfl | (simp only [List.length_drop,List.length_take];rfl)) ?_
     with_reducible refine (thwartref01_Text.calls k a0_2 t282 _ A18.out).mono ?_
     rintro e w27 ⟨rfl,hb⟩
     refine ⟨_,rfl,?_⟩
     have n0_:=Aside0.mk (blk_below (g:=gb276) (o := .cells #[.int .u64 a0_0,.string a0_1,.string a0_2,.bool false] 45 (0,0)) (by (with_reducible repeat (first | refine blk_drewN ?_ _ | refine blk_drew ?_ | refine blk_alloc ?_ _));exact BK276.out) hb)
     have n1_:=Aside0.mk (below_step (by repeat (first | (with_reducible first | exact HB.out | apply below_alloc | apply pw_below_drewN | apply below_drew1 | refine below_set ?_ GE276.out) | exact HB.out)) hb)
     clear BK276
     clear HB
     have BK276:=n0_
     have HB:=n1_
     clear n0_ n1_
     (try clear hb)
     (try clear hb2)
     (try clear hk)
     (try clear hi)
     refine hK.out _ _ ⟨(blk_cell BK276.out 0).trans rfl,(blk_cell BK276.out 1).trans rfl,(blk_cell BK276.out 2).trans rfl,(blk_cell BK276.out 3).trans rfl⟩ (fun hHeld => ?_)
     clear hK K
     refine norm_ (a' := ?_) ?_ ?_
     rotate_left
     ·show Act.put _ (some 28) _ = _
      simp only [Act.put,List.setIfInBounds_toArray,List.set_cons_zero,List.set_cons_succ,i64_w,i32_w]
      rfl
     refine pure_ (i:=9) (N:=some 29) (v := ?_) (a' := ?_) #[true,true,true,true,true,true,true,true,true,true,false,false] rfl rfl (any_of HT_.out (by kernel_rfl)) (fun _ _ _ h => h) (Or.inl ⟨by rfl,?_⟩) ?_ ?_
     rotate_left
     ·intro w'
      go_simp
      with_reducible rfl
     rotate_left
     ·simp only [Act.put,List.setIfInBounds_toArray,List.set_cons_zero,List.set_cons_succ,i64_w,i32_w]
      rfl
     refine pure_ (i:=10) (N:=some 2) (v := ?_) (a' := ?_) #[true,true,true,true,true,true,true,true,true,true,true,false] rfl rfl (any_of HT_.out (by kernel_rfl)) (fun _ _ _ h => h) (Or.inl ⟨by rfl,?_⟩) ?_ ?_
     rotate_left
     ·intro w'
      go_simp
      with_reducible rfl
     rotate_left
     ·simp only [Act.put,List.setIfInBounds_toArray,List.set_cons_zero,List.set_cons_succ,i64_w,i32_w]
      rfl
     refine pure_ (i:=11) (N:=some 3) (v := ?_) (a' := ?_) #[true,true,true,true,true,true,true,true,true,true,true,true] rfl rfl (any_of HT_.out (by kernel_rfl)) (fun _ _ _ h => h) (Or.inl ⟨by rfl,?_⟩) ?_ ?_
     rotate_left
     ·intro w'
      go_simp
      with_reducible rfl
     rotate_left
     ·simp only [Act.put,List.setIfInBounds_toArray,List.set_cons_zero,List.set_cons_succ,i64_w,i32_w]
      rfl
     refine done_ (done_of HT_.out (by kernel_rfl)) ?_
     try go_wp2
     go_ret2
     exact ⟨by first | rfl | (simp [errW_none,errW_some] <;> rfl) | (simp [*,errW_none,errW_some] <;> rfl) | (simp [errW_none,errW_some];exact isEmpty_bne _),by repeat (first | (with_reducible first | exact HB.out | apply below_alloc | apply pw_below_drewN | apply below_drew1 | refine below_set ?_ GE276.out) | exact HB.out)⟩
    ·rw [if_neg c19] at H
     exact absurd H (by simp)
   ·rw [if_neg c17] at H
    exact absurd H (by simp)
 ·replace c3:=Bool.eq_false_iff.mpr c3
  subst c3
  have H1 : (some ((⟨#[]⟩ : ByteArray),1)) = some (r1,r2):=by rw [if_neg (show ¬ (false = true) by decide)] at H;exact H
  clear H
  have H:=H1
  clear H1
  simp only [Option.some.injEq,Prod.mk.injEq] at H
  obtain ⟨rfl,rfl⟩:=H
  go_enter Try.func43,Try.ntmps43
  go_wp2_with (first | ((with_reducible refine gate_dst (N:=1) rfl ?_);refine box_event ?hg (N:=1) ?hd (cs := #[.int .u64 a0_0,.string a0_1,.string a0_2,.bool a0_3]) (t:=45) ?hr ?_;(case hd => rfl);(case hg => rfl);(case hr => first | (go_simp;done) | (go_simp;rfl));intro gb276 hg w28 hbox hb;have n0_:=Aside0.mk (below_step (by repeat (first | (with_reducible first | exact HB.out | apply below_alloc | apply pw_below_drewN | apply below_drew1) | exact HB.out)) hb);have n1_:=Aside0.mk (hbox);have n2_:=Aside0.mk ((by rw [hg];exact (below_size (by repeat (first | (with_reducible first | exact HB.out | apply below_alloc | apply pw_below_drewN | apply below_drew1) | exact HB.out))) : w.heap.size ≤ gb276));have n3_:=Aside0.mk ((by rw [hg];exact (below_size (by repeat (first | (with_reducible first | exact HB.out | apply below_alloc | apply pw_below_drewN | apply below_drew1) | exact HB.out))) : w.heap.size ≤ gb276));clear HB;have HB:=n0_;have BK276:=n1_;have GW276:=n2_;have GE276:=n3_;clear n0_ n1_ n2_ n3_;clear hb hbox hg;have hcz29_0 : w28.cell? ⟨gb276,0,none⟩ = some (.int .u64 a0_0):=(blk_cell BK276.out 0).trans rfl;have hcz29_1 : w28.cell? ⟨gb276,1,none⟩ = some (.string a0_1):=(blk_cell BK276.out 1).trans rfl;have hcz29_2 : w28.cell? ⟨gb276,2,none⟩ = some (.string a0_2):=(blk_cell BK276.out 2).trans rfl;have hcz29_3 : w28.cell? ⟨gb276,3,none⟩ = some (.bool a0_3):=(blk_cell BK276.out 3).trans rfl;have hfz29_0:=blk_frozen BK276.out 0;have hfz29_1:=blk_frozen BK276.out 1;have hfz29_2:=blk_frozen BK276.out 2;have hfz29_3:=blk_frozen BK276.out 3) | ((with_reducible refine gate_callee (f:=56) rfl ?_);refine goesL_ (some 6) rfl rfl Try.func56 (by kernel_rfl) rfl #[.agg #[.int .u64 a0_0,.string a0_1,.string a0_2,.bool a0_3]] rfl (by (try simp only [List.map_toArray,List.map_cons,List.map_nil]);first | done | rfl | (simp only [List.length_drop,List.length_take];rfl)) ?_;(with_reducible refine (thwartref03_Right.calls a0_0 a0_1 a0_2 a0_3 false _ A2.out).mono ?_);rintro e w30 ⟨rfl,hb⟩;refine ⟨_,rfl,?_⟩;have n0_:=Aside0.mk (blk_below (g:=gb276) (o := .cells #[.int .u64 a0_0,.string a0_1,.string a0_2,.bool a0_3] 45 (0,0)) (by (with_reducible repeat (first | refine blk_drewN ?_ _ | refine blk_drew ?_ | refine blk_alloc ?_ _));exact BK276.out) hb);have n1_:=Aside0.mk (below_step (by repeat (first | (with_reducible first | exact HB.out | apply below_alloc | apply pw_below_drewN | apply below_drew1 | refine below_set ?_ GE276.out) | exact HB.out)) hb);clear BK276;clear HB;have BK276:=n0_;have HB:=n1_;clear n0_ n1_;(try clear hb);(try clear hb2);(try clear hk);(try clear hi)))
  go_ret2
  exact ⟨by first | rfl | (simp [errW_none,errW_some] <;> rfl) | (simp [*,errW_none,errW_some] <;> rfl) | (simp [errW_none,errW_some];exact isEmpty_bne _),by repeat (first | (with_reducible first | exact HB.out | apply below_alloc | apply pw_below_drewN | apply below_drew1 | refine below_set ?_ GE276.out) | exact HB.out)⟩

/-! ### thwartref03_All: function 42 -/
def thwartref03_All.l0 : Nat → List (S45) → ByteArray → Int → Option (ByteArray × Int)
 | 0,_,_,_ => none
 | k + 1,x0,x4,x5 => if x5 < (x0.length : Int) then (if 0 ≤ x5 then ((thwartref03_Bytes.f k ((rd_T45 x0 x5).f0) ((rd_T45 x0 x5).f1) ((rd_T45 x0 x5).f2) ((rd_T45 x0 x5).f3)).bind fun bt284 => (if bt284.2 = 0 then (if x4.size + bt284.1.size ≤ 9223372036854775807 then (thwartref03_All.l0 k x0 (x4 ++ bt284.1) (wrap64 (x5 + 1))) else (none)) else (some ((⟨#[]⟩ : ByteArray),bt284.2)))) else (none)) else (some (x4,0))
def thwartref03_All.f (k : Nat) (l0 : List (S45)) : Option (ByteArray × Int):=thwartref03_All.l0 k l0 (⟨#[]⟩ : ByteArray) 0
theorem thwartref03_All.mono_l : ∀ k,(∀ y0 y1 y2,LeO (thwartref03_All.l0 k y0 y1 y2) (thwartref03_All.l0 (k + 1) y0 y1 y2))
 | 0 => fun _ _ _ r h => by simp [thwartref03_All.l0] at h
 | k + 1 => by
  have ih0:=thwartref03_All.mono_l k
  ·intro y0 y1 y2
   unfold thwartref03_All.l0
   repeat' first
   | (with_reducible exact ih0 _ _ _)
   | (with_reducible exact thwartref03_Bytes.mono _ _ _ _ _)
   | (with_reducible exact LeO.refl _)
   | (with_reducible exact LeO.none _)
   | (with_reducible refine LeO.ite ?_ ?_)
   | (with_reducible refine LeO.bind ?_ (fun _ => ?_))
   | exact ih0 _ _ _
   | exact thwartref03_Bytes.mono _ _ _ _ _
   | exact LeO.none _
   | refine LeO.ite ?_ ?_
   | refine LeO.bind ?_ (fun _ => ?_)
theorem thwartref03_All.mono : ∀ a0 k,LeO (thwartref03_All.f k a0) (thwartref03_All.f (k + 1) a0):=by
 intro a0 k
 have ih0:=thwartref03_All.mono_l k
 unfold thwartref03_All.f
 repeat' first
   | (with_reducible exact ih0 _ _ _)
   | (with_reducible exact thwartref03_Bytes.mono _ _ _ _ _)
   | (with_reducible exact LeO.refl _)
   | (with_reducible exact LeO.none _)
   | (with_reducible refine LeO.ite ?_ ?_)
   | (with_reducible refine LeO.bind ?_ (fun _ => ?_))
   | exact ih0 _ _ _
   | exact thwartref03_Bytes.mono _ _ _ _ _
   | exact LeO.none _
   | refine LeO.ite ?_ ?_
   | refine LeO.bind ?_ (fun _ => ?_)
set_option maxHeartbeats 8000000 in
set_option maxRecDepth 100000 in
theorem thwartref03_All.calls (k : Nat) (A0 : Option Addr) (c0 : Nat) (l0 : List (S45)) (r1 : ByteArray) (r2 : Int) (w : World) (hr0 : Kd.C k45 w A0 l0.length l0) (hc0 : l0.length ≤ c0) (h : thwartref03_All.f k l0 = some (r1,r2)) :
  Calls Try.prog 42 #[.slice A0 l0.length c0] w fun e w' => e = .returned (.tuple #[.string r1,.int .i64 r2]) ∧ Below w.heap.size w w' := by
 have hu45:=Try.underlying45
 have HR0:=Aside0.mk hr0
 have HC0:=Aside0.mk hc0
 clear hr0 hc0
 have HB:=Aside0.mk (Below.refl w.heap.size w)
 have H : (thwartref03_All.l0 k l0 (⟨#[]⟩ : ByteArray) 0) = some (r1,r2):=h
 clear h
 have H' := Aside0.mk H
 clear H
 go_enter Try.func42,Try.ntmps42
 go_wp2
 go_loopg [4,5] k (fun kq v4 v5 w' => ∃ (x4_1 : ByteArray) (x5_1 : Int),v4 = .string x4_1 ∧ v5 = .int .i64 x5_1 ∧ Aside0 (thwartref03_All.l0 kq l0 x4_1 x5_1 = some (r1,r2)) ∧ Aside0 (kq ≤ k) ∧ Aside0 (Below w.heap.size w w'))
 case atStart => exact ⟨((⟨#[]⟩ : ByteArray)),(0),(by first | rfl | (simp;done) | (simp [*];done)),(by first | rfl | (simp;done) | (simp [*];done)),H',⟨Nat.le_refl _⟩,⟨by repeat (first | (with_reducible first | exact HB.out | apply below_alloc | apply pw_below_drewN | apply below_drew1) | exact HB.out)⟩⟩
 case round =>
  clear H'
  obtain ⟨x4_1,x5_1,rfl,rfl,HA,HK1,HB⟩:=hrel
  cases gk with
  | zero => exact absurd HA.out (by simp [thwartref03_All.l0])
  | succ k1 =>
   have H:=HA.out
   clear HA
   simp only [thwartref03_All.l0] at H
   by_cases c2 : x5_1 < (l0.length : Int)
   ·rw [if_pos c2] at H
    have c2b0 : decide (x5_1 < (l0.length : Int)) = true:=decide_eq_true c2
    clear c2
    by_cases c3 : 0 ≤ x5_1
    ·rw [if_pos c3] at H
     have c3b0 : decide (0 ≤ x5_1) = true:=decide_eq_true c3
     clear c3
     replace H:=Option.bind_eq_some_iff.mp H
     obtain ⟨⟨t284,t285⟩,A40,H⟩:=H
     replace H : (if t285 = 0 then (if x4_1.size + t284.size ≤ 9223372036854775807 then (thwartref03_All.l0 k1 l0 (x4_1 ++ t284) (wrap64 (x5_1 + 1))) else (none)) else (some ((⟨#[]⟩ : ByteArray),t285))) = some (r1,r2):=H
     have A4:=Aside0.mk A40
     clear A40
     by_cases c5 : t285 = 0
     ·rw [if_pos c5] at H
      have c5b0 : (t285 == 0) = true:=beq_iff_eq.mpr c5
      have c5b1 : (t285 != 0) = false:=bne_eq_false_iff_eq.mpr c5
      clear c5
      by_cases c6 : x4_1.size + t284.size ≤ 9223372036854775807
      ·rw [if_pos c6] at H
       have c6b0:=eq_true c6
       have c6b1 : decide (x4_1.size + t284.size ≤ 9223372036854775807) = true:=decide_eq_true c6
       try have c6b2 : (9223372036854775807 < x4_1.size + t284.size) = False:=eq_false (Nat.not_lt.2 c6)
       have H' := Aside0.mk H
       clear H
       have p283 : 0 ≤ (x5_1 : Int):=of_decide_eq_true (by first | (with_reducible assumption) | assumption)
       have q283 : x5_1 < (l0.length : Int):=of_decide_eq_true (by first | (with_reducible assumption) | assumption)
       obtain ⟨ad283,e283,hx283_0,hx283_1,hx283_2,hx283_3⟩:=at_T45 HR0.out x5_1 p283 q283
       cases e283
       replace hx283_0:=(HB.out.cell (World.block_lt_of_cell? w _ hx283_0)).trans hx283_0
       replace hx283_1:=(HB.out.cell (World.block_lt_of_cell? w _ hx283_1)).trans hx283_1
       replace hx283_2:=(HB.out.cell (World.block_lt_of_cell? w _ hx283_2)).trans hx283_2
       replace hx283_3:=(HB.out.cell (World.block_lt_of_cell? w _ hx283_3)).trans hx283_3
       replace p283:=eq_true p283
       replace q283:=eq_true q283
       go_wp2_with (first | ((with_reducible refine gate_callee (f:=43) rfl ?_);refine goesL_ (some 19) rfl rfl Try.func43 (by kernel_rfl) rfl #[.agg #[.int .u64 ((rd_T45 l0 x5_1).f0),.string ((rd_T45 l0 x5_1).f1),.string ((rd_T45 l0 x5_1).f2),.bool ((rd_T45 l0 x5_1).f3)]] rfl (by (try simp only [List.map_toArray,List.map_cons,List.map_nil]);first | done | rfl | (simp only [List.length_drop,List.length_take];rfl)) ?_;(with_reducible refine (thwartref03_Bytes.calls k1 ((rd_T45 l0 x5_1).f0) ((rd_T45 l0 x5_1).f1) ((rd_T45 l0 x5_1).f2) ((rd_T45 l0 x5_1).f3) t284 t285 _ A4.out).mono ?_);rintro e w7 ⟨rfl,hb⟩;refine ⟨_,rfl,?_⟩;have n0_:=Aside0.mk (below_step (by repeat (first | (with_reducible first | exact HB.out | apply below_alloc | apply pw_below_drewN | apply below_drew1) | exact HB.out)) hb);clear HB;have HB:=n0_;clear n0_;(try clear hb);(try clear hb2);(try clear hk);(try clear hi)))
       go_roundg k1
       case measure => have:=HK1.out;omega
       case rel => exact ⟨(x4_1 ++ t284),(wrap64 (x5_1 + 1)),(by first | rfl | (simp;done) | (simp [*];done)),(by first | rfl | (simp;done) | (simp [*];done)),H',⟨by have:=HK1.out;omega⟩,⟨by repeat (first | (with_reducible first | exact HB.out | apply below_alloc | apply pw_below_drewN | apply below_drew1) | exact HB.out)⟩⟩
      ·rw [if_neg c6] at H
       exact absurd H (by simp)
     ·rw [if_neg c5] at H
      have c5b0 : (t285 == 0) = false:=beq_eq_false_iff_ne.mpr c5
      have c5b1 : (t285 != 0) = true:=bne_iff_ne.mpr c5
      simp only [Option.some.injEq,Prod.mk.injEq] at H
      obtain ⟨rfl,rfl⟩:=H
      have p283 : 0 ≤ (x5_1 : Int):=of_decide_eq_true (by first | (with_reducible assumption) | assumption)
      have q283 : x5_1 < (l0.length : Int):=of_decide_eq_true (by first | (with_reducible assumption) | assumption)
      obtain ⟨ad283,e283,hx283_0,hx283_1,hx283_2,hx283_3⟩:=at_T45 HR0.out x5_1 p283 q283
      cases e283
      replace hx283_0:=(HB.out.cell (World.block_lt_of_cell? w _ hx283_0)).trans hx283_0
      replace hx283_1:=(HB.out.cell (World.block_lt_of_cell? w _ hx283_1)).trans hx283_1
      replace hx283_2:=(HB.out.cell (World.block_lt_of_cell? w _ hx283_2)).trans hx283_2
      replace hx283_3:=(HB.out.cell (World.block_lt_of_cell? w _ hx283_3)).trans hx283_3
      replace p283:=eq_true p283
      replace q283:=eq_true q283
      go_wp2_with (first | ((with_reducible refine gate_callee (f:=43) rfl ?_);refine goesL_ (some 19) rfl rfl Try.func43 (by kernel_rfl) rfl #[.agg #[.int .u64 ((rd_T45 l0 x5_1).f0),.string ((rd_T45 l0 x5_1).f1),.string ((rd_T45 l0 x5_1).f2),.bool ((rd_T45 l0 x5_1).f3)]] rfl (by (try simp only [List.map_toArray,List.map_cons,List.map_nil]);first | done | rfl | (simp only [List.length_drop,List.length_take];rfl)) ?_;(with_reducible refine (thwartref03_Bytes.calls k1 ((rd_T45 l0 x5_1).f0) ((rd_T45 l0 x5_1).f1) ((rd_T45 l0 x5_1).f2) ((rd_T45 l0 x5_1).f3) t284 t285 _ A4.out).mono ?_);rintro e w8 ⟨rfl,hb⟩;refine ⟨_,rfl,?_⟩;have n0_:=Aside0.mk (below_step (by repeat (first | (with_reducible first | exact HB.out | apply below_alloc | apply pw_below_drewN | apply below_drew1) | exact HB.out)) hb);clear HB;have HB:=n0_;clear n0_;(try clear hb);(try clear hb2);(try clear hk);(try clear hi)))
      go_ret2
      exact ⟨by first | rfl | (simp [errW_none,errW_some] <;> rfl) | (simp [*,errW_none,errW_some] <;> rfl) | (simp [errW_none,errW_some];exact isEmpty_bne _),by repeat (first | (with_reducible first | exact HB.out | apply below_alloc | apply pw_below_drewN | apply below_drew1) | exact HB.out)⟩
    ·rw [if_neg c3] at H
     exact absurd H (by simp)
   ·rw [if_neg c2] at H
    have c2b0 : decide (x5_1 < (l0.length : Int)) = false:=decide_eq_false c2
    clear c2
    simp only [Option.some.injEq,Prod.mk.injEq] at H
    obtain ⟨rfl,rfl⟩:=H
    go_wp2
    go_ret2
    exact ⟨by first | rfl | (simp [errW_none,errW_some] <;> rfl) | (simp [*,errW_none,errW_some] <;> rfl) | (simp [errW_none,errW_some];exact isEmpty_bne _),by repeat (first | (with_reducible first | exact HB.out | apply below_alloc | apply pw_below_drewN | apply below_drew1) | exact HB.out)⟩

/-! ### thwartref04_Bytes: function 41 -/
def thwartref04_Bytes.j0 : Nat → List (S45) → Bool → Option (ByteArray × Int)
 | 0,_,_ => none
 | k + 1,x0,x13 => if x13 = true then (some ((⟨#[]⟩ : ByteArray),1)) else ((thwartref03_All.f k x0).bind fun bt286 => (if bt286.2 = 0 then ((thwartref02_Seal.f k bt286.1).bind fun t288 => ((thwartref01_Text.f k t288).bind fun t289 => (some (t289,0)))) else (some ((⟨#[]⟩ : ByteArray),bt286.2))))
def thwartref04_Bytes.f (k : Nat) (l0 : List (S45)) : Option (ByteArray × Int):=if (l0.length : Int) < 1 then (thwartref04_Bytes.j0 k l0 true) else (thwartref04_Bytes.j0 k l0 (decide ((l0.length : Int) > 16)))
theorem thwartref04_Bytes.mono_l : ∀ k,(∀ y0 y1,LeO (thwartref04_Bytes.j0 k y0 y1) (thwartref04_Bytes.j0 (k + 1) y0 y1))
 | 0 => fun _ _ r h => by simp [thwartref04_Bytes.j0] at h
 | k + 1 => by
  have ih0:=thwartref04_Bytes.mono_l k
  ·intro y0 y1
   unfold thwartref04_Bytes.j0
   repeat' first
   | (with_reducible exact ih0 _ _)
   | (with_reducible exact thwartref01_Text.mono _ _)
   | (with_reducible exact thwartref02_Seal.mono _ _)
   | (with_reducible exact thwartref03_All.mono _ _)
   | (with_reducible exact LeO.refl _)
   | (with_reducible exact LeO.none _)
   | (with_reducible refine LeO.ite ?_ ?_)
   | (with_reducible refine LeO.bind ?_ (fun _ => ?_))
   | exact ih0 _ _
   | exact thwartref01_Text.mono _ _
   | exact thwartref02_Seal.mono _ _
   | exact thwartref03_All.mono _ _
   | exact LeO.none _
   | refine LeO.ite ?_ ?_
   | refine LeO.bind ?_ (fun _ => ?_)
theorem thwartref04_Bytes.mono : ∀ a0 k,LeO (thwartref04_Bytes.f k a0) (thwartref04_Bytes.f (k + 1) a0):=by
 intro a0 k
 have ih0:=thwartref04_Bytes.mono_l k
 unfold thwartref04_Bytes.f
 repeat' first
   | (with_reducible exact ih0 _ _)
   | (with_reducible exact thwartref01_Text.mono _ _)
   | (with_reducible exact thwartref02_Seal.mono _ _)
   | (with_reducible exact thwartref03_All.mono _ _)
   | (with_reducible exact LeO.refl _)
   | (with_reducible exact LeO.none _)
   | (with_reducible refine LeO.ite ?_ ?_)
   | (with_reducible refine LeO.bind ?_ (fun _ => ?_))
   | exact ih0 _ _
   | exact thwartref01_Text.mono _ _
   | exact thwartref02_Seal.mono _ _
   | exact thwartref03_All.mono _ _
   | exact LeO.none _
   | refine LeO.ite ?_ ?_
   | refine LeO.bind ?_ (fun _ => ?_)
set_option maxHeartbeats 8000000 in
set_option maxRecDepth 100000 in
theorem thwartref04_Bytes.calls (k : Nat) (A0 : Option Addr) (c0 : Nat) (l0 : List (S45)) (r1 : ByteArray) (r2 : Int) (w : World) (hr0 : Kd.C k45 w A0 l0.length l0) (hc0 : l0.length ≤ c0) (h : thwartref04_Bytes.f k l0 = some (r1,r2)) :
  Calls Try.prog 41 #[.slice A0 l0.length c0] w fun e w' => e = .returned (.tuple #[.string r1,.int .i64 r2]) ∧ Below w.heap.size w w' := by
 have HR0:=Aside0.mk hr0
 have HC0:=Aside0.mk hc0
 clear hr0 hc0
 have HB:=Aside0.mk (Below.refl w.heap.size w)
 have H : (if (l0.length : Int) < 1 then (thwartref04_Bytes.j0 k l0 true) else (thwartref04_Bytes.j0 k l0 (decide ((l0.length : Int) > 16)))) = some (r1,r2):=h
 clear h
 have HC2:=Aside0.mk H
 clear H
 go_enter Try.func41,Try.ntmps41
 go_upto_region 1 with (fail)
 go_cut [13] (fun v13 wc => ∃ (kq : Nat) (x13_1 : Bool),v13 = .bool x13_1 ∧ Aside0 (thwartref04_Bytes.j0 kq l0 x13_1 = some (r1,r2)) ∧ Aside0 (kq ≤ k) ∧ Aside0 (Below w.heap.size w wc))
 case first =>
  have H:=HC2.out
  clear HC2
  by_cases c3 : (l0.length : Int) < 1
  ·rw [if_pos c3] at H
   have c3b0 : decide ((l0.length : Int) < 1) = true:=decide_eq_true c3
   have c3b1 : decide (l0.length < 1) = true:=decide_eq_true (by omega)
   clear c3
   (first | rw [c3b0] | (simp only [i64_w,i32_w];rw [c3b0]) | skip)
   have H' := Aside0.mk H
   clear H
   go_wp2
   go_meet
   case rel => exact ⟨_,(true),(by first | rfl | (simp;done) | (simp [*];done)),H',⟨by first | omega | exact Nat.le_refl _⟩,⟨by repeat (first | (with_reducible first | exact HB.out | apply below_alloc | apply pw_below_drewN | apply below_drew1) | exact HB.out)⟩⟩
  ·rw [if_neg c3] at H
   have c3b0 : decide ((l0.length : Int) < 1) = false:=decide_eq_false c3
   have c3b1 : decide (l0.length < 1) = false:=decide_eq_false (by omega)
   clear c3
   (first | rw [c3b0] | (simp only [i64_w,i32_w];rw [c3b0]) | skip)
   have H' := Aside0.mk H
   clear H
   go_wp2
   go_meet
   case rel => exact ⟨_,(decide ((l0.length : Int) > 16)),(by first | rfl | (simp;done) | (simp [*];done)),H',⟨by first | omega | exact Nat.le_refl _⟩,⟨by repeat (first | (with_reducible first | exact HB.out | apply below_alloc | apply pw_below_drewN | apply below_drew1) | exact HB.out)⟩⟩
 case rest =>
  clear HC2
  try clear p2
  try clear c3
  try clear c3b0
  try clear c3b1
  obtain ⟨kq,x13_1,rfl,HA,HJ1,HB⟩:=hcut
  cases kq with
  | zero => exact absurd HA.out (by simp [thwartref04_Bytes.j0])
  | succ kj1 =>
   have H:=HA.out
   clear HA
   simp only [thwartref04_Bytes.j0] at H
   by_cases c4 : x13_1 = true
   ·subst c4
    have H1 : (some ((⟨#[]⟩ : ByteArray),1)) = some (r1,r2):=by rw [if_pos rfl] at H;exact H
    clear H
    have H:=H1
    clear H1
    simp only [Option.some.injEq,Prod.mk.injEq] at H
    obtain ⟨rfl,rfl⟩:=H
    go_wp2
    go_ret2
    exact ⟨by first | rfl | (simp [errW_none,errW_some] <;> rfl) | (simp [*,errW_none,errW_some] <;> rfl) | (simp [errW_none,errW_some];exact isEmpty_bne _),by repeat (first | (with_reducible first | exact HB.out | apply below_alloc | apply pw_below_drewN | apply below_drew1) | exact HB.out)⟩
   ·replace c4:=Bool.eq_false_iff.mpr c4
    subst c4
    have H1 : ((thwartref03_All.f kj1 l0).bind fun bt286 => (if bt286.2 = 0 then ((thwartref02_Seal.f kj1 bt286.1).bind fun t288 => ((thwartref01_Text.f kj1 t288).bind fun t289 => (some (t289,0)))) else (some ((⟨#[]⟩ : ByteArray),bt286.2)))) = some (r1,r2):=by rw [if_neg (show ¬ (false = true) by decide)] at H;exact H
    clear H
    have H:=H1
    clear H1
    replace H:=Option.bind_eq_some_iff.mp H
    obtain ⟨⟨t286,t287⟩,A50,H⟩:=H
    replace H : (if t287 = 0 then ((thwartref02_Seal.f kj1 t286).bind fun t288 => ((thwartref01_Text.f kj1 t288).bind fun t289 => (some (t289,0)))) else (some ((⟨#[]⟩ : ByteArray),t287))) = some (r1,r2):=H
    have A5:=Aside0.mk A50
    clear A50
    by_cases c6 : t287 = 0
    ·rw [if_pos c6] at H
     have c6b0 : (t287 == 0) = true:=beq_iff_eq.mpr c6
     have c6b1 : (t287 != 0) = false:=bne_eq_false_iff_eq.mpr c6
     clear c6
     replace H:=Option.bind_eq_some_iff.mp H
     obtain ⟨t288,A70,H⟩:=H
     replace H : ((thwartref01_Text.f kj1 t288).bind fun t289 => (some (t289,0))) = some (r1,r2):=H
     have A7:=Aside0.mk A70
     clear A70
     replace H:=Option.bind_eq_some_iff.mp H
     obtain ⟨t289,A80,H⟩:=H
     replace H : (some (t289,0)) = some (r1,r2):=H
     have A8:=Aside0.mk A80
     clear A80
     simp only [Option.some.injEq,Prod.mk.injEq] at H
     obtain ⟨rfl,rfl⟩:=H
     go_wp2_with (first | ((with_reducible refine gate_callee (f:=42) rfl ?_);refine goesL_ (some 16) rfl rfl Try.func42 (by kernel_rfl) rfl #[.slice A0 l0.length c0] rfl (by (try simp only [List.map_toArray,List.map_cons,List.map_nil]);first | done | rfl | (simp only [List.length_drop,List.length_take];rfl)) ?_;(with_reducible refine (thwartref03_All.calls kj1 _ _ l0 t286 t287 _ ?side1 ?side2 A5.out).mono ?_);(case side1 => repeat (first | exact (Kd.C_below HR0.out HB.out) | (with_reducible refine Kd.C_alloc ?_ _) | (with_reducible refine Kd.C_drewN ?_ _) | (with_reducible refine Kd.C_drew ?_)));(case side2 => exact HC0.out);rintro e w9 ⟨rfl,hb⟩;refine ⟨_,rfl,?_⟩;have n0_:=Aside0.mk (below_step (by repeat (first | (with_reducible first | exact HB.out | apply below_alloc | apply pw_below_drewN | apply below_drew1) | exact HB.out)) hb);clear HB;have HB:=n0_;clear n0_;(try clear hb);(try clear hb2);(try clear hk);(try clear hi)) | ((with_reducible refine gate_callee (f:=30) rfl ?_);refine goesL_ (some 23) rfl rfl Try.func30 (by kernel_rfl) rfl #[.string t286] rfl (by (try simp only [List.map_toArray,List.map_cons,List.map_nil]);first | done | rfl | (simp only [List.length_drop,List.length_take];rfl)) ?_;(with_reducible refine (thwartref02_Seal.calls kj1 t286 t288 _ A7.out).mono ?_);rintro e w10 ⟨rfl,hb⟩;refine ⟨_,rfl,?_⟩;have n0_:=Aside0.mk (below_step (by repeat (first | (with_reducible first | exact HB.out | apply below_alloc | apply pw_below_drewN | apply below_drew1) | exact HB.out)) hb);clear HB;have HB:=n0_;clear n0_;(try clear hb);(try clear hb2);(try clear hk);(try clear hi)) | ((with_reducible refine gate_callee (f:=51) rfl ?_);refine goesL_ (some 24) rfl rfl Try.func51 (by kernel_rfl) rfl #[.string t288] rfl (by (try simp only [List.map_toArray,List.map_cons,List.map_nil]);first | done | rfl | (simp only [List.length_drop,List.length_take];rfl)) ?_;(with_reducible refine (thwartref01_Text.calls kj1 t288 t289 _ A8.out).mono ?_);rintro e w11 ⟨rfl,hb⟩;refine ⟨_,rfl,?_⟩;have n0_:=Aside0.mk (below_step (by repeat (first | (with_reducible first | exact HB.out | apply below_alloc | apply pw_below_drewN | apply below_drew1) | exact HB.out)) hb);clear HB;have HB:=n0_;clear n0_;(try clear hb);(try clear hb2);(try clear hk);(try clear hi)))
     go_ret2
     exact ⟨by first | rfl | (simp [errW_none,errW_some] <;> rfl) | (simp [*,errW_none,errW_some] <;> rfl) | (simp [errW_none,errW_some];exact isEmpty_bne _),by repeat (first | (with_reducible first | exact HB.out | apply below_alloc | apply pw_below_drewN | apply below_drew1) | exact HB.out)⟩
    ·rw [if_neg c6] at H
     have c6b0 : (t287 == 0) = false:=beq_eq_false_iff_ne.mpr c6
     have c6b1 : (t287 != 0) = true:=bne_iff_ne.mpr c6
     simp only [Option.some.injEq,Prod.mk.injEq] at H
     obtain ⟨rfl,rfl⟩:=H
     go_wp2_with (first | ((with_reducible refine gate_callee (f:=42) rfl ?_);refine goesL_ (some 16) rfl rfl Try.func42 (by kernel_rfl) rfl #[.slice A0 l0.length c0] rfl (by (try simp only [List.map_toArray,List.map_cons,List.map_nil]);first | done | rfl | (simp only [List.length_drop,List.length_take];rfl)) ?_;(with_reducible refine (thwartref03_All.calls kj1 _ _ l0 t286 t287 _ ?side1 ?side2 A5.out).mono ?_);(case side1 => repeat (first | exact (Kd.C_below HR0.out HB.out) | (with_reducible refine Kd.C_alloc ?_ _) | (with_reducible refine Kd.C_drewN ?_ _) | (with_reducible refine Kd.C_drew ?_)));(case side2 => exact HC0.out);rintro e w12 ⟨rfl,hb⟩;refine ⟨_,rfl,?_⟩;have n0_:=Aside0.mk (below_step (by repeat (first | (with_reducible first | exact HB.out | apply below_alloc | apply pw_below_drewN | apply below_drew1) | exact HB.out)) hb);clear HB;have HB:=n0_;clear n0_;(try clear hb);(try clear hb2);(try clear hk);(try clear hi)))
     go_ret2
     exact ⟨by first | rfl | (simp [errW_none,errW_some] <;> rfl) | (simp [*,errW_none,errW_some] <;> rfl) | (simp [errW_none,errW_some];exact isEmpty_bne _),by repeat (first | (with_reducible first | exact HB.out | apply below_alloc | apply pw_below_drewN | apply below_drew1) | exact HB.out)⟩

end Go.Proofs.Ytdjkkceamldmjaa.Print
