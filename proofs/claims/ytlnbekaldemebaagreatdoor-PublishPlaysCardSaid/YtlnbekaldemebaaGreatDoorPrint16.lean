/- Written by a program of mine (give.py, over the kit's print) out of the translation: contracts of the Go functions. Lean checks it. -/
import Derived.Test.YtlnbekaldemebaaGreatDoorPrint0
import Derived.Test.YtlnbekaldemebaaGreatDoorPrint14
import Derived.Test.YtlnbekaldemebaaGreatDoorPrint15
namespace Go.Proofs.YtlnbekaldemebaaGreatDoor.Print
open Go.RowKit Go.Proofs.YtlnbekaldemebaaGreatDoorW.PrintWords Go.Proofs.YtlnbekaldemebaaGreatDoorW.PrintLast Go.Proofs.YtlnbekaldemebaaGreatDoorW.PrintMore
attribute [local go_sem] max2_int min2_int max_two min_two max_three min_three max_four min_four   -- for this text's walks alone
set_option linter.unusedVariables false
set_option linter.unusedSimpArgs false

/-! ### thwartref12_Read: function 54 -/
mutual
def thwartref12_Read.l0 : Nat → ByteArray → ByteArray → List Int → Option (Int × (List (S65)) × Int)
 | 0,_,_,_ => none
 | k + 1,x0,x4,x6 => if (x4.size : Int) > 0 then ((thwartref01_Take.f k x4).bind fun bt400 => (if bt400.2.2 = 0 then (if bt400.1 > 4294967295 then (some (0,([] : List (S65)),2)) else (if x6.length < 17592186044416 then (thwartref12_Read.l0 k x0 bt400.2.1 (x6 ++ [bt400.1])) else (none))) else (some (0,([] : List (S65)),2)))) else (if (x6.length : Int) < 2 then (some (0,([] : List (S65)),2)) else (if 0 < (x6.length : Int) then (thwartref12_Read.l1 k x0 x6 2 (wrap64 (rd x6 0)) ([] : List (S65))) else (none)))
def thwartref12_Read.l1 : Nat → ByteArray → List Int → Int → Int → List (S65) → Option (Int × (List (S65)) × Int)
 | 0,_,_,_,_,_ => none
 | k + 1,x0,x6,x11,x408000,x408001 => if (wrap64 (x11 + 2)) < (x6.length : Int) then (if 0 ≤ x11 then (if x11 < (x6.length : Int) then (if 0 ≤ (wrap64 (x11 + 1)) then (if (wrap64 (x11 + 1)) < (x6.length : Int) then (if 0 ≤ (wrap64 (x11 + 2)) then (if x408001.length < 5864062014805 then (thwartref12_Read.l1 k x0 x6 (wrap64 (x11 + 3)) x408000 (x408001 ++ [(⟨wrap64 (rd x6 x11),wrap64 (rd x6 (wrap64 (x11 + 1))),(rd x6 (wrap64 (x11 + 2))) % 4294967296⟩ : S65)])) else (none)) else (none)) else (none)) else (none)) else (none)) else (none)) else ((thwartref12_Bytes.f k x408000 x408001).bind fun bt414 => (if bt414.2 = 0 then (if bt414.1.toList = x0.toList then (some (x408000,x408001,0)) else (some (0,([] : List (S65)),2))) else (some (0,([] : List (S65)),2))))
end
def thwartref12_Read.f (k : Nat) (a0 : ByteArray) : Option (Int × (List (S65)) × Int):=(thwartref02_Open.f k a0).bind fun bt398 => (if bt398.2 = true then (thwartref12_Read.l0 k a0 bt398.1 ([] : List Int)) else (some (0,([] : List (S65)),4)))
theorem thwartref12_Read.mono_l : ∀ k,(∀ y0 y1 y2,LeO (thwartref12_Read.l0 k y0 y1 y2) (thwartref12_Read.l0 (k + 1) y0 y1 y2)) ∧ (∀ y0 y1 y2 y3 y4,LeO (thwartref12_Read.l1 k y0 y1 y2 y3 y4) (thwartref12_Read.l1 (k + 1) y0 y1 y2 y3 y4))
 | 0 => ⟨fun _ _ _ r h => by simp [thwartref12_Read.l0] at h,fun _ _ _ _ _ r h => by simp [thwartref12_Read.l1] at h⟩
 | k + 1 => by
  obtain ⟨ih0,ih1⟩:=thwartref12_Read.mono_l k
  refine ⟨?_,?_⟩
  ·intro y0 y1 y2
   unfold thwartref12_Read.l0
   repeat' first
   | (with_reducible exact ih0 _ _ _)
   | (with_reducible exact ih1 _ _ _ _ _)
   | (with_reducible exact thwartref01_Take.mono _ _)
   | (with_reducible exact thwartref02_Open.mono _ _)
   | (with_reducible exact thwartref12_Bytes.mono _ _ _)
   | (with_reducible exact LeO.refl _)
   | (with_reducible exact LeO.none _)
   | (with_reducible refine LeO.ite ?_ ?_)
   | (with_reducible refine LeO.bind ?_ (fun _ => ?_))
   | exact ih0 _ _ _
   | exact ih1 _ _ _ _ _
   | exact thwartref01_Take.mono _ _
   | exact thwartref02_Open.mono _ _
   | exact thwartref12_Bytes.mono _ _ _
   | exact LeO.none _
   | refine LeO.ite ?_ ?_
   | refine LeO.bind ?_ (fun _ => ?_)
  ·intro y0 y1 y2 y3 y4
   unfold thwartref12_Read.l1
   repeat' first
   | (with_reducible exact ih0 _ _ _)
   | (with_reducible exact ih1 _ _ _ _ _)
   | (with_reducible exact thwartref01_Take.mono _ _)
   | (with_reducible exact thwartref02_Open.mono _ _)
   | (with_reducible exact thwartref12_Bytes.mono _ _ _)
   | (with_reducible exact LeO.refl _)
   | (with_reducible exact LeO.none _)
   | (with_reducible refine LeO.ite ?_ ?_)
   | (with_reducible refine LeO.bind ?_ (fun _ => ?_))
   | exact ih0 _ _ _
   | exact ih1 _ _ _ _ _
   | exact thwartref01_Take.mono _ _
   | exact thwartref02_Open.mono _ _
   | exact thwartref12_Bytes.mono _ _ _
   | exact LeO.none _
   | refine LeO.ite ?_ ?_
   | refine LeO.bind ?_ (fun _ => ?_)
theorem thwartref12_Read.mono : ∀ a0 k,LeO (thwartref12_Read.f k a0) (thwartref12_Read.f (k + 1) a0):=by
 intro a0 k
 obtain ⟨ih0,ih1⟩:=thwartref12_Read.mono_l k
 unfold thwartref12_Read.f
 repeat' first
   | (with_reducible exact ih0 _ _ _)
   | (with_reducible exact ih1 _ _ _ _ _)
   | (with_reducible exact thwartref01_Take.mono _ _)
   | (with_reducible exact thwartref02_Open.mono _ _)
   | (with_reducible exact thwartref12_Bytes.mono _ _ _)
   | (with_reducible exact LeO.refl _)
   | (with_reducible exact LeO.none _)
   | (with_reducible refine LeO.ite ?_ ?_)
   | (with_reducible refine LeO.bind ?_ (fun _ => ?_))
   | exact ih0 _ _ _
   | exact ih1 _ _ _ _ _
   | exact thwartref01_Take.mono _ _
   | exact thwartref02_Open.mono _ _
   | exact thwartref12_Bytes.mono _ _ _
   | exact LeO.none _
   | refine LeO.ite ?_ ?_
   | refine LeO.bind ?_ (fun _ => ?_)
def thwartref12_Read.T17 : Bool × List (List Nat × List Nat):=(true,[([],[]),([0],[0]),([],[]),([],[]),([2,3],[2,3]),([4],[4]),([5],[5]),([],[]),([],[]),([8],[8]),([7,9],[7,9]),([10],[10]),([11],[11]),([],[]),([],[]),([14],[14]),([13,15],[13,15]),([16],[16]),([17],[17]),([6,12,18],[6,12,18]),([19],[19]),([1,20],[1,20]),([0,1,2,3,4,5,6,7,8,9,10,11,12,13,14,15,16,17,18,19,20,21],[]),([22,21,21,0,1,2,3,4,5,6,7,8,9,10,11,12,13,14,15,16,17,18,19,20,21],[21,22])])
def thwartref12_Read.B17 : List Nat:=[0,1,0,0,12,28,60,0,0,256,896,1920,3968,0,0,16384,57344,122880,253952,524284,1048572,2097151,4194303,8388607]
theorem thwartref12_Read.tab17 : rtab .any (opsOf Tryz.f54 17) = thwartref12_Read.T17:=by kernel_rfl
theorem thwartref12_Read.bits17 : waitsOk thwartref12_Read.T17.2 thwartref12_Read.B17 = true:=by kernel_rfl
set_option maxHeartbeats 8000000 in
set_option maxRecDepth 100000 in
theorem thwartref12_Read.calls (k : Nat) (a0 : ByteArray) (r1 : Int) (r2 : List (S65)) (r3 : Int) (w : World) (h : thwartref12_Read.f k a0 = some (r1,r2,r3)) :
  Calls Tryz.prog 54 #[.string a0] w fun e w' => ∃ v1_ : Value,e = .returned (.tuple #[.agg #[.int .i64 r1,v1_],.int .i64 r3]) ∧ Kd.R k65 65 w' w.heap.size (fun _ => True) v1_ r2 ∧ Below w.heap.size w w' := by
 have hu32:=Tryz.underlying32
 have hu65:=Tryz.underlying65
 have HB:=Aside0.mk (Below.refl w.heap.size w)
 have H : ((thwartref02_Open.f k a0).bind fun bt398 => (if bt398.2 = true then (thwartref12_Read.l0 k a0 bt398.1 ([] : List Int)) else (some (0,([] : List (S65)),4)))) = some (r1,r2,r3):=h
 clear h
 replace H:=Option.bind_eq_some_iff.mp H
 obtain ⟨⟨t398,t399⟩,A20,H⟩:=H
 replace H : (if t399 = true then (thwartref12_Read.l0 k a0 t398 ([] : List Int)) else (some (0,([] : List (S65)),4))) = some (r1,r2,r3):=H
 have A2:=Aside0.mk A20
 clear A20
 by_cases c3 : t399 = true
 ·subst c3
  have H1 : (thwartref12_Read.l0 k a0 t398 ([] : List Int)) = some (r1,r2,r3):=by rw [if_pos rfl] at H;exact H
  clear H
  have H:=H1
  clear H1
  have H' := Aside0.mk H
  clear H
  go_enter Tryz.func54,Tryz.ntmps54
  go_wp2_with (first | ((with_reducible refine gate_dst (N:=2) rfl ?_);refine box_event ?hg (N:=2) ?hd (cs := #[.int .i64 0,.slice none 0 0]) (t:=32) ?hr ?_;(case hd => rfl);(case hg => rfl);(case hr => first | (go_simp;done) | (go_simp;rfl));intro gb397 hg w4 hbox hb;have n0_:=Aside0.mk (below_step (by repeat (first | (with_reducible first | exact HB.out | apply below_alloc | apply pw_below_drewN | apply below_drew1) | exact HB.out)) hb);have n1_:=Aside0.mk (hbox);have n2_:=Aside0.mk ((by rw [hg];exact (below_size (by repeat (first | (with_reducible first | exact HB.out | apply below_alloc | apply pw_below_drewN | apply below_drew1) | exact HB.out))) : w.heap.size ≤ gb397));have n3_:=Aside0.mk ((by rw [hg];exact (below_size (by repeat (first | (with_reducible first | exact HB.out | apply below_alloc | apply pw_below_drewN | apply below_drew1) | exact HB.out))) : w.heap.size ≤ gb397));clear HB;have HB:=n0_;have BK397:=n1_;have GW397:=n2_;have GE397:=n3_;clear n0_ n1_ n2_ n3_;clear hb hbox hg) | ((with_reducible refine gate_callee (f:=88) rfl ?_);refine goesL_ (some 16) rfl rfl Tryz.func88 (by kernel_rfl) rfl #[.string a0] rfl (by (try simp only [List.map_toArray,List.map_cons,List.map_nil]);first | done | rfl | (simp only [List.length_drop,List.length_take];rfl)) ?_;(with_reducible refine (thwartref02_Open.calls k a0 t398 true _ A2.out).mono ?_);rintro e w5 ⟨rfl,hb⟩;refine ⟨_,rfl,?_⟩;have n0_:=Aside0.mk (blk_below (g:=gb397) (o := .cells #[.int .i64 0,.slice none 0 0] 32 (0,0)) (by (with_reducible repeat (first | refine blk_drewN ?_ _ | refine blk_drew ?_ | refine blk_alloc ?_ _));exact BK397.out) hb);have n1_:=Aside0.mk (below_step (by repeat (first | (with_reducible first | exact HB.out | apply below_alloc | apply pw_below_drewN | apply below_drew1 | refine below_set ?_ GE397.out) | exact HB.out)) hb);clear BK397;clear HB;have BK397:=n0_;have HB:=n1_;clear n0_ n1_;(try clear hb);(try clear hb2);(try clear hk);(try clear hi)))
  go_loopg [4,6] k (fun kq v4 v6 w' => ∃ (x4_1 : ByteArray) (x6_1 : List Int) (x398000_1 : Int),v4 = .string x4_1 ∧ Aside0 (thwartref12_Read.l0 kq a0 x4_1 x6_1 = some (r1,r2,r3)) ∧ Aside0 (kq ≤ k) ∧ Aside0 (Kd.R (Kd.int .u64) 120 w' w.heap.size (fun _ => True) v6 x6_1) ∧ Aside0 (w'.heap[gb397]? = some (.cells #[.int .i64 x398000_1,(.slice none 0 0)] 32 (0,0))) ∧ Aside0 (Below w.heap.size w w'))
  case atStart => exact ⟨(t398),(([] : List Int)),(0),(by first | rfl | (simp;done) | (simp [*];done)),H',⟨Nat.le_refl _⟩,⟨by first | exact Kd.R_nil _ _ _ _ _ | exact Kd.N_nil _ _ _ _ _ | exact Kd.V_nil _ _ _ _ _ | exact Kd.Q_nil _ _ _ _ _ | exact Kd.S_nil _ _ _ _ _⟩,⟨by (with_reducible repeat (first | refine blk_drewN ?_ _ | refine blk_drew ?_ | refine blk_alloc ?_ _));exact BK397.out⟩,⟨by repeat (first | (with_reducible first | exact HB.out | apply below_alloc | apply pw_below_drewN | apply below_drew1 | refine below_set ?_ GE397.out) | exact HB.out)⟩⟩
  case round =>
   clear H'
   try clear p2
   try clear c3
   try clear c5
   obtain ⟨x4_1,x6_1,x398000_1,rfl,HA,HK1,HO_6,BK397,HB⟩:=hrel
   cases gk with
   | zero => exact absurd HA.out (by simp [thwartref12_Read.l0])
   | succ k1 =>
    have H:=HA.out
    clear HA
    simp only [thwartref12_Read.l0] at H
    by_cases c6 : (x4_1.size : Int) > 0
    ·rw [if_pos c6] at H
     have c6b0 : decide (0 < (x4_1.size : Int)) = true:=decide_eq_true c6
     have c6b1 : decide (0 < x4_1.size) = true:=decide_eq_true (by omega)
     clear c6
     replace H:=Option.bind_eq_some_iff.mp H
     obtain ⟨⟨t400,t401,t402⟩,A70,H⟩:=H
     replace H : (if t402 = 0 then (if t400 > 4294967295 then (some (0,([] : List (S65)),2)) else (if x6_1.length < 17592186044416 then (thwartref12_Read.l0 k1 a0 t401 (x6_1 ++ [t400])) else (none))) else (some (0,([] : List (S65)),2))) = some (r1,r2,r3):=H
     have A7:=Aside0.mk A70
     clear A70
     by_cases c8 : t402 = 0
     ·rw [if_pos c8] at H
      have c8b0 : (t402 == 0) = true:=beq_iff_eq.mpr c8
      have c8b1 : (t402 != 0) = false:=bne_eq_false_iff_eq.mpr c8
      clear c8
      by_cases c9 : t400 > 4294967295
      ·rw [if_pos c9] at H
       have c9b0 : decide (4294967295 < t400) = true:=decide_eq_true c9
       clear c9
       simp only [Option.some.injEq,Prod.mk.injEq] at H
       obtain ⟨rfl,rfl,rfl⟩:=H
       go_wp2_with (first | ((with_reducible refine gate_callee (f:=89) rfl ?_);refine goesL_ (some 27) rfl rfl Tryz.func89 (by kernel_rfl) rfl #[.string x4_1] rfl (by (try simp only [List.map_toArray,List.map_cons,List.map_nil]);first | done | rfl | (simp only [List.length_drop,List.length_take];rfl)) ?_;(with_reducible refine (thwartref01_Take.calls k1 x4_1 t400 t401 t402 _ A7.out).mono ?_);rintro e w10 ⟨rfl,hb⟩;refine ⟨_,rfl,?_⟩;have n0_:=Aside0.mk (Kd.R_below (by (with_reducible repeat (first | apply Kd.R_alloc | apply Kd.R_drewN | apply Kd.R_drew));exact HO_6.out) hb);have n1_:=Aside0.mk (blk_below (g:=gb397) (o := .cells #[.int .i64 x398000_1,.slice none 0 0] 32 (0,0)) (by (with_reducible repeat (first | refine blk_drewN ?_ _ | refine blk_drew ?_ | refine blk_alloc ?_ _));exact BK397.out) hb);have n2_:=Aside0.mk (below_step (by repeat (first | (with_reducible first | exact HB.out | apply below_alloc | apply pw_below_drewN | apply below_drew1 | refine below_set ?_ GE397.out) | exact HB.out)) hb);clear HO_6;clear BK397;clear HB;have HO_6:=n0_;have BK397:=n1_;have HB:=n2_;clear n0_ n1_ n2_;(try clear hb);(try clear hb2);(try clear hk);(try clear hi);have hcz11_0 : w10.cell? ⟨gb397,0,none⟩ = some (.int .i64 x398000_1):=(blk_cell BK397.out 0).trans rfl;have hcz11_1 : w10.cell? ⟨gb397,1,none⟩ = some (.slice none 0 0):=(blk_cell BK397.out 1).trans rfl;have hfz11_0:=blk_frozen BK397.out 0;have hfz11_1:=blk_frozen BK397.out 1))
       refine bodyPost_ret (results_ct rfl _ _ gb397 32 #[.int .i64 0,.slice none 0 0] (0,0) _ rfl (by (with_reducible repeat (first | refine blk_drewN ?_ _ | refine blk_drew ?_ | refine blk_alloc ?_ _));refine blk_put (cs := #[.int .i64 0,.slice none 0 0]) ?_ 1 _ rfl;(with_reducible repeat (first | refine blk_drewN ?_ _ | refine blk_drew ?_ | refine blk_alloc ?_ _));refine blk_put (cs := #[.int .i64 x398000_1,.slice none 0 0]) ?_ 0 _ rfl;(with_reducible repeat (first | refine blk_drewN ?_ _ | refine blk_drew ?_ | refine blk_alloc ?_ _));exact BK397.out) Tryz.underlying32 rfl (by kernel_rfl)) rfl ?_
       exact ⟨_,by first | rfl | (simp [errW_none,errW_some] <;> rfl) | (simp [*,errW_none,errW_some] <;> rfl) | (simp [errW_none,errW_some];exact isEmpty_bne _),by first | exact Kd.R_nil _ _ _ _ _ | exact Kd.N_nil _ _ _ _ _ | exact Kd.V_nil _ _ _ _ _ | exact Kd.Q_nil _ _ _ _ _ | exact Kd.S_nil _ _ _ _ _,by repeat (first | (with_reducible first | exact HB.out | apply below_alloc | apply pw_below_drewN | apply below_drew1 | refine below_set ?_ GE397.out) | exact HB.out)⟩
      ·rw [if_neg c9] at H
       have c9b0 : decide (4294967295 < t400) = false:=decide_eq_false c9
       clear c9
       by_cases c12 : x6_1.length < 17592186044416
       ·rw [if_pos c12] at H
        have LMc12:=Aside0.mk c12
        clear c12
        obtain ⟨y403,hy403⟩ : ∃ y_ : List Int,y_ = (x6_1 ++ [t400]):=⟨_,rfl⟩
        replace H : (thwartref12_Read.l0 k1 a0 t401 y403) = some (r1,r2,r3):=by first | (rw [hy403];with_reducible exact H) | (have H2_:=(Option.bind_some _ _).symm.trans H;rw [hy403];with_reducible exact H2_) | (have H2_:=(Option.bind_some _ _).symm.trans H;with_reducible exact H2_) | with_reducible exact H | (rw [hy403];exact H) | exact H
        have Ny403:=Aside0.mk hy403
        clear hy403
        have H' := Aside0.mk H
        clear H
        go_wp2_with (first | ((with_reducible refine gate_callee (f:=89) rfl ?_);refine goesL_ (some 27) rfl rfl Tryz.func89 (by kernel_rfl) rfl #[.string x4_1] rfl (by (try simp only [List.map_toArray,List.map_cons,List.map_nil]);first | done | rfl | (simp only [List.length_drop,List.length_take];rfl)) ?_;(with_reducible refine (thwartref01_Take.calls k1 x4_1 t400 t401 t402 _ A7.out).mono ?_);rintro e w13 ⟨rfl,hb⟩;refine ⟨_,rfl,?_⟩;have n0_:=Aside0.mk (Kd.R_below (by (with_reducible repeat (first | apply Kd.R_alloc | apply Kd.R_drewN | apply Kd.R_drew));exact HO_6.out) hb);have n1_:=Aside0.mk (blk_below (g:=gb397) (o := .cells #[.int .i64 x398000_1,.slice none 0 0] 32 (0,0)) (by (with_reducible repeat (first | refine blk_drewN ?_ _ | refine blk_drew ?_ | refine blk_alloc ?_ _));exact BK397.out) hb);have n2_:=Aside0.mk (below_step (by repeat (first | (with_reducible first | exact HB.out | apply below_alloc | apply pw_below_drewN | apply below_drew1 | refine below_set ?_ GE397.out) | exact HB.out)) hb);clear HO_6;clear BK397;clear HB;have HO_6:=n0_;have BK397:=n1_;have HB:=n2_;clear n0_ n1_ n2_;(try clear hb);(try clear hb2);(try clear hk);(try clear hi)) | ((with_reducible refine gate_builtin (b := .append) (xs := #[.tmp 38,.tmp 40]) rfl ?_);at_builtin;refine Kd.R_append (Kd.int .u64) (w0:=w) w.heap.size rfl (.tmp 38) (.tmp 40) 138 120 (.int .u64 0) 8 rfl Tryz.underlying138 info120 rfl (by decide) (by omega) u6 x6_1 t400 [.int .u64 t400] (fun _ => True) (fun _ => False) rfl rfl ?aP (fun _ hk => hk.elim) ?aF ?aO ?aB ?aS ?aL ?_;(case aP => exact rfl);(case aB => exact (by repeat (first | (with_reducible first | exact HB.out | apply below_alloc | apply pw_below_drewN | apply below_drew1 | refine below_set ?_ GE397.out) | exact HB.out)));(case aF => exact (fun _ _ => trivial));(case aO => exact (by (with_reducible repeat (first | apply Kd.R_alloc | apply Kd.R_drewN | apply Kd.R_drew));exact HO_6.out));(case aS => exact (below_size (by repeat (first | (with_reducible first | exact HB.out | apply below_alloc | apply pw_below_drewN | apply below_drew1 | refine below_set ?_ GE397.out) | exact HB.out))));(case aL => have:=LMc12.out;omega);intro v404 w14 ho hb hg hat;rw [← Ny403.out] at ho;have n0_:=Aside0.mk (blk_grown (g:=gb397) (o := .cells #[.int .i64 x398000_1,.slice none 0 0] 32 (0,0)) (by (with_reducible repeat (first | refine blk_drewN ?_ _ | refine blk_drew ?_ | refine blk_alloc ?_ _));exact BK397.out) hg (Kd.R_ne HO_6.out BK397.out (by decide)));have n1_:=Aside0.mk (hb);have n2_:=Aside0.mk (ho);clear BK397;clear HB;clear HO_6;have BK397:=n0_;have HB:=n1_;have HO405:=n2_;clear n0_ n1_ n2_;clear ho hb hg hat))
        go_roundg k1
        case measure => have:=HK1.out;omega
        case rel => exact ⟨(t401),(y403),(x398000_1),(by first | rfl | (simp;done) | (simp [*];done)),H',⟨by have:=HK1.out;omega⟩,⟨by (with_reducible repeat (first | apply Kd.R_alloc | apply Kd.R_drewN | apply Kd.R_drew));exact HO405.out⟩,⟨by (with_reducible repeat (first | refine blk_drewN ?_ _ | refine blk_drew ?_ | refine blk_alloc ?_ _));exact BK397.out⟩,⟨by repeat (first | (with_reducible first | exact HB.out | apply below_alloc | apply pw_below_drewN | apply below_drew1 | refine below_set ?_ GE397.out) | exact HB.out)⟩⟩
       ·rw [if_neg c12] at H
        exact absurd H (by simp)
     ·rw [if_neg c8] at H
      have c8b0 : (t402 == 0) = false:=beq_eq_false_iff_ne.mpr c8
      have c8b1 : (t402 != 0) = true:=bne_iff_ne.mpr c8
      simp only [Option.some.injEq,Prod.mk.injEq] at H
      obtain ⟨rfl,rfl,rfl⟩:=H
      go_wp2_with (first | ((with_reducible refine gate_callee (f:=89) rfl ?_);refine goesL_ (some 27) rfl rfl Tryz.func89 (by kernel_rfl) rfl #[.string x4_1] rfl (by (try simp only [List.map_toArray,List.map_cons,List.map_nil]);first | done | rfl | (simp only [List.length_drop,List.length_take];rfl)) ?_;(with_reducible refine (thwartref01_Take.calls k1 x4_1 t400 t401 t402 _ A7.out).mono ?_);rintro e w15 ⟨rfl,hb⟩;refine ⟨_,rfl,?_⟩;have n0_:=Aside0.mk (Kd.R_below (by (with_reducible repeat (first | apply Kd.R_alloc | apply Kd.R_drewN | apply Kd.R_drew));exact HO_6.out) hb);have n1_:=Aside0.mk (blk_below (g:=gb397) (o := .cells #[.int .i64 x398000_1,.slice none 0 0] 32 (0,0)) (by (with_reducible repeat (first | refine blk_drewN ?_ _ | refine blk_drew ?_ | refine blk_alloc ?_ _));exact BK397.out) hb);have n2_:=Aside0.mk (below_step (by repeat (first | (with_reducible first | exact HB.out | apply below_alloc | apply pw_below_drewN | apply below_drew1 | refine below_set ?_ GE397.out) | exact HB.out)) hb);clear HO_6;clear BK397;clear HB;have HO_6:=n0_;have BK397:=n1_;have HB:=n2_;clear n0_ n1_ n2_;(try clear hb);(try clear hb2);(try clear hk);(try clear hi);have hcz16_0 : w15.cell? ⟨gb397,0,none⟩ = some (.int .i64 x398000_1):=(blk_cell BK397.out 0).trans rfl;have hcz16_1 : w15.cell? ⟨gb397,1,none⟩ = some (.slice none 0 0):=(blk_cell BK397.out 1).trans rfl;have hfz16_0:=blk_frozen BK397.out 0;have hfz16_1:=blk_frozen BK397.out 1))
      refine bodyPost_ret (results_ct rfl _ _ gb397 32 #[.int .i64 0,.slice none 0 0] (0,0) _ rfl (by (with_reducible repeat (first | refine blk_drewN ?_ _ | refine blk_drew ?_ | refine blk_alloc ?_ _));refine blk_put (cs := #[.int .i64 0,.slice none 0 0]) ?_ 1 _ rfl;(with_reducible repeat (first | refine blk_drewN ?_ _ | refine blk_drew ?_ | refine blk_alloc ?_ _));refine blk_put (cs := #[.int .i64 x398000_1,.slice none 0 0]) ?_ 0 _ rfl;(with_reducible repeat (first | refine blk_drewN ?_ _ | refine blk_drew ?_ | refine blk_alloc ?_ _));exact BK397.out) Tryz.underlying32 rfl (by kernel_rfl)) rfl ?_
      exact ⟨_,by first | rfl | (simp [errW_none,errW_some] <;> rfl) | (simp [*,errW_none,errW_some] <;> rfl) | (simp [errW_none,errW_some];exact isEmpty_bne _),by first | exact Kd.R_nil _ _ _ _ _ | exact Kd.N_nil _ _ _ _ _ | exact Kd.V_nil _ _ _ _ _ | exact Kd.Q_nil _ _ _ _ _ | exact Kd.S_nil _ _ _ _ _,by repeat (first | (with_reducible first | exact HB.out | apply below_alloc | apply pw_below_drewN | apply below_drew1 | refine below_set ?_ GE397.out) | exact HB.out)⟩
    ·rw [if_neg c6] at H
     have c6b0 : decide (0 < (x4_1.size : Int)) = false:=decide_eq_false c6
     have c6b1 : decide (0 < x4_1.size) = false:=decide_eq_false (by omega)
     clear c6
     by_cases c17 : (x6_1.length : Int) < 2
     ·rw [if_pos c17] at H
      have c17b0 : decide ((x6_1.length : Int) < 2) = true:=decide_eq_true c17
      have c17b1 : decide (x6_1.length < 2) = true:=decide_eq_true (by omega)
      clear c17
      simp only [Option.some.injEq,Prod.mk.injEq] at H
      obtain ⟨rfl,rfl,rfl⟩:=H
      obtain ⟨Ao18,co18,eo18⟩:=Kd.R_slice HO_6.out
      subst eo18
      have hcz19_0 : wr.cell? ⟨gb397,0,none⟩ = some (.int .i64 x398000_1):=(blk_cell BK397.out 0).trans rfl
      have hcz19_1 : wr.cell? ⟨gb397,1,none⟩ = some (.slice none 0 0):=(blk_cell BK397.out 1).trans rfl
      have hfz19_0:=blk_frozen BK397.out 0
      have hfz19_1:=blk_frozen BK397.out 1
      go_wp2
      refine bodyPost_ret (results_ct rfl _ _ gb397 32 #[.int .i64 0,.slice none 0 0] (0,0) _ rfl (by (with_reducible repeat (first | refine blk_drewN ?_ _ | refine blk_drew ?_ | refine blk_alloc ?_ _));refine blk_put (cs := #[.int .i64 0,.slice none 0 0]) ?_ 1 _ rfl;(with_reducible repeat (first | refine blk_drewN ?_ _ | refine blk_drew ?_ | refine blk_alloc ?_ _));refine blk_put (cs := #[.int .i64 x398000_1,.slice none 0 0]) ?_ 0 _ rfl;(with_reducible repeat (first | refine blk_drewN ?_ _ | refine blk_drew ?_ | refine blk_alloc ?_ _));exact BK397.out) Tryz.underlying32 rfl (by kernel_rfl)) rfl ?_
      exact ⟨_,by first | rfl | (simp [errW_none,errW_some] <;> rfl) | (simp [*,errW_none,errW_some] <;> rfl) | (simp [errW_none,errW_some];exact isEmpty_bne _),by first | exact Kd.R_nil _ _ _ _ _ | exact Kd.N_nil _ _ _ _ _ | exact Kd.V_nil _ _ _ _ _ | exact Kd.Q_nil _ _ _ _ _ | exact Kd.S_nil _ _ _ _ _,by repeat (first | (with_reducible first | exact HB.out | apply below_alloc | apply pw_below_drewN | apply below_drew1 | refine below_set ?_ GE397.out) | exact HB.out)⟩
     ·rw [if_neg c17] at H
      have c17b0 : decide ((x6_1.length : Int) < 2) = false:=decide_eq_false c17
      have c17b1 : decide (x6_1.length < 2) = false:=decide_eq_false (by omega)
      clear c17
      by_cases c20 : 0 < (x6_1.length : Int)
      ·rw [if_pos c20] at H
       have c20b0 : decide (0 < (x6_1.length : Int)) = true:=decide_eq_true c20
       have c20b1 : decide (0 < x6_1.length) = true:=decide_eq_true (by omega)
       clear c20
       have H' := Aside0.mk H
       clear H
       obtain ⟨Ao21,co21,eo21⟩:=Kd.R_slice HO_6.out
       subst eo21
       have p406 : 0 ≤ (0 : Int):=(by omega)
       have q406 : 0 < (x6_1.length : Int):=of_decide_eq_true (by first | (with_reducible assumption) | assumption)
       obtain ⟨ad406,e406,hx406_0⟩:=Kd.at_int (Kd.R_reads' HO_6.out).2.2 0 p406 q406
       cases e406
       have qi406 : (0 < x6_1.length) = True:=eq_true (by omega)
       (try rw [show ((0 : Int)).toNat = 0 from rfl] at hx406_0)
       (try rw [Addr.add_zero'] at hx406_0)
       replace p406:=eq_true p406
       replace q406:=eq_true q406
       go_wp2_with (first | ((with_reducible refine gate_dst (N:=10) rfl ?_);refine box_event ?hg (N:=10) ?hd (cs := #[.int .i64 0,.slice none 0 0]) (t:=32) ?hr ?_;(case hd => rfl);(case hg => rfl);(case hr => first | (go_simp;done) | (go_simp;rfl));intro gb407 hg w22 hbox hb;have n0_:=Aside0.mk (Kd.R_below (by (with_reducible repeat (first | apply Kd.R_alloc | apply Kd.R_drewN | apply Kd.R_drew));exact HO_6.out) hb);have n1_:=Aside0.mk (blk_below (g:=gb397) (o := .cells #[.int .i64 x398000_1,.slice none 0 0] 32 (0,0)) (by (with_reducible repeat (first | refine blk_drewN ?_ _ | refine blk_drew ?_ | refine blk_alloc ?_ _));exact BK397.out) hb);have n2_:=Aside0.mk (below_step (by repeat (first | (with_reducible first | exact HB.out | apply below_alloc | apply pw_below_drewN | apply below_drew1 | refine below_set ?_ GE397.out) | exact HB.out)) hb);have n3_:=Aside0.mk (hbox);have n4_:=Aside0.mk ((by rw [hg];exact (below_size (by repeat (first | (with_reducible first | exact HB.out | apply below_alloc | apply pw_below_drewN | apply below_drew1 | refine below_set ?_ GE397.out) | exact HB.out))) : w.heap.size ≤ gb407));have n5_:=Aside0.mk ((by rw [hg];exact (below_size (by repeat (first | (with_reducible first | exact HB.out | apply below_alloc | apply pw_below_drewN | apply below_drew1 | refine below_set ?_ GE397.out) | exact HB.out))) : w.heap.size ≤ gb407));have n6_:=Aside0.mk ((by rw [hg];exact Nat.ne_of_lt (blk_lt (g:=gb397) (o := .cells #[.int .i64 x398000_1,.slice none 0 0] 32 (0,0)) (by (with_reducible repeat (first | refine blk_drewN ?_ _ | refine blk_drew ?_ | refine blk_alloc ?_ _));exact BK397.out)) : gb397 ≠ gb407));have n7_:=Aside0.mk ((by rw [hg];exact Nat.ne_of_gt (blk_lt (g:=gb397) (o := .cells #[.int .i64 x398000_1,.slice none 0 0] 32 (0,0)) (by (with_reducible repeat (first | refine blk_drewN ?_ _ | refine blk_drew ?_ | refine blk_alloc ?_ _));exact BK397.out)) : gb407 ≠ gb397));clear HO_6;clear BK397;clear HB;have HO_6:=n0_;have BK397:=n1_;have HB:=n2_;have BK407:=n3_;have GW407:=n4_;have GE407:=n5_;have NB397_407:=n6_;have NB407_397:=n7_;clear n0_ n1_ n2_ n3_ n4_ n5_ n6_ n7_;clear hb hbox hg;have hnb23:=NB407_397.out;have hnc23:=NB397_407.out;have hcz24_0 : w22.cell? ⟨gb407,0,none⟩ = some (.int .i64 0):=(blk_cell BK407.out 0).trans rfl;have hcz24_1 : w22.cell? ⟨gb407,1,none⟩ = some (.slice none 0 0):=(blk_cell BK407.out 1).trans rfl;have hfz24_0:=blk_frozen BK407.out 0;have hfz24_1:=blk_frozen BK407.out 1))
       go_loopg [11] k1 (fun kq v11 w' => ∃ (x11_2 : Int) (x408001_2 : List (S65)) (u408001 : Value),v11 = .int .i64 x11_2 ∧ Aside0 (thwartref12_Read.l1 kq a0 x6_1 x11_2 (wrap64 (rd x6_1 0)) x408001_2 = some (r1,r2,r3)) ∧ Aside0 (kq ≤ k1) ∧ Aside0 (Kd.R (Kd.int .u64) 120 w' w.heap.size (fun _ => True) (.slice (some ad406) x6_1.length co21) x6_1) ∧ Aside0 (Kd.R k65 65 w' w.heap.size (fun _ => True) u408001 x408001_2) ∧ Aside0 (w'.heap[gb397]? = some (.cells #[.int .i64 x398000_1,(.slice none 0 0)] 32 (0,0))) ∧ Aside0 (w'.heap[gb407]? = some (.cells #[.int .i64 (wrap64 (rd x6_1 0)),u408001] 32 (0,0))) ∧ Aside0 (Below w.heap.size w w'))
       case atStart => exact ⟨(2),(([] : List (S65))),(.slice none 0 0),(by first | rfl | (simp;done) | (simp [*];done)),H',⟨Nat.le_refl _⟩,⟨by (with_reducible repeat (first | apply Kd.R_alloc | apply Kd.R_drewN | apply Kd.R_drew));exact Kd.R_mono (Kd.R_far (p:=⟨gb407,1,none⟩) (Kd.R_far (p:=⟨gb407,0,none⟩) (Kd.R_types HO_6.out BK407.out (by decide)) (fun _ hk => hk.2) (.int .i64 (wrap64 (rd x6_1 0)))) (fun _ hk => hk.2) (.slice none 0 0)) (fun _ hk => trivial)⟩,⟨by first | exact Kd.R_nil _ _ _ _ _ | exact Kd.N_nil _ _ _ _ _ | exact Kd.V_nil _ _ _ _ _ | exact Kd.Q_nil _ _ _ _ _ | exact Kd.S_nil _ _ _ _ _⟩,⟨by (with_reducible repeat (first | refine blk_drewN ?_ _ | refine blk_drew ?_ | refine blk_alloc ?_ _));refine blk_far ?_ NB397_407.out _;(with_reducible repeat (first | refine blk_drewN ?_ _ | refine blk_drew ?_ | refine blk_alloc ?_ _));refine blk_far ?_ NB397_407.out _;(with_reducible repeat (first | refine blk_drewN ?_ _ | refine blk_drew ?_ | refine blk_alloc ?_ _));exact BK397.out⟩,⟨by (with_reducible repeat (first | refine blk_drewN ?_ _ | refine blk_drew ?_ | refine blk_alloc ?_ _));refine blk_put (cs := #[.int .i64 (wrap64 (rd x6_1 0)),.slice none 0 0]) ?_ 1 _ rfl;(with_reducible repeat (first | refine blk_drewN ?_ _ | refine blk_drew ?_ | refine blk_alloc ?_ _));refine blk_put (cs := #[.int .i64 0,.slice none 0 0]) ?_ 0 _ rfl;(with_reducible repeat (first | refine blk_drewN ?_ _ | refine blk_drew ?_ | refine blk_alloc ?_ _));exact BK407.out⟩,⟨by repeat (first | (with_reducible first | exact HB.out | apply below_alloc | apply pw_below_drewN | apply below_drew1 | refine below_set ?_ GE397.out | refine below_set ?_ GE407.out) | exact HB.out)⟩⟩
       case round =>
        clear H'
        try clear c1
        try clear c2
        try clear p2
        try clear c3
        try clear p4
        try clear q4
        try clear hx4
        try clear qi4
        try clear c5
        try clear c6
        try clear c6b0
        try clear c6b1
        try clear p6
        try clear c8
        try clear c8b0
        try clear c8b1
        try clear c9
        try clear c9b0
        try clear c12
        try clear c17
        try clear c17b0
        try clear c17b1
        try clear c20
        try clear c20b0
        try clear c20b1
        try clear c23
        try clear hcz11_0
        try clear hcz11_1
        try clear hcz16_0
        try clear hcz16_1
        try clear hcz19_0
        try clear hcz19_1
        try clear hcz24_0
        try clear hcz24_1
        try clear hfz11_0
        try clear hfz11_1
        try clear hfz16_0
        try clear hfz16_1
        try clear hfz19_0
        try clear hfz19_1
        try clear hfz24_0
        try clear hfz24_1
        try clear hx406_0
        try clear p2
        try clear p406
        try clear q406
        obtain ⟨x11_2,x408001_2,u408001,rfl,HA,HK2,HO_6,HO_408001,BK397,BK407,HB⟩:=hrel
        cases gk with
        | zero => exact absurd HA.out (by simp [thwartref12_Read.l1])
        | succ k2 =>
         have H:=HA.out
         clear HA
         simp only [thwartref12_Read.l1] at H
         by_cases c25 : (wrap64 (x11_2 + 2)) < (x6_1.length : Int)
         ·rw [if_pos c25] at H
          have c25b0 : decide ((wrap64 (x11_2 + 2)) < (x6_1.length : Int)) = true:=decide_eq_true c25
          clear c25
          by_cases c26 : 0 ≤ x11_2
          ·rw [if_pos c26] at H
           have c26b0 : decide (0 ≤ x11_2) = true:=decide_eq_true c26
           clear c26
           by_cases c27 : x11_2 < (x6_1.length : Int)
           ·rw [if_pos c27] at H
            have c27b0 : decide (x11_2 < (x6_1.length : Int)) = true:=decide_eq_true c27
            clear c27
            obtain ⟨ji28,hji28⟩ : ∃ j_ : Int,(wrap64 (x11_2 + 1)) = j_:=⟨_,rfl⟩
            replace H : (if 0 ≤ (ji28) then (if (ji28) < (x6_1.length : Int) then (if 0 ≤ (wrap64 (x11_2 + 2)) then (if x408001_2.length < 5864062014805 then (thwartref12_Read.l1 k2 a0 x6_1 (wrap64 (x11_2 + 3)) (wrap64 (rd x6_1 0)) (x408001_2 ++ [(⟨wrap64 (rd x6_1 x11_2),wrap64 (rd x6_1 (ji28)),(rd x6_1 (wrap64 (x11_2 + 2))) % 4294967296⟩ : S65)])) else (none)) else (none)) else (none)) else (none)) = some (r1,r2,r3):=by first | (rw [hji28] at H;exact H) | (simp only [hji28] at H ⊢;exact H)
            have hji28w : (IntKind.i64.wrap (x11_2 + 1)) = ji28:=(i64_w _).trans hji28
            by_cases c29 : 0 ≤ (ji28)
            ·rw [if_pos c29] at H
             have c29b0 : decide (0 ≤ (ji28)) = true:=decide_eq_true c29
             clear c29
             by_cases c30 : (ji28) < (x6_1.length : Int)
             ·rw [if_pos c30] at H
              have c30b0 : decide ((ji28) < (x6_1.length : Int)) = true:=decide_eq_true c30
              clear c30
              obtain ⟨ji31,hji31⟩ : ∃ j_ : Int,(wrap64 (x11_2 + 2)) = j_:=⟨_,rfl⟩
              replace H : (if 0 ≤ (ji31) then (if x408001_2.length < 5864062014805 then (thwartref12_Read.l1 k2 a0 x6_1 (wrap64 (x11_2 + 3)) (wrap64 (rd x6_1 0)) (x408001_2 ++ [(⟨wrap64 (rd x6_1 x11_2),wrap64 (rd x6_1 (ji28)),(rd x6_1 (ji31)) % 4294967296⟩ : S65)])) else (none)) else (none)) = some (r1,r2,r3):=by first | (rw [hji31] at H;exact H) | (simp only [hji31] at H ⊢;exact H)
              (try rw [hji31] at c25b0)
              have hji31w : (IntKind.i64.wrap (x11_2 + 2)) = ji31:=(i64_w _).trans hji31
              by_cases c32 : 0 ≤ (ji31)
              ·rw [if_pos c32] at H
               have c32b0 : decide (0 ≤ (ji31)) = true:=decide_eq_true c32
               clear c32
               by_cases c33 : x408001_2.length < 5864062014805
               ·rw [if_pos c33] at H
                have LMc33:=Aside0.mk c33
                clear c33
                obtain ⟨y411,hy411⟩ : ∃ y_ : List (S65),y_ = (x408001_2 ++ [(⟨wrap64 (rd x6_1 x11_2),wrap64 (rd x6_1 (ji28)),(rd x6_1 (ji31)) % 4294967296⟩ : S65)]):=⟨_,rfl⟩
                replace H : (thwartref12_Read.l1 k2 a0 x6_1 (wrap64 (x11_2 + 3)) (wrap64 (rd x6_1 0)) y411) = some (r1,r2,r3):=by first | (rw [hy411];with_reducible exact H) | (have H2_:=(Option.bind_some _ _).symm.trans H;rw [hy411];with_reducible exact H2_) | (have H2_:=(Option.bind_some _ _).symm.trans H;with_reducible exact H2_) | with_reducible exact H | (rw [hy411];exact H) | exact H
                have Ny411:=Aside0.mk hy411
                clear hy411
                have H' := Aside0.mk H
                clear H
                try go_wp2
                have n0_:=Aside0.mk (Kd.R_drew HO_6.out)
                have n1_:=Aside0.mk (Kd.R_drew HO_408001.out)
                have n2_:=Aside0.mk (blk_drew BK397.out)
                have n3_:=Aside0.mk (blk_drew BK407.out)
                have n4_:=Aside0.mk (below_drew1 HB.out)
                clear HO_6
                clear HO_408001
                clear BK397
                clear BK407
                clear HB
                have HO_6:=n0_
                have HO_408001:=n1_
                have BK397:=n2_
                have BK407:=n3_
                have HB:=n4_
                clear n0_ n1_ n2_ n3_ n4_
                have p408 : 0 ≤ (x11_2 : Int):=of_decide_eq_true (by first | (with_reducible assumption) | assumption)
                have q408 : x11_2 < (x6_1.length : Int):=of_decide_eq_true (by first | (with_reducible assumption) | assumption)
                obtain ⟨ad408,e408,hx408_0⟩:=Kd.at_int (Kd.R_reads' HO_6.out).2.2 x11_2 p408 q408
                obtain rfl : ad406 = ad408:=(by injection e408)
                replace p408:=eq_true p408
                replace q408:=eq_true q408
                have p409 : 0 ≤ ((ji28) : Int):=of_decide_eq_true (by first | (with_reducible assumption) | assumption)
                have q409 : (ji28) < (x6_1.length : Int):=of_decide_eq_true (by first | (with_reducible assumption) | assumption)
                obtain ⟨ad409,e409,hx409_0⟩:=Kd.at_int (Kd.R_reads' HO_6.out).2.2 (ji28) p409 q409
                obtain rfl : ad406 = ad409:=(by injection e409)
                replace p409:=eq_true p409
                replace q409:=eq_true q409
                have p410 : 0 ≤ ((ji31) : Int):=of_decide_eq_true (by first | (with_reducible assumption) | assumption)
                have q410 : (ji31) < (x6_1.length : Int):=of_decide_eq_true (by first | (with_reducible assumption) | assumption)
                obtain ⟨ad410,e410,hx410_0⟩:=Kd.at_int (Kd.R_reads' HO_6.out).2.2 (ji31) p410 q410
                obtain rfl : ad406 = ad410:=(by injection e410)
                replace p410:=eq_true p410
                replace q410:=eq_true q410
                refine start_ (n:=24) (S:=fun w' => w'.cell? ⟨gb407,0,none⟩ = some (.int .i64 (wrap64 (rd x6_1 0))) ∧ w'.cell? ⟨gb407,1,none⟩ = some (u408001) ∧ w'.cell? (ad406.add (x11_2).toNat) = some (.int .u64 (rd x6_1 x11_2)) ∧ w'.cell? (ad406.add ((ji28)).toNat) = some (.int .u64 (rd x6_1 (ji28))) ∧ w'.cell? (ad406.add ((ji31)).toNat) = some (.int .u64 (rd x6_1 (ji31)))) (ds:=[21,23]) #[false,false,false,false,false,false,false,false,false,false,false,false,false,false,false,false,false,false,false,false,false,false,false,false] (by kernel_rfl) rfl rfl ⟨(blk_cell BK407.out 0).trans rfl,(blk_cell BK407.out 1).trans rfl,hx408_0,hx409_0,hx410_0⟩ (fun hHeld => ?_);refine with_tabW thwartref12_Read.tab17 thwartref12_Read.bits17 (fun HT_ HW_ => ?_)
                generalize wr.drew = w34 at HO_6 HO_408001 BK397 BK407 HB hx408_0 hx409_0 hx410_0 hHeld ⊢
                refine pure_ (i:=0) (N:=some 59) (v := ?_) (a' := ?_) #[true,false,false,false,false,false,false,false,false,false,false,false,false,false,false,false,false,false,false,false,false,false,false,false] rfl rfl (any_of HT_.out (by kernel_rfl)) (fun _ _ _ h => h) (Or.inl ⟨by rfl,?_⟩) ?_ ?_
                rotate_left
                ·intro w'
                 go_simp
                 with_reducible rfl
                rotate_left
                ·simp only [Act.put,List.setIfInBounds_toArray,List.set_cons_zero,List.set_cons_succ,i64_w,i32_w]
                 rfl
                refine pure_ (i:=2) (N:=some 61) (v := ?_) (a' := ?_) #[true,false,true,false,false,false,false,false,false,false,false,false,false,false,false,false,false,false,false,false,false,false,false,false] rfl rfl (any_of HT_.out (by kernel_rfl)) (fun _ _ _ h => h) (Or.inl ⟨by rfl,?_⟩) ?_ ?_
                rotate_left
                ·intro w'
                 go_simp
                 with_reducible rfl
                rotate_left
                ·simp only [Act.put,List.setIfInBounds_toArray,List.set_cons_zero,List.set_cons_succ,i64_w,i32_w]
                 rfl
                refine pure_ (i:=3) (N:=some 62) (v := ?_) (a' := ?_) #[true,false,true,true,false,false,false,false,false,false,false,false,false,false,false,false,false,false,false,false,false,false,false,false] rfl rfl (any_of HT_.out (by kernel_rfl)) (fun _ _ _ h => h) (Or.inl ⟨by rfl,?_⟩) ?_ ?_
                rotate_left
                ·intro w'
                 go_simp
                 with_reducible rfl
                rotate_left
                ·simp only [Act.put,List.setIfInBounds_toArray,List.set_cons_zero,List.set_cons_succ,i64_w,i32_w]
                 rfl
                refine pure_ (i:=4) (N:=some 63) (v := ?_) (a' := ?_) #[true,false,true,true,true,false,false,false,false,false,false,false,false,false,false,false,false,false,false,false,false,false,false,false] rfl rfl (any_of HT_.out (by kernel_rfl)) (fun _ _ _ h => h) (Or.inl ⟨by rfl,?_⟩) ?_ ?_
                rotate_left
                ·intro w'
                 go_simp
                 with_reducible rfl
                rotate_left
                ·simp only [Act.put,List.setIfInBounds_toArray,List.set_cons_zero,List.set_cons_succ,i64_w,i32_w]
                 rfl
                refine pure_ (i:=7) (N:=some 66) (v := ?_) (a' := ?_) #[true,false,true,true,true,false,false,true,false,false,false,false,false,false,false,false,false,false,false,false,false,false,false,false] rfl rfl (any_of HT_.out (by kernel_rfl)) (fun _ _ _ h => h) (Or.inl ⟨by rfl,?_⟩) ?_ ?_
                rotate_left
                ·intro w'
                 go_simp
                 with_reducible rfl
                rotate_left
                ·simp only [Act.put,List.setIfInBounds_toArray,List.set_cons_zero,List.set_cons_succ,i64_w,i32_w]
                 rfl
                refine pure_ (i:=8) (N:=some 67) (v := ?_) (a' := ?_) #[true,false,true,true,true,false,false,true,true,false,false,false,false,false,false,false,false,false,false,false,false,false,false,false] rfl rfl (any_of HT_.out (by kernel_rfl)) (fun _ _ _ h => h) (Or.inl ⟨by rfl,?_⟩) ?_ ?_
                rotate_left
                ·intro w'
                 go_simp
                 with_reducible rfl
                rotate_left
                ·simp only [Act.put,List.setIfInBounds_toArray,List.set_cons_zero,List.set_cons_succ,i64_w,i32_w]
                 rfl
                refine pure_ (i:=9) (N:=some 68) (v := ?_) (a' := ?_) #[true,false,true,true,true,false,false,true,true,true,false,false,false,false,false,false,false,false,false,false,false,false,false,false] rfl rfl (any_of HT_.out (by kernel_rfl)) (fun _ _ _ h => h) (Or.inl ⟨by rfl,?_⟩) ?_ ?_
                rotate_left
                ·intro w'
                 go_simp
                 with_reducible rfl
                rotate_left
                ·simp only [Act.put,List.setIfInBounds_toArray,List.set_cons_zero,List.set_cons_succ,i64_w,i32_w]
                 rfl
                refine pure_ (i:=10) (N:=some 69) (v := ?_) (a' := ?_) #[true,false,true,true,true,false,false,true,true,true,true,false,false,false,false,false,false,false,false,false,false,false,false,false] rfl rfl (any_of HT_.out (by kernel_rfl)) (fun _ _ _ h => h) (Or.inl ⟨by rfl,?_⟩) ?_ ?_
                rotate_left
                ·intro w'
                 go_simp
                 with_reducible rfl
                rotate_left
                ·simp only [Act.put,List.setIfInBounds_toArray,List.set_cons_zero,List.set_cons_succ,i64_w,i32_w]
                 rfl
                refine pure_ (i:=13) (N:=some 72) (v := ?_) (a' := ?_) #[true,false,true,true,true,false,false,true,true,true,true,false,false,true,false,false,false,false,false,false,false,false,false,false] rfl rfl (any_of HT_.out (by kernel_rfl)) (fun _ _ _ h => h) (Or.inl ⟨by rfl,?_⟩) ?_ ?_
                rotate_left
                ·intro w'
                 go_simp
                 with_reducible rfl
                rotate_left
                ·simp only [Act.put,List.setIfInBounds_toArray,List.set_cons_zero,List.set_cons_succ,i64_w,i32_w]
                 rfl
                refine pure_ (i:=14) (N:=some 73) (v := ?_) (a' := ?_) #[true,false,true,true,true,false,false,true,true,true,true,false,false,true,true,false,false,false,false,false,false,false,false,false] rfl rfl (any_of HT_.out (by kernel_rfl)) (fun _ _ _ h => h) (Or.inl ⟨by rfl,?_⟩) ?_ ?_
                rotate_left
                ·intro w'
                 go_simp
                 with_reducible rfl
                rotate_left
                ·simp only [Act.put,List.setIfInBounds_toArray,List.set_cons_zero,List.set_cons_succ,i64_w,i32_w]
                 rfl
                refine pure_ (i:=15) (N:=some 74) (v := ?_) (a' := ?_) #[true,false,true,true,true,false,false,true,true,true,true,false,false,true,true,true,false,false,false,false,false,false,false,false] rfl rfl (any_of HT_.out (by kernel_rfl)) (fun _ _ _ h => h) (Or.inl ⟨by rfl,?_⟩) ?_ ?_
                rotate_left
                ·intro w'
                 go_simp
                 with_reducible rfl
                rotate_left
                ·simp only [Act.put,List.setIfInBounds_toArray,List.set_cons_zero,List.set_cons_succ,i64_w,i32_w]
                 rfl
                refine pure_ (i:=16) (N:=some 75) (v := ?_) (a' := ?_) #[true,false,true,true,true,false,false,true,true,true,true,false,false,true,true,true,true,false,false,false,false,false,false,false] rfl rfl (any_of HT_.out (by kernel_rfl)) (fun _ _ _ h => h) (Or.inl ⟨by rfl,?_⟩) ?_ ?_
                rotate_left
                ·intro w'
                 go_simp
                 with_reducible rfl
                rotate_left
                ·simp only [Act.put,List.setIfInBounds_toArray,List.set_cons_zero,List.set_cons_succ,i64_w,i32_w]
                 rfl
                refine take_ (i:=1) (N:=some 60) (v := ?_) (a' := ?_) #[true,true,true,true,true,false,false,true,true,true,true,false,false,true,true,true,true,false,false,false,false,false,false,false] rfl rfl (take_ofW HT_.out HW_.out (by kernel_rfl)) (fun _ _ _ h => h) (Or.inl ⟨by rfl,?_⟩) hHeld ?_ ?_
                rotate_left
                ·rintro w' ⟨s0,s1,s2,s3,s4⟩
                 go_simp
                 with_reducible rfl
                rotate_left
                ·simp only [Act.put,List.setIfInBounds_toArray,List.set_cons_zero,List.set_cons_succ,i64_w,i32_w]
                 rfl
                refine take_ (i:=5) (N:=some 64) (v := ?_) (a' := ?_) #[true,true,true,true,true,true,false,true,true,true,true,false,false,true,true,true,true,false,false,false,false,false,false,false] rfl rfl (take_ofW HT_.out HW_.out (by kernel_rfl)) (fun _ _ _ h => h) (Or.inl ⟨by rfl,?_⟩) hHeld ?_ ?_
                rotate_left
                ·rintro w' ⟨s0,s1,s2,s3,s4⟩
                 go_simp
                 with_reducible rfl
                rotate_left
                ·simp only [Act.put,List.setIfInBounds_toArray,List.set_cons_zero,List.set_cons_succ,i64_w,i32_w]
                 rfl
                refine pure_ (i:=6) (N:=some 65) (v := ?_) (a' := ?_) #[true,true,true,true,true,true,true,true,true,true,true,false,false,true,true,true,true,false,false,false,false,false,false,false] rfl rfl (any_of HT_.out (by kernel_rfl)) (fun _ _ _ h => h) (Or.inl ⟨by rfl,?_⟩) ?_ ?_
                rotate_left
                ·intro w'
                 go_simp
                 with_reducible rfl
                rotate_left
                ·simp only [Act.put,List.setIfInBounds_toArray,List.set_cons_zero,List.set_cons_succ,i64_w,i32_w]
                 rfl
                refine take_ (i:=11) (N:=some 70) (v := ?_) (a' := ?_) #[true,true,true,true,true,true,true,true,true,true,true,true,false,true,true,true,true,false,false,false,false,false,false,false] rfl rfl (take_ofW HT_.out HW_.out (by kernel_rfl)) (fun _ _ _ h => h) (Or.inl ⟨by rfl,?_⟩) hHeld ?_ ?_
                rotate_left
                ·rintro w' ⟨s0,s1,s2,s3,s4⟩
                 go_simp
                 with_reducible rfl
                rotate_left
                ·simp only [Act.put,List.setIfInBounds_toArray,List.set_cons_zero,List.set_cons_succ,i64_w,i32_w]
                 rfl
                refine pure_ (i:=12) (N:=some 71) (v := ?_) (a' := ?_) #[true,true,true,true,true,true,true,true,true,true,true,true,true,true,true,true,true,false,false,false,false,false,false,false] rfl rfl (any_of HT_.out (by kernel_rfl)) (fun _ _ _ h => h) (Or.inl ⟨by rfl,?_⟩) ?_ ?_
                rotate_left
                ·intro w'
                 go_simp
                 with_reducible rfl
                rotate_left
                ·simp only [Act.put,List.setIfInBounds_toArray,List.set_cons_zero,List.set_cons_succ,i64_w,i32_w]
                 rfl
                refine take_ (i:=17) (N:=some 76) (v := ?_) (a' := ?_) #[true,true,true,true,true,true,true,true,true,true,true,true,true,true,true,true,true,true,false,false,false,false,false,false] rfl rfl (take_ofW HT_.out HW_.out (by kernel_rfl)) (fun _ _ _ h => h) (Or.inl ⟨by rfl,?_⟩) hHeld ?_ ?_
                rotate_left
                ·rintro w' ⟨s0,s1,s2,s3,s4⟩
                 go_simp
                 with_reducible rfl
                rotate_left
                ·simp only [Act.put,List.setIfInBounds_toArray,List.set_cons_zero,List.set_cons_succ,i64_w,i32_w]
                 rfl
                refine pure_ (i:=18) (N:=some 77) (v := ?_) (a' := ?_) #[true,true,true,true,true,true,true,true,true,true,true,true,true,true,true,true,true,true,true,false,false,false,false,false] rfl rfl (any_of HT_.out (by kernel_rfl)) (fun _ _ _ h => h) (Or.inl ⟨by rfl,?_⟩) ?_ ?_
                rotate_left
                ·intro w'
                 go_simp
                 with_reducible rfl
                rotate_left
                ·simp only [Act.put,List.setIfInBounds_toArray,List.set_cons_zero,List.set_cons_succ,i64_w,i32_w]
                 rfl
                refine pure_ (i:=19) (N:=some 78) (v := ?_) (a' := ?_) #[true,true,true,true,true,true,true,true,true,true,true,true,true,true,true,true,true,true,true,true,false,false,false,false] rfl rfl (any_of HT_.out (by kernel_rfl)) (fun _ _ _ h => h) (Or.inl ⟨by rfl,?_⟩) ?_ ?_
                rotate_left
                ·intro w'
                 go_simp
                 with_reducible rfl
                rotate_left
                ·simp only [Act.put,List.setIfInBounds_toArray,List.set_cons_zero,List.set_cons_succ,i64_w,i32_w]
                 rfl
                refine one_ (i:=20) (N:=some 79) #[true,true,true,true,true,true,true,true,true,true,true,true,true,true,true,true,true,true,true,true,true,false,false,false] rfl rfl (one_of HT_.out (by kernel_rfl)) (by decide) (fun K hK => ?_)
                refine value_ (w1 := ?_) (v := ?_) (by rfl) rfl ?_ ?_
                rotate_left 2
                ·go_simp
                 constructor
                 ·rfl
                 ·rfl
                refine hK.out _ _ ⟨(blk_cell (blk_alloc BK407.out _) 0).trans rfl,(blk_cell (blk_alloc BK407.out _) 1).trans rfl,(World.cell?_alloc_lt _ _ _ (World.block_lt_of_cell? _ _ (hHeld.2.2.1))).trans (hHeld.2.2.1),(World.cell?_alloc_lt _ _ _ (World.block_lt_of_cell? _ _ (hHeld.2.2.2.1))).trans (hHeld.2.2.2.1),(World.cell?_alloc_lt _ _ _ (World.block_lt_of_cell? _ _ (hHeld.2.2.2.2))).trans (hHeld.2.2.2.2)⟩ (fun hHeld => ?_)
                clear hK K
                refine norm_ (a' := ?_) ?_ ?_
                rotate_left
                ·show Act.put _ (some 79) _ = _
                 simp only [Act.put,List.setIfInBounds_toArray,List.set_cons_zero,List.set_cons_succ,i64_w,i32_w]
                 rfl
                refine last_ (i:=21) (N:=some 80) #[true,true,true,true,true,true,true,true,true,true,true,true,true,true,true,true,true,true,true,true,true,true,false,false] rfl rfl (one_of HT_.out (by kernel_rfl)) (by decide) (fun K hK => ?_)
                refine Kd.R_append_step k65 (w0:=w) w.heap.size (by rfl) (.tmp 60) (.tmp 79) 30 65 (.agg #[(.int .i64 0),(.int .i64 0),(.int .u32 0)]) 24 rfl Tryz.underlying30 info65 rfl (by decide) (by omega) u408001 x408001_2 (⟨wrap64 (rd x6_1 x11_2),wrap64 (rd x6_1 (ji28)),(rd x6_1 (ji31)) % 4294967296⟩ : S65) [.int .i64 (wrap64 (rd x6_1 x11_2)),.int .i64 (wrap64 (rd x6_1 (ji28))),.int .u32 ((rd x6_1 (ji31)) % 4294967296)] (fun _ => True) (fun _ => False) rfl rfl ?aP (fun _ hk => hk.elim) ?aF ?aO ?aB ?aS ?aL ?_
                (case aP => exact k65_mkM _ _ _ (⟨wrap64 (rd x6_1 x11_2),wrap64 (rd x6_1 (ji28)),(rd x6_1 (ji31)) % 4294967296⟩ : S65))
                (case aB => exact (by repeat (first | (with_reducible first | exact HB.out | apply below_alloc | apply pw_below_drewN | apply below_drew1 | refine below_set ?_ GE397.out | refine below_set ?_ GE407.out) | exact HB.out)))
                (case aF => exact (fun _ _ => trivial))
                (case aO => exact (by (with_reducible repeat (first | apply Kd.R_alloc | apply Kd.R_drewN | apply Kd.R_drew));exact HO_408001.out))
                (case aS => exact (below_size (by repeat (first | (with_reducible first | exact HB.out | apply below_alloc | apply pw_below_drewN | apply below_drew1 | refine below_set ?_ GE397.out | refine below_set ?_ GE407.out) | exact HB.out))))
                (case aL => have:=LMc33.out;omega)
                intro v412 w35 ho hb hg hat
                rw [← Ny411.out] at ho
                have n0_:=Aside0.mk (Kd.R_over' (by (with_reducible repeat (first | apply Kd.R_alloc | apply Kd.R_drewN | apply Kd.R_drew));exact HO_6.out) (Kd.R_typed (by (with_reducible repeat (first | apply Kd.R_alloc | apply Kd.R_drewN | apply Kd.R_drew));exact HO_408001.out)) (by decide) hg)
                have n1_:=Aside0.mk (blk_grown (g:=gb397) (o := .cells #[.int .i64 x398000_1,.slice none 0 0] 32 (0,0)) (by (with_reducible repeat (first | refine blk_drewN ?_ _ | refine blk_drew ?_ | refine blk_alloc ?_ _));exact BK397.out) hg (Kd.R_ne HO_408001.out BK397.out (by decide)))
                have n2_:=Aside0.mk (blk_grown (g:=gb407) (o := .cells #[.int .i64 (wrap64 (rd x6_1 0)),u408001] 32 (0,0)) (by (with_reducible repeat (first | refine blk_drewN ?_ _ | refine blk_drew ?_ | refine blk_alloc ?_ _));exact BK407.out) hg (Kd.R_ne HO_408001.out BK407.out (by decide)))
                have n3_:=Aside0.mk (hb)
                have n4_:=Aside0.mk (ho)
                clear HO_6
                clear BK397
                clear BK407
                clear HB
                clear HO_408001
                have HO_6:=n0_
                have BK397:=n1_
                have BK407:=n2_
                have HB:=n3_
                have HO413:=n4_
                clear n0_ n1_ n2_ n3_ n4_
                clear ho hb hg hat
                obtain ⟨Ao36,co36,eo36⟩:=Kd.R_slice HO413.out
                (first | subst eo36 | (injection eo36 with f1_ f2_ f3_;have f4_:=f1_.symm;have f5_:=f3_.symm;clear f1_ f2_ f3_;subst f4_;subst f5_))
                refine hK.out _ _ ?_
                clear hK K
                refine norm_ (a' := ?_) ?_ ?_
                rotate_left
                ·show Act.put _ (some 80) _ = _
                 simp only [Act.put,List.setIfInBounds_toArray,List.set_cons_zero,List.set_cons_succ,i64_w,i32_w]
                 rfl
                refine pure_ (i:=22) (N:=some 81) (v := ?_) (a' := ?_) #[true,true,true,true,true,true,true,true,true,true,true,true,true,true,true,true,true,true,true,true,true,true,true,false] rfl rfl (any_of HT_.out (by kernel_rfl)) (fun _ _ _ h => h) (Or.inl ⟨by rfl,?_⟩) ?_ ?_
                rotate_left
                ·intro w'
                 go_simp
                 with_reducible rfl
                rotate_left
                ·simp only [Act.put,List.setIfInBounds_toArray,List.set_cons_zero,List.set_cons_succ,i64_w,i32_w]
                 rfl
                refine last_ (i:=23) (N:=none) #[true,true,true,true,true,true,true,true,true,true,true,true,true,true,true,true,true,true,true,true,true,true,true,true] rfl rfl (one_of HT_.out (by kernel_rfl)) (by decide) (fun K hK => ?_)
                have hs37 : w35.cell? ⟨gb407,1,none⟩ = some (u408001):=(blk_cell BK407.out 1).trans rfl
                have hfs37:=blk_frozen BK407.out 1
                have hns37_0:=NB397_407.out
                have hms37_0:=NB407_397.out
                refine skip_ (w1 := ?_) (by rfl) rfl ?_ ?_
                rotate_left
                ·go_simp
                 rfl
                refine hK.out _ _ ?_
                clear hK K
                refine done_ (done_of HT_.out (by kernel_rfl)) ?_
                try go_wp2
                go_roundg k2
                case measure => have:=HK1.out;have:=HK2.out;omega
                case rel => exact ⟨(wrap64 (x11_2 + 3)),(y411),(.slice Ao36 y411.length co36),(by first | rfl | (simp;done) | (simp [*];done)),H',⟨by have:=HK1.out;have:=HK2.out;omega⟩,⟨by (with_reducible repeat (first | apply Kd.R_alloc | apply Kd.R_drewN | apply Kd.R_drew));exact Kd.R_mono (Kd.R_far (p:=⟨gb407,1,none⟩) (Kd.R_types HO_6.out BK407.out (by decide)) (fun _ hk => hk.2) (.slice Ao36 y411.length co36)) (fun _ hk => trivial)⟩,⟨by (with_reducible repeat (first | apply Kd.R_alloc | apply Kd.R_drewN | apply Kd.R_drew));exact Kd.R_mono (Kd.R_far (p:=⟨gb407,1,none⟩) (Kd.R_types HO413.out BK407.out (by decide)) (fun _ hk => hk.2) (.slice Ao36 y411.length co36)) (fun _ hk => trivial)⟩,⟨by (with_reducible repeat (first | refine blk_drewN ?_ _ | refine blk_drew ?_ | refine blk_alloc ?_ _));refine blk_far ?_ NB397_407.out _;(with_reducible repeat (first | refine blk_drewN ?_ _ | refine blk_drew ?_ | refine blk_alloc ?_ _));exact BK397.out⟩,⟨by (with_reducible repeat (first | refine blk_drewN ?_ _ | refine blk_drew ?_ | refine blk_alloc ?_ _));refine blk_put (cs := #[.int .i64 (wrap64 (rd x6_1 0)),u408001]) ?_ 1 _ rfl;(with_reducible repeat (first | refine blk_drewN ?_ _ | refine blk_drew ?_ | refine blk_alloc ?_ _));exact BK407.out⟩,⟨by repeat (first | (with_reducible first | exact HB.out | apply below_alloc | apply pw_below_drewN | apply below_drew1 | refine below_set ?_ GE397.out | refine below_set ?_ GE407.out) | exact HB.out)⟩⟩
               ·rw [if_neg c33] at H
                exact absurd H (by simp)
              ·rw [if_neg c32] at H
               exact absurd H (by simp)
             ·rw [if_neg c30] at H
              exact absurd H (by simp)
            ·rw [if_neg c29] at H
             exact absurd H (by simp)
           ·rw [if_neg c27] at H
            exact absurd H (by simp)
          ·rw [if_neg c26] at H
           exact absurd H (by simp)
         ·rw [if_neg c25] at H
          have c25b0 : decide ((wrap64 (x11_2 + 2)) < (x6_1.length : Int)) = false:=decide_eq_false c25
          clear c25
          replace H:=Option.bind_eq_some_iff.mp H
          obtain ⟨⟨t414,t415⟩,A380,H⟩:=H
          replace H : (if t415 = 0 then (if t414.toList = a0.toList then (some ((wrap64 (rd x6_1 0)),x408001_2,0)) else (some (0,([] : List (S65)),2))) else (some (0,([] : List (S65)),2))) = some (r1,r2,r3):=H
          have A38:=Aside0.mk A380
          clear A380
          by_cases c39 : t415 = 0
          ·rw [if_pos c39] at H
           have c39b0 : (t415 == 0) = true:=beq_iff_eq.mpr c39
           have c39b1 : (t415 != 0) = false:=bne_eq_false_iff_eq.mpr c39
           clear c39
           by_cases c40 : t414.toList = a0.toList
           ·rw [if_pos c40] at H
            have c40b0 : (t414.toList == a0.toList) = true:=beq_iff_eq.mpr c40
            have c40b1 : (t414.toList != a0.toList) = false:=bne_eq_false_iff_eq.mpr c40
            clear c40
            simp only [Option.some.injEq,Prod.mk.injEq] at H
            obtain ⟨rfl,rfl,rfl⟩:=H
            have hnb41:=NB407_397.out
            have hnc41:=NB397_407.out
            have hcz42_0 : wr.cell? ⟨gb407,0,none⟩ = some (.int .i64 (wrap64 (rd x6_1 0))):=(blk_cell BK407.out 0).trans rfl
            have hcz42_1 : wr.cell? ⟨gb407,1,none⟩ = some (u408001):=(blk_cell BK407.out 1).trans rfl
            have hfz42_0:=blk_frozen BK407.out 0
            have hfz42_1:=blk_frozen BK407.out 1
            obtain ⟨Ao43,co43,eo43⟩:=Kd.R_slice HO_408001.out
            subst eo43
            go_wp2_with (first | ((with_reducible refine gate_callee (f:=55) rfl ?_);refine goesL_ (some 84) rfl rfl Tryz.func55 (by kernel_rfl) rfl #[.agg #[.int .i64 (wrap64 (rd x6_1 0)),.slice Ao43 x408001_2.length co43]] rfl (by (try simp only [List.map_toArray,List.map_cons,List.map_nil]);first | done | rfl | (simp only [List.length_drop,List.length_take];rfl)) ?_;(with_reducible refine (thwartref12_Bytes.calls k2 (wrap64 (rd x6_1 0)) _ _ x408001_2 t414 t415 _ ?side1 ?side2 A38.out).mono ?_);(case side1 => repeat (first | exact (Kd.R_reads' HO_408001.out).2.2 | (with_reducible refine Kd.C_alloc ?_ _) | (with_reducible refine Kd.C_drewN ?_ _) | (with_reducible refine Kd.C_drew ?_)));(case side2 => exact (Kd.R_reads' HO_408001.out).2.1);rintro e w44 ⟨rfl,hb⟩;refine ⟨_,rfl,?_⟩;have n0_:=Aside0.mk (Kd.R_below (by (with_reducible repeat (first | apply Kd.R_alloc | apply Kd.R_drewN | apply Kd.R_drew));exact HO_6.out) hb);have n1_:=Aside0.mk (Kd.R_below (by (with_reducible repeat (first | apply Kd.R_alloc | apply Kd.R_drewN | apply Kd.R_drew));exact HO_408001.out) hb);have n2_:=Aside0.mk (blk_below (g:=gb397) (o := .cells #[.int .i64 x398000_1,.slice none 0 0] 32 (0,0)) (by (with_reducible repeat (first | refine blk_drewN ?_ _ | refine blk_drew ?_ | refine blk_alloc ?_ _));exact BK397.out) hb);have n3_:=Aside0.mk (blk_below (g:=gb407) (o := .cells #[.int .i64 (wrap64 (rd x6_1 0)),.slice Ao43 x408001_2.length co43] 32 (0,0)) (by (with_reducible repeat (first | refine blk_drewN ?_ _ | refine blk_drew ?_ | refine blk_alloc ?_ _));exact BK407.out) hb);have n4_:=Aside0.mk (below_step (by repeat (first | (with_reducible first | exact HB.out | apply below_alloc | apply pw_below_drewN | apply below_drew1 | refine below_set ?_ GE397.out | refine below_set ?_ GE407.out) | exact HB.out)) hb);clear HO_6;clear HO_408001;clear BK397;clear BK407;clear HB;have HO_6:=n0_;have HO_408001:=n1_;have BK397:=n2_;have BK407:=n3_;have HB:=n4_;clear n0_ n1_ n2_ n3_ n4_;(try clear hb);(try clear hb2);(try clear hk);(try clear hi);have hcz45_0 : w44.cell? ⟨gb407,0,none⟩ = some (.int .i64 (wrap64 (rd x6_1 0))):=(blk_cell BK407.out 0).trans rfl;have hcz45_1 : w44.cell? ⟨gb407,1,none⟩ = some (.slice Ao43 x408001_2.length co43):=(blk_cell BK407.out 1).trans rfl;have hfz45_0:=blk_frozen BK407.out 0;have hfz45_1:=blk_frozen BK407.out 1;have hcz46_0 : w44.cell? ⟨gb397,0,none⟩ = some (.int .i64 x398000_1):=(blk_cell BK397.out 0).trans rfl;have hcz46_1 : w44.cell? ⟨gb397,1,none⟩ = some (.slice none 0 0):=(blk_cell BK397.out 1).trans rfl;have hfz46_0:=blk_frozen BK397.out 0;have hfz46_1:=blk_frozen BK397.out 1))
            refine bodyPost_ret (results_ct rfl _ _ gb397 32 #[.int .i64 (wrap64 (rd x6_1 0)),.slice Ao43 x408001_2.length co43] (0,0) _ rfl (by (with_reducible repeat (first | refine blk_drewN ?_ _ | refine blk_drew ?_ | refine blk_alloc ?_ _));refine blk_put (cs := #[.int .i64 (wrap64 (rd x6_1 0)),.slice none 0 0]) ?_ 1 _ rfl;(with_reducible repeat (first | refine blk_drewN ?_ _ | refine blk_drew ?_ | refine blk_alloc ?_ _));refine blk_put (cs := #[.int .i64 x398000_1,.slice none 0 0]) ?_ 0 _ rfl;(with_reducible repeat (first | refine blk_drewN ?_ _ | refine blk_drew ?_ | refine blk_alloc ?_ _));exact BK397.out) Tryz.underlying32 rfl (by kernel_rfl)) rfl ?_
            exact ⟨_,by first | rfl | (simp [errW_none,errW_some] <;> rfl) | (simp [*,errW_none,errW_some] <;> rfl) | (simp [errW_none,errW_some];exact isEmpty_bne _),by (with_reducible repeat (first | apply Kd.R_alloc | apply Kd.R_drewN | apply Kd.R_drew));exact Kd.R_mono (Kd.R_far (p:=⟨gb397,1,none⟩) (Kd.R_far (p:=⟨gb397,0,none⟩) (Kd.R_types HO_408001.out BK397.out (by decide)) (fun _ hk => hk.2) (.int .i64 (wrap64 (rd x6_1 0)))) (fun _ hk => hk.2) (.slice Ao43 x408001_2.length co43)) (fun _ hk => trivial),by repeat (first | (with_reducible first | exact HB.out | apply below_alloc | apply pw_below_drewN | apply below_drew1 | refine below_set ?_ GE397.out | refine below_set ?_ GE407.out) | exact HB.out)⟩
           ·rw [if_neg c40] at H
            have c40b0 : (t414.toList == a0.toList) = false:=beq_eq_false_iff_ne.mpr c40
            have c40b1 : (t414.toList != a0.toList) = true:=bne_iff_ne.mpr c40
            simp only [Option.some.injEq,Prod.mk.injEq] at H
            obtain ⟨rfl,rfl,rfl⟩:=H
            have hnb47:=NB407_397.out
            have hnc47:=NB397_407.out
            have hcz48_0 : wr.cell? ⟨gb407,0,none⟩ = some (.int .i64 (wrap64 (rd x6_1 0))):=(blk_cell BK407.out 0).trans rfl
            have hcz48_1 : wr.cell? ⟨gb407,1,none⟩ = some (u408001):=(blk_cell BK407.out 1).trans rfl
            have hfz48_0:=blk_frozen BK407.out 0
            have hfz48_1:=blk_frozen BK407.out 1
            obtain ⟨Ao49,co49,eo49⟩:=Kd.R_slice HO_408001.out
            subst eo49
            go_wp2_with (first | ((with_reducible refine gate_callee (f:=55) rfl ?_);refine goesL_ (some 84) rfl rfl Tryz.func55 (by kernel_rfl) rfl #[.agg #[.int .i64 (wrap64 (rd x6_1 0)),.slice Ao49 x408001_2.length co49]] rfl (by (try simp only [List.map_toArray,List.map_cons,List.map_nil]);first | done | rfl | (simp only [List.length_drop,List.length_take];rfl)) ?_;(with_reducible refine (thwartref12_Bytes.calls k2 (wrap64 (rd x6_1 0)) _ _ x408001_2 t414 t415 _ ?side1 ?side2 A38.out).mono ?_);(case side1 => repeat (first | exact (Kd.R_reads' HO_408001.out).2.2 | (with_reducible refine Kd.C_alloc ?_ _) | (with_reducible refine Kd.C_drewN ?_ _) | (with_reducible refine Kd.C_drew ?_)));(case side2 => exact (Kd.R_reads' HO_408001.out).2.1);rintro e w50 ⟨rfl,hb⟩;refine ⟨_,rfl,?_⟩;have n0_:=Aside0.mk (Kd.R_below (by (with_reducible repeat (first | apply Kd.R_alloc | apply Kd.R_drewN | apply Kd.R_drew));exact HO_6.out) hb);have n1_:=Aside0.mk (Kd.R_below (by (with_reducible repeat (first | apply Kd.R_alloc | apply Kd.R_drewN | apply Kd.R_drew));exact HO_408001.out) hb);have n2_:=Aside0.mk (blk_below (g:=gb397) (o := .cells #[.int .i64 x398000_1,.slice none 0 0] 32 (0,0)) (by (with_reducible repeat (first | refine blk_drewN ?_ _ | refine blk_drew ?_ | refine blk_alloc ?_ _));exact BK397.out) hb);have n3_:=Aside0.mk (blk_below (g:=gb407) (o := .cells #[.int .i64 (wrap64 (rd x6_1 0)),.slice Ao49 x408001_2.length co49] 32 (0,0)) (by (with_reducible repeat (first | refine blk_drewN ?_ _ | refine blk_drew ?_ | refine blk_alloc ?_ _));exact BK407.out) hb);have n4_:=Aside0.mk (below_step (by repeat (first | (with_reducible first | exact HB.out | apply below_alloc | apply pw_below_drewN | apply below_drew1 | refine below_set ?_ GE397.out | refine below_set ?_ GE407.out) | exact HB.out)) hb);clear HO_6;clear HO_408001;clear BK397;clear BK407;clear HB;have HO_6:=n0_;have HO_408001:=n1_;have BK397:=n2_;have BK407:=n3_;have HB:=n4_;clear n0_ n1_ n2_ n3_ n4_;(try clear hb);(try clear hb2);(try clear hk);(try clear hi);have hcz51_0 : w50.cell? ⟨gb397,0,none⟩ = some (.int .i64 x398000_1):=(blk_cell BK397.out 0).trans rfl;have hcz51_1 : w50.cell? ⟨gb397,1,none⟩ = some (.slice none 0 0):=(blk_cell BK397.out 1).trans rfl;have hfz51_0:=blk_frozen BK397.out 0;have hfz51_1:=blk_frozen BK397.out 1))
            refine bodyPost_ret (results_ct rfl _ _ gb397 32 #[.int .i64 0,.slice none 0 0] (0,0) _ rfl (by (with_reducible repeat (first | refine blk_drewN ?_ _ | refine blk_drew ?_ | refine blk_alloc ?_ _));refine blk_put (cs := #[.int .i64 0,.slice none 0 0]) ?_ 1 _ rfl;(with_reducible repeat (first | refine blk_drewN ?_ _ | refine blk_drew ?_ | refine blk_alloc ?_ _));refine blk_put (cs := #[.int .i64 x398000_1,.slice none 0 0]) ?_ 0 _ rfl;(with_reducible repeat (first | refine blk_drewN ?_ _ | refine blk_drew ?_ | refine blk_alloc ?_ _));exact BK397.out) Tryz.underlying32 rfl (by kernel_rfl)) rfl ?_
            exact ⟨_,by first | rfl | (simp [errW_none,errW_some] <;> rfl) | (simp [*,errW_none,errW_some] <;> rfl) | (simp [errW_none,errW_some];exact isEmpty_bne _),by first | exact Kd.R_nil _ _ _ _ _ | exact Kd.N_nil _ _ _ _ _ | exact Kd.V_nil _ _ _ _ _ | exact Kd.Q_nil _ _ _ _ _ | exact Kd.S_nil _ _ _ _ _,by repeat (first | (with_reducible first | exact HB.out | apply below_alloc | apply pw_below_drewN | apply below_drew1 | refine below_set ?_ GE397.out | refine below_set ?_ GE407.out) | exact HB.out)⟩
          ·rw [if_neg c39] at H
           have c39b0 : (t415 == 0) = false:=beq_eq_false_iff_ne.mpr c39
           have c39b1 : (t415 != 0) = true:=bne_iff_ne.mpr c39
           simp only [Option.some.injEq,Prod.mk.injEq] at H
           obtain ⟨rfl,rfl,rfl⟩:=H
           have hnb52:=NB407_397.out
           have hnc52:=NB397_407.out
           have hcz53_0 : wr.cell? ⟨gb407,0,none⟩ = some (.int .i64 (wrap64 (rd x6_1 0))):=(blk_cell BK407.out 0).trans rfl
           have hcz53_1 : wr.cell? ⟨gb407,1,none⟩ = some (u408001):=(blk_cell BK407.out 1).trans rfl
           have hfz53_0:=blk_frozen BK407.out 0
           have hfz53_1:=blk_frozen BK407.out 1
           obtain ⟨Ao54,co54,eo54⟩:=Kd.R_slice HO_408001.out
           subst eo54
           go_wp2_with (first | ((with_reducible refine gate_callee (f:=55) rfl ?_);refine goesL_ (some 84) rfl rfl Tryz.func55 (by kernel_rfl) rfl #[.agg #[.int .i64 (wrap64 (rd x6_1 0)),.slice Ao54 x408001_2.length co54]] rfl (by (try simp only [List.map_toArray,List.map_cons,List.map_nil]);first | done | rfl | (simp only [List.length_drop,List.length_take];rfl)) ?_;(with_reducible refine (thwartref12_Bytes.calls k2 (wrap64 (rd x6_1 0)) _ _ x408001_2 t414 t415 _ ?side1 ?side2 A38.out).mono ?_);(case side1 => repeat (first | exact (Kd.R_reads' HO_408001.out).2.2 | (with_reducible refine Kd.C_alloc ?_ _) | (with_reducible refine Kd.C_drewN ?_ _) | (with_reducible refine Kd.C_drew ?_)));(case side2 => exact (Kd.R_reads' HO_408001.out).2.1);rintro e w55 ⟨rfl,hb⟩;refine ⟨_,rfl,?_⟩;have n0_:=Aside0.mk (Kd.R_below (by (with_reducible repeat (first | apply Kd.R_alloc | apply Kd.R_drewN | apply Kd.R_drew));exact HO_6.out) hb);have n1_:=Aside0.mk (Kd.R_below (by (with_reducible repeat (first | apply Kd.R_alloc | apply Kd.R_drewN | apply Kd.R_drew));exact HO_408001.out) hb);have n2_:=Aside0.mk (blk_below (g:=gb397) (o := .cells #[.int .i64 x398000_1,.slice none 0 0] 32 (0,0)) (by (with_reducible repeat (first | refine blk_drewN ?_ _ | refine blk_drew ?_ | refine blk_alloc ?_ _));exact BK397.out) hb);have n3_:=Aside0.mk (blk_below (g:=gb407) (o := .cells #[.int .i64 (wrap64 (rd x6_1 0)),.slice Ao54 x408001_2.length co54] 32 (0,0)) (by (with_reducible repeat (first | refine blk_drewN ?_ _ | refine blk_drew ?_ | refine blk_alloc ?_ _));exact BK407.out) hb);have n4_:=Aside0.mk (below_step (by repeat (first | (with_reducible first | exact HB.out | apply below_alloc | apply pw_below_drewN | apply below_drew1 | refine below_set ?_ GE397.out | refine below_set ?_ GE407.out) | exact HB.out)) hb);clear HO_6;clear HO_408001;clear BK397;clear BK407;clear HB;have HO_6:=n0_;have HO_408001:=n1_;have BK397:=n2_;have BK407:=n3_;have HB:=n4_;clear n0_ n1_ n2_ n3_ n4_;(try clear hb);(try clear hb2);(try clear hk);(try clear hi);have hcz56_0 : w55.cell? ⟨gb397,0,none⟩ = some (.int .i64 x398000_1):=(blk_cell BK397.out 0).trans rfl;have hcz56_1 : w55.cell? ⟨gb397,1,none⟩ = some (.slice none 0 0):=(blk_cell BK397.out 1).trans rfl;have hfz56_0:=blk_frozen BK397.out 0;have hfz56_1:=blk_frozen BK397.out 1))
           refine bodyPost_ret (results_ct rfl _ _ gb397 32 #[.int .i64 0,.slice none 0 0] (0,0) _ rfl (by (with_reducible repeat (first | refine blk_drewN ?_ _ | refine blk_drew ?_ | refine blk_alloc ?_ _));refine blk_put (cs := #[.int .i64 0,.slice none 0 0]) ?_ 1 _ rfl;(with_reducible repeat (first | refine blk_drewN ?_ _ | refine blk_drew ?_ | refine blk_alloc ?_ _));refine blk_put (cs := #[.int .i64 x398000_1,.slice none 0 0]) ?_ 0 _ rfl;(with_reducible repeat (first | refine blk_drewN ?_ _ | refine blk_drew ?_ | refine blk_alloc ?_ _));exact BK397.out) Tryz.underlying32 rfl (by kernel_rfl)) rfl ?_
           exact ⟨_,by first | rfl | (simp [errW_none,errW_some] <;> rfl) | (simp [*,errW_none,errW_some] <;> rfl) | (simp [errW_none,errW_some];exact isEmpty_bne _),by first | exact Kd.R_nil _ _ _ _ _ | exact Kd.N_nil _ _ _ _ _ | exact Kd.V_nil _ _ _ _ _ | exact Kd.Q_nil _ _ _ _ _ | exact Kd.S_nil _ _ _ _ _,by repeat (first | (with_reducible first | exact HB.out | apply below_alloc | apply pw_below_drewN | apply below_drew1 | refine below_set ?_ GE397.out | refine below_set ?_ GE407.out) | exact HB.out)⟩
      ·rw [if_neg c20] at H
       exact absurd H (by simp)
 ·replace c3:=Bool.eq_false_iff.mpr c3
  subst c3
  have H1 : (some (0,([] : List (S65)),4)) = some (r1,r2,r3):=by rw [if_neg (show ¬ (false = true) by decide)] at H;exact H
  clear H
  have H:=H1
  clear H1
  simp only [Option.some.injEq,Prod.mk.injEq] at H
  obtain ⟨rfl,rfl,rfl⟩:=H
  go_enter Tryz.func54,Tryz.ntmps54
  go_wp2_with (first | ((with_reducible refine gate_dst (N:=2) rfl ?_);refine box_event ?hg (N:=2) ?hd (cs := #[.int .i64 0,.slice none 0 0]) (t:=32) ?hr ?_;(case hd => rfl);(case hg => rfl);(case hr => first | (go_simp;done) | (go_simp;rfl));intro gb397 hg w57 hbox hb;have n0_:=Aside0.mk (below_step (by repeat (first | (with_reducible first | exact HB.out | apply below_alloc | apply pw_below_drewN | apply below_drew1) | exact HB.out)) hb);have n1_:=Aside0.mk (hbox);have n2_:=Aside0.mk ((by rw [hg];exact (below_size (by repeat (first | (with_reducible first | exact HB.out | apply below_alloc | apply pw_below_drewN | apply below_drew1) | exact HB.out))) : w.heap.size ≤ gb397));have n3_:=Aside0.mk ((by rw [hg];exact (below_size (by repeat (first | (with_reducible first | exact HB.out | apply below_alloc | apply pw_below_drewN | apply below_drew1) | exact HB.out))) : w.heap.size ≤ gb397));clear HB;have HB:=n0_;have BK397:=n1_;have GW397:=n2_;have GE397:=n3_;clear n0_ n1_ n2_ n3_;clear hb hbox hg) | ((with_reducible refine gate_callee (f:=88) rfl ?_);refine goesL_ (some 16) rfl rfl Tryz.func88 (by kernel_rfl) rfl #[.string a0] rfl (by (try simp only [List.map_toArray,List.map_cons,List.map_nil]);first | done | rfl | (simp only [List.length_drop,List.length_take];rfl)) ?_;(with_reducible refine (thwartref02_Open.calls k a0 t398 false _ A2.out).mono ?_);rintro e w58 ⟨rfl,hb⟩;refine ⟨_,rfl,?_⟩;have n0_:=Aside0.mk (blk_below (g:=gb397) (o := .cells #[.int .i64 0,.slice none 0 0] 32 (0,0)) (by (with_reducible repeat (first | refine blk_drewN ?_ _ | refine blk_drew ?_ | refine blk_alloc ?_ _));exact BK397.out) hb);have n1_:=Aside0.mk (below_step (by repeat (first | (with_reducible first | exact HB.out | apply below_alloc | apply pw_below_drewN | apply below_drew1 | refine below_set ?_ GE397.out) | exact HB.out)) hb);clear BK397;clear HB;have BK397:=n0_;have HB:=n1_;clear n0_ n1_;(try clear hb);(try clear hb2);(try clear hk);(try clear hi);have hcz59_0 : w58.cell? ⟨gb397,0,none⟩ = some (.int .i64 0):=(blk_cell BK397.out 0).trans rfl;have hcz59_1 : w58.cell? ⟨gb397,1,none⟩ = some (.slice none 0 0):=(blk_cell BK397.out 1).trans rfl;have hfz59_0:=blk_frozen BK397.out 0;have hfz59_1:=blk_frozen BK397.out 1))
  refine bodyPost_ret (results_ct rfl _ _ gb397 32 #[.int .i64 0,.slice none 0 0] (0,0) _ rfl (by (with_reducible repeat (first | refine blk_drewN ?_ _ | refine blk_drew ?_ | refine blk_alloc ?_ _));refine blk_put (cs := #[.int .i64 0,.slice none 0 0]) ?_ 1 _ rfl;(with_reducible repeat (first | refine blk_drewN ?_ _ | refine blk_drew ?_ | refine blk_alloc ?_ _));refine blk_put (cs := #[.int .i64 0,.slice none 0 0]) ?_ 0 _ rfl;(with_reducible repeat (first | refine blk_drewN ?_ _ | refine blk_drew ?_ | refine blk_alloc ?_ _));exact BK397.out) Tryz.underlying32 rfl (by kernel_rfl)) rfl ?_
  exact ⟨_,by first | rfl | (simp [errW_none,errW_some] <;> rfl) | (simp [*,errW_none,errW_some] <;> rfl) | (simp [errW_none,errW_some];exact isEmpty_bne _),by first | exact Kd.R_nil _ _ _ _ _ | exact Kd.N_nil _ _ _ _ _ | exact Kd.V_nil _ _ _ _ _ | exact Kd.Q_nil _ _ _ _ _ | exact Kd.S_nil _ _ _ _ _,by repeat (first | (with_reducible first | exact HB.out | apply below_alloc | apply pw_below_drewN | apply below_drew1 | refine below_set ?_ GE397.out) | exact HB.out)⟩

-- NOT PRINTED: function 18 (thwartref13_Latest)

end Go.Proofs.YtlnbekaldemebaaGreatDoor.Print
