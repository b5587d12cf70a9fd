/- Written by a program of mine (give.py, over the kit's print) out of the translation: contracts of the Go functions. Lean checks it. -/
import Derived.Test.YtgampcbjmdgciaaDoorPrint0
import Derived.Test.YtgampcbjmdgciaaDoorPrint5
namespace Go.Proofs.YtgampcbjmdgciaaDoor.Print
open Go.RowKit Go.Proofs.YtgampcbjmdgciaaDoorW.PrintWords Go.Proofs.YtgampcbjmdgciaaDoorW.PrintLast Go.Proofs.YtgampcbjmdgciaaDoorW.PrintMore
attribute [local go_sem] max2_int min2_int max_two min_two max_three min_three max_four min_four   -- for this text's walks alone
set_option linter.unusedVariables false
set_option linter.unusedSimpArgs false

/-! ### thwartlaw12_to: function 10 -/
def thwartlaw12_to.l0 : Nat → Int → Int → List (S46) → Int → List (S48) → Option (Int × (List (S48)))
 | 0,_,_,_,_,_ => none
 | k + 1,x4,x186000,x186001,x188000,x188001 => if x4 < (x186001.length : Int) then (if 0 ≤ x4 then (if x188001.length < 5864062014805 then (thwartlaw12_to.l0 k (wrap64 (x4 + 1)) x186000 x186001 x188000 (x188001 ++ [(⟨(rd_T46 x186001 x4).f0,(rd_T46 x186001 x4).f1,(rd_T46 x186001 x4).f2⟩ : S48)])) else (none)) else (none)) else (some (x188000,x188001))
def thwartlaw12_to.f (k : Nat) (a0_0 : Int) (l0_1 : List (S46)) : Option (Int × (List (S48))):=thwartlaw12_to.l0 k 0 a0_0 l0_1 a0_0 ([] : List (S48))
theorem thwartlaw12_to.mono_l : ∀ k,(∀ y0 y1 y2 y3 y4,LeO (thwartlaw12_to.l0 k y0 y1 y2 y3 y4) (thwartlaw12_to.l0 (k + 1) y0 y1 y2 y3 y4))
 | 0 => fun _ _ _ _ _ r h => by simp [thwartlaw12_to.l0] at h
 | k + 1 => by
  have ih0:=thwartlaw12_to.mono_l k
  ·intro y0 y1 y2 y3 y4
   unfold thwartlaw12_to.l0
   repeat' first
   | (with_reducible exact ih0 _ _ _ _ _)
   | (with_reducible exact LeO.refl _)
   | (with_reducible exact LeO.none _)
   | (with_reducible refine LeO.ite ?_ ?_)
   | (with_reducible refine LeO.bind ?_ (fun _ => ?_))
   | exact ih0 _ _ _ _ _
   | exact LeO.none _
   | refine LeO.ite ?_ ?_
   | refine LeO.bind ?_ (fun _ => ?_)
theorem thwartlaw12_to.mono : ∀ a0 a1 k,LeO (thwartlaw12_to.f k a0 a1) (thwartlaw12_to.f (k + 1) a0 a1):=by
 intro a0 a1 k
 have ih0:=thwartlaw12_to.mono_l k
 unfold thwartlaw12_to.f
 repeat' first
   | (with_reducible exact ih0 _ _ _ _ _)
   | (with_reducible exact LeO.refl _)
   | (with_reducible exact LeO.none _)
   | (with_reducible refine LeO.ite ?_ ?_)
   | (with_reducible refine LeO.bind ?_ (fun _ => ?_))
   | exact ih0 _ _ _ _ _
   | exact LeO.none _
   | refine LeO.ite ?_ ?_
   | refine LeO.bind ?_ (fun _ => ?_)
def thwartlaw12_to.T5 : Bool × List (List Nat × List Nat):=(true,[([],[]),([0],[0]),([],[]),([2],[2]),([],[]),([3,4],[3,4]),([5],[5]),([6],[6]),([],[]),([8],[8]),([],[]),([9,10],[9,10]),([11],[11]),([12],[12]),([],[]),([14],[14]),([],[]),([15,16],[15,16]),([17],[17]),([18],[18]),([7,13,19],[7,13,19]),([20],[20]),([1,21],[1,21]),([0,1,2,3,4,5,6,7,8,9,10,11,12,13,14,15,16,17,18,19,20,21,22],[]),([23,22,22,0,1,2,3,4,5,6,7,8,9,10,11,12,13,14,15,16,17,18,19,20,21,22],[22,23])])
def thwartlaw12_to.B5 : List Nat:=[0,1,0,4,0,28,60,124,0,256,0,1792,3840,7936,0,16384,0,114688,245760,507904,1048572,2097148,4194303,8388607,16777215]
theorem thwartlaw12_to.tab5 : rtab .any (opsOf Tryd.f10 5) = thwartlaw12_to.T5:=by kernel_rfl
theorem thwartlaw12_to.bits5 : waitsOk thwartlaw12_to.T5.2 thwartlaw12_to.B5 = true:=by kernel_rfl
set_option maxHeartbeats 8000000 in
set_option maxRecDepth 100000 in
theorem thwartlaw12_to.calls (k : Nat) (a0_0 : Int) (A0_1 : Option Addr) (c0_1 : Nat) (l0_1 : List (S46)) (r1 : Int) (r2 : List (S48)) (w : World) (hr0_1 : Kd.C k46 w A0_1 l0_1.length l0_1) (hc0_1 : l0_1.length ≤ c0_1) (h : thwartlaw12_to.f k a0_0 l0_1 = some (r1,r2)) :
  Calls Tryd.prog 10 #[.agg #[.int .i64 a0_0,.slice A0_1 l0_1.length c0_1]] w fun e w' => ∃ v1_ : Value,e = .returned (.agg #[.int .i64 r1,v1_]) ∧ Kd.R k48 48 w' w.heap.size (fun _ => True) v1_ r2 ∧ Below w.heap.size w w' := by
 have hu24:=Tryd.underlying24
 have hu32:=Tryd.underlying32
 have hu48:=Tryd.underlying48
 have HR0_1:=Aside0.mk hr0_1
 have HC0_1:=Aside0.mk hc0_1
 clear hr0_1 hc0_1
 have HB:=Aside0.mk (Below.refl w.heap.size w)
 have H : (thwartlaw12_to.l0 k 0 a0_0 l0_1 a0_0 ([] : List (S48))) = some (r1,r2):=h
 clear h
 have H' := Aside0.mk H
 clear H
 go_enter Tryd.func10,Tryd.ntmps10
 go_wp2_with (first | ((with_reducible refine gate_dst (N:=1) rfl ?_);refine box_event ?hg (N:=1) ?hd (cs := #[.int .i64 a0_0,.slice A0_1 l0_1.length c0_1]) (t:=24) ?hr ?_;(case hd => rfl);(case hg => rfl);(case hr => first | (go_simp;done) | (go_simp;rfl));intro gb185 hg w2 hbox hb;have n0_:=Aside0.mk (below_step (by repeat (first | (with_reducible first | exact HB.out | apply below_alloc | apply pw_below_drewN | apply below_drew1) | exact HB.out)) hb);have n1_:=Aside0.mk (hbox);have n2_:=Aside0.mk ((by rw [hg];exact (below_size (by repeat (first | (with_reducible first | exact HB.out | apply below_alloc | apply pw_below_drewN | apply below_drew1) | exact HB.out))) : w.heap.size ≤ gb185));have n3_:=Aside0.mk ((by rw [hg];exact (below_size (by repeat (first | (with_reducible first | exact HB.out | apply below_alloc | apply pw_below_drewN | apply below_drew1) | exact HB.out))) : w.heap.size ≤ gb185));clear HB;have HB:=n0_;have BK185:=n1_;have GW185:=n2_;have GE185:=n3_;clear n0_ n1_ n2_ n3_;clear hb hbox hg) | ((with_reducible refine gate_dst (N:=2) rfl ?_);refine box_event ?hg (N:=2) ?hd (cs := #[.int .i64 0,.slice none 0 0]) (t:=32) ?hr ?_;(case hd => rfl);(case hg => rfl);(case hr => first | (go_simp;done) | (go_simp;rfl));intro gb186 hg w3 hbox hb;have n0_:=Aside0.mk (blk_below (g:=gb185) (o := .cells #[.int .i64 a0_0,.slice A0_1 l0_1.length c0_1] 24 (0,0)) (by (with_reducible repeat (first | refine blk_drewN ?_ _ | refine blk_drew ?_ | refine blk_alloc ?_ _));exact BK185.out) hb);have n1_:=Aside0.mk (below_step (by repeat (first | (with_reducible first | exact HB.out | apply below_alloc | apply pw_below_drewN | apply below_drew1 | refine below_set ?_ GE185.out) | exact HB.out)) hb);have n2_:=Aside0.mk (hbox);have n3_:=Aside0.mk ((by rw [hg];exact (below_size (by repeat (first | (with_reducible first | exact HB.out | apply below_alloc | apply pw_below_drewN | apply below_drew1 | refine below_set ?_ GE185.out) | exact HB.out))) : w.heap.size ≤ gb186));have n4_:=Aside0.mk ((by rw [hg];exact (below_size (by repeat (first | (with_reducible first | exact HB.out | apply below_alloc | apply pw_below_drewN | apply below_drew1 | refine below_set ?_ GE185.out) | exact HB.out))) : w.heap.size ≤ gb186));have n5_:=Aside0.mk ((by rw [hg];exact Nat.ne_of_lt (blk_lt (g:=gb185) (o := .cells #[.int .i64 a0_0,.slice A0_1 l0_1.length c0_1] 24 (0,0)) (by (with_reducible repeat (first | refine blk_drewN ?_ _ | refine blk_drew ?_ | refine blk_alloc ?_ _));exact BK185.out)) : gb185 ≠ gb186));have n6_:=Aside0.mk ((by rw [hg];exact Nat.ne_of_gt (blk_lt (g:=gb185) (o := .cells #[.int .i64 a0_0,.slice A0_1 l0_1.length c0_1] 24 (0,0)) (by (with_reducible repeat (first | refine blk_drewN ?_ _ | refine blk_drew ?_ | refine blk_alloc ?_ _));exact BK185.out)) : gb186 ≠ gb185));clear BK185;clear HB;have BK185:=n0_;have HB:=n1_;have BK186:=n2_;have GW186:=n3_;have GE186:=n4_;have NB185_186:=n5_;have NB186_185:=n6_;clear n0_ n1_ n2_ n3_ n4_ n5_ n6_;clear hb hbox hg;have hnb4:=NB185_186.out;have hnc4:=NB186_185.out;have hcz5_0 : w3.cell? ⟨gb185,0,none⟩ = some (.int .i64 a0_0):=(blk_cell BK185.out 0).trans rfl;have hcz5_1 : w3.cell? ⟨gb185,1,none⟩ = some (.slice A0_1 l0_1.length c0_1):=(blk_cell BK185.out 1).trans rfl;have hfz5_0:=blk_frozen BK185.out 0;have hfz5_1:=blk_frozen BK185.out 1) | ((with_reducible refine gate_dst (N:=3) rfl ?_);refine box_event ?hg (N:=3) ?hd (cs := #[.int .i64 0,.slice none 0 0]) (t:=32) ?hr ?_;(case hd => rfl);(case hg => rfl);(case hr => first | (go_simp;done) | (go_simp;rfl));intro gb187 hg w6 hbox hb;have n0_:=Aside0.mk (blk_below (g:=gb185) (o := .cells #[.int .i64 a0_0,.slice A0_1 l0_1.length c0_1] 24 (0,0)) (by (with_reducible repeat (first | refine blk_drewN ?_ _ | refine blk_drew ?_ | refine blk_alloc ?_ _));exact BK185.out) hb);have n1_:=Aside0.mk (blk_below (g:=gb186) (o := .cells #[.int .i64 0,.slice none 0 0] 32 (0,0)) (by (with_reducible repeat (first | refine blk_drewN ?_ _ | refine blk_drew ?_ | refine blk_alloc ?_ _));exact BK186.out) hb);have n2_:=Aside0.mk (below_step (by repeat (first | (with_reducible first | exact HB.out | apply below_alloc | apply pw_below_drewN | apply below_drew1 | refine below_set ?_ GE185.out | refine below_set ?_ GE186.out) | exact HB.out)) hb);have n3_:=Aside0.mk (hbox);have n4_:=Aside0.mk ((by rw [hg];exact (below_size (by repeat (first | (with_reducible first | exact HB.out | apply below_alloc | apply pw_below_drewN | apply below_drew1 | refine below_set ?_ GE185.out | refine below_set ?_ GE186.out) | exact HB.out))) : w.heap.size ≤ gb187));have n5_:=Aside0.mk ((by rw [hg];exact (below_size (by repeat (first | (with_reducible first | exact HB.out | apply below_alloc | apply pw_below_drewN | apply below_drew1 | refine below_set ?_ GE185.out | refine below_set ?_ GE186.out) | exact HB.out))) : w.heap.size ≤ gb187));have n6_:=Aside0.mk ((by rw [hg];exact Nat.ne_of_lt (blk_lt (g:=gb185) (o := .cells #[.int .i64 a0_0,.slice A0_1 l0_1.length c0_1] 24 (0,0)) (by (with_reducible repeat (first | refine blk_drewN ?_ _ | refine blk_drew ?_ | refine blk_alloc ?_ _));exact BK185.out)) : gb185 ≠ gb187));have n7_:=Aside0.mk ((by rw [hg];exact Nat.ne_of_gt (blk_lt (g:=gb185) (o := .cells #[.int .i64 a0_0,.slice A0_1 l0_1.length c0_1] 24 (0,0)) (by (with_reducible repeat (first | refine blk_drewN ?_ _ | refine blk_drew ?_ | refine blk_alloc ?_ _));exact BK185.out)) : gb187 ≠ gb185));have n8_:=Aside0.mk ((by rw [hg];exact Nat.ne_of_lt (blk_lt (g:=gb186) (o := .cells #[.int .i64 0,.slice none 0 0] 32 (0,0)) (by (with_reducible repeat (first | refine blk_drewN ?_ _ | refine blk_drew ?_ | refine blk_alloc ?_ _));exact BK186.out)) : gb186 ≠ gb187));have n9_:=Aside0.mk ((by rw [hg];exact Nat.ne_of_gt (blk_lt (g:=gb186) (o := .cells #[.int .i64 0,.slice none 0 0] 32 (0,0)) (by (with_reducible repeat (first | refine blk_drewN ?_ _ | refine blk_drew ?_ | refine blk_alloc ?_ _));exact BK186.out)) : gb187 ≠ gb186));clear BK185;clear BK186;clear HB;have BK185:=n0_;have BK186:=n1_;have HB:=n2_;have BK187:=n3_;have GW187:=n4_;have GE187:=n5_;have NB185_187:=n6_;have NB187_185:=n7_;have NB186_187:=n8_;have NB187_186:=n9_;clear n0_ n1_ n2_ n3_ n4_ n5_ n6_ n7_ n8_ n9_;clear hb hbox hg;have hnb7:=NB187_185.out;have hnc7:=NB185_187.out;have hnb8:=NB187_186.out;have hnc8:=NB186_187.out;have hcz9_0 : w6.cell? ⟨gb187,0,none⟩ = some (.int .i64 0):=(blk_cell BK187.out 0).trans rfl;have hcz9_1 : w6.cell? ⟨gb187,1,none⟩ = some (.slice none 0 0):=(blk_cell BK187.out 1).trans rfl;have hfz9_0:=blk_frozen BK187.out 0;have hfz9_1:=blk_frozen BK187.out 1))
 go_loopg [4] k (fun kq v4 w' => ∃ (x4_1 : Int) (x188001_1 : List (S48)) (u188001 : Value),v4 = .int .i64 x4_1 ∧ Aside0 (thwartlaw12_to.l0 kq x4_1 a0_0 l0_1 a0_0 x188001_1 = some (r1,r2)) ∧ Aside0 (kq ≤ k) ∧ Aside0 (Kd.R k48 48 w' w.heap.size (fun _ => True) u188001 x188001_1) ∧ Aside0 (w'.heap[gb185]? = some (.cells #[.int .i64 a0_0,(.slice A0_1 l0_1.length c0_1)] 24 (0,0))) ∧ Aside0 (w'.heap[gb186]? = some (.cells #[.int .i64 0,(.slice none 0 0)] 32 (0,0))) ∧ Aside0 (w'.heap[gb187]? = some (.cells #[.int .i64 a0_0,u188001] 32 (0,0))) ∧ Aside0 (Below w.heap.size w w'))
 case atStart => exact ⟨(0),(([] : List (S48))),(.slice none 0 0),(by first | rfl | (simp;done) | (simp [*];done)),H',⟨Nat.le_refl _⟩,⟨by first | exact Kd.R_nil _ _ _ _ _ | exact Kd.N_nil _ _ _ _ _ | exact Kd.V_nil _ _ _ _ _ | exact Kd.Q_nil _ _ _ _ _ | exact Kd.S_nil _ _ _ _ _⟩,⟨by (with_reducible repeat (first | refine blk_drewN ?_ _ | refine blk_drew ?_ | refine blk_alloc ?_ _));refine blk_far ?_ NB185_187.out _;(with_reducible repeat (first | refine blk_drewN ?_ _ | refine blk_drew ?_ | refine blk_alloc ?_ _));refine blk_far ?_ NB185_187.out _;(with_reducible repeat (first | refine blk_drewN ?_ _ | refine blk_drew ?_ | refine blk_alloc ?_ _));exact BK185.out⟩,⟨by (with_reducible repeat (first | refine blk_drewN ?_ _ | refine blk_drew ?_ | refine blk_alloc ?_ _));refine blk_far ?_ NB186_187.out _;(with_reducible repeat (first | refine blk_drewN ?_ _ | refine blk_drew ?_ | refine blk_alloc ?_ _));refine blk_far ?_ NB186_187.out _;(with_reducible repeat (first | refine blk_drewN ?_ _ | refine blk_drew ?_ | refine blk_alloc ?_ _));exact BK186.out⟩,⟨by (with_reducible repeat (first | refine blk_drewN ?_ _ | refine blk_drew ?_ | refine blk_alloc ?_ _));refine blk_put (cs := #[.int .i64 a0_0,.slice none 0 0]) ?_ 1 _ rfl;(with_reducible repeat (first | refine blk_drewN ?_ _ | refine blk_drew ?_ | refine blk_alloc ?_ _));refine blk_put (cs := #[.int .i64 0,.slice none 0 0]) ?_ 0 _ rfl;(with_reducible repeat (first | refine blk_drewN ?_ _ | refine blk_drew ?_ | refine blk_alloc ?_ _));exact BK187.out⟩,⟨by repeat (first | (with_reducible first | exact HB.out | apply below_alloc | apply pw_below_drewN | apply below_drew1 | refine below_set ?_ GE185.out | refine below_set ?_ GE186.out | refine below_set ?_ GE187.out) | exact HB.out)⟩⟩
 case round =>
  clear H'
  try clear c1
  try clear p2
  try clear c4
  try clear c7
  try clear c8
  try clear hcz5_0
  try clear hcz5_1
  try clear hcz9_0
  try clear hcz9_1
  try clear hfz5_0
  try clear hfz5_1
  try clear hfz9_0
  try clear hfz9_1
  obtain ⟨x4_1,x188001_1,u188001,rfl,HA,HK1,HO_188001,BK185,BK186,BK187,HB⟩:=hrel
  cases gk with
  | zero => exact absurd HA.out (by simp [thwartlaw12_to.l0])
  | succ k1 =>
   have H:=HA.out
   clear HA
   simp only [thwartlaw12_to.l0] at H
   by_cases c10 : x4_1 < (l0_1.length : Int)
   ·rw [if_pos c10] at H
    have c10b0 : decide (x4_1 < (l0_1.length : Int)) = true:=decide_eq_true c10
    clear c10
    by_cases c11 : 0 ≤ x4_1
    ·rw [if_pos c11] at H
     have c11b0 : decide (0 ≤ x4_1) = true:=decide_eq_true c11
     clear c11
     by_cases c12 : x188001_1.length < 5864062014805
     ·rw [if_pos c12] at H
      have LMc12:=Aside0.mk c12
      clear c12
      obtain ⟨y191,hy191⟩ : ∃ y_ : List (S48),y_ = (x188001_1 ++ [(⟨(rd_T46 l0_1 x4_1).f0,(rd_T46 l0_1 x4_1).f1,(rd_T46 l0_1 x4_1).f2⟩ : S48)]):=⟨_,rfl⟩
      replace H : (thwartlaw12_to.l0 k1 (wrap64 (x4_1 + 1)) a0_0 l0_1 a0_0 y191) = some (r1,r2):=by first | (rw [hy191];with_reducible exact H) | (have H2_:=(Option.bind_some _ _).symm.trans H;rw [hy191];with_reducible exact H2_) | (have H2_:=(Option.bind_some _ _).symm.trans H;with_reducible exact H2_) | with_reducible exact H | (rw [hy191];exact H) | exact H
      have Ny191:=Aside0.mk hy191
      clear hy191
      have H' := Aside0.mk H
      clear H
      have hnb13:=NB185_186.out
      have hnc13:=NB186_185.out
      have hnb14:=NB185_187.out
      have hnc14:=NB187_185.out
      have hcz15_0 : wr.cell? ⟨gb185,0,none⟩ = some (.int .i64 a0_0):=(blk_cell BK185.out 0).trans rfl
      have hcz15_1 : wr.cell? ⟨gb185,1,none⟩ = some (.slice A0_1 l0_1.length c0_1):=(blk_cell BK185.out 1).trans rfl
      have hfz15_0:=blk_frozen BK185.out 0
      have hfz15_1:=blk_frozen BK185.out 1
      try go_wp2
      have n0_:=Aside0.mk (Kd.R_drew HO_188001.out)
      have n1_:=Aside0.mk (blk_drew BK185.out)
      have n2_:=Aside0.mk (blk_drew BK186.out)
      have n3_:=Aside0.mk (blk_drew BK187.out)
      have n4_:=Aside0.mk (below_drew1 HB.out)
      clear HO_188001
      clear BK185
      clear BK186
      clear BK187
      clear HB
      have HO_188001:=n0_
      have BK185:=n1_
      have BK186:=n2_
      have BK187:=n3_
      have HB:=n4_
      clear n0_ n1_ n2_ n3_ n4_
      have p188 : 0 ≤ (x4_1 : Int):=of_decide_eq_true (by first | (with_reducible assumption) | assumption)
      have q188 : x4_1 < (l0_1.length : Int):=of_decide_eq_true (by first | (with_reducible assumption) | assumption)
      obtain ⟨ad188,e188,hx188_0,hx188_1,hx188_2⟩:=at_T46 HR0_1.out x4_1 p188 q188
      have hw188_2:=hx188_2
      have hw188_1:=hx188_1
      have hw188_0:=hx188_0
      cases e188
      replace hx188_0:=(HB.out.cell (World.block_lt_of_cell? w _ hx188_0)).trans hx188_0
      replace hx188_1:=(HB.out.cell (World.block_lt_of_cell? w _ hx188_1)).trans hx188_1
      replace hx188_2:=(HB.out.cell (World.block_lt_of_cell? w _ hx188_2)).trans hx188_2
      replace p188:=eq_true p188
      replace q188:=eq_true q188
      have p189 : 0 ≤ (x4_1 : Int):=of_decide_eq_true (by first | (with_reducible assumption) | assumption)
      have q189 : x4_1 < (l0_1.length : Int):=of_decide_eq_true (by first | (with_reducible assumption) | assumption)
      obtain ⟨ad189,e189,hx189_0,hx189_1,hx189_2⟩:=at_T46 HR0_1.out x4_1 p189 q189
      have hw189_2:=hx189_2
      have hw189_1:=hx189_1
      have hw189_0:=hx189_0
      obtain rfl : ad188 = ad189:=(by injection e189)
      replace hx189_0:=(HB.out.cell (World.block_lt_of_cell? w _ hx189_0)).trans hx189_0
      replace hx189_1:=(HB.out.cell (World.block_lt_of_cell? w _ hx189_1)).trans hx189_1
      replace hx189_2:=(HB.out.cell (World.block_lt_of_cell? w _ hx189_2)).trans hx189_2
      replace p189:=eq_true p189
      replace q189:=eq_true q189
      have p190 : 0 ≤ (x4_1 : Int):=of_decide_eq_true (by first | (with_reducible assumption) | assumption)
      have q190 : x4_1 < (l0_1.length : Int):=of_decide_eq_true (by first | (with_reducible assumption) | assumption)
      obtain ⟨ad190,e190,hx190_0,hx190_1,hx190_2⟩:=at_T46 HR0_1.out x4_1 p190 q190
      have hw190_2:=hx190_2
      have hw190_1:=hx190_1
      have hw190_0:=hx190_0
      obtain rfl : ad188 = ad190:=(by injection e190)
      replace hx190_0:=(HB.out.cell (World.block_lt_of_cell? w _ hx190_0)).trans hx190_0
      replace hx190_1:=(HB.out.cell (World.block_lt_of_cell? w _ hx190_1)).trans hx190_1
      replace hx190_2:=(HB.out.cell (World.block_lt_of_cell? w _ hx190_2)).trans hx190_2
      replace p190:=eq_true p190
      replace q190:=eq_true q190
      refine start_ (n:=25) (S:=fun w' => w'.cell? ⟨gb187,0,none⟩ = some (.int .i64 a0_0) ∧ w'.cell? ⟨gb187,1,none⟩ = some (u188001) ∧ w'.cell? ⟨gb185,0,none⟩ = some (.int .i64 a0_0) ∧ w'.cell? ⟨gb185,1,none⟩ = some (.slice (some ad188) l0_1.length c0_1) ∧ w'.cell? (ad188.add ((x4_1).toNat * 3)) = some (.int .i64 ((rd_T46 l0_1 x4_1).f0)) ∧ w'.cell? ⟨(ad188.add ((x4_1).toNat * 3)).block,(ad188.add ((x4_1).toNat * 3)).off + 1,none⟩ = some (.int .i64 ((rd_T46 l0_1 x4_1).f1)) ∧ w'.cell? ⟨(ad188.add ((x4_1).toNat * 3)).block,(ad188.add ((x4_1).toNat * 3)).off + 2,none⟩ = some (.int .u32 ((rd_T46 l0_1 x4_1).f2)) ∧ w'.cell? (ad188.add ((x4_1).toNat * 3)) = some (.int .i64 ((rd_T46 l0_1 x4_1).f0)) ∧ w'.cell? ⟨(ad188.add ((x4_1).toNat * 3)).block,(ad188.add ((x4_1).toNat * 3)).off + 1,none⟩ = some (.int .i64 ((rd_T46 l0_1 x4_1).f1)) ∧ w'.cell? ⟨(ad188.add ((x4_1).toNat * 3)).block,(ad188.add ((x4_1).toNat * 3)).off + 2,none⟩ = some (.int .u32 ((rd_T46 l0_1 x4_1).f2)) ∧ w'.cell? (ad188.add ((x4_1).toNat * 3)) = some (.int .i64 ((rd_T46 l0_1 x4_1).f0)) ∧ w'.cell? ⟨(ad188.add ((x4_1).toNat * 3)).block,(ad188.add ((x4_1).toNat * 3)).off + 1,none⟩ = some (.int .i64 ((rd_T46 l0_1 x4_1).f1)) ∧ w'.cell? ⟨(ad188.add ((x4_1).toNat * 3)).block,(ad188.add ((x4_1).toNat * 3)).off + 2,none⟩ = some (.int .u32 ((rd_T46 l0_1 x4_1).f2))) (ds:=[24]) #[false,false,false,false,false,false,false,false,false,false,false,false,false,false,false,false,false,false,false,false,false,false,false,false,false] (by kernel_rfl) rfl rfl ⟨(blk_cell BK187.out 0).trans rfl,(blk_cell BK187.out 1).trans rfl,(blk_cell BK185.out 0).trans rfl,(blk_cell BK185.out 1).trans rfl,((HB.out.cell (World.block_lt_of_cell? w _ hw188_0)).trans hw188_0),((HB.out.cell (World.block_lt_of_cell? w _ hw188_1)).trans hw188_1),((HB.out.cell (World.block_lt_of_cell? w _ hw188_2)).trans hw188_2),((HB.out.cell (World.block_lt_of_cell? w _ hw189_0)).trans hw189_0),((HB.out.cell (World.block_lt_of_cell? w _ hw189_1)).trans hw189_1),((HB.out.cell (World.block_lt_of_cell? w _ hw189_2)).trans hw189_2),((HB.out.cell (World.block_lt_of_cell? w _ hw190_0)).trans hw190_0),((HB.out.cell (World.block_lt_of_cell? w _ hw190_1)).trans hw190_1),((HB.out.cell (World.block_lt_of_cell? w _ hw190_2)).trans hw190_2)⟩ (fun hHeld => ?_);refine with_tabW thwartlaw12_to.tab5 thwartlaw12_to.bits5 (fun HT_ HW_ => ?_)
      generalize wr.drew = w16 at HO_188001 BK185 BK186 BK187 HB hx188_0 hx188_1 hx188_2 hx189_0 hx189_1 hx189_2 hx190_0 hx190_1 hx190_2 hHeld ⊢
      refine pure_ (i:=0) (N:=some 15) (v := ?_) (a' := ?_) #[true,false,false,false,false,false,false,false,false,false,false,false,false,false,false,false,false,false,false,false,false,false,false,false,false] rfl rfl (any_of HT_.out (by kernel_rfl)) (fun _ _ _ h => h) (Or.inl ⟨by rfl,?_⟩) ?_ ?_
      rotate_left
      ·intro w'
       go_simp
       with_reducible rfl
      rotate_left
      ·simp only [Act.put,List.setIfInBounds_toArray,List.set_cons_zero,List.set_cons_succ,i64_w,i32_w]
       rfl
      refine pure_ (i:=2) (N:=some 17) (v := ?_) (a' := ?_) #[true,false,true,false,false,false,false,false,false,false,false,false,false,false,false,false,false,false,false,false,false,false,false,false,false] rfl rfl (any_of HT_.out (by kernel_rfl)) (fun _ _ _ h => h) (Or.inl ⟨by rfl,?_⟩) ?_ ?_
      rotate_left
      ·intro w'
       go_simp
       with_reducible rfl
      rotate_left
      ·simp only [Act.put,List.setIfInBounds_toArray,List.set_cons_zero,List.set_cons_succ,i64_w,i32_w]
       rfl
      refine pure_ (i:=4) (N:=some 19) (v := ?_) (a' := ?_) #[true,false,true,false,true,false,false,false,false,false,false,false,false,false,false,false,false,false,false,false,false,false,false,false,false] rfl rfl (any_of HT_.out (by kernel_rfl)) (fun _ _ _ h => h) (Or.inl ⟨by rfl,?_⟩) ?_ ?_
      rotate_left
      ·intro w'
       go_simp
       with_reducible rfl
      rotate_left
      ·simp only [Act.put,List.setIfInBounds_toArray,List.set_cons_zero,List.set_cons_succ,i64_w,i32_w]
       rfl
      refine pure_ (i:=8) (N:=some 23) (v := ?_) (a' := ?_) #[true,false,true,false,true,false,false,false,true,false,false,false,false,false,false,false,false,false,false,false,false,false,false,false,false] rfl rfl (any_of HT_.out (by kernel_rfl)) (fun _ _ _ h => h) (Or.inl ⟨by rfl,?_⟩) ?_ ?_
      rotate_left
      ·intro w'
       go_simp
       with_reducible rfl
      rotate_left
      ·simp only [Act.put,List.setIfInBounds_toArray,List.set_cons_zero,List.set_cons_succ,i64_w,i32_w]
       rfl
      refine pure_ (i:=10) (N:=some 25) (v := ?_) (a' := ?_) #[true,false,true,false,true,false,false,false,true,false,true,false,false,false,false,false,false,false,false,false,false,false,false,false,false] rfl rfl (any_of HT_.out (by kernel_rfl)) (fun _ _ _ h => h) (Or.inl ⟨by rfl,?_⟩) ?_ ?_
      rotate_left
      ·intro w'
       go_simp
       with_reducible rfl
      rotate_left
      ·simp only [Act.put,List.setIfInBounds_toArray,List.set_cons_zero,List.set_cons_succ,i64_w,i32_w]
       rfl
      refine pure_ (i:=14) (N:=some 29) (v := ?_) (a' := ?_) #[true,false,true,false,true,false,false,false,true,false,true,false,false,false,true,false,false,false,false,false,false,false,false,false,false] rfl rfl (any_of HT_.out (by kernel_rfl)) (fun _ _ _ h => h) (Or.inl ⟨by rfl,?_⟩) ?_ ?_
      rotate_left
      ·intro w'
       go_simp
       with_reducible rfl
      rotate_left
      ·simp only [Act.put,List.setIfInBounds_toArray,List.set_cons_zero,List.set_cons_succ,i64_w,i32_w]
       rfl
      refine pure_ (i:=16) (N:=some 31) (v := ?_) (a' := ?_) #[true,false,true,false,true,false,false,false,true,false,true,false,false,false,true,false,true,false,false,false,false,false,false,false,false] rfl rfl (any_of HT_.out (by kernel_rfl)) (fun _ _ _ h => h) (Or.inl ⟨by rfl,?_⟩) ?_ ?_
      rotate_left
      ·intro w'
       go_simp
       with_reducible rfl
      rotate_left
      ·simp only [Act.put,List.setIfInBounds_toArray,List.set_cons_zero,List.set_cons_succ,i64_w,i32_w]
       rfl
      refine take_ (i:=1) (N:=some 16) (v := ?_) (a' := ?_) #[true,true,true,false,true,false,false,false,true,false,true,false,false,false,true,false,true,false,false,false,false,false,false,false,false] rfl rfl (take_ofW HT_.out HW_.out (by kernel_rfl)) (fun _ _ _ h => h) (Or.inl ⟨by rfl,?_⟩) hHeld ?_ ?_
      rotate_left
      ·rintro w' ⟨s0,s1,s2,s3,s4,s5,s6,s7,s8,s9,s10,s11,s12⟩
       go_simp
       with_reducible rfl
      rotate_left
      ·simp only [Act.put,List.setIfInBounds_toArray,List.set_cons_zero,List.set_cons_succ,i64_w,i32_w]
       rfl
      refine take_ (i:=3) (N:=some 18) (v := ?_) (a' := ?_) #[true,true,true,true,true,false,false,false,true,false,true,false,false,false,true,false,true,false,false,false,false,false,false,false,false] rfl rfl (take_ofW HT_.out HW_.out (by kernel_rfl)) (fun _ _ _ h => h) (Or.inl ⟨by rfl,?_⟩) hHeld ?_ ?_
      rotate_left
      ·rintro w' ⟨s0,s1,s2,s3,s4,s5,s6,s7,s8,s9,s10,s11,s12⟩
       go_simp
       with_reducible rfl
      rotate_left
      ·simp only [Act.put,List.setIfInBounds_toArray,List.set_cons_zero,List.set_cons_succ,i64_w,i32_w]
       rfl
      refine pure_ (i:=5) (N:=some 20) (v := ?_) (a' := ?_) #[true,true,true,true,true,true,false,false,true,false,true,false,false,false,true,false,true,false,false,false,false,false,false,false,false] rfl rfl (any_of HT_.out (by kernel_rfl)) (fun _ _ _ h => h) (Or.inl ⟨by rfl,?_⟩) ?_ ?_
      rotate_left
      ·intro w'
       go_simp
       with_reducible rfl
      rotate_left
      ·simp only [Act.put,List.setIfInBounds_toArray,List.set_cons_zero,List.set_cons_succ,i64_w,i32_w]
       rfl
      refine pure_ (i:=6) (N:=some 21) (v := ?_) (a' := ?_) #[true,true,true,true,true,true,true,false,true,false,true,false,false,false,true,false,true,false,false,false,false,false,false,false,false] rfl rfl (any_of HT_.out (by kernel_rfl)) (fun _ _ _ h => h) (Or.inl ⟨by rfl,?_⟩) ?_ ?_
      rotate_left
      ·intro w'
       go_simp
       with_reducible rfl
      rotate_left
      ·simp only [Act.put,List.setIfInBounds_toArray,List.set_cons_zero,List.set_cons_succ,i64_w,i32_w]
       rfl
      refine take_ (i:=7) (N:=some 22) (v := ?_) (a' := ?_) #[true,true,true,true,true,true,true,true,true,false,true,false,false,false,true,false,true,false,false,false,false,false,false,false,false] rfl rfl (take_ofW HT_.out HW_.out (by kernel_rfl)) (fun _ _ _ h => h) (Or.inl ⟨by rfl,?_⟩) hHeld ?_ ?_
      rotate_left
      ·rintro w' ⟨s0,s1,s2,s3,s4,s5,s6,s7,s8,s9,s10,s11,s12⟩
       go_simp
       with_reducible rfl
      rotate_left
      ·simp only [Act.put,List.setIfInBounds_toArray,List.set_cons_zero,List.set_cons_succ,i64_w,i32_w]
       rfl
      refine take_ (i:=9) (N:=some 24) (v := ?_) (a' := ?_) #[true,true,true,true,true,true,true,true,true,true,true,false,false,false,true,false,true,false,false,false,false,false,false,false,false] rfl rfl (take_ofW HT_.out HW_.out (by kernel_rfl)) (fun _ _ _ h => h) (Or.inl ⟨by rfl,?_⟩) hHeld ?_ ?_
      rotate_left
      ·rintro w' ⟨s0,s1,s2,s3,s4,s5,s6,s7,s8,s9,s10,s11,s12⟩
       go_simp
       with_reducible rfl
      rotate_left
      ·simp only [Act.put,List.setIfInBounds_toArray,List.set_cons_zero,List.set_cons_succ,i64_w,i32_w]
       rfl
      refine pure_ (i:=11) (N:=some 26) (v := ?_) (a' := ?_) #[true,true,true,true,true,true,true,true,true,true,true,true,false,false,true,false,true,false,false,false,false,false,false,false,false] rfl rfl (any_of HT_.out (by kernel_rfl)) (fun _ _ _ h => h) (Or.inl ⟨by rfl,?_⟩) ?_ ?_
      rotate_left
      ·intro w'
       go_simp
       with_reducible rfl
      rotate_left
      ·simp only [Act.put,List.setIfInBounds_toArray,List.set_cons_zero,List.set_cons_succ,i64_w,i32_w]
       rfl
      refine pure_ (i:=12) (N:=some 27) (v := ?_) (a' := ?_) #[true,true,true,true,true,true,true,true,true,true,true,true,true,false,true,false,true,false,false,false,false,false,false,false,false] rfl rfl (any_of HT_.out (by kernel_rfl)) (fun _ _ _ h => h) (Or.inl ⟨by rfl,?_⟩) ?_ ?_
      rotate_left
      ·intro w'
       go_simp
       with_reducible rfl
      rotate_left
      ·simp only [Act.put,List.setIfInBounds_toArray,List.set_cons_zero,List.set_cons_succ,i64_w,i32_w]
       rfl
      refine take_ (i:=13) (N:=some 28) (v := ?_) (a' := ?_) #[true,true,true,true,true,true,true,true,true,true,true,true,true,true,true,false,true,false,false,false,false,false,false,false,false] rfl rfl (take_ofW HT_.out HW_.out (by kernel_rfl)) (fun _ _ _ h => h) (Or.inl ⟨by rfl,?_⟩) hHeld ?_ ?_
      rotate_left
      ·rintro w' ⟨s0,s1,s2,s3,s4,s5,s6,s7,s8,s9,s10,s11,s12⟩
       go_simp
       with_reducible rfl
      rotate_left
      ·simp only [Act.put,List.setIfInBounds_toArray,List.set_cons_zero,List.set_cons_succ,i64_w,i32_w]
       rfl
      refine take_ (i:=15) (N:=some 30) (v := ?_) (a' := ?_) #[true,true,true,true,true,true,true,true,true,true,true,true,true,true,true,true,true,false,false,false,false,false,false,false,false] rfl rfl (take_ofW HT_.out HW_.out (by kernel_rfl)) (fun _ _ _ h => h) (Or.inl ⟨by rfl,?_⟩) hHeld ?_ ?_
      rotate_left
      ·rintro w' ⟨s0,s1,s2,s3,s4,s5,s6,s7,s8,s9,s10,s11,s12⟩
       go_simp
       with_reducible rfl
      rotate_left
      ·simp only [Act.put,List.setIfInBounds_toArray,List.set_cons_zero,List.set_cons_succ,i64_w,i32_w]
       rfl
      refine pure_ (i:=17) (N:=some 32) (v := ?_) (a' := ?_) #[true,true,true,true,true,true,true,true,true,true,true,true,true,true,true,true,true,true,false,false,false,false,false,false,false] rfl rfl (any_of HT_.out (by kernel_rfl)) (fun _ _ _ h => h) (Or.inl ⟨by rfl,?_⟩) ?_ ?_
      rotate_left
      ·intro w'
       go_simp
       with_reducible rfl
      rotate_left
      ·simp only [Act.put,List.setIfInBounds_toArray,List.set_cons_zero,List.set_cons_succ,i64_w,i32_w]
       rfl
      refine pure_ (i:=18) (N:=some 33) (v := ?_) (a' := ?_) #[true,true,true,true,true,true,true,true,true,true,true,true,true,true,true,true,true,true,true,false,false,false,false,false,false] rfl rfl (any_of HT_.out (by kernel_rfl)) (fun _ _ _ h => h) (Or.inl ⟨by rfl,?_⟩) ?_ ?_
      rotate_left
      ·intro w'
       go_simp
       with_reducible rfl
      rotate_left
      ·simp only [Act.put,List.setIfInBounds_toArray,List.set_cons_zero,List.set_cons_succ,i64_w,i32_w]
       rfl
      refine take_ (i:=19) (N:=some 34) (v := ?_) (a' := ?_) #[true,true,true,true,true,true,true,true,true,true,true,true,true,true,true,true,true,true,true,true,false,false,false,false,false] rfl rfl (take_ofW HT_.out HW_.out (by kernel_rfl)) (fun _ _ _ h => h) (Or.inl ⟨by rfl,?_⟩) hHeld ?_ ?_
      rotate_left
      ·rintro w' ⟨s0,s1,s2,s3,s4,s5,s6,s7,s8,s9,s10,s11,s12⟩
       go_simp
       with_reducible rfl
      rotate_left
      ·simp only [Act.put,List.setIfInBounds_toArray,List.set_cons_zero,List.set_cons_succ,i64_w,i32_w]
       rfl
      refine pure_ (i:=20) (N:=some 35) (v := ?_) (a' := ?_) #[true,true,true,true,true,true,true,true,true,true,true,true,true,true,true,true,true,true,true,true,true,false,false,false,false] rfl rfl (any_of HT_.out (by kernel_rfl)) (fun _ _ _ h => h) (Or.inl ⟨by rfl,?_⟩) ?_ ?_
      rotate_left
      ·intro w'
       go_simp
       with_reducible rfl
      rotate_left
      ·simp only [Act.put,List.setIfInBounds_toArray,List.set_cons_zero,List.set_cons_succ,i64_w,i32_w]
       rfl
      refine one_ (i:=21) (N:=some 36) #[true,true,true,true,true,true,true,true,true,true,true,true,true,true,true,true,true,true,true,true,true,true,false,false,false] rfl rfl (one_of HT_.out (by kernel_rfl)) (by decide) (fun K hK => ?_)
      refine value_ (w1 := ?_) (v := ?_) (by rfl) rfl ?_ ?_
      rotate_left 2
      ·go_simp
       constructor
       ·rfl
       ·rfl
      refine hK.out _ _ ⟨(blk_cell (blk_alloc BK187.out _) 0).trans rfl,(blk_cell (blk_alloc BK187.out _) 1).trans rfl,(blk_cell (blk_alloc BK185.out _) 0).trans rfl,(blk_cell (blk_alloc BK185.out _) 1).trans rfl,(World.cell?_alloc_lt _ _ _ (World.block_lt_of_cell? _ _ (((HB.out.cell (World.block_lt_of_cell? w _ hw188_0)).trans hw188_0)))).trans (((HB.out.cell (World.block_lt_of_cell? w _ hw188_0)).trans hw188_0)),(World.cell?_alloc_lt _ _ _ (World.block_lt_of_cell? _ _ (((HB.out.cell (World.block_lt_of_cell? w _ hw188_1)).trans hw188_1)))).trans (((HB.out.cell (World.block_lt_of_cell? w _ hw188_1)).trans hw188_1)),(World.cell?_alloc_lt _ _ _ (World.block_lt_of_cell? _ _ (((HB.out.cell (World.block_lt_of_cell? w _ hw188_2)).trans hw188_2)))).trans (((HB.out.cell (World.block_lt_of_cell? w _ hw188_2)).trans hw188_2)),(World.cell?_alloc_lt _ _ _ (World.block_lt_of_cell? _ _ (((HB.out.cell (World.block_lt_of_cell? w _ hw189_0)).trans hw189_0)))).trans (((HB.out.cell (World.block_lt_of_cell? w _ hw189_0)).trans hw189_0)),(World.cell?_alloc_lt _ _ _ (World.block_lt_of_cell? _ _ (((HB.out.cell (World.block_lt_of_cell? w _ hw189_1)).trans hw189_1)))).trans (((HB.out.cell (World.block_lt_of_cell? w _ hw189_1)).trans hw189_1)),(World.cell?_alloc_lt _ _ _ (World.block_lt_of_cell? _ _ (((HB.out.cell (World.block_lt_of_cell? w _ hw189_2)).trans hw189_2)))).trans (((HB.out.cell (World.block_lt_of_cell? w _ hw189_2)).trans hw189_2)),(World.cell?_alloc_lt _ _ _ (World.block_lt_of_cell? _ _ (((HB.out.cell (World.block_lt_of_cell? w _ hw190_0)).trans hw190_0)))).trans (((HB.out.cell (World.block_lt_of_cell? w _ hw190_0)).trans hw190_0)),(World.cell?_alloc_lt _ _ _ (World.block_lt_of_cell? _ _ (((HB.out.cell (World.block_lt_of_cell? w _ hw190_1)).trans hw190_1)))).trans (((HB.out.cell (World.block_lt_of_cell? w _ hw190_1)).trans hw190_1)),(World.cell?_alloc_lt _ _ _ (World.block_lt_of_cell? _ _ (((HB.out.cell (World.block_lt_of_cell? w _ hw190_2)).trans hw190_2)))).trans (((HB.out.cell (World.block_lt_of_cell? w _ hw190_2)).trans hw190_2))⟩ (fun hHeld => ?_)
      clear hK K
      refine norm_ (a' := ?_) ?_ ?_
      rotate_left
      ·show Act.put _ (some 36) _ = _
       simp only [Act.put,List.setIfInBounds_toArray,List.set_cons_zero,List.set_cons_succ,i64_w,i32_w]
       rfl
      refine one_ (i:=22) (N:=some 37) #[true,true,true,true,true,true,true,true,true,true,true,true,true,true,true,true,true,true,true,true,true,true,true,false,false] rfl rfl (one_of HT_.out (by kernel_rfl)) (by decide) (fun K hK => ?_)
      refine Kd.R_append_step k48 (w0:=w) w.heap.size (by rfl) (.tmp 16) (.tmp 36) 30 48 (.agg #[(.int .i64 0),(.int .i64 0),(.int .u32 0)]) 24 rfl Tryd.underlying30 info48 rfl (by decide) (by omega) u188001 x188001_1 (⟨(rd_T46 l0_1 x4_1).f0,(rd_T46 l0_1 x4_1).f1,(rd_T46 l0_1 x4_1).f2⟩ : S48) [.int .i64 ((rd_T46 l0_1 x4_1).f0),.int .i64 ((rd_T46 l0_1 x4_1).f1),.int .u32 ((rd_T46 l0_1 x4_1).f2)] (fun _ => True) (fun _ => False) rfl rfl ?aP (fun _ hk => hk.elim) ?aF ?aO ?aB ?aS ?aL ?_
      (case aP => exact k48_mkM _ _ _ (⟨(rd_T46 l0_1 x4_1).f0,(rd_T46 l0_1 x4_1).f1,(rd_T46 l0_1 x4_1).f2⟩ : S48))
      (case aB => exact (by repeat (first | (with_reducible first | exact HB.out | apply below_alloc | apply pw_below_drewN | apply below_drew1 | refine below_set ?_ GE185.out | refine below_set ?_ GE186.out | refine below_set ?_ GE187.out) | exact HB.out)))
      (case aF => exact (fun _ _ => trivial))
      (case aO => exact (by (with_reducible repeat (first | apply Kd.R_alloc | apply Kd.R_drewN | apply Kd.R_drew));exact HO_188001.out))
      (case aS => exact (below_size (by repeat (first | (with_reducible first | exact HB.out | apply below_alloc | apply pw_below_drewN | apply below_drew1 | refine below_set ?_ GE185.out | refine below_set ?_ GE186.out | refine below_set ?_ GE187.out) | exact HB.out))))
      (case aL => have:=LMc12.out;omega)
      intro v192 w17 ho hb hg hat
      rw [← Ny191.out] at ho
      have n0_:=Aside0.mk (blk_grown (g:=gb185) (o := .cells #[.int .i64 a0_0,.slice (some ad188) l0_1.length c0_1] 24 (0,0)) (by (with_reducible repeat (first | refine blk_drewN ?_ _ | refine blk_drew ?_ | refine blk_alloc ?_ _));exact BK185.out) hg (Kd.R_ne HO_188001.out BK185.out (by decide)))
      have n1_:=Aside0.mk (blk_grown (g:=gb186) (o := .cells #[.int .i64 0,.slice none 0 0] 32 (0,0)) (by (with_reducible repeat (first | refine blk_drewN ?_ _ | refine blk_drew ?_ | refine blk_alloc ?_ _));exact BK186.out) hg (Kd.R_ne HO_188001.out BK186.out (by decide)))
      have n2_:=Aside0.mk (blk_grown (g:=gb187) (o := .cells #[.int .i64 a0_0,u188001] 32 (0,0)) (by (with_reducible repeat (first | refine blk_drewN ?_ _ | refine blk_drew ?_ | refine blk_alloc ?_ _));exact BK187.out) hg (Kd.R_ne HO_188001.out BK187.out (by decide)))
      have n3_:=Aside0.mk (hb)
      have n4_:=Aside0.mk (ho)
      clear BK185
      clear BK186
      clear BK187
      clear HB
      clear HO_188001
      have BK185:=n0_
      have BK186:=n1_
      have BK187:=n2_
      have HB:=n3_
      have HO193:=n4_
      clear n0_ n1_ n2_ n3_ n4_
      clear ho hb hg hat
      obtain ⟨Ao18,co18,eo18⟩:=Kd.R_slice HO193.out
      (first | subst eo18 | (injection eo18 with f1_ f2_ f3_;have f4_:=f1_.symm;have f5_:=f3_.symm;clear f1_ f2_ f3_;subst f4_;subst f5_))
      refine hK.out _ _ ⟨(blk_cell BK187.out 0).trans rfl,(blk_cell BK187.out 1).trans rfl,(blk_cell BK185.out 0).trans rfl,(blk_cell BK185.out 1).trans rfl,((HB.out.cell (World.block_lt_of_cell? w _ hw188_0)).trans hw188_0),((HB.out.cell (World.block_lt_of_cell? w _ hw188_1)).trans hw188_1),((HB.out.cell (World.block_lt_of_cell? w _ hw188_2)).trans hw188_2),((HB.out.cell (World.block_lt_of_cell? w _ hw189_0)).trans hw189_0),((HB.out.cell (World.block_lt_of_cell? w _ hw189_1)).trans hw189_1),((HB.out.cell (World.block_lt_of_cell? w _ hw189_2)).trans hw189_2),((HB.out.cell (World.block_lt_of_cell? w _ hw190_0)).trans hw190_0),((HB.out.cell (World.block_lt_of_cell? w _ hw190_1)).trans hw190_1),((HB.out.cell (World.block_lt_of_cell? w _ hw190_2)).trans hw190_2)⟩ (fun hHeld => ?_)
      clear hK K
      refine norm_ (a' := ?_) ?_ ?_
      rotate_left
      ·show Act.put _ (some 37) _ = _
       simp only [Act.put,List.setIfInBounds_toArray,List.set_cons_zero,List.set_cons_succ,i64_w,i32_w]
       rfl
      refine pure_ (i:=23) (N:=some 38) (v := ?_) (a' := ?_) #[true,true,true,true,true,true,true,true,true,true,true,true,true,true,true,true,true,true,true,true,true,true,true,true,false] rfl rfl (any_of HT_.out (by kernel_rfl)) (fun _ _ _ h => h) (Or.inl ⟨by rfl,?_⟩) ?_ ?_
      rotate_left
      ·intro w'
       go_simp
       with_reducible rfl
      rotate_left
      ·simp only [Act.put,List.setIfInBounds_toArray,List.set_cons_zero,List.set_cons_succ,i64_w,i32_w]
       rfl
      refine last_ (i:=24) (N:=none) #[true,true,true,true,true,true,true,true,true,true,true,true,true,true,true,true,true,true,true,true,true,true,true,true,true] rfl rfl (one_of HT_.out (by kernel_rfl)) (by decide) (fun K hK => ?_)
      have hs19 : w17.cell? ⟨gb187,1,none⟩ = some (u188001):=(blk_cell BK187.out 1).trans rfl
      have hfs19:=blk_frozen BK187.out 1
      have hns19_0:=NB185_187.out
      have hns19_1:=NB186_187.out
      have hms19_0:=NB187_185.out
      have hms19_1:=NB187_186.out
      refine skip_ (w1 := ?_) (by rfl) rfl ?_ ?_
      rotate_left
      ·go_simp
       rfl
      refine hK.out _ _ ?_
      clear hK K
      refine done_ (done_of HT_.out (by kernel_rfl)) ?_
      try go_wp2
      go_roundg k1
      case measure => have:=HK1.out;omega
      case rel => exact ⟨(wrap64 (x4_1 + 1)),(y191),(.slice Ao18 y191.length co18),(by first | rfl | (simp;done) | (simp [*];done)),H',⟨by have:=HK1.out;omega⟩,⟨by (with_reducible repeat (first | apply Kd.R_alloc | apply Kd.R_drewN | apply Kd.R_drew));exact Kd.R_mono (Kd.R_far (p:=⟨gb187,1,none⟩) (Kd.R_types HO193.out BK187.out (by decide)) (fun _ hk => hk.2) (.slice Ao18 y191.length co18)) (fun _ hk => trivial)⟩,⟨by (with_reducible repeat (first | refine blk_drewN ?_ _ | refine blk_drew ?_ | refine blk_alloc ?_ _));refine blk_far ?_ NB185_187.out _;(with_reducible repeat (first | refine blk_drewN ?_ _ | refine blk_drew ?_ | refine blk_alloc ?_ _));exact BK185.out⟩,⟨by (with_reducible repeat (first | refine blk_drewN ?_ _ | refine blk_drew ?_ | refine blk_alloc ?_ _));refine blk_far ?_ NB186_187.out _;(with_reducible repeat (first | refine blk_drewN ?_ _ | refine blk_drew ?_ | refine blk_alloc ?_ _));exact BK186.out⟩,⟨by (with_reducible repeat (first | refine blk_drewN ?_ _ | refine blk_drew ?_ | refine blk_alloc ?_ _));refine blk_put (cs := #[.int .i64 a0_0,u188001]) ?_ 1 _ rfl;(with_reducible repeat (first | refine blk_drewN ?_ _ | refine blk_drew ?_ | refine blk_alloc ?_ _));exact BK187.out⟩,⟨by repeat (first | (with_reducible first | exact HB.out | apply below_alloc | apply pw_below_drewN | apply below_drew1 | refine below_set ?_ GE185.out | refine below_set ?_ GE186.out | refine below_set ?_ GE187.out) | exact HB.out)⟩⟩
     ·rw [if_neg c12] at H
      exact absurd H (by simp)
    ·rw [if_neg c11] at H
     exact absurd H (by simp)
   ·rw [if_neg c10] at H
    have c10b0 : decide (x4_1 < (l0_1.length : Int)) = false:=decide_eq_false c10
    clear c10
    simp only [Option.some.injEq,Prod.mk.injEq] at H
    obtain ⟨rfl,rfl⟩:=H
    have hnb20:=NB185_186.out
    have hnc20:=NB186_185.out
    have hnb21:=NB185_187.out
    have hnc21:=NB187_185.out
    have hcz22_0 : wr.cell? ⟨gb185,0,none⟩ = some (.int .i64 a0_0):=(blk_cell BK185.out 0).trans rfl
    have hcz22_1 : wr.cell? ⟨gb185,1,none⟩ = some (.slice A0_1 l0_1.length c0_1):=(blk_cell BK185.out 1).trans rfl
    have hfz22_0:=blk_frozen BK185.out 0
    have hfz22_1:=blk_frozen BK185.out 1
    have hnb23:=NB187_186.out
    have hnc23:=NB186_187.out
    have hcz24_0 : wr.cell? ⟨gb187,0,none⟩ = some (.int .i64 a0_0):=(blk_cell BK187.out 0).trans rfl
    have hcz24_1 : wr.cell? ⟨gb187,1,none⟩ = some (u188001):=(blk_cell BK187.out 1).trans rfl
    have hfz24_0:=blk_frozen BK187.out 0
    have hfz24_1:=blk_frozen BK187.out 1
    have hcz25_0 : wr.cell? ⟨gb186,0,none⟩ = some (.int .i64 0):=(blk_cell BK186.out 0).trans rfl
    have hcz25_1 : wr.cell? ⟨gb186,1,none⟩ = some (.slice none 0 0):=(blk_cell BK186.out 1).trans rfl
    have hfz25_0:=blk_frozen BK186.out 0
    have hfz25_1:=blk_frozen BK186.out 1
    obtain ⟨Ao26,co26,eo26⟩:=Kd.R_slice HO_188001.out
    subst eo26
    go_wp2
    refine bodyPost_ret (results_cell_row rfl _ _ gb186 32 #[.int .i64 a0_0,.slice Ao26 x188001_1.length co26] (0,0) _ rfl (by (with_reducible repeat (first | refine blk_drewN ?_ _ | refine blk_drew ?_ | refine blk_alloc ?_ _));refine blk_put (cs := #[.int .i64 a0_0,.slice none 0 0]) ?_ 1 _ rfl;(with_reducible repeat (first | refine blk_drewN ?_ _ | refine blk_drew ?_ | refine blk_alloc ?_ _));refine blk_put (cs := #[.int .i64 0,.slice none 0 0]) ?_ 0 _ rfl;(with_reducible repeat (first | refine blk_drewN ?_ _ | refine blk_drew ?_ | refine blk_alloc ?_ _));exact BK186.out) Tryd.underlying32 rfl (by kernel_rfl)) rfl ?_
    exact ⟨_,by first | rfl | (simp [errW_none,errW_some] <;> rfl) | (simp [*,errW_none,errW_some] <;> rfl) | (simp [errW_none,errW_some];exact isEmpty_bne _),by (with_reducible repeat (first | apply Kd.R_alloc | apply Kd.R_drewN | apply Kd.R_drew));exact Kd.R_mono (Kd.R_far (p:=⟨gb186,1,none⟩) (Kd.R_far (p:=⟨gb186,0,none⟩) (Kd.R_types HO_188001.out BK186.out (by decide)) (fun _ hk => hk.2) (.int .i64 a0_0)) (fun _ hk => hk.2) (.slice Ao26 x188001_1.length co26)) (fun _ hk => trivial),by repeat (first | (with_reducible first | exact HB.out | apply below_alloc | apply pw_below_drewN | apply below_drew1 | refine below_set ?_ GE185.out | refine below_set ?_ GE186.out | refine below_set ?_ GE187.out) | exact HB.out)⟩

/-! ### thwartref02_Open: function 32 -/
def thwartref02_Open.f (k : Nat) (a0 : ByteArray) : Option (ByteArray × Bool):=if (a0.size : Int) < 4 then (some ((⟨#[]⟩ : ByteArray),false)) else (if 4 ≤ (a0.size : Int) then ((thwartref02_Seal.f k (a0.extract 4 a0.size)).bind fun t194 => (if t194.toList = a0.toList then (some (a0.extract 4 a0.size,true)) else (some ((⟨#[]⟩ : ByteArray),false)))) else (none))
theorem thwartref02_Open.mono : ∀ a0 k,LeO (thwartref02_Open.f k a0) (thwartref02_Open.f (k + 1) a0):=by
 intro a0 k
 unfold thwartref02_Open.f
 repeat' first
   | (with_reducible exact thwartref02_Seal.mono _ _)
   | (with_reducible exact LeO.refl _)
   | (with_reducible exact LeO.none _)
   | (with_reducible refine LeO.ite ?_ ?_)
   | (with_reducible refine LeO.bind ?_ (fun _ => ?_))
   | exact thwartref02_Seal.mono _ _
   | exact LeO.none _
   | refine LeO.ite ?_ ?_
   | refine LeO.bind ?_ (fun _ => ?_)
set_option maxHeartbeats 8000000 in
set_option maxRecDepth 100000 in
theorem thwartref02_Open.calls (k : Nat) (a0 : ByteArray) (r1 : ByteArray) (r2 : Bool) (w : World) (h : thwartref02_Open.f k a0 = some (r1,r2)) :
  Calls Tryd.prog 32 #[.string a0] w fun e w' => e = .returned (.tuple #[.string r1,.bool r2]) ∧ Below w.heap.size w w' := by
 have HB:=Aside0.mk (Below.refl w.heap.size w)
 have H : (if (a0.size : Int) < 4 then (some ((⟨#[]⟩ : ByteArray),false)) else (if 4 ≤ (a0.size : Int) then ((thwartref02_Seal.f k (a0.extract 4 a0.size)).bind fun t194 => (if t194.toList = a0.toList then (some (a0.extract 4 a0.size,true)) else (some ((⟨#[]⟩ : ByteArray),false)))) else (none))) = some (r1,r2):=h
 clear h
 by_cases c2 : (a0.size : Int) < 4
 ·rw [if_pos c2] at H
  have c2b0 : decide ((a0.size : Int) < 4) = true:=decide_eq_true c2
  have c2b1 : decide (a0.size < 4) = true:=decide_eq_true (by omega)
  clear c2
  simp only [Option.some.injEq,Prod.mk.injEq] at H
  obtain ⟨rfl,rfl⟩:=H
  go_enter Tryd.func32,Tryd.ntmps32
  go_wp2
  go_ret2
  exact ⟨by first | rfl | (simp [errW_none,errW_some] <;> rfl) | (simp [*,errW_none,errW_some] <;> rfl) | (simp [errW_none,errW_some];exact isEmpty_bne _),by repeat (first | (with_reducible first | exact HB.out | apply below_alloc | apply pw_below_drewN | apply below_drew1) | exact HB.out)⟩
 ·rw [if_neg c2] at H
  have c2b0 : decide ((a0.size : Int) < 4) = false:=decide_eq_false c2
  have c2b1 : decide (a0.size < 4) = false:=decide_eq_false (by omega)
  clear c2
  by_cases c3 : 4 ≤ (a0.size : Int)
  ·rw [if_pos c3] at H
   have c3b0:=eq_true c3
   have c3b1 : decide (4 ≤ (a0.size : Int)) = true:=decide_eq_true c3
   clear c3
   replace H:=Option.bind_eq_some_iff.mp H
   obtain ⟨t194,A40,H⟩:=H
   replace H : (if t194.toList = a0.toList then (some (a0.extract 4 a0.size,true)) else (some ((⟨#[]⟩ : ByteArray),false))) = some (r1,r2):=H
   have A4:=Aside0.mk A40
   clear A40
   by_cases c5 : t194.toList = a0.toList
   ·rw [if_pos c5] at H
    have c5b0 : (t194.toList == a0.toList) = true:=beq_iff_eq.mpr c5
    have c5b1 : (t194.toList != a0.toList) = false:=bne_eq_false_iff_eq.mpr c5
    clear c5
    have c6b0:=eq_true (of_decide_eq_true (by first | (with_reducible assumption) | assumption) : 4 ≤ (a0.size : Int))
    simp only [Option.some.injEq,Prod.mk.injEq] at H
    obtain ⟨rfl,rfl⟩:=H
    go_enter Tryd.func32,Tryd.ntmps32
    go_wp2_with (first | (go_at_call 27;(with_reducible refine (thwartref02_Seal.calls k (a0.extract 4 a0.size) t194 _ A4.out).mono ?_);rintro e w7 ⟨rfl,hb⟩;have n0_:=Aside0.mk (below_step (by repeat (first | (with_reducible first | exact HB.out | apply below_alloc | apply pw_below_drewN | apply below_drew1) | exact HB.out)) hb);clear HB;have HB:=n0_;clear n0_;(try clear hb);(try clear hb2);(try clear hk);(try clear hi)))
    go_ret2
    exact ⟨by first | rfl | (simp [errW_none,errW_some] <;> rfl) | (simp [*,errW_none,errW_some] <;> rfl) | (simp [errW_none,errW_some];exact isEmpty_bne _),by repeat (first | (with_reducible first | exact HB.out | apply below_alloc | apply pw_below_drewN | apply below_drew1) | exact HB.out)⟩
   ·rw [if_neg c5] at H
    have c5b0 : (t194.toList == a0.toList) = false:=beq_eq_false_iff_ne.mpr c5
    have c5b1 : (t194.toList != a0.toList) = true:=bne_iff_ne.mpr c5
    simp only [Option.some.injEq,Prod.mk.injEq] at H
    obtain ⟨rfl,rfl⟩:=H
    go_enter Tryd.func32,Tryd.ntmps32
    go_wp2_with (first | (go_at_call 27;(with_reducible refine (thwartref02_Seal.calls k (a0.extract 4 a0.size) t194 _ A4.out).mono ?_);rintro e w8 ⟨rfl,hb⟩;have n0_:=Aside0.mk (below_step (by repeat (first | (with_reducible first | exact HB.out | apply below_alloc | apply pw_below_drewN | apply below_drew1) | exact HB.out)) hb);clear HB;have HB:=n0_;clear n0_;(try clear hb);(try clear hb2);(try clear hk);(try clear hi)))
    go_ret2
    exact ⟨by first | rfl | (simp [errW_none,errW_some] <;> rfl) | (simp [*,errW_none,errW_some] <;> rfl) | (simp [errW_none,errW_some];exact isEmpty_bne _),by repeat (first | (with_reducible first | exact HB.out | apply below_alloc | apply pw_below_drewN | apply below_drew1) | exact HB.out)⟩
  ·rw [if_neg c3] at H
   exact absurd H (by simp)

end Go.Proofs.YtgampcbjmdgciaaDoor.Print
