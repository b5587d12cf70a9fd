/- Written by a program of mine (give.py, over the kit's print) out of the translation: contracts of the Go functions. Lean checks it. -/
import Derived.Test.YtdjkkceamldmjaaPrint0
import Derived.Test.YtdjkkceamldmjaaPrint3
namespace Go.Proofs.Ytdjkkceamldmjaa.Print
open Go.RowKit Go.Proofs.YtdjkkceamldmjaaW.PrintWords Go.Proofs.YtdjkkceamldmjaaW.PrintLast Go.Proofs.YtdjkkceamldmjaaW.PrintMore
attribute [local go_sem] max2_int min2_int max_two min_two max_three min_three max_four min_four   -- for this text's walks alone
set_option linter.unusedVariables false
set_option linter.unusedSimpArgs false

attribute [local go_sem high] eqA49
/-! ### thwartlaw05_to: function 11 -/
def thwartlaw05_to.l0 : Nat → List (S39) → List (S49) → Int → Option ((List (S49)))
 | 0,_,_,_ => none
 | k + 1,x0,x3,x4 => if x4 < (x0.length : Int) then (if 0 ≤ x4 then (if x3.length < 2932031007402 then (thwartlaw05_to.l0 k x0 (x3 ++ [(⟨(rd_T39 x0 x4).f0,(rd_T39 x0 x4).f1,(rd_T39 x0 x4).f2,(rd_T39 x0 x4).f3,(rd_T39 x0 x4).f4⟩ : S49)]) (wrap64 (x4 + 1))) else (none)) else (none)) else (some x3)
def thwartlaw05_to.f (k : Nat) (l0 : List (S39)) : Option ((List (S49))):=thwartlaw05_to.l0 k l0 ([] : List (S49)) 0
theorem thwartlaw05_to.mono_l : ∀ k,(∀ y0 y1 y2,LeO (thwartlaw05_to.l0 k y0 y1 y2) (thwartlaw05_to.l0 (k + 1) y0 y1 y2))
 | 0 => fun _ _ _ r h => by simp [thwartlaw05_to.l0] at h
 | k + 1 => by
  have ih0:=thwartlaw05_to.mono_l k
  ·intro y0 y1 y2
   unfold thwartlaw05_to.l0
   repeat' first
   | (with_reducible exact ih0 _ _ _)
   | (with_reducible exact LeO.refl _)
   | (with_reducible exact LeO.none _)
   | (with_reducible refine LeO.ite ?_ ?_)
   | (with_reducible refine LeO.bind ?_ (fun _ => ?_))
   | exact ih0 _ _ _
   | exact LeO.none _
   | refine LeO.ite ?_ ?_
   | refine LeO.bind ?_ (fun _ => ?_)
theorem thwartlaw05_to.mono : ∀ a0 k,LeO (thwartlaw05_to.f k a0) (thwartlaw05_to.f (k + 1) a0):=by
 intro a0 k
 have ih0:=thwartlaw05_to.mono_l k
 unfold thwartlaw05_to.f
 repeat' first
   | (with_reducible exact ih0 _ _ _)
   | (with_reducible exact LeO.refl _)
   | (with_reducible exact LeO.none _)
   | (with_reducible refine LeO.ite ?_ ?_)
   | (with_reducible refine LeO.bind ?_ (fun _ => ?_))
   | exact ih0 _ _ _
   | exact LeO.none _
   | refine LeO.ite ?_ ?_
   | refine LeO.bind ?_ (fun _ => ?_)
def thwartlaw05_to.T5 : Bool × List (List Nat × List Nat):=(true,[([],[]),([],[]),([],[]),([1,2],[1,2]),([3],[3]),([4],[4]),([],[]),([],[]),([6,7],[6,7]),([8],[8]),([9],[9]),([],[]),([],[]),([11,12],[11,12]),([13],[13]),([14],[14]),([],[]),([],[]),([16,17],[16,17]),([18],[18]),([19],[19]),([],[]),([],[]),([21,22],[21,22]),([23],[23]),([24],[24]),([5,10,15,20,25],[5,10,15,20,25]),([26],[26]),([0,27],[0,27]),([28,28,0,1,2,3,4,5,6,7,8,9,10,11,12,13,14,15,16,17,18,19,20,21,22,23,24,25,26,27,28],[0,28])])
def thwartlaw05_to.B5 : List Nat:=[0,0,0,6,14,30,0,0,192,448,960,0,0,6144,14336,30720,0,0,196608,458752,983040,0,0,6291456,14680064,31457280,67108862,134217726,268435455,536870911]
theorem thwartlaw05_to.tab5 : rtab .any (opsOf Try.f11 5) = thwartlaw05_to.T5:=by kernel_rfl
theorem thwartlaw05_to.bits5 : waitsOk thwartlaw05_to.T5.2 thwartlaw05_to.B5 = true:=by kernel_rfl
set_option maxHeartbeats 8000000 in
set_option maxRecDepth 100000 in
theorem thwartlaw05_to.calls (k : Nat) (A0 : Option Addr) (c0 : Nat) (l0 : List (S39)) (r : List (S49)) (w : World) (hr0 : Kd.C k39 w A0 l0.length l0) (hc0 : l0.length ≤ c0) (h : thwartlaw05_to.f k l0 = some r) :
  Calls Try.prog 11 #[.slice A0 l0.length c0] w fun e w' => ∃ v0_ : Value,e = .returned (v0_) ∧ Kd.R k49 49 w' w.heap.size (fun _ => True) v0_ r ∧ Below w.heap.size w w' := by
 have hu49:=Try.underlying49
 have HR0:=Aside0.mk hr0
 have HC0:=Aside0.mk hc0
 clear hr0 hc0
 have HB:=Aside0.mk (Below.refl w.heap.size w)
 have H : (thwartlaw05_to.l0 k l0 ([] : List (S49)) 0) = some r:=h
 clear h
 have H' := Aside0.mk H
 clear H
 go_enter Try.func11,Try.ntmps11
 go_wp2
 go_loopg [3,4] k (fun kq v3 v4 w' => ∃ (x3_1 : List (S49)) (x4_1 : Int),v4 = .int .i64 x4_1 ∧ Aside0 (thwartlaw05_to.l0 kq l0 x3_1 x4_1 = some r) ∧ Aside0 (kq ≤ k) ∧ Aside0 (Kd.R k49 49 w' w.heap.size (fun _ => True) v3 x3_1) ∧ Aside0 (Below w.heap.size w w'))
 case atStart => exact ⟨(([] : List (S49))),(0),(by first | rfl | (simp;done) | (simp [*];done)),H',⟨Nat.le_refl _⟩,⟨by first | exact Kd.R_nil _ _ _ _ _ | exact Kd.N_nil _ _ _ _ _ | exact Kd.V_nil _ _ _ _ _ | exact Kd.Q_nil _ _ _ _ _ | exact Kd.S_nil _ _ _ _ _⟩,⟨by repeat (first | (with_reducible first | exact HB.out | apply below_alloc | apply pw_below_drewN | apply below_drew1) | exact HB.out)⟩⟩
 case round =>
  clear H'
  try clear c1
  obtain ⟨x3_1,x4_1,rfl,HA,HK1,HO_3,HB⟩:=hrel
  cases gk with
  | zero => exact absurd HA.out (by simp [thwartlaw05_to.l0])
  | succ k1 =>
   have H:=HA.out
   clear HA
   simp only [thwartlaw05_to.l0] at H
   by_cases c2 : x4_1 < (l0.length : Int)
   ·rw [if_pos c2] at H
    have c2b0 : decide (x4_1 < (l0.length : Int)) = true:=decide_eq_true c2
    clear c2
    by_cases c3 : 0 ≤ x4_1
    ·rw [if_pos c3] at H
     have c3b0 : decide (0 ≤ x4_1) = true:=decide_eq_true c3
     clear c3
     by_cases c4 : x3_1.length < 2932031007402
     ·rw [if_pos c4] at H
      have LMc4:=Aside0.mk c4
      clear c4
      obtain ⟨y212,hy212⟩ : ∃ y_ : List (S49),y_ = (x3_1 ++ [(⟨(rd_T39 l0 x4_1).f0,(rd_T39 l0 x4_1).f1,(rd_T39 l0 x4_1).f2,(rd_T39 l0 x4_1).f3,(rd_T39 l0 x4_1).f4⟩ : S49)]):=⟨_,rfl⟩
      replace H : (thwartlaw05_to.l0 k1 l0 y212 (wrap64 (x4_1 + 1))) = some r:=by first | (rw [hy212];with_reducible exact H) | (have H2_:=(Option.bind_some _ _).symm.trans H;rw [hy212];with_reducible exact H2_) | (have H2_:=(Option.bind_some _ _).symm.trans H;with_reducible exact H2_) | with_reducible exact H | (rw [hy212];exact H) | exact H
      have Ny212:=Aside0.mk hy212
      clear hy212
      have H' := Aside0.mk H
      clear H
      try go_wp2
      have n0_:=Aside0.mk (Kd.R_drew HO_3.out)
      have n1_:=Aside0.mk (below_drew1 HB.out)
      clear HO_3
      clear HB
      have HO_3:=n0_
      have HB:=n1_
      clear n0_ n1_
      have p207 : 0 ≤ (x4_1 : Int):=of_decide_eq_true (by first | (with_reducible assumption) | assumption)
      have q207 : x4_1 < (l0.length : Int):=of_decide_eq_true (by first | (with_reducible assumption) | assumption)
      obtain ⟨ad207,e207,hx207_0,hx207_1,hx207_2,hx207_3,hx207_4⟩:=at_T39 HR0.out x4_1 p207 q207
      have hw207_4:=hx207_4
      have hw207_3:=hx207_3
      have hw207_2:=hx207_2
      have hw207_1:=hx207_1
      have hw207_0:=hx207_0
      cases e207
      replace hx207_0:=(HB.out.cell (World.block_lt_of_cell? w _ hx207_0)).trans hx207_0
      replace hx207_1:=(HB.out.cell (World.block_lt_of_cell? w _ hx207_1)).trans hx207_1
      replace hx207_2:=(HB.out.cell (World.block_lt_of_cell? w _ hx207_2)).trans hx207_2
      replace hx207_3:=(HB.out.cell (World.block_lt_of_cell? w _ hx207_3)).trans hx207_3
      replace hx207_4:=(HB.out.cell (World.block_lt_of_cell? w _ hx207_4)).trans hx207_4
      replace p207:=eq_true p207
      replace q207:=eq_true q207
      have p208 : 0 ≤ (x4_1 : Int):=of_decide_eq_true (by first | (with_reducible assumption) | assumption)
      have q208 : x4_1 < (l0.length : Int):=of_decide_eq_true (by first | (with_reducible assumption) | assumption)
      obtain ⟨ad208,e208,hx208_0,hx208_1,hx208_2,hx208_3,hx208_4⟩:=at_T39 HR0.out x4_1 p208 q208
      have hw208_4:=hx208_4
      have hw208_3:=hx208_3
      have hw208_2:=hx208_2
      have hw208_1:=hx208_1
      have hw208_0:=hx208_0
      obtain rfl : ad207 = ad208:=(by injection e208)
      replace hx208_0:=(HB.out.cell (World.block_lt_of_cell? w _ hx208_0)).trans hx208_0
      replace hx208_1:=(HB.out.cell (World.block_lt_of_cell? w _ hx208_1)).trans hx208_1
      replace hx208_2:=(HB.out.cell (World.block_lt_of_cell? w _ hx208_2)).trans hx208_2
      replace hx208_3:=(HB.out.cell (World.block_lt_of_cell? w _ hx208_3)).trans hx208_3
      replace hx208_4:=(HB.out.cell (World.block_lt_of_cell? w _ hx208_4)).trans hx208_4
      replace p208:=eq_true p208
      replace q208:=eq_true q208
      have p209 : 0 ≤ (x4_1 : Int):=of_decide_eq_true (by first | (with_reducible assumption) | assumption)
      have q209 : x4_1 < (l0.length : Int):=of_decide_eq_true (by first | (with_reducible assumption) | assumption)
      obtain ⟨ad209,e209,hx209_0,hx209_1,hx209_2,hx209_3,hx209_4⟩:=at_T39 HR0.out x4_1 p209 q209
      have hw209_4:=hx209_4
      have hw209_3:=hx209_3
      have hw209_2:=hx209_2
      have hw209_1:=hx209_1
      have hw209_0:=hx209_0
      obtain rfl : ad207 = ad209:=(by injection e209)
      replace hx209_0:=(HB.out.cell (World.block_lt_of_cell? w _ hx209_0)).trans hx209_0
      replace hx209_1:=(HB.out.cell (World.block_lt_of_cell? w _ hx209_1)).trans hx209_1
      replace hx209_2:=(HB.out.cell (World.block_lt_of_cell? w _ hx209_2)).trans hx209_2
      replace hx209_3:=(HB.out.cell (World.block_lt_of_cell? w _ hx209_3)).trans hx209_3
      replace hx209_4:=(HB.out.cell (World.block_lt_of_cell? w _ hx209_4)).trans hx209_4
      replace p209:=eq_true p209
      replace q209:=eq_true q209
      have p210 : 0 ≤ (x4_1 : Int):=of_decide_eq_true (by first | (with_reducible assumption) | assumption)
      have q210 : x4_1 < (l0.length : Int):=of_decide_eq_true (by first | (with_reducible assumption) | assumption)
      obtain ⟨ad210,e210,hx210_0,hx210_1,hx210_2,hx210_3,hx210_4⟩:=at_T39 HR0.out x4_1 p210 q210
      have hw210_4:=hx210_4
      have hw210_3:=hx210_3
      have hw210_2:=hx210_2
      have hw210_1:=hx210_1
      have hw210_0:=hx210_0
      obtain rfl : ad207 = ad210:=(by injection e210)
      replace hx210_0:=(HB.out.cell (World.block_lt_of_cell? w _ hx210_0)).trans hx210_0
      replace hx210_1:=(HB.out.cell (World.block_lt_of_cell? w _ hx210_1)).trans hx210_1
      replace hx210_2:=(HB.out.cell (World.block_lt_of_cell? w _ hx210_2)).trans hx210_2
      replace hx210_3:=(HB.out.cell (World.block_lt_of_cell? w _ hx210_3)).trans hx210_3
      replace hx210_4:=(HB.out.cell (World.block_lt_of_cell? w _ hx210_4)).trans hx210_4
      replace p210:=eq_true p210
      replace q210:=eq_true q210
      have p211 : 0 ≤ (x4_1 : Int):=of_decide_eq_true (by first | (with_reducible assumption) | assumption)
      have q211 : x4_1 < (l0.length : Int):=of_decide_eq_true (by first | (with_reducible assumption) | assumption)
      obtain ⟨ad211,e211,hx211_0,hx211_1,hx211_2,hx211_3,hx211_4⟩:=at_T39 HR0.out x4_1 p211 q211
      have hw211_4:=hx211_4
      have hw211_3:=hx211_3
      have hw211_2:=hx211_2
      have hw211_1:=hx211_1
      have hw211_0:=hx211_0
      obtain rfl : ad207 = ad211:=(by injection e211)
      replace hx211_0:=(HB.out.cell (World.block_lt_of_cell? w _ hx211_0)).trans hx211_0
      replace hx211_1:=(HB.out.cell (World.block_lt_of_cell? w _ hx211_1)).trans hx211_1
      replace hx211_2:=(HB.out.cell (World.block_lt_of_cell? w _ hx211_2)).trans hx211_2
      replace hx211_3:=(HB.out.cell (World.block_lt_of_cell? w _ hx211_3)).trans hx211_3
      replace hx211_4:=(HB.out.cell (World.block_lt_of_cell? w _ hx211_4)).trans hx211_4
      replace p211:=eq_true p211
      replace q211:=eq_true q211
      refine start_ (n:=30) (S:=fun w' => w'.cell? (ad207.add ((x4_1).toNat * 5)) = some (.string ((rd_T39 l0 x4_1).f0)) ∧ w'.cell? ⟨(ad207.add ((x4_1).toNat * 5)).block,(ad207.add ((x4_1).toNat * 5)).off + 1,none⟩ = some (.int .i64 ((rd_T39 l0 x4_1).f1)) ∧ w'.cell? ⟨(ad207.add ((x4_1).toNat * 5)).block,(ad207.add ((x4_1).toNat * 5)).off + 2,none⟩ = some (.int .i64 ((rd_T39 l0 x4_1).f2)) ∧ w'.cell? ⟨(ad207.add ((x4_1).toNat * 5)).block,(ad207.add ((x4_1).toNat * 5)).off + 3,none⟩ = some (.int .u64 ((rd_T39 l0 x4_1).f3)) ∧ w'.cell? ⟨(ad207.add ((x4_1).toNat * 5)).block,(ad207.add ((x4_1).toNat * 5)).off + 4,none⟩ = some (.bool ((rd_T39 l0 x4_1).f4)) ∧ w'.cell? (ad207.add ((x4_1).toNat * 5)) = some (.string ((rd_T39 l0 x4_1).f0)) ∧ w'.cell? ⟨(ad207.add ((x4_1).toNat * 5)).block,(ad207.add ((x4_1).toNat * 5)).off + 1,none⟩ = some (.int .i64 ((rd_T39 l0 x4_1).f1)) ∧ w'.cell? ⟨(ad207.add ((x4_1).toNat * 5)).block,(ad207.add ((x4_1).toNat * 5)).off + 2,none⟩ = some (.int .i64 ((rd_T39 l0 x4_1).f2)) ∧ w'.cell? ⟨(ad207.add ((x4_1).toNat * 5)).block,(ad207.add ((x4_1).toNat * 5)).off + 3,none⟩ = some (.int .u64 ((rd_T39 l0 x4_1).f3)) ∧ w'.cell? ⟨(ad207.add ((x4_1).toNat * 5)).block,(ad207.add ((x4_1).toNat * 5)).off + 4,none⟩ = some (.bool ((rd_T39 l0 x4_1).f4)) ∧ w'.cell? (ad207.add ((x4_1).toNat * 5)) = some (.string ((rd_T39 l0 x4_1).f0)) ∧ w'.cell? ⟨(ad207.add ((x4_1).toNat * 5)).block,(ad207.add ((x4_1).toNat * 5)).off + 1,none⟩ = some (.int .i64 ((rd_T39 l0 x4_1).f1)) ∧ w'.cell? ⟨(ad207.add ((x4_1).toNat * 5)).block,(ad207.add ((x4_1).toNat * 5)).off + 2,none⟩ = some (.int .i64 ((rd_T39 l0 x4_1).f2)) ∧ w'.cell? ⟨(ad207.add ((x4_1).toNat * 5)).block,(ad207.add ((x4_1).toNat * 5)).off + 3,none⟩ = some (.int .u64 ((rd_T39 l0 x4_1).f3)) ∧ w'.cell? ⟨(ad207.add ((x4_1).toNat * 5)).block,(ad207.add ((x4_1).toNat * 5)).off + 4,none⟩ = some (.bool ((rd_T39 l0 x4_1).f4)) ∧ w'.cell? (ad207.add ((x4_1).toNat * 5)) = some (.string ((rd_T39 l0 x4_1).f0)) ∧ w'.cell? ⟨(ad207.add ((x4_1).toNat * 5)).block,(ad207.add ((x4_1).toNat * 5)).off + 1,none⟩ = some (.int .i64 ((rd_T39 l0 x4_1).f1)) ∧ w'.cell? ⟨(ad207.add ((x4_1).toNat * 5)).block,(ad207.add ((x4_1).toNat * 5)).off + 2,none⟩ = some (.int .i64 ((rd_T39 l0 x4_1).f2)) ∧ w'.cell? ⟨(ad207.add ((x4_1).toNat * 5)).block,(ad207.add ((x4_1).toNat * 5)).off + 3,none⟩ = some (.int .u64 ((rd_T39 l0 x4_1).f3)) ∧ w'.cell? ⟨(ad207.add ((x4_1).toNat * 5)).block,(ad207.add ((x4_1).toNat * 5)).off + 4,none⟩ = some (.bool ((rd_T39 l0 x4_1).f4)) ∧ w'.cell? (ad207.add ((x4_1).toNat * 5)) = some (.string ((rd_T39 l0 x4_1).f0)) ∧ w'.cell? ⟨(ad207.add ((x4_1).toNat * 5)).block,(ad207.add ((x4_1).toNat * 5)).off + 1,none⟩ = some (.int .i64 ((rd_T39 l0 x4_1).f1)) ∧ w'.cell? ⟨(ad207.add ((x4_1).toNat * 5)).block,(ad207.add ((x4_1).toNat * 5)).off + 2,none⟩ = some (.int .i64 ((rd_T39 l0 x4_1).f2)) ∧ w'.cell? ⟨(ad207.add ((x4_1).toNat * 5)).block,(ad207.add ((x4_1).toNat * 5)).off + 3,none⟩ = some (.int .u64 ((rd_T39 l0 x4_1).f3)) ∧ w'.cell? ⟨(ad207.add ((x4_1).toNat * 5)).block,(ad207.add ((x4_1).toNat * 5)).off + 4,none⟩ = some (.bool ((rd_T39 l0 x4_1).f4))) (ds:=[]) #[false,false,false,false,false,false,false,false,false,false,false,false,false,false,false,false,false,false,false,false,false,false,false,false,false,false,false,false,false,false] (by kernel_rfl) rfl rfl ⟨((HB.out.cell (World.block_lt_of_cell? w _ hw207_0)).trans hw207_0),((HB.out.cell (World.block_lt_of_cell? w _ hw207_1)).trans hw207_1),((HB.out.cell (World.block_lt_of_cell? w _ hw207_2)).trans hw207_2),((HB.out.cell (World.block_lt_of_cell? w _ hw207_3)).trans hw207_3),((HB.out.cell (World.block_lt_of_cell? w _ hw207_4)).trans hw207_4),((HB.out.cell (World.block_lt_of_cell? w _ hw208_0)).trans hw208_0),((HB.out.cell (World.block_lt_of_cell? w _ hw208_1)).trans hw208_1),((HB.out.cell (World.block_lt_of_cell? w _ hw208_2)).trans hw208_2),((HB.out.cell (World.block_lt_of_cell? w _ hw208_3)).trans hw208_3),((HB.out.cell (World.block_lt_of_cell? w _ hw208_4)).trans hw208_4),((HB.out.cell (World.block_lt_of_cell? w _ hw209_0)).trans hw209_0),((HB.out.cell (World.block_lt_of_cell? w _ hw209_1)).trans hw209_1),((HB.out.cell (World.block_lt_of_cell? w _ hw209_2)).trans hw209_2),((HB.out.cell (World.block_lt_of_cell? w _ hw209_3)).trans hw209_3),((HB.out.cell (World.block_lt_of_cell? w _ hw209_4)).trans hw209_4),((HB.out.cell (World.block_lt_of_cell? w _ hw210_0)).trans hw210_0),((HB.out.cell (World.block_lt_of_cell? w _ hw210_1)).trans hw210_1),((HB.out.cell (World.block_lt_of_cell? w _ hw210_2)).trans hw210_2),((HB.out.cell (World.block_lt_of_cell? w _ hw210_3)).trans hw210_3),((HB.out.cell (World.block_lt_of_cell? w _ hw210_4)).trans hw210_4),((HB.out.cell (World.block_lt_of_cell? w _ hw211_0)).trans hw211_0),((HB.out.cell (World.block_lt_of_cell? w _ hw211_1)).trans hw211_1),((HB.out.cell (World.block_lt_of_cell? w _ hw211_2)).trans hw211_2),((HB.out.cell (World.block_lt_of_cell? w _ hw211_3)).trans hw211_3),((HB.out.cell (World.block_lt_of_cell? w _ hw211_4)).trans hw211_4)⟩ (fun hHeld => ?_);refine with_tabW thwartlaw05_to.tab5 thwartlaw05_to.bits5 (fun HT_ HW_ => ?_)
      generalize wr.drew = w5 at HO_3 HB hx207_0 hx207_1 hx207_2 hx207_3 hx207_4 hx208_0 hx208_1 hx208_2 hx208_3 hx208_4 hx209_0 hx209_1 hx209_2 hx209_3 hx209_4 hx210_0 hx210_1 hx210_2 hx210_3 hx210_4 hx211_0 hx211_1 hx211_2 hx211_3 hx211_4 hHeld ⊢
      refine pure_ (i:=0) (N:=some 11) (v := ?_) (a' := ?_) #[true,false,false,false,false,false,false,false,false,false,false,false,false,false,false,false,false,false,false,false,false,false,false,false,false,false,false,false,false,false] rfl rfl (any_of HT_.out (by kernel_rfl)) (fun _ _ _ h => h) (Or.inl ⟨by rfl,?_⟩) ?_ ?_
      rotate_left
      ·intro w'
       go_simp
       with_reducible rfl
      rotate_left
      ·simp only [Act.put,List.setIfInBounds_toArray,List.set_cons_zero,List.set_cons_succ,i64_w,i32_w]
       rfl
      refine pure_ (i:=1) (N:=some 12) (v := ?_) (a' := ?_) #[true,true,false,false,false,false,false,false,false,false,false,false,false,false,false,false,false,false,false,false,false,false,false,false,false,false,false,false,false,false] rfl rfl (any_of HT_.out (by kernel_rfl)) (fun _ _ _ h => h) (Or.inl ⟨by rfl,?_⟩) ?_ ?_
      rotate_left
      ·intro w'
       go_simp
       with_reducible rfl
      rotate_left
      ·simp only [Act.put,List.setIfInBounds_toArray,List.set_cons_zero,List.set_cons_succ,i64_w,i32_w]
       rfl
      refine pure_ (i:=2) (N:=some 13) (v := ?_) (a' := ?_) #[true,true,true,false,false,false,false,false,false,false,false,false,false,false,false,false,false,false,false,false,false,false,false,false,false,false,false,false,false,false] rfl rfl (any_of HT_.out (by kernel_rfl)) (fun _ _ _ h => h) (Or.inl ⟨by rfl,?_⟩) ?_ ?_
      rotate_left
      ·intro w'
       go_simp
       with_reducible rfl
      rotate_left
      ·simp only [Act.put,List.setIfInBounds_toArray,List.set_cons_zero,List.set_cons_succ,i64_w,i32_w]
       rfl
      refine pure_ (i:=3) (N:=some 14) (v := ?_) (a' := ?_) #[true,true,true,true,false,false,false,false,false,false,false,false,false,false,false,false,false,false,false,false,false,false,false,false,false,false,false,false,false,false] rfl rfl (any_of HT_.out (by kernel_rfl)) (fun _ _ _ h => h) (Or.inl ⟨by rfl,?_⟩) ?_ ?_
      rotate_left
      ·intro w'
       go_simp
       with_reducible rfl
      rotate_left
      ·simp only [Act.put,List.setIfInBounds_toArray,List.set_cons_zero,List.set_cons_succ,i64_w,i32_w]
       rfl
      refine pure_ (i:=4) (N:=some 15) (v := ?_) (a' := ?_) #[true,true,true,true,true,false,false,false,false,false,false,false,false,false,false,false,false,false,false,false,false,false,false,false,false,false,false,false,false,false] rfl rfl (any_of HT_.out (by kernel_rfl)) (fun _ _ _ h => h) (Or.inl ⟨by rfl,?_⟩) ?_ ?_
      rotate_left
      ·intro w'
       go_simp
       with_reducible rfl
      rotate_left
      ·simp only [Act.put,List.setIfInBounds_toArray,List.set_cons_zero,List.set_cons_succ,i64_w,i32_w]
       rfl
      refine pure_ (i:=6) (N:=some 17) (v := ?_) (a' := ?_) #[true,true,true,true,true,false,true,false,false,false,false,false,false,false,false,false,false,false,false,false,false,false,false,false,false,false,false,false,false,false] rfl rfl (any_of HT_.out (by kernel_rfl)) (fun _ _ _ h => h) (Or.inl ⟨by rfl,?_⟩) ?_ ?_
      rotate_left
      ·intro w'
       go_simp
       with_reducible rfl
      rotate_left
      ·simp only [Act.put,List.setIfInBounds_toArray,List.set_cons_zero,List.set_cons_succ,i64_w,i32_w]
       rfl
      refine pure_ (i:=7) (N:=some 18) (v := ?_) (a' := ?_) #[true,true,true,true,true,false,true,true,false,false,false,false,false,false,false,false,false,false,false,false,false,false,false,false,false,false,false,false,false,false] rfl rfl (any_of HT_.out (by kernel_rfl)) (fun _ _ _ h => h) (Or.inl ⟨by rfl,?_⟩) ?_ ?_
      rotate_left
      ·intro w'
       go_simp
       with_reducible rfl
      rotate_left
      ·simp only [Act.put,List.setIfInBounds_toArray,List.set_cons_zero,List.set_cons_succ,i64_w,i32_w]
       rfl
      refine pure_ (i:=8) (N:=some 19) (v := ?_) (a' := ?_) #[true,true,true,true,true,false,true,true,true,false,false,false,false,false,false,false,false,false,false,false,false,false,false,false,false,false,false,false,false,false] rfl rfl (any_of HT_.out (by kernel_rfl)) (fun _ _ _ h => h) (Or.inl ⟨by rfl,?_⟩) ?_ ?_
      rotate_left
      ·intro w'
       go_simp
       with_reducible rfl
      rotate_left
      ·simp only [Act.put,List.setIfInBounds_toArray,List.set_cons_zero,List.set_cons_succ,i64_w,i32_w]
       rfl
      refine pure_ (i:=9) (N:=some 20) (v := ?_) (a' := ?_) #[true,true,true,true,true,false,true,true,true,true,false,false,false,false,false,false,false,false,false,false,false,false,false,false,false,false,false,false,false,false] rfl rfl (any_of HT_.out (by kernel_rfl)) (fun _ _ _ h => h) (Or.inl ⟨by rfl,?_⟩) ?_ ?_
      rotate_left
      ·intro w'
       go_simp
       with_reducible rfl
      rotate_left
      ·simp only [Act.put,List.setIfInBounds_toArray,List.set_cons_zero,List.set_cons_succ,i64_w,i32_w]
       rfl
      refine pure_ (i:=11) (N:=some 22) (v := ?_) (a' := ?_) #[true,true,true,true,true,false,true,true,true,true,false,true,false,false,false,false,false,false,false,false,false,false,false,false,false,false,false,false,false,false] rfl rfl (any_of HT_.out (by kernel_rfl)) (fun _ _ _ h => h) (Or.inl ⟨by rfl,?_⟩) ?_ ?_
      rotate_left
      ·intro w'
       go_simp
       with_reducible rfl
      rotate_left
      ·simp only [Act.put,List.setIfInBounds_toArray,List.set_cons_zero,List.set_cons_succ,i64_w,i32_w]
       rfl
      refine pure_ (i:=12) (N:=some 23) (v := ?_) (a' := ?_) #[true,true,true,true,true,false,true,true,true,true,false,true,true,false,false,false,false,false,false,false,false,false,false,false,false,false,false,false,false,false] rfl rfl (any_of HT_.out (by kernel_rfl)) (fun _ _ _ h => h) (Or.inl ⟨by rfl,?_⟩) ?_ ?_
      rotate_left
      ·intro w'
       go_simp
       with_reducible rfl
      rotate_left
      ·simp only [Act.put,List.setIfInBounds_toArray,List.set_cons_zero,List.set_cons_succ,i64_w,i32_w]
       rfl
      refine pure_ (i:=13) (N:=some 24) (v := ?_) (a' := ?_) #[true,true,true,true,true,false,true,true,true,true,false,true,true,true,false,false,false,false,false,false,false,false,false,false,false,false,false,false,false,false] rfl rfl (any_of HT_.out (by kernel_rfl)) (fun _ _ _ h => h) (Or.inl ⟨by rfl,?_⟩) ?_ ?_
      rotate_left
      ·intro w'
       go_simp
       with_reducible rfl
      rotate_left
      ·simp only [Act.put,List.setIfInBounds_toArray,List.set_cons_zero,List.set_cons_succ,i64_w,i32_w]
       rfl
      refine pure_ (i:=14) (N:=some 25) (v := ?_) (a' := ?_) #[true,true,true,true,true,false,true,true,true,true,false,true,true,true,true,false,false,false,false,false,false,false,false,false,false,false,false,false,false,false] rfl rfl (any_of HT_.out (by kernel_rfl)) (fun _ _ _ h => h) (Or.inl ⟨by rfl,?_⟩) ?_ ?_
      rotate_left
      ·intro w'
       go_simp
       with_reducible rfl
      rotate_left
      ·simp only [Act.put,List.setIfInBounds_toArray,List.set_cons_zero,List.set_cons_succ,i64_w,i32_w]
       rfl
      refine pure_ (i:=16) (N:=some 27) (v := ?_) (a' := ?_) #[true,true,true,true,true,false,true,true,true,true,false,true,true,true,true,false,true,false,false,false,false,false,false,false,false,false,false,false,false,false] rfl rfl (any_of HT_.out (by kernel_rfl)) (fun _ _ _ h => h) (Or.inl ⟨by rfl,?_⟩) ?_ ?_
      rotate_left
      ·intro w'
       go_simp
       with_reducible rfl
      rotate_left
      ·simp only [Act.put,List.setIfInBounds_toArray,List.set_cons_zero,List.set_cons_succ,i64_w,i32_w]
       rfl
      refine pure_ (i:=17) (N:=some 28) (v := ?_) (a' := ?_) #[true,true,true,true,true,false,true,true,true,true,false,true,true,true,true,false,true,true,false,false,false,false,false,false,false,false,false,false,false,false] rfl rfl (any_of HT_.out (by kernel_rfl)) (fun _ _ _ h => h) (Or.inl ⟨by rfl,?_⟩) ?_ ?_
      rotate_left
      ·intro w'
       go_simp
       with_reducible rfl
      rotate_left
      ·simp only [Act.put,List.setIfInBounds_toArray,List.set_cons_zero,List.set_cons_succ,i64_w,i32_w]
       rfl
      refine pure_ (i:=18) (N:=some 29) (v := ?_) (a' := ?_) #[true,true,true,true,true,false,true,true,true,true,false,true,true,true,true,false,true,true,true,false,false,false,false,false,false,false,false,false,false,false] rfl rfl (any_of HT_.out (by kernel_rfl)) (fun _ _ _ h => h) (Or.inl ⟨by rfl,?_⟩) ?_ ?_
      rotate_left
      ·intro w'
       go_simp
       with_reducible rfl
      rotate_left
      ·simp only [Act.put,List.setIfInBounds_toArray,List.set_cons_zero,List.set_cons_succ,i64_w,i32_w]
       rfl
      refine pure_ (i:=19) (N:=some 30) (v := ?_) (a' := ?_) #[true,true,true,true,true,false,true,true,true,true,false,true,true,true,true,false,true,true,true,true,false,false,false,false,false,false,false,false,false,false] rfl rfl (any_of HT_.out (by kernel_rfl)) (fun _ _ _ h => h) (Or.inl ⟨by rfl,?_⟩) ?_ ?_
      rotate_left
      ·intro w'
       go_simp
       with_reducible rfl
      rotate_left
      ·simp only [Act.put,List.setIfInBounds_toArray,List.set_cons_zero,List.set_cons_succ,i64_w,i32_w]
       rfl
      refine pure_ (i:=21) (N:=some 32) (v := ?_) (a' := ?_) #[true,true,true,true,true,false,true,true,true,true,false,true,true,true,true,false,true,true,true,true,false,true,false,false,false,false,false,false,false,false] rfl rfl (any_of HT_.out (by kernel_rfl)) (fun _ _ _ h => h) (Or.inl ⟨by rfl,?_⟩) ?_ ?_
      rotate_left
      ·intro w'
       go_simp
       with_reducible rfl
      rotate_left
      ·simp only [Act.put,List.setIfInBounds_toArray,List.set_cons_zero,List.set_cons_succ,i64_w,i32_w]
       rfl
      refine pure_ (i:=22) (N:=some 33) (v := ?_) (a' := ?_) #[true,true,true,true,true,false,true,true,true,true,false,true,true,true,true,false,true,true,true,true,false,true,true,false,false,false,false,false,false,false] rfl rfl (any_of HT_.out (by kernel_rfl)) (fun _ _ _ h => h) (Or.inl ⟨by rfl,?_⟩) ?_ ?_
      rotate_left
      ·intro w'
       go_simp
       with_reducible rfl
      rotate_left
      ·simp only [Act.put,List.setIfInBounds_toArray,List.set_cons_zero,List.set_cons_succ,i64_w,i32_w]
       rfl
      refine pure_ (i:=23) (N:=some 34) (v := ?_) (a' := ?_) #[true,true,true,true,true,false,true,true,true,true,false,true,true,true,true,false,true,true,true,true,false,true,true,true,false,false,false,false,false,false] rfl rfl (any_of HT_.out (by kernel_rfl)) (fun _ _ _ h => h) (Or.inl ⟨by rfl,?_⟩) ?_ ?_
      rotate_left
      ·intro w'
       go_simp
       with_reducible rfl
      rotate_left
      ·simp only [Act.put,List.setIfInBounds_toArray,List.set_cons_zero,List.set_cons_succ,i64_w,i32_w]
       rfl
      refine pure_ (i:=24) (N:=some 35) (v := ?_) (a' := ?_) #[true,true,true,true,true,false,true,true,true,true,false,true,true,true,true,false,true,true,true,true,false,true,true,true,true,false,false,false,false,false] rfl rfl (any_of HT_.out (by kernel_rfl)) (fun _ _ _ h => h) (Or.inl ⟨by rfl,?_⟩) ?_ ?_
      rotate_left
      ·intro w'
       go_simp
       with_reducible rfl
      rotate_left
      ·simp only [Act.put,List.setIfInBounds_toArray,List.set_cons_zero,List.set_cons_succ,i64_w,i32_w]
       rfl
      refine take_ (i:=5) (N:=some 16) (v := ?_) (a' := ?_) #[true,true,true,true,true,true,true,true,true,true,false,true,true,true,true,false,true,true,true,true,false,true,true,true,true,false,false,false,false,false] rfl rfl (take_ofW HT_.out HW_.out (by kernel_rfl)) (fun _ _ _ h => h) (Or.inl ⟨by rfl,?_⟩) hHeld ?_ ?_
      rotate_left
      ·rintro w' ⟨s0,s1,s2,s3,s4,s5,s6,s7,s8,s9,s10,s11,s12,s13,s14,s15,s16,s17,s18,s19,s20,s21,s22,s23,s24⟩
       go_simp
       with_reducible rfl
      rotate_left
      ·simp only [Act.put,List.setIfInBounds_toArray,List.set_cons_zero,List.set_cons_succ,i64_w,i32_w]
       rfl
      refine take_ (i:=10) (N:=some 21) (v := ?_) (a' := ?_) #[true,true,true,true,true,true,true,true,true,true,true,true,true,true,true,false,true,true,true,true,false,true,true,true,true,false,false,false,false,false] rfl rfl (take_ofW HT_.out HW_.out (by kernel_rfl)) (fun _ _ _ h => h) (Or.inl ⟨by rfl,?_⟩) hHeld ?_ ?_
      rotate_left
      ·rintro w' ⟨s0,s1,s2,s3,s4,s5,s6,s7,s8,s9,s10,s11,s12,s13,s14,s15,s16,s17,s18,s19,s20,s21,s22,s23,s24⟩
       go_simp
       with_reducible rfl
      rotate_left
      ·simp only [Act.put,List.setIfInBounds_toArray,List.set_cons_zero,List.set_cons_succ,i64_w,i32_w]
       rfl
      refine take_ (i:=15) (N:=some 26) (v := ?_) (a' := ?_) #[true,true,true,true,true,true,true,true,true,true,true,true,true,true,true,true,true,true,true,true,false,true,true,true,true,false,false,false,false,false] rfl rfl (take_ofW HT_.out HW_.out (by kernel_rfl)) (fun _ _ _ h => h) (Or.inl ⟨by rfl,?_⟩) hHeld ?_ ?_
      rotate_left
      ·rintro w' ⟨s0,s1,s2,s3,s4,s5,s6,s7,s8,s9,s10,s11,s12,s13,s14,s15,s16,s17,s18,s19,s20,s21,s22,s23,s24⟩
       go_simp
       with_reducible rfl
      rotate_left
      ·simp only [Act.put,List.setIfInBounds_toArray,List.set_cons_zero,List.set_cons_succ,i64_w,i32_w]
       rfl
      refine take_ (i:=20) (N:=some 31) (v := ?_) (a' := ?_) #[true,true,true,true,true,true,true,true,true,true,true,true,true,true,true,true,true,true,true,true,true,true,true,true,true,false,false,false,false,false] rfl rfl (take_ofW HT_.out HW_.out (by kernel_rfl)) (fun _ _ _ h => h) (Or.inl ⟨by rfl,?_⟩) hHeld ?_ ?_
      rotate_left
      ·rintro w' ⟨s0,s1,s2,s3,s4,s5,s6,s7,s8,s9,s10,s11,s12,s13,s14,s15,s16,s17,s18,s19,s20,s21,s22,s23,s24⟩
       go_simp
       with_reducible rfl
      rotate_left
      ·simp only [Act.put,List.setIfInBounds_toArray,List.set_cons_zero,List.set_cons_succ,i64_w,i32_w]
       rfl
      refine take_ (i:=25) (N:=some 36) (v := ?_) (a' := ?_) #[true,true,true,true,true,true,true,true,true,true,true,true,true,true,true,true,true,true,true,true,true,true,true,true,true,true,false,false,false,false] rfl rfl (take_ofW HT_.out HW_.out (by kernel_rfl)) (fun _ _ _ h => h) (Or.inl ⟨by rfl,?_⟩) hHeld ?_ ?_
      rotate_left
      ·rintro w' ⟨s0,s1,s2,s3,s4,s5,s6,s7,s8,s9,s10,s11,s12,s13,s14,s15,s16,s17,s18,s19,s20,s21,s22,s23,s24⟩
       go_simp
       with_reducible rfl
      rotate_left
      ·simp only [Act.put,List.setIfInBounds_toArray,List.set_cons_zero,List.set_cons_succ,i64_w,i32_w]
       rfl
      refine pure_ (i:=26) (N:=some 37) (v := ?_) (a' := ?_) #[true,true,true,true,true,true,true,true,true,true,true,true,true,true,true,true,true,true,true,true,true,true,true,true,true,true,true,false,false,false] rfl rfl (any_of HT_.out (by kernel_rfl)) (fun _ _ _ h => h) (Or.inl ⟨by rfl,?_⟩) ?_ ?_
      rotate_left
      ·intro w'
       go_simp
       with_reducible rfl
      rotate_left
      ·simp only [Act.put,List.setIfInBounds_toArray,List.set_cons_zero,List.set_cons_succ,i64_w,i32_w]
       rfl
      refine one_ (i:=27) (N:=some 38) #[true,true,true,true,true,true,true,true,true,true,true,true,true,true,true,true,true,true,true,true,true,true,true,true,true,true,true,true,false,false] rfl rfl (one_of HT_.out (by kernel_rfl)) (by decide) (fun K hK => ?_)
      refine value_ (w1 := ?_) (v := ?_) (by rfl) rfl ?_ ?_
      rotate_left 2
      ·go_simp
       constructor
       ·rfl
       ·rfl
      refine hK.out _ _ ⟨(World.cell?_alloc_lt _ _ _ (World.block_lt_of_cell? _ _ (((HB.out.cell (World.block_lt_of_cell? w _ hw207_0)).trans hw207_0)))).trans (((HB.out.cell (World.block_lt_of_cell? w _ hw207_0)).trans hw207_0)),(World.cell?_alloc_lt _ _ _ (World.block_lt_of_cell? _ _ (((HB.out.cell (World.block_lt_of_cell? w _ hw207_1)).trans hw207_1)))).trans (((HB.out.cell (World.block_lt_of_cell? w _ hw207_1)).trans hw207_1)),(World.cell?_alloc_lt _ _ _ (World.block_lt_of_cell? _ _ (((HB.out.cell (World.block_lt_of_cell? w _ hw207_2)).trans hw207_2)))).trans (((HB.out.cell (World.block_lt_of_cell? w _ hw207_2)).trans hw207_2)),(World.cell?_alloc_lt _ _ _ (World.block_lt_of_cell? _ _ (((HB.out.cell (World.block_lt_of_cell? w _ hw207_3)).trans hw207_3)))).trans (((HB.out.cell (World.block_lt_of_cell? w _ hw207_3)).trans hw207_3)),(World.cell?_alloc_lt _ _ _ (World.block_lt_of_cell? _ _ (((HB.out.cell (World.block_lt_of_cell? w _ hw207_4)).trans hw207_4)))).trans (((HB.out.cell (World.block_lt_of_cell? w _ hw207_4)).trans hw207_4)),(World.cell?_alloc_lt _ _ _ (World.block_lt_of_cell? _ _ (((HB.out.cell (World.block_lt_of_cell? w _ hw208_0)).trans hw208_0)))).trans (((HB.out.cell (World.block_lt_of_cell? w _ hw208_0)).trans hw208_0)),(World.cell?_alloc_lt _ _ _ (World.block_lt_of_cell? _ _ (((HB.out.cell (World.block_lt_of_cell? w _ hw208_1)).trans hw208_1)))).trans (((HB.out.cell (World.block_lt_of_cell? w _ hw208_1)).trans hw208_1)),(World.cell?_alloc_lt _ _ _ (World.block_lt_of_cell? _ _ (((HB.out.cell (World.block_lt_of_cell? w _ hw208_2)).trans hw208_2)))).trans (((HB.out.cell (World.block_lt_of_cell? w _ hw208_2)).trans hw208_2)),(World.cell?_alloc_lt _ _ _ (World.block_lt_of_cell? _ _ (((HB.out.cell (World.block_lt_of_cell? w _ hw208_3)).trans hw208_3)))).trans (((HB.out.cell (World.block_lt_of_cell? w _ hw208_3)).trans hw208_3)),(World.cell?_alloc_lt _ _ _ (World.block_lt_of_cell? _ _ (((HB.out.cell (World.block_lt_of_cell? w _ hw208_4)).trans hw208_4)))).trans (((HB.out.cell (World.block_lt_of_cell? w _ hw208_4)).trans hw208_4)),(World.cell?_alloc_lt _ _ _ (World.block_lt_of_cell? _ _ (((HB.out.cell (World.block_lt_of_cell? w _ hw209_0)).trans hw209_0)))).trans (((HB.out.cell (World.block_lt_of_cell? w _ hw209_0)).trans hw209_0)),(World.cell?_alloc_lt _ _ _ (World.block_lt_of_cell? _ _ (((HB.out.cell (World.block_lt_of_cell? w _ hw209_1)).trans hw209_1)))).trans (((HB.out.cell (World.block_lt_of_cell? w _ hw209_1)).trans hw209_1)),(World.cell?_alloc_lt _ _ _ (World.block_lt_of_cell? _ _ (((HB.out.cell (World.block_lt_of_cell? w _ hw209_2)).trans hw209_2)))).trans (((HB.out.cell (World.block_lt_of_cell? w _ hw209_2)).trans hw209_2)),(World.cell?_alloc_lt _ _ _ (World.block_lt_of_cell? _ _ (((HB.out.cell (World.block_lt_of_cell? w _ hw209_3)).trans hw209_3)))).trans (((HB.out.cell (World.block_lt_of_cell? w _ hw209_3)).trans hw209_3)),(World.cell?_alloc_lt _ _ _ (World.block_lt_of_cell? _ _ (((HB.out.cell (World.block_lt_of_cell? w _ hw209_4)).trans hw209_4)))).trans (((HB.out.cell (World.block_lt_of_cell? w _ hw209_4)).trans hw209_4)),(World.cell?_alloc_lt _ _ _ (World.block_lt_of_cell? _ _ (((HB.out.cell (World.block_lt_of_cell? w _ hw210_0)).trans hw210_0)))).trans (((HB.out.cell (World.block_lt_of_cell? w _ hw210_0)).trans hw210_0)),(World.cell?_alloc_lt _ _ _ (World.block_lt_of_cell? _ _ (((HB.out.cell (World.block_lt_of_cell? w _ hw210_1)).trans hw210_1)))).trans (((HB.out.cell (World.block_lt_of_cell? w _ hw210_1)).trans hw210_1)),(World.cell?_alloc_lt _ _ _ (World.block_lt_of_cell? _ _ (((HB.out.cell (World.block_lt_of_cell? w _ hw210_2)).trans hw210_2)))).trans (((HB.out.cell (World.block_lt_of_cell? w _ hw210_2)).trans hw210_2)),(World.cell?_alloc_lt _ _ _ (World.block_lt_of_cell? _ _ (((HB.out.cell (World.block_lt_of_cell? w _ hw210_3)).trans hw210_3)))).trans (((HB.out.cell (World.block_lt_of_cell? w _ hw210_3)).trans hw210_3)),(World.cell?_alloc_lt _ _ _ (World.block_lt_of_cell? _ _ (((HB.out.cell (World.block_lt_of_cell? w _ hw210_4)).trans hw210_4)))).trans (((HB.out.cell (World.block_lt_of_cell? w _ hw210_4)).trans hw210_4)),(World.cell?_alloc_lt _ _ _ (World.block_lt_of_cell? _ _ (((HB.out.cell (World.block_lt_of_cell? w _ hw211_0)).trans hw211_0)))).trans (((HB.out.cell (World.block_lt_of_cell? w _ hw211_0)).trans hw211_0)),(World.cell?_alloc_lt _ _ _ (World.block_lt_of_cell? _ _ (((HB.out.cell (World.block_lt_of_cell? w _ hw211_1)).trans hw211_1)))).trans (((HB.out.cell (World.block_lt_of_cell? w _ hw211_1)).trans hw211_1)),(World.cell?_alloc_lt _ _ _ (World.block_lt_of_cell? _ _ (((HB.out.cell (World.block_lt_of_cell? w _ hw211_2)).trans hw211_2)))).trans (((HB.out.cell (World.block_lt_of_cell? w _ hw211_2)).trans hw211_2)),(World.cell?_alloc_lt _ _ _ (World.block_lt_of_cell? _ _ (((HB.out.cell (World.block_lt_of_cell? w _ hw211_3)).trans hw211_3)))).trans (((HB.out.cell (World.block_lt_of_cell? w _ hw211_3)).trans hw211_3)),(World.cell?_alloc_lt _ _ _ (World.block_lt_of_cell? _ _ (((HB.out.cell (World.block_lt_of_cell? w _ hw211_4)).trans hw211_4)))).trans (((HB.out.cell (World.block_lt_of_cell? w _ hw211_4)).trans hw211_4))⟩ (fun hHeld => ?_)
      clear hK K
      refine norm_ (a' := ?_) ?_ ?_
      rotate_left
      ·show Act.put _ (some 38) _ = _
       simp only [Act.put,List.setIfInBounds_toArray,List.set_cons_zero,List.set_cons_succ,i64_w,i32_w]
       rfl
      refine one_ (i:=28) (N:=some 39) #[true,true,true,true,true,true,true,true,true,true,true,true,true,true,true,true,true,true,true,true,true,true,true,true,true,true,true,true,true,false] rfl rfl (one_of HT_.out (by kernel_rfl)) (by decide) (fun K hK => ?_)
      refine Kd.R_append_step k49 (w0:=w) w.heap.size (by rfl) (.tmp 11) (.tmp 38) 29 49 (.agg #[(.string ⟨#[]⟩),(.int .i64 0),(.int .i64 0),(.int .u64 0),(.bool false)]) 48 rfl Try.underlying29 info49 rfl (by decide) (by omega) u3 x3_1 (⟨(rd_T39 l0 x4_1).f0,(rd_T39 l0 x4_1).f1,(rd_T39 l0 x4_1).f2,(rd_T39 l0 x4_1).f3,(rd_T39 l0 x4_1).f4⟩ : S49) [.string ((rd_T39 l0 x4_1).f0),.int .i64 ((rd_T39 l0 x4_1).f1),.int .i64 ((rd_T39 l0 x4_1).f2),.int .u64 ((rd_T39 l0 x4_1).f3),.bool ((rd_T39 l0 x4_1).f4)] (fun _ => True) (fun _ => False) rfl rfl ?aP (fun _ hk => hk.elim) ?aF ?aO ?aB ?aS ?aL ?_
      (case aP => exact k49_mkM _ _ _ (⟨(rd_T39 l0 x4_1).f0,(rd_T39 l0 x4_1).f1,(rd_T39 l0 x4_1).f2,(rd_T39 l0 x4_1).f3,(rd_T39 l0 x4_1).f4⟩ : S49))
      (case aB => exact (by repeat (first | (with_reducible first | exact HB.out | apply below_alloc | apply pw_below_drewN | apply below_drew1) | exact HB.out)))
      (case aF => exact (fun _ _ => trivial))
      (case aO => exact (by (with_reducible repeat (first | apply Kd.R_alloc | apply Kd.R_drewN | apply Kd.R_drew));exact HO_3.out))
      (case aS => exact (below_size (by repeat (first | (with_reducible first | exact HB.out | apply below_alloc | apply pw_below_drewN | apply below_drew1) | exact HB.out))))
      (case aL => have:=LMc4.out;omega)
      intro v213 w6 ho hb hg hat
      rw [← Ny212.out] at ho
      have n0_:=Aside0.mk (hb)
      have n1_:=Aside0.mk (ho)
      clear HB
      clear HO_3
      have HB:=n0_
      have HO214:=n1_
      clear n0_ n1_
      clear ho hb hg hat
      refine hK.out _ _ ⟨((HB.out.cell (World.block_lt_of_cell? w _ hw207_0)).trans hw207_0),((HB.out.cell (World.block_lt_of_cell? w _ hw207_1)).trans hw207_1),((HB.out.cell (World.block_lt_of_cell? w _ hw207_2)).trans hw207_2),((HB.out.cell (World.block_lt_of_cell? w _ hw207_3)).trans hw207_3),((HB.out.cell (World.block_lt_of_cell? w _ hw207_4)).trans hw207_4),((HB.out.cell (World.block_lt_of_cell? w _ hw208_0)).trans hw208_0),((HB.out.cell (World.block_lt_of_cell? w _ hw208_1)).trans hw208_1),((HB.out.cell (World.block_lt_of_cell? w _ hw208_2)).trans hw208_2),((HB.out.cell (World.block_lt_of_cell? w _ hw208_3)).trans hw208_3),((HB.out.cell (World.block_lt_of_cell? w _ hw208_4)).trans hw208_4),((HB.out.cell (World.block_lt_of_cell? w _ hw209_0)).trans hw209_0),((HB.out.cell (World.block_lt_of_cell? w _ hw209_1)).trans hw209_1),((HB.out.cell (World.block_lt_of_cell? w _ hw209_2)).trans hw209_2),((HB.out.cell (World.block_lt_of_cell? w _ hw209_3)).trans hw209_3),((HB.out.cell (World.block_lt_of_cell? w _ hw209_4)).trans hw209_4),((HB.out.cell (World.block_lt_of_cell? w _ hw210_0)).trans hw210_0),((HB.out.cell (World.block_lt_of_cell? w _ hw210_1)).trans hw210_1),((HB.out.cell (World.block_lt_of_cell? w _ hw210_2)).trans hw210_2),((HB.out.cell (World.block_lt_of_cell? w _ hw210_3)).trans hw210_3),((HB.out.cell (World.block_lt_of_cell? w _ hw210_4)).trans hw210_4),((HB.out.cell (World.block_lt_of_cell? w _ hw211_0)).trans hw211_0),((HB.out.cell (World.block_lt_of_cell? w _ hw211_1)).trans hw211_1),((HB.out.cell (World.block_lt_of_cell? w _ hw211_2)).trans hw211_2),((HB.out.cell (World.block_lt_of_cell? w _ hw211_3)).trans hw211_3),((HB.out.cell (World.block_lt_of_cell? w _ hw211_4)).trans hw211_4)⟩ (fun hHeld => ?_)
      clear hK K
      refine norm_ (a' := ?_) ?_ ?_
      rotate_left
      ·show Act.put _ (some 39) _ = _
       simp only [Act.put,List.setIfInBounds_toArray,List.set_cons_zero,List.set_cons_succ,i64_w,i32_w]
       rfl
      refine pure_ (i:=29) (N:=some 3) (v := ?_) (a' := ?_) #[true,true,true,true,true,true,true,true,true,true,true,true,true,true,true,true,true,true,true,true,true,true,true,true,true,true,true,true,true,true] rfl rfl (any_of HT_.out (by kernel_rfl)) (fun _ _ _ h => h) (Or.inl ⟨by rfl,?_⟩) ?_ ?_
      rotate_left
      ·intro w'
       go_simp
       with_reducible rfl
      rotate_left
      ·simp only [Act.put,List.setIfInBounds_toArray,List.set_cons_zero,List.set_cons_succ,i64_w,i32_w]
       rfl
      refine done_ (done_of HT_.out (by kernel_rfl)) ?_
      try go_wp2
      go_roundg k1
      case measure => have:=HK1.out;omega
      case rel => exact ⟨(y212),(wrap64 (x4_1 + 1)),(by first | rfl | (simp;done) | (simp [*];done)),H',⟨by have:=HK1.out;omega⟩,⟨by (with_reducible repeat (first | apply Kd.R_alloc | apply Kd.R_drewN | apply Kd.R_drew));exact HO214.out⟩,⟨by repeat (first | (with_reducible first | exact HB.out | apply below_alloc | apply pw_below_drewN | apply below_drew1) | exact HB.out)⟩⟩
     ·rw [if_neg c4] at H
      exact absurd H (by simp)
    ·rw [if_neg c3] at H
     exact absurd H (by simp)
   ·rw [if_neg c2] at H
    have c2b0 : decide (x4_1 < (l0.length : Int)) = false:=decide_eq_false c2
    clear c2
    obtain rfl:=Option.some.inj H
    go_wp2
    go_ret
    exact ⟨_,by first | rfl | (simp [errW_none,errW_some] <;> rfl) | (simp [*,errW_none,errW_some] <;> rfl) | (simp [errW_none,errW_some];exact isEmpty_bne _),by (with_reducible repeat (first | apply Kd.R_alloc | apply Kd.R_drewN | apply Kd.R_drew));exact HO_3.out,by repeat (first | (with_reducible first | exact HB.out | apply below_alloc | apply pw_below_drewN | apply below_drew1) | exact HB.out)⟩

/-! ### thwartref05_Same: function 14 -/
def thwartref05_Same.l0 : Nat → List (S49) → List (S49) → Int → Option (Bool)
 | 0,_,_,_ => none
 | k + 1,x0,x1,x5 => if x5 < (x0.length : Int) then (if 0 ≤ x5 then (if x5 < (x1.length : Int) then (if (!((((rd_T49 x0 x5).f0).toList) == (((rd_T49 x1 x5).f0).toList)) || (!(((rd_T49 x0 x5).f1) == ((rd_T49 x1 x5).f1)) || (!(((rd_T49 x0 x5).f2) == ((rd_T49 x1 x5).f2)) || (!(((rd_T49 x0 x5).f3) == ((rd_T49 x1 x5).f3)) || (!(((rd_T49 x0 x5).f4) == ((rd_T49 x1 x5).f4))))))) = true then (some false) else (thwartref05_Same.l0 k x0 x1 (wrap64 (x5 + 1)))) else (none)) else (none)) else (some true)
def thwartref05_Same.f (k : Nat) (l0 : List (S49)) (l1 : List (S49)) : Option (Bool):=if (l0.length : Int) = (l1.length : Int) then (thwartref05_Same.l0 k l0 l1 0) else (some false)
theorem thwartref05_Same.mono_l : ∀ k,(∀ y0 y1 y2,LeO (thwartref05_Same.l0 k y0 y1 y2) (thwartref05_Same.l0 (k + 1) y0 y1 y2))
 | 0 => fun _ _ _ r h => by simp [thwartref05_Same.l0] at h
 | k + 1 => by
  have ih0:=thwartref05_Same.mono_l k
  ·intro y0 y1 y2
   unfold thwartref05_Same.l0
   repeat' first
   | (with_reducible exact ih0 _ _ _)
   | (with_reducible exact LeO.refl _)
   | (with_reducible exact LeO.none _)
   | (with_reducible refine LeO.ite ?_ ?_)
   | (with_reducible refine LeO.bind ?_ (fun _ => ?_))
   | exact ih0 _ _ _
   | exact LeO.none _
   | refine LeO.ite ?_ ?_
   | refine LeO.bind ?_ (fun _ => ?_)
theorem thwartref05_Same.mono : ∀ a0 a1 k,LeO (thwartref05_Same.f k a0 a1) (thwartref05_Same.f (k + 1) a0 a1):=by
 intro a0 a1 k
 have ih0:=thwartref05_Same.mono_l k
 unfold thwartref05_Same.f
 repeat' first
   | (with_reducible exact ih0 _ _ _)
   | (with_reducible exact LeO.refl _)
   | (with_reducible exact LeO.none _)
   | (with_reducible refine LeO.ite ?_ ?_)
   | (with_reducible refine LeO.bind ?_ (fun _ => ?_))
   | exact ih0 _ _ _
   | exact LeO.none _
   | refine LeO.ite ?_ ?_
   | refine LeO.bind ?_ (fun _ => ?_)
set_option maxHeartbeats 8000000 in
set_option maxRecDepth 100000 in
theorem thwartref05_Same.calls (k : Nat) (A0 : Option Addr) (c0 : Nat) (l0 : List (S49)) (A1 : Option Addr) (c1 : Nat) (l1 : List (S49)) (r : Bool) (w : World) (hr0 : Kd.C k49 w A0 l0.length l0) (hc0 : l0.length ≤ c0) (hr1 : Kd.C k49 w A1 l1.length l1) (hc1 : l1.length ≤ c1) (h : thwartref05_Same.f k l0 l1 = some r) :
  Calls Try.prog 14 #[.slice A0 l0.length c0,.slice A1 l1.length c1] w fun e w' => e = .returned (.bool r) ∧ Drawn0 w w' := by
 have hu49:=Try.underlying49
 have HR0:=Aside0.mk hr0
 have HC0:=Aside0.mk hc0
 clear hr0 hc0
 have HR1:=Aside0.mk hr1
 have HC1:=Aside0.mk hc1
 clear hr1 hc1
 have H : (if (l0.length : Int) = (l1.length : Int) then (thwartref05_Same.l0 k l0 l1 0) else (some false)) = some r:=h
 clear h
 by_cases c3 : (l0.length : Int) = (l1.length : Int)
 ·rw [if_pos c3] at H
  have c3b0 : ((l0.length : Int) == (l1.length : Int)) = true:=beq_iff_eq.mpr c3
  have c3b1 : ((l0.length : Int) != (l1.length : Int)) = false:=bne_eq_false_iff_eq.mpr c3
  have c3b2 : (l0.length == l1.length) = true:=by first | simpa using c3 | (simp at c3 ⊢;omega)
  clear c3
  have H' := Aside0.mk H
  clear H
  go_enter Try.func14,Try.ntmps14
  go_wp2
  repeat (go_quiet (fail);try go_wp2)
  go_loopg [5] k (fun kq v5 w' => ∃ (x5_1 : Int),v5 = .int .i64 x5_1 ∧ Aside0 (thwartref05_Same.l0 kq l0 l1 x5_1 = some r) ∧ Aside0 (kq ≤ k) ∧ Drawn0 w w')
  case atStart => exact ⟨(0),(by first | rfl | (simp;done) | (simp [*];done)),H',⟨Nat.le_refl _⟩,by repeat (first | exact Drawn0.refl _ | apply Drawn0.step)⟩
  case round =>
   clear H'
   try clear c1
   try clear p2
   try clear c3
   try clear c3b0
   try clear c3b1
   try clear c3b2
   obtain ⟨x5_1,rfl,HA,HK1,⟨m1,rfl⟩⟩:=hrel
   cases gk with
   | zero => exact absurd HA.out (by simp [thwartref05_Same.l0])
   | succ k1 =>
    have H:=HA.out
    clear HA
    simp only [thwartref05_Same.l0] at H
    by_cases c4 : x5_1 < (l0.length : Int)
    ·rw [if_pos c4] at H
     have c4b0 : decide (x5_1 < (l0.length : Int)) = true:=decide_eq_true c4
     clear c4
     by_cases c5 : 0 ≤ x5_1
     ·rw [if_pos c5] at H
      have c5b0 : decide (0 ≤ x5_1) = true:=decide_eq_true c5
      clear c5
      by_cases c6 : x5_1 < (l1.length : Int)
      ·rw [if_pos c6] at H
       have c6b0 : decide (x5_1 < (l1.length : Int)) = true:=decide_eq_true c6
       clear c6
       by_cases c7 : (!((((rd_T49 l0 x5_1).f0).toList) == (((rd_T49 l1 x5_1).f0).toList)) || (!(((rd_T49 l0 x5_1).f1) == ((rd_T49 l1 x5_1).f1)) || (!(((rd_T49 l0 x5_1).f2) == ((rd_T49 l1 x5_1).f2)) || (!(((rd_T49 l0 x5_1).f3) == ((rd_T49 l1 x5_1).f3)) || (!(((rd_T49 l0 x5_1).f4) == ((rd_T49 l1 x5_1).f4))))))) = true
       ·rw [if_pos c7] at H
        have c7b0 : (!((((rd_T49 l0 x5_1).f0).toList) == (((rd_T49 l1 x5_1).f0).toList)) || (!(((rd_T49 l0 x5_1).f1) == ((rd_T49 l1 x5_1).f1)) || (!(((rd_T49 l0 x5_1).f2) == ((rd_T49 l1 x5_1).f2)) || (!(((rd_T49 l0 x5_1).f3) == ((rd_T49 l1 x5_1).f3)) || (!(((rd_T49 l0 x5_1).f4) == ((rd_T49 l1 x5_1).f4))))))) = true:=c7
        clear c7
        obtain rfl:=Option.some.inj H
        have p215 : 0 ≤ (x5_1 : Int):=of_decide_eq_true (by first | (with_reducible assumption) | assumption)
        have q215 : x5_1 < (l0.length : Int):=of_decide_eq_true (by first | (with_reducible assumption) | assumption)
        obtain ⟨ad215,e215,hx215_0,hx215_1,hx215_2,hx215_3,hx215_4⟩:=at_T49 HR0.out x5_1 p215 q215
        cases e215
        replace p215:=eq_true p215
        replace q215:=eq_true q215
        have p216 : 0 ≤ (x5_1 : Int):=of_decide_eq_true (by first | (with_reducible assumption) | assumption)
        have q216 : x5_1 < (l1.length : Int):=of_decide_eq_true (by first | (with_reducible assumption) | assumption)
        obtain ⟨ad216,e216,hx216_0,hx216_1,hx216_2,hx216_3,hx216_4⟩:=at_T49 HR1.out x5_1 p216 q216
        cases e216
        replace p216:=eq_true p216
        replace q216:=eq_true q216
        go_wp2
        repeat (go_quiet (fail);try go_wp2)
        go_ret
        exact ⟨by first | rfl | (simp;done) | (simp [*];done),by repeat (first | exact Drawn0.refl _ | apply Drawn0.step)⟩
       ·rw [if_neg c7] at H
        have c7b0 : (!((((rd_T49 l0 x5_1).f0).toList) == (((rd_T49 l1 x5_1).f0).toList)) || (!(((rd_T49 l0 x5_1).f1) == ((rd_T49 l1 x5_1).f1)) || (!(((rd_T49 l0 x5_1).f2) == ((rd_T49 l1 x5_1).f2)) || (!(((rd_T49 l0 x5_1).f3) == ((rd_T49 l1 x5_1).f3)) || (!(((rd_T49 l0 x5_1).f4) == ((rd_T49 l1 x5_1).f4))))))) = false:=by simpa using c7
        clear c7
        have H' := Aside0.mk H
        clear H
        have p215 : 0 ≤ (x5_1 : Int):=of_decide_eq_true (by first | (with_reducible assumption) | assumption)
        have q215 : x5_1 < (l0.length : Int):=of_decide_eq_true (by first | (with_reducible assumption) | assumption)
        obtain ⟨ad215,e215,hx215_0,hx215_1,hx215_2,hx215_3,hx215_4⟩:=at_T49 HR0.out x5_1 p215 q215
        cases e215
        replace p215:=eq_true p215
        replace q215:=eq_true q215
        have p216 : 0 ≤ (x5_1 : Int):=of_decide_eq_true (by first | (with_reducible assumption) | assumption)
        have q216 : x5_1 < (l1.length : Int):=of_decide_eq_true (by first | (with_reducible assumption) | assumption)
        obtain ⟨ad216,e216,hx216_0,hx216_1,hx216_2,hx216_3,hx216_4⟩:=at_T49 HR1.out x5_1 p216 q216
        cases e216
        replace p216:=eq_true p216
        replace q216:=eq_true q216
        go_wp2
        repeat (go_quiet (fail);try go_wp2)
        go_roundg k1
        case measure => have:=HK1.out;omega
        case rel => exact ⟨(wrap64 (x5_1 + 1)),(by first | rfl | (simp;done) | (simp [*];done)),H',⟨by have:=HK1.out;omega⟩,by repeat (first | exact Drawn0.refl _ | apply Drawn0.step)⟩
      ·rw [if_neg c6] at H
       exact absurd H (by simp)
     ·rw [if_neg c5] at H
      exact absurd H (by simp)
    ·rw [if_neg c4] at H
     have c4b0 : decide (x5_1 < (l0.length : Int)) = false:=decide_eq_false c4
     clear c4
     obtain rfl:=Option.some.inj H
     go_wp2
     repeat (go_quiet (fail);try go_wp2)
     go_ret
     exact ⟨by first | rfl | (simp;done) | (simp [*];done),by repeat (first | exact Drawn0.refl _ | apply Drawn0.step)⟩
 ·rw [if_neg c3] at H
  have c3b0 : ((l0.length : Int) == (l1.length : Int)) = false:=beq_eq_false_iff_ne.mpr c3
  have c3b1 : ((l0.length : Int) != (l1.length : Int)) = true:=bne_iff_ne.mpr c3
  have c3b2 : (l0.length == l1.length) = false:=by first | simpa using c3 | (simp at c3 ⊢;omega)
  obtain rfl:=Option.some.inj H
  go_enter Try.func14,Try.ntmps14
  go_wp2
  repeat (go_quiet (fail);try go_wp2)
  go_ret
  exact ⟨by first | rfl | (simp;done) | (simp [*];done),by repeat (first | exact Drawn0.refl _ | apply Drawn0.step)⟩

/-! ### thwartref02_step: function 61 -/
def thwartref02_step.f (a0 : Int) : Option (Int):=if (Int.tmod a0 2) = 1 then (some (Go.bits .xor .u32 ((Int.tdiv a0 2) % 4294967296) 2197175160)) else (some ((Int.tdiv a0 2) % 4294967296))
set_option maxHeartbeats 8000000 in
set_option maxRecDepth 100000 in
theorem thwartref02_step.calls (a0 : Int) (r : Int) (w : World) (h : thwartref02_step.f a0 = some r) :
  Calls Try.prog 61 #[.int .u32 a0] w fun e w' => e = .returned (.int .u32 r) ∧ Drawn0 w w' := by
 have H : (if (Int.tmod a0 2) = 1 then (some (Go.bits .xor .u32 ((Int.tdiv a0 2) % 4294967296) 2197175160)) else (some ((Int.tdiv a0 2) % 4294967296))) = some r:=h
 clear h
 by_cases c2 : (Int.tmod a0 2) = 1
 ·rw [if_pos c2] at H
  have c2b0 : ((Int.tmod a0 2) == 1) = true:=beq_iff_eq.mpr c2
  have c2b1 : ((Int.tmod a0 2) != 1) = false:=bne_eq_false_iff_eq.mpr c2
  clear c2
  obtain rfl:=Option.some.inj H
  go_enter Try.func61,Try.ntmps61
  go_wp2
  go_ret
  exact ⟨by first | rfl | (simp;done) | (simp [*];done),by repeat (first | exact Drawn0.refl _ | apply Drawn0.step)⟩
 ·rw [if_neg c2] at H
  have c2b0 : ((Int.tmod a0 2) == 1) = false:=beq_eq_false_iff_ne.mpr c2
  have c2b1 : ((Int.tmod a0 2) != 1) = true:=bne_iff_ne.mpr c2
  obtain rfl:=Option.some.inj H
  go_enter Try.func61,Try.ntmps61
  go_wp2
  go_ret
  exact ⟨by first | rfl | (simp;done) | (simp [*];done),by repeat (first | exact Drawn0.refl _ | apply Drawn0.step)⟩

/-! ### thwartref02_More: function 58 -/
mutual
def thwartref02_More.l0 : Nat → ByteArray → Int → Int → Option (Int)
 | 0,_,_,_ => none
 | k + 1,x1,x5,x6 => if x6 < (x1.size : Int) then (if 0 ≤ x6 then (thwartref02_More.l1 k x1 (Go.bits .xor .u32 x5 ((bt x1 x6) % 4294967296)) x6 0) else (none)) else (some (Go.bits .xor .u32 IntKind.u32.max x5))
def thwartref02_More.l1 : Nat → ByteArray → Int → Int → Int → Option (Int)
 | 0,_,_,_,_ => none
 | k + 1,x1,x5,x6,x7 => if x7 < 8 then ((thwartref02_step.f x5).bind fun t217 => (thwartref02_More.l1 k x1 t217 x6 (wrap64 (x7 + 1)))) else (thwartref02_More.l0 k x1 x5 (wrap64 (x6 + 1)))
end
def thwartref02_More.f (k : Nat) (a0 : Int) (a1 : ByteArray) : Option (Int):=thwartref02_More.l0 k a1 (Go.bits .xor .u32 IntKind.u32.max a0) 0
theorem thwartref02_More.mono_l : ∀ k,(∀ y0 y1 y2,LeO (thwartref02_More.l0 k y0 y1 y2) (thwartref02_More.l0 (k + 1) y0 y1 y2)) ∧ (∀ y0 y1 y2 y3,LeO (thwartref02_More.l1 k y0 y1 y2 y3) (thwartref02_More.l1 (k + 1) y0 y1 y2 y3))
 | 0 => ⟨fun _ _ _ r h => by simp [thwartref02_More.l0] at h,fun _ _ _ _ r h => by simp [thwartref02_More.l1] at h⟩
 | k + 1 => by
  obtain ⟨ih0,ih1⟩:=thwartref02_More.mono_l k
  refine ⟨?_,?_⟩
  ·intro y0 y1 y2
   unfold thwartref02_More.l0
   repeat' first
   | (with_reducible exact ih0 _ _ _)
   | (with_reducible exact ih1 _ _ _ _)
   | (with_reducible exact LeO.refl _)
   | (with_reducible exact LeO.none _)
   | (with_reducible refine LeO.ite ?_ ?_)
   | (with_reducible refine LeO.bind ?_ (fun _ => ?_))
   | exact ih0 _ _ _
   | exact ih1 _ _ _ _
   | exact LeO.none _
   | refine LeO.ite ?_ ?_
   | refine LeO.bind ?_ (fun _ => ?_)
  ·intro y0 y1 y2 y3
   unfold thwartref02_More.l1
   repeat' first
   | (with_reducible exact ih0 _ _ _)
   | (with_reducible exact ih1 _ _ _ _)
   | (with_reducible exact LeO.refl _)
   | (with_reducible exact LeO.none _)
   | (with_reducible refine LeO.ite ?_ ?_)
   | (with_reducible refine LeO.bind ?_ (fun _ => ?_))
   | exact ih0 _ _ _
   | exact ih1 _ _ _ _
   | exact LeO.none _
   | refine LeO.ite ?_ ?_
   | refine LeO.bind ?_ (fun _ => ?_)
theorem thwartref02_More.mono : ∀ a0 a1 k,LeO (thwartref02_More.f k a0 a1) (thwartref02_More.f (k + 1) a0 a1):=by
 intro a0 a1 k
 obtain ⟨ih0,ih1⟩:=thwartref02_More.mono_l k
 unfold thwartref02_More.f
 repeat' first
   | (with_reducible exact ih0 _ _ _)
   | (with_reducible exact ih1 _ _ _ _)
   | (with_reducible exact LeO.refl _)
   | (with_reducible exact LeO.none _)
   | (with_reducible refine LeO.ite ?_ ?_)
   | (with_reducible refine LeO.bind ?_ (fun _ => ?_))
   | exact ih0 _ _ _
   | exact ih1 _ _ _ _
   | exact LeO.none _
   | refine LeO.ite ?_ ?_
   | refine LeO.bind ?_ (fun _ => ?_)
set_option maxHeartbeats 8000000 in
set_option maxRecDepth 100000 in
theorem thwartref02_More.calls (k : Nat) (a0 : Int) (a1 : ByteArray) (r : Int) (w : World) (h : thwartref02_More.f k a0 a1 = some r) :
  Calls Try.prog 58 #[.int .u32 a0,.string a1] w fun e w' => e = .returned (.int .u32 r) ∧ Drawn0 w w' := by
 have H : (thwartref02_More.l0 k a1 (Go.bits .xor .u32 IntKind.u32.max a0) 0) = some r:=h
 clear h
 have H' := Aside0.mk H
 clear H
 go_enter Try.func58,Try.ntmps58
 go_wp2
 go_loopg [5,6] k (fun kq v5 v6 w' => ∃ (x5_1 : Int) (x6_1 : Int),v5 = .int .u32 x5_1 ∧ v6 = .int .i64 x6_1 ∧ Aside0 (thwartref02_More.l0 kq a1 x5_1 x6_1 = some r) ∧ Aside0 (kq ≤ k) ∧ Drawn0 w w')
 case atStart => exact ⟨(Go.bits .xor .u32 IntKind.u32.max a0),(0),(by first | rfl | (simp;done) | (simp [*];done)),(by first | rfl | (simp;done) | (simp [*];done)),H',⟨Nat.le_refl _⟩,by repeat (first | exact Drawn0.refl _ | apply Drawn0.step)⟩
 case round =>
  clear H'
  try clear p2
  obtain ⟨x5_1,x6_1,rfl,rfl,HA,HK1,⟨m1,rfl⟩⟩:=hrel
  cases gk with
  | zero => exact absurd HA.out (by simp [thwartref02_More.l0])
  | succ k1 =>
   have H:=HA.out
   clear HA
   simp only [thwartref02_More.l0] at H
   by_cases c3 : x6_1 < (a1.size : Int)
   ·rw [if_pos c3] at H
    have c3b0 : decide (x6_1 < (a1.size : Int)) = true:=decide_eq_true c3
    clear c3
    by_cases c4 : 0 ≤ x6_1
    ·rw [if_pos c4] at H
     have c4b0 : decide (0 ≤ x6_1) = true:=decide_eq_true c4
     clear c4
     have H' := Aside0.mk H
     clear H
     have p5 : 0 ≤ (x6_1 : Int):=of_decide_eq_true (by first | (with_reducible assumption) | assumption)
     have q5 : x6_1 < (a1.size : Int):=of_decide_eq_true (by first | (with_reducible assumption) | assumption)
     have hx5:=bt_at a1 x6_1
     replace p5:=eq_true p5
     replace q5:=eq_true q5
     go_wp2
     go_loopg [5,7] k1 (fun kq v5 v7 w' => ∃ (x5_2 : Int) (x7_2 : Int),v5 = .int .u32 x5_2 ∧ v7 = .int .i64 x7_2 ∧ Aside0 (thwartref02_More.l1 kq a1 x5_2 x6_1 x7_2 = some r) ∧ Aside0 (kq ≤ k1) ∧ Drawn0 w w')
     case atStart => exact ⟨(Go.bits .xor .u32 x5_1 ((bt a1 x6_1) % 4294967296)),(0),(by first | rfl | (simp;done) | (simp [*];done)),(by first | rfl | (simp;done) | (simp [*];done)),H',⟨Nat.le_refl _⟩,by repeat (first | exact Drawn0.refl _ | apply Drawn0.step)⟩
     case round =>
      clear H'
      try clear p2
      try clear c3
      try clear c3b0
      try clear c4
      try clear c4b0
      try clear c5
      try clear p5
      try clear q5
      try clear hx5
      try clear p2
      try clear p5
      try clear q5
      obtain ⟨x5_2,x7_2,rfl,rfl,HA,HK2,⟨m2,rfl⟩⟩:=hrel
      cases gk with
      | zero => exact absurd HA.out (by simp [thwartref02_More.l1])
      | succ k2 =>
       have H:=HA.out
       clear HA
       simp only [thwartref02_More.l1] at H
       by_cases c6 : x7_2 < 8
       ·rw [if_pos c6] at H
        have c6b0 : decide (x7_2 < 8) = true:=decide_eq_true c6
        clear c6
        replace H:=Option.bind_eq_some_iff.mp H
        obtain ⟨t217,A70,H⟩:=H
        replace H : (thwartref02_More.l1 k2 a1 t217 x6_1 (wrap64 (x7_2 + 1))) = some r:=H
        have A7:=Aside0.mk A70
        clear A70
        have H' := Aside0.mk H
        clear H
        go_wp2_with (first | ((with_reducible refine gate_callee (f:=61) rfl ?_);refine goesL_ (some 27) rfl rfl Try.func61 (by kernel_rfl) rfl #[.int .u32 x5_2] rfl (by (try simp only [List.map_toArray,List.map_cons,List.map_nil]);first | done | rfl | (simp only [List.length_drop,List.length_take];rfl)) ?_;(with_reducible refine (thwartref02_step.calls x5_2 t217 _ A7.out).mono ?_);rintro e w' ⟨rfl,⟨nd,rfl⟩⟩;refine ⟨_,rfl,?_⟩))
        go_roundg k2
        case measure => have:=HK1.out;have:=HK2.out;omega
        case rel => exact ⟨(t217),(wrap64 (x7_2 + 1)),(by first | rfl | (simp;done) | (simp [*];done)),(by first | rfl | (simp;done) | (simp [*];done)),H',⟨by have:=HK1.out;have:=HK2.out;omega⟩,by repeat (first | exact Drawn0.refl _ | apply Drawn0.step)⟩
       ·rw [if_neg c6] at H
        have c6b0 : decide (x7_2 < 8) = false:=decide_eq_false c6
        clear c6
        have H' := Aside0.mk H
        clear H
        go_wp2
        go_roundg k2
        case measure => have:=HK1.out;have:=HK2.out;omega
        case rel => exact ⟨(x5_2),(wrap64 (x6_1 + 1)),(by first | rfl | (simp;done) | (simp [*];done)),(by first | rfl | (simp;done) | (simp [*];done)),H',⟨by have:=HK1.out;have:=HK2.out;omega⟩,by repeat (first | exact Drawn0.refl _ | apply Drawn0.step)⟩
    ·rw [if_neg c4] at H
     exact absurd H (by simp)
   ·rw [if_neg c3] at H
    have c3b0 : decide (x6_1 < (a1.size : Int)) = false:=decide_eq_false c3
    clear c3
    obtain rfl:=Option.some.inj H
    go_wp2
    go_ret
    exact ⟨by first | rfl | (simp;done) | (simp [*];done),by repeat (first | exact Drawn0.refl _ | apply Drawn0.step)⟩

/-! ### thwartref02_Sum: function 52 -/
def thwartref02_Sum.f (k : Nat) (a0 : ByteArray) : Option (Int):=(thwartref02_More.f k 0 a0).bind fun t218 => (some t218)
theorem thwartref02_Sum.mono : ∀ a0 k,LeO (thwartref02_Sum.f k a0) (thwartref02_Sum.f (k + 1) a0):=by
 intro a0 k
 unfold thwartref02_Sum.f
 repeat' first
   | (with_reducible exact thwartref02_More.mono _ _ _)
   | (with_reducible exact LeO.refl _)
   | (with_reducible exact LeO.none _)
   | (with_reducible refine LeO.ite ?_ ?_)
   | (with_reducible refine LeO.bind ?_ (fun _ => ?_))
   | exact thwartref02_More.mono _ _ _
   | exact LeO.none _
   | refine LeO.ite ?_ ?_
   | refine LeO.bind ?_ (fun _ => ?_)
set_option maxHeartbeats 8000000 in
set_option maxRecDepth 100000 in
theorem thwartref02_Sum.calls (k : Nat) (a0 : ByteArray) (r : Int) (w : World) (h : thwartref02_Sum.f k a0 = some r) :
  Calls Try.prog 52 #[.string a0] w fun e w' => e = .returned (.int .u32 r) ∧ Drawn0 w w' := by
 have H : ((thwartref02_More.f k 0 a0).bind fun t218 => (some t218)) = some r:=h
 clear h
 replace H:=Option.bind_eq_some_iff.mp H
 obtain ⟨t218,A20,H⟩:=H
 replace H : (some t218) = some r:=H
 have A2:=Aside0.mk A20
 clear A20
 obtain rfl:=Option.some.inj H
 go_enter Try.func52,Try.ntmps52
 go_wp2_with (first | ((with_reducible refine gate_callee (f:=58) rfl ?_);refine goesL_ (some 4) rfl rfl Try.func58 (by kernel_rfl) rfl #[.int .u32 0,.string a0] rfl (by (try simp only [List.map_toArray,List.map_cons,List.map_nil]);first | done | rfl | (simp only [List.length_drop,List.length_take];rfl)) ?_;(with_reducible refine (thwartref02_More.calls k 0 a0 t218 _ A2.out).mono ?_);rintro e w' ⟨rfl,⟨nd,rfl⟩⟩;refine ⟨_,rfl,?_⟩))
 go_ret
 exact ⟨by first | rfl | (simp;done) | (simp [*];done),by repeat (first | exact Drawn0.refl _ | apply Drawn0.step)⟩

/-! ### thwartref02_Seal: function 30 -/
def thwartref02_Seal.f (k : Nat) (a0 : ByteArray) : Option (ByteArray):=(thwartref02_Sum.f k a0).bind fun t219 => ((some (([(t219) % 256,(t219 / 256) % 256,(t219 / 65536) % 256,(t219 / 16777216) % 256] : List Int) : List Int)).bind fun y220 => (if (strOfNums y220).size + a0.size ≤ 9223372036854775807 then (some ((strOfNums y220) ++ a0)) else (none)))
theorem thwartref02_Seal.mono : ∀ a0 k,LeO (thwartref02_Seal.f k a0) (thwartref02_Seal.f (k + 1) a0):=by
 intro a0 k
 unfold thwartref02_Seal.f
 repeat' first
   | (with_reducible exact thwartref02_Sum.mono _ _)
   | (with_reducible exact LeO.refl _)
   | (with_reducible exact LeO.none _)
   | (with_reducible refine LeO.ite ?_ ?_)
   | (with_reducible refine LeO.bind ?_ (fun _ => ?_))
   | exact thwartref02_Sum.mono _ _
   | exact LeO.none _
   | refine LeO.ite ?_ ?_
   | refine LeO.bind ?_ (fun _ => ?_)
set_option maxHeartbeats 8000000 in
set_option maxRecDepth 100000 in
theorem thwartref02_Seal.calls (k : Nat) (a0 : ByteArray) (r : ByteArray) (w : World) (h : thwartref02_Seal.f k a0 = some r) :
  Calls Try.prog 30 #[.string a0] w fun e w' => e = .returned (.string r) ∧ Below w.heap.size w w' := by
 have HB:=Aside0.mk (Below.refl w.heap.size w)
 have H : ((thwartref02_Sum.f k a0).bind fun t219 => ((some (([(t219) % 256,(t219 / 256) % 256,(t219 / 65536) % 256,(t219 / 16777216) % 256] : List Int) : List Int)).bind fun y220 => (if (strOfNums y220).size + a0.size ≤ 9223372036854775807 then (some ((strOfNums y220) ++ a0)) else (none)))) = some r:=h
 clear h
 replace H:=Option.bind_eq_some_iff.mp H
 obtain ⟨t219,A20,H⟩:=H
 replace H : ((some (([(t219) % 256,(t219 / 256) % 256,(t219 / 65536) % 256,(t219 / 16777216) % 256] : List Int) : List Int)).bind fun y220 => (if (strOfNums y220).size + a0.size ≤ 9223372036854775807 then (some ((strOfNums y220) ++ a0)) else (none))) = some r:=H
 have A2:=Aside0.mk A20
 clear A20
 obtain ⟨y220,hy220⟩ : ∃ y_ : List Int,y_ = (([(t219) % 256,(t219 / 256) % 256,(t219 / 65536) % 256,(t219 / 16777216) % 256] : List Int)):=⟨_,rfl⟩
 replace H : (if (strOfNums y220).size + a0.size ≤ 9223372036854775807 then (some ((strOfNums y220) ++ a0)) else (none)) = some r:=by first | (rw [hy220];with_reducible exact H) | (have H2_:=(Option.bind_some _ _).symm.trans H;rw [hy220];with_reducible exact H2_) | (have H2_:=(Option.bind_some _ _).symm.trans H;with_reducible exact H2_) | with_reducible exact H | (rw [hy220];exact H) | exact H
 have Ny220:=Aside0.mk hy220
 clear hy220
 by_cases c3 : (strOfNums y220).size + a0.size ≤ 9223372036854775807
 ·rw [if_pos c3] at H
  have c3b0:=eq_true c3
  have c3b1 : decide ((strOfNums y220).size + a0.size ≤ 9223372036854775807) = true:=decide_eq_true c3
  try have c3b2 : (9223372036854775807 < (strOfNums y220).size + a0.size) = False:=eq_false (Nat.not_lt.2 c3)
  obtain rfl:=Option.some.inj H
  go_enter Try.func30,Try.ntmps30
  go_wp2_with (first | ((with_reducible refine gate_callee (f:=52) rfl ?_);refine goesL_ (some 5) rfl rfl Try.func52 (by kernel_rfl) rfl #[.string a0] rfl (by (try simp only [List.map_toArray,List.map_cons,List.map_nil]);first | done | rfl | (simp only [List.length_drop,List.length_take];rfl)) ?_;(with_reducible refine (thwartref02_Sum.calls k a0 t219 _ A2.out).mono ?_);rintro e w' ⟨rfl,⟨nd,rfl⟩⟩;refine ⟨_,rfl,?_⟩) | ((with_reducible refine gate_dst (N:=17) rfl ?_);refine Kd.R_lit (Kd.int .u8) _ 5 ?hg (N:=17) ?hd (xs:=([(t219) % 256,(t219 / 256) % 256,(t219 / 65536) % 256,(t219 / 16777216) % 256] : List Int)) (inner:=[.int .u8 ((t219) % 256),.int .u8 ((t219 / 256) % 256),.int .u8 ((t219 / 65536) % 256),.int .u8 ((t219 / 16777216) % 256)]) (ok:=fun _ => True) (okp:=fun _ => True) ?hr ?hp (fun _ hk => hk) trivial (Below.refl _ _) (Nat.le_refl _) (by simp) ?_;(case hd => rfl);(case hg => rfl);(case hr => first | (go_simp;done) | (go_simp;rfl));(case hp => exact (Reps.one (show Kd.M (Kd.int .u8) _ _ _ ((t219) % 256) [.int .u8 ((t219) % 256)] from rfl) (Reps.one (show Kd.M (Kd.int .u8) _ _ _ ((t219 / 256) % 256) [.int .u8 ((t219 / 256) % 256)] from rfl) (Reps.one (show Kd.M (Kd.int .u8) _ _ _ ((t219 / 65536) % 256) [.int .u8 ((t219 / 65536) % 256)] from rfl) (Reps.one (show Kd.M (Kd.int .u8) _ _ _ ((t219 / 16777216) % 256) [.int .u8 ((t219 / 16777216) % 256)] from rfl) (Reps.none _ _))))));intro v221 w4 ho5 hb hg_ hnew_;clear hg_ hnew_;(first | rw [← Ny220.out] at ho5 | (simp only [Int.reduceToNat] at ho5;rw [← Ny220.out] at ho5));have n0_:=Aside0.mk (Kd.R_lower ho5 (below_size (by repeat (first | (with_reducible first | exact HB.out | apply below_alloc | apply pw_below_drewN | apply below_drew1) | exact HB.out))));have n1_:=Aside0.mk (below_step (by repeat (first | (with_reducible first | exact HB.out | apply below_alloc | apply pw_below_drewN | apply below_drew1) | exact HB.out)) hb);clear HB;have HO222:=n0_;have HB:=n1_;clear n0_ n1_;clear hb ho5;have hcv6:=own_string (P:=Try.prog) Try.underlying82 Try.underlying5 Try.underlying9 (Kd.own_of_R HO222.out)))
  go_ret
  exact ⟨by first | rfl | (simp [errW_none,errW_some] <;> rfl) | (simp [*,errW_none,errW_some] <;> rfl) | (simp [errW_none,errW_some];exact isEmpty_bne _),by repeat (first | (with_reducible first | exact HB.out | apply below_alloc | apply pw_below_drewN | apply below_drew1) | exact HB.out)⟩
 ·rw [if_neg c3] at H
  exact absurd H (by simp)

end Go.Proofs.Ytdjkkceamldmjaa.Print
