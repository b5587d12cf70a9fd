/- Written by a program of mine (give.py, over the kit's print) out of the translation: contracts of the Go functions. Lean checks it. -/
import Derived.Test.YtlnbekaldemebaaGreatDoorPrint0
namespace Go.Proofs.YtlnbekaldemebaaGreatDoor.Print
open Go.RowKit Go.Proofs.YtlnbekaldemebaaGreatDoorW.PrintWords Go.Proofs.YtlnbekaldemebaaGreatDoorW.PrintLast Go.Proofs.YtlnbekaldemebaaGreatDoorW.PrintMore
attribute [local go_sem] max2_int min2_int max_two min_two max_three min_three max_four min_four   -- for this text's walks alone
set_option linter.unusedVariables false
set_option linter.unusedSimpArgs false

/-! ### thwartlaw13_segs: function 21 -/
def thwartlaw13_segs.l0 : Nat → List (S45) → List (S65) → Int → Option ((List (S65)))
 | 0,_,_,_ => none
 | k + 1,x0,x3,x4 => if x4 < (x0.length : Int) then (if 0 ≤ x4 then (if x3.length < 5864062014805 then (thwartlaw13_segs.l0 k x0 (x3 ++ [(⟨(rd_T45 x0 x4).f0,(rd_T45 x0 x4).f1,(rd_T45 x0 x4).f2⟩ : S65)]) (wrap64 (x4 + 1))) else (none)) else (none)) else (some x3)
def thwartlaw13_segs.f (k : Nat) (l0 : List (S45)) : Option ((List (S65))):=thwartlaw13_segs.l0 k l0 ([] : List (S65)) 0
theorem thwartlaw13_segs.mono_l : ∀ k,(∀ y0 y1 y2,LeO (thwartlaw13_segs.l0 k y0 y1 y2) (thwartlaw13_segs.l0 (k + 1) y0 y1 y2))
 | 0 => fun _ _ _ r h => by simp [thwartlaw13_segs.l0] at h
 | k + 1 => by
  have ih0:=thwartlaw13_segs.mono_l k
  ·intro y0 y1 y2
   unfold thwartlaw13_segs.l0
   repeat' first
   | (with_reducible exact ih0 _ _ _)
   | (with_reducible exact LeO.refl _)
   | (with_reducible exact LeO.none _)
   | (with_reducible refine LeO.ite ?_ ?_)
   | (with_reducible refine LeO.bind ?_ (fun _ => ?_))
   | exact ih0 _ _ _
   | exact LeO.none _
   | refine LeO.ite ?_ ?_
   | refine LeO.bind ?_ (fun _ => ?_)
theorem thwartlaw13_segs.mono : ∀ a0 k,LeO (thwartlaw13_segs.f k a0) (thwartlaw13_segs.f (k + 1) a0):=by
 intro a0 k
 have ih0:=thwartlaw13_segs.mono_l k
 unfold thwartlaw13_segs.f
 repeat' first
   | (with_reducible exact ih0 _ _ _)
   | (with_reducible exact LeO.refl _)
   | (with_reducible exact LeO.none _)
   | (with_reducible refine LeO.ite ?_ ?_)
   | (with_reducible refine LeO.bind ?_ (fun _ => ?_))
   | exact ih0 _ _ _
   | exact LeO.none _
   | refine LeO.ite ?_ ?_
   | refine LeO.bind ?_ (fun _ => ?_)
def thwartlaw13_segs.T5 : Bool × List (List Nat × List Nat):=(true,[([],[]),([],[]),([],[]),([1,2],[1,2]),([3],[3]),([4],[4]),([],[]),([],[]),([6,7],[6,7]),([8],[8]),([9],[9]),([],[]),([],[]),([11,12],[11,12]),([13],[13]),([14],[14]),([5,10,15],[5,10,15]),([16],[16]),([0,17],[0,17]),([18,18,0,1,2,3,4,5,6,7,8,9,10,11,12,13,14,15,16,17,18],[0,18])])
def thwartlaw13_segs.B5 : List Nat:=[0,0,0,6,14,30,0,0,192,448,960,0,0,6144,14336,30720,65534,131070,262143,524287]
theorem thwartlaw13_segs.tab5 : rtab .any (opsOf Tryz.f21 5) = thwartlaw13_segs.T5:=by kernel_rfl
theorem thwartlaw13_segs.bits5 : waitsOk thwartlaw13_segs.T5.2 thwartlaw13_segs.B5 = true:=by kernel_rfl
set_option maxHeartbeats 8000000 in
set_option maxRecDepth 100000 in
theorem thwartlaw13_segs.calls (k : Nat) (A0 : Option Addr) (c0 : Nat) (l0 : List (S45)) (r : List (S65)) (w : World) (hr0 : Kd.C k45 w A0 l0.length l0) (hc0 : l0.length ≤ c0) (h : thwartlaw13_segs.f k l0 = some r) :
  Calls Tryz.prog 21 #[.slice A0 l0.length c0] w fun e w' => ∃ v0_ : Value,e = .returned (v0_) ∧ Kd.R k65 65 w' w.heap.size (fun _ => True) v0_ r ∧ Below w.heap.size w w' := by
 have hu65:=Tryz.underlying65
 have HR0:=Aside0.mk hr0
 have HC0:=Aside0.mk hc0
 clear hr0 hc0
 have HB:=Aside0.mk (Below.refl w.heap.size w)
 have H : (thwartlaw13_segs.l0 k l0 ([] : List (S65)) 0) = some r:=h
 clear h
 have H' := Aside0.mk H
 clear H
 go_enter Tryz.func21,Tryz.ntmps21
 go_wp2
 go_loopg [3,4] k (fun kq v3 v4 w' => ∃ (x3_1 : List (S65)) (x4_1 : Int),v4 = .int .i64 x4_1 ∧ Aside0 (thwartlaw13_segs.l0 kq l0 x3_1 x4_1 = some r) ∧ Aside0 (kq ≤ k) ∧ Aside0 (Kd.R k65 65 w' w.heap.size (fun _ => True) v3 x3_1) ∧ Aside0 (Below w.heap.size w w'))
 case atStart => exact ⟨(([] : List (S65))),(0),(by first | rfl | (simp;done) | (simp [*];done)),H',⟨Nat.le_refl _⟩,⟨by first | exact Kd.R_nil _ _ _ _ _ | exact Kd.N_nil _ _ _ _ _ | exact Kd.V_nil _ _ _ _ _ | exact Kd.Q_nil _ _ _ _ _ | exact Kd.S_nil _ _ _ _ _⟩,⟨by repeat (first | (with_reducible first | exact HB.out | apply below_alloc | apply pw_below_drewN | apply below_drew1) | exact HB.out)⟩⟩
 case round =>
  clear H'
  obtain ⟨x3_1,x4_1,rfl,HA,HK1,HO_3,HB⟩:=hrel
  cases gk with
  | zero => exact absurd HA.out (by simp [thwartlaw13_segs.l0])
  | succ k1 =>
   have H:=HA.out
   clear HA
   simp only [thwartlaw13_segs.l0] at H
   by_cases c2 : x4_1 < (l0.length : Int)
   ·rw [if_pos c2] at H
    have c2b0 : decide (x4_1 < (l0.length : Int)) = true:=decide_eq_true c2
    clear c2
    by_cases c3 : 0 ≤ x4_1
    ·rw [if_pos c3] at H
     have c3b0 : decide (0 ≤ x4_1) = true:=decide_eq_true c3
     clear c3
     by_cases c4 : x3_1.length < 5864062014805
     ·rw [if_pos c4] at H
      have LMc4:=Aside0.mk c4
      clear c4
      obtain ⟨y357,hy357⟩ : ∃ y_ : List (S65),y_ = (x3_1 ++ [(⟨(rd_T45 l0 x4_1).f0,(rd_T45 l0 x4_1).f1,(rd_T45 l0 x4_1).f2⟩ : S65)]):=⟨_,rfl⟩
      replace H : (thwartlaw13_segs.l0 k1 l0 y357 (wrap64 (x4_1 + 1))) = some r:=by first | (rw [hy357];with_reducible exact H) | (have H2_:=(Option.bind_some _ _).symm.trans H;rw [hy357];with_reducible exact H2_) | (have H2_:=(Option.bind_some _ _).symm.trans H;with_reducible exact H2_) | with_reducible exact H | (rw [hy357];exact H) | exact H
      have Ny357:=Aside0.mk hy357
      clear hy357
      have H' := Aside0.mk H
      clear H
      try go_wp2
      have n0_:=Aside0.mk (Kd.R_drew HO_3.out)
      have n1_:=Aside0.mk (below_drew1 HB.out)
      clear HO_3
      clear HB
      have HO_3:=n0_
      have HB:=n1_
      clear n0_ n1_
      have p354 : 0 ≤ (x4_1 : Int):=of_decide_eq_true (by first | (with_reducible assumption) | assumption)
      have q354 : x4_1 < (l0.length : Int):=of_decide_eq_true (by first | (with_reducible assumption) | assumption)
      obtain ⟨ad354,e354,hx354_0,hx354_1,hx354_2⟩:=at_T45 HR0.out x4_1 p354 q354
      have hw354_2:=hx354_2
      have hw354_1:=hx354_1
      have hw354_0:=hx354_0
      cases e354
      replace hx354_0:=(HB.out.cell (World.block_lt_of_cell? w _ hx354_0)).trans hx354_0
      replace hx354_1:=(HB.out.cell (World.block_lt_of_cell? w _ hx354_1)).trans hx354_1
      replace hx354_2:=(HB.out.cell (World.block_lt_of_cell? w _ hx354_2)).trans hx354_2
      replace p354:=eq_true p354
      replace q354:=eq_true q354
      have p355 : 0 ≤ (x4_1 : Int):=of_decide_eq_true (by first | (with_reducible assumption) | assumption)
      have q355 : x4_1 < (l0.length : Int):=of_decide_eq_true (by first | (with_reducible assumption) | assumption)
      obtain ⟨ad355,e355,hx355_0,hx355_1,hx355_2⟩:=at_T45 HR0.out x4_1 p355 q355
      have hw355_2:=hx355_2
      have hw355_1:=hx355_1
      have hw355_0:=hx355_0
      obtain rfl : ad354 = ad355:=(by injection e355)
      replace hx355_0:=(HB.out.cell (World.block_lt_of_cell? w _ hx355_0)).trans hx355_0
      replace hx355_1:=(HB.out.cell (World.block_lt_of_cell? w _ hx355_1)).trans hx355_1
      replace hx355_2:=(HB.out.cell (World.block_lt_of_cell? w _ hx355_2)).trans hx355_2
      replace p355:=eq_true p355
      replace q355:=eq_true q355
      have p356 : 0 ≤ (x4_1 : Int):=of_decide_eq_true (by first | (with_reducible assumption) | assumption)
      have q356 : x4_1 < (l0.length : Int):=of_decide_eq_true (by first | (with_reducible assumption) | assumption)
      obtain ⟨ad356,e356,hx356_0,hx356_1,hx356_2⟩:=at_T45 HR0.out x4_1 p356 q356
      have hw356_2:=hx356_2
      have hw356_1:=hx356_1
      have hw356_0:=hx356_0
      obtain rfl : ad354 = ad356:=(by injection e356)
      replace hx356_0:=(HB.out.cell (World.block_lt_of_cell? w _ hx356_0)).trans hx356_0
      replace hx356_1:=(HB.out.cell (World.block_lt_of_cell? w _ hx356_1)).trans hx356_1
      replace hx356_2:=(HB.out.cell (World.block_lt_of_cell? w _ hx356_2)).trans hx356_2
      replace p356:=eq_true p356
      replace q356:=eq_true q356
      refine start_ (n:=20) (S:=fun w' => w'.cell? (ad354.add ((x4_1).toNat * 3)) = some (.int .i64 ((rd_T45 l0 x4_1).f0)) ∧ w'.cell? ⟨(ad354.add ((x4_1).toNat * 3)).block,(ad354.add ((x4_1).toNat * 3)).off + 1,none⟩ = some (.int .i64 ((rd_T45 l0 x4_1).f1)) ∧ w'.cell? ⟨(ad354.add ((x4_1).toNat * 3)).block,(ad354.add ((x4_1).toNat * 3)).off + 2,none⟩ = some (.int .u32 ((rd_T45 l0 x4_1).f2)) ∧ w'.cell? (ad354.add ((x4_1).toNat * 3)) = some (.int .i64 ((rd_T45 l0 x4_1).f0)) ∧ w'.cell? ⟨(ad354.add ((x4_1).toNat * 3)).block,(ad354.add ((x4_1).toNat * 3)).off + 1,none⟩ = some (.int .i64 ((rd_T45 l0 x4_1).f1)) ∧ w'.cell? ⟨(ad354.add ((x4_1).toNat * 3)).block,(ad354.add ((x4_1).toNat * 3)).off + 2,none⟩ = some (.int .u32 ((rd_T45 l0 x4_1).f2)) ∧ w'.cell? (ad354.add ((x4_1).toNat * 3)) = some (.int .i64 ((rd_T45 l0 x4_1).f0)) ∧ w'.cell? ⟨(ad354.add ((x4_1).toNat * 3)).block,(ad354.add ((x4_1).toNat * 3)).off + 1,none⟩ = some (.int .i64 ((rd_T45 l0 x4_1).f1)) ∧ w'.cell? ⟨(ad354.add ((x4_1).toNat * 3)).block,(ad354.add ((x4_1).toNat * 3)).off + 2,none⟩ = some (.int .u32 ((rd_T45 l0 x4_1).f2))) (ds:=[]) #[false,false,false,false,false,false,false,false,false,false,false,false,false,false,false,false,false,false,false,false] (by kernel_rfl) rfl rfl ⟨((HB.out.cell (World.block_lt_of_cell? w _ hw354_0)).trans hw354_0),((HB.out.cell (World.block_lt_of_cell? w _ hw354_1)).trans hw354_1),((HB.out.cell (World.block_lt_of_cell? w _ hw354_2)).trans hw354_2),((HB.out.cell (World.block_lt_of_cell? w _ hw355_0)).trans hw355_0),((HB.out.cell (World.block_lt_of_cell? w _ hw355_1)).trans hw355_1),((HB.out.cell (World.block_lt_of_cell? w _ hw355_2)).trans hw355_2),((HB.out.cell (World.block_lt_of_cell? w _ hw356_0)).trans hw356_0),((HB.out.cell (World.block_lt_of_cell? w _ hw356_1)).trans hw356_1),((HB.out.cell (World.block_lt_of_cell? w _ hw356_2)).trans hw356_2)⟩ (fun hHeld => ?_);refine with_tabW thwartlaw13_segs.tab5 thwartlaw13_segs.bits5 (fun HT_ HW_ => ?_)
      generalize wr.drew = w5 at HO_3 HB hx354_0 hx354_1 hx354_2 hx355_0 hx355_1 hx355_2 hx356_0 hx356_1 hx356_2 hHeld ⊢
      refine pure_ (i:=0) (N:=some 11) (v := ?_) (a' := ?_) #[true,false,false,false,false,false,false,false,false,false,false,false,false,false,false,false,false,false,false,false] rfl rfl (any_of HT_.out (by kernel_rfl)) (fun _ _ _ h => h) (Or.inl ⟨by rfl,?_⟩) ?_ ?_
      rotate_left
      ·intro w'
       go_simp
       with_reducible rfl
      rotate_left
      ·simp only [Act.put,List.setIfInBounds_toArray,List.set_cons_zero,List.set_cons_succ,i64_w,i32_w]
       rfl
      refine pure_ (i:=1) (N:=some 12) (v := ?_) (a' := ?_) #[true,true,false,false,false,false,false,false,false,false,false,false,false,false,false,false,false,false,false,false] rfl rfl (any_of HT_.out (by kernel_rfl)) (fun _ _ _ h => h) (Or.inl ⟨by rfl,?_⟩) ?_ ?_
      rotate_left
      ·intro w'
       go_simp
       with_reducible rfl
      rotate_left
      ·simp only [Act.put,List.setIfInBounds_toArray,List.set_cons_zero,List.set_cons_succ,i64_w,i32_w]
       rfl
      refine pure_ (i:=2) (N:=some 13) (v := ?_) (a' := ?_) #[true,true,true,false,false,false,false,false,false,false,false,false,false,false,false,false,false,false,false,false] rfl rfl (any_of HT_.out (by kernel_rfl)) (fun _ _ _ h => h) (Or.inl ⟨by rfl,?_⟩) ?_ ?_
      rotate_left
      ·intro w'
       go_simp
       with_reducible rfl
      rotate_left
      ·simp only [Act.put,List.setIfInBounds_toArray,List.set_cons_zero,List.set_cons_succ,i64_w,i32_w]
       rfl
      refine pure_ (i:=3) (N:=some 14) (v := ?_) (a' := ?_) #[true,true,true,true,false,false,false,false,false,false,false,false,false,false,false,false,false,false,false,false] rfl rfl (any_of HT_.out (by kernel_rfl)) (fun _ _ _ h => h) (Or.inl ⟨by rfl,?_⟩) ?_ ?_
      rotate_left
      ·intro w'
       go_simp
       with_reducible rfl
      rotate_left
      ·simp only [Act.put,List.setIfInBounds_toArray,List.set_cons_zero,List.set_cons_succ,i64_w,i32_w]
       rfl
      refine pure_ (i:=4) (N:=some 15) (v := ?_) (a' := ?_) #[true,true,true,true,true,false,false,false,false,false,false,false,false,false,false,false,false,false,false,false] rfl rfl (any_of HT_.out (by kernel_rfl)) (fun _ _ _ h => h) (Or.inl ⟨by rfl,?_⟩) ?_ ?_
      rotate_left
      ·intro w'
       go_simp
       with_reducible rfl
      rotate_left
      ·simp only [Act.put,List.setIfInBounds_toArray,List.set_cons_zero,List.set_cons_succ,i64_w,i32_w]
       rfl
      refine pure_ (i:=6) (N:=some 17) (v := ?_) (a' := ?_) #[true,true,true,true,true,false,true,false,false,false,false,false,false,false,false,false,false,false,false,false] rfl rfl (any_of HT_.out (by kernel_rfl)) (fun _ _ _ h => h) (Or.inl ⟨by rfl,?_⟩) ?_ ?_
      rotate_left
      ·intro w'
       go_simp
       with_reducible rfl
      rotate_left
      ·simp only [Act.put,List.setIfInBounds_toArray,List.set_cons_zero,List.set_cons_succ,i64_w,i32_w]
       rfl
      refine pure_ (i:=7) (N:=some 18) (v := ?_) (a' := ?_) #[true,true,true,true,true,false,true,true,false,false,false,false,false,false,false,false,false,false,false,false] rfl rfl (any_of HT_.out (by kernel_rfl)) (fun _ _ _ h => h) (Or.inl ⟨by rfl,?_⟩) ?_ ?_
      rotate_left
      ·intro w'
       go_simp
       with_reducible rfl
      rotate_left
      ·simp only [Act.put,List.setIfInBounds_toArray,List.set_cons_zero,List.set_cons_succ,i64_w,i32_w]
       rfl
      refine pure_ (i:=8) (N:=some 19) (v := ?_) (a' := ?_) #[true,true,true,true,true,false,true,true,true,false,false,false,false,false,false,false,false,false,false,false] rfl rfl (any_of HT_.out (by kernel_rfl)) (fun _ _ _ h => h) (Or.inl ⟨by rfl,?_⟩) ?_ ?_
      rotate_left
      ·intro w'
       go_simp
       with_reducible rfl
      rotate_left
      ·simp only [Act.put,List.setIfInBounds_toArray,List.set_cons_zero,List.set_cons_succ,i64_w,i32_w]
       rfl
      refine pure_ (i:=9) (N:=some 20) (v := ?_) (a' := ?_) #[true,true,true,true,true,false,true,true,true,true,false,false,false,false,false,false,false,false,false,false] rfl rfl (any_of HT_.out (by kernel_rfl)) (fun _ _ _ h => h) (Or.inl ⟨by rfl,?_⟩) ?_ ?_
      rotate_left
      ·intro w'
       go_simp
       with_reducible rfl
      rotate_left
      ·simp only [Act.put,List.setIfInBounds_toArray,List.set_cons_zero,List.set_cons_succ,i64_w,i32_w]
       rfl
      refine pure_ (i:=11) (N:=some 22) (v := ?_) (a' := ?_) #[true,true,true,true,true,false,true,true,true,true,false,true,false,false,false,false,false,false,false,false] rfl rfl (any_of HT_.out (by kernel_rfl)) (fun _ _ _ h => h) (Or.inl ⟨by rfl,?_⟩) ?_ ?_
      rotate_left
      ·intro w'
       go_simp
       with_reducible rfl
      rotate_left
      ·simp only [Act.put,List.setIfInBounds_toArray,List.set_cons_zero,List.set_cons_succ,i64_w,i32_w]
       rfl
      refine pure_ (i:=12) (N:=some 23) (v := ?_) (a' := ?_) #[true,true,true,true,true,false,true,true,true,true,false,true,true,false,false,false,false,false,false,false] rfl rfl (any_of HT_.out (by kernel_rfl)) (fun _ _ _ h => h) (Or.inl ⟨by rfl,?_⟩) ?_ ?_
      rotate_left
      ·intro w'
       go_simp
       with_reducible rfl
      rotate_left
      ·simp only [Act.put,List.setIfInBounds_toArray,List.set_cons_zero,List.set_cons_succ,i64_w,i32_w]
       rfl
      refine pure_ (i:=13) (N:=some 24) (v := ?_) (a' := ?_) #[true,true,true,true,true,false,true,true,true,true,false,true,true,true,false,false,false,false,false,false] rfl rfl (any_of HT_.out (by kernel_rfl)) (fun _ _ _ h => h) (Or.inl ⟨by rfl,?_⟩) ?_ ?_
      rotate_left
      ·intro w'
       go_simp
       with_reducible rfl
      rotate_left
      ·simp only [Act.put,List.setIfInBounds_toArray,List.set_cons_zero,List.set_cons_succ,i64_w,i32_w]
       rfl
      refine pure_ (i:=14) (N:=some 25) (v := ?_) (a' := ?_) #[true,true,true,true,true,false,true,true,true,true,false,true,true,true,true,false,false,false,false,false] rfl rfl (any_of HT_.out (by kernel_rfl)) (fun _ _ _ h => h) (Or.inl ⟨by rfl,?_⟩) ?_ ?_
      rotate_left
      ·intro w'
       go_simp
       with_reducible rfl
      rotate_left
      ·simp only [Act.put,List.setIfInBounds_toArray,List.set_cons_zero,List.set_cons_succ,i64_w,i32_w]
       rfl
      refine take_ (i:=5) (N:=some 16) (v := ?_) (a' := ?_) #[true,true,true,true,true,true,true,true,true,true,false,true,true,true,true,false,false,false,false,false] rfl rfl (take_ofW HT_.out HW_.out (by kernel_rfl)) (fun _ _ _ h => h) (Or.inl ⟨by rfl,?_⟩) hHeld ?_ ?_
      rotate_left
      ·rintro w' ⟨s0,s1,s2,s3,s4,s5,s6,s7,s8⟩
       go_simp
       with_reducible rfl
      rotate_left
      ·simp only [Act.put,List.setIfInBounds_toArray,List.set_cons_zero,List.set_cons_succ,i64_w,i32_w]
       rfl
      refine take_ (i:=10) (N:=some 21) (v := ?_) (a' := ?_) #[true,true,true,true,true,true,true,true,true,true,true,true,true,true,true,false,false,false,false,false] rfl rfl (take_ofW HT_.out HW_.out (by kernel_rfl)) (fun _ _ _ h => h) (Or.inl ⟨by rfl,?_⟩) hHeld ?_ ?_
      rotate_left
      ·rintro w' ⟨s0,s1,s2,s3,s4,s5,s6,s7,s8⟩
       go_simp
       with_reducible rfl
      rotate_left
      ·simp only [Act.put,List.setIfInBounds_toArray,List.set_cons_zero,List.set_cons_succ,i64_w,i32_w]
       rfl
      refine take_ (i:=15) (N:=some 26) (v := ?_) (a' := ?_) #[true,true,true,true,true,true,true,true,true,true,true,true,true,true,true,true,false,false,false,false] rfl rfl (take_ofW HT_.out HW_.out (by kernel_rfl)) (fun _ _ _ h => h) (Or.inl ⟨by rfl,?_⟩) hHeld ?_ ?_
      rotate_left
      ·rintro w' ⟨s0,s1,s2,s3,s4,s5,s6,s7,s8⟩
       go_simp
       with_reducible rfl
      rotate_left
      ·simp only [Act.put,List.setIfInBounds_toArray,List.set_cons_zero,List.set_cons_succ,i64_w,i32_w]
       rfl
      refine pure_ (i:=16) (N:=some 27) (v := ?_) (a' := ?_) #[true,true,true,true,true,true,true,true,true,true,true,true,true,true,true,true,true,false,false,false] rfl rfl (any_of HT_.out (by kernel_rfl)) (fun _ _ _ h => h) (Or.inl ⟨by rfl,?_⟩) ?_ ?_
      rotate_left
      ·intro w'
       go_simp
       with_reducible rfl
      rotate_left
      ·simp only [Act.put,List.setIfInBounds_toArray,List.set_cons_zero,List.set_cons_succ,i64_w,i32_w]
       rfl
      refine one_ (i:=17) (N:=some 28) #[true,true,true,true,true,true,true,true,true,true,true,true,true,true,true,true,true,true,false,false] rfl rfl (one_of HT_.out (by kernel_rfl)) (by decide) (fun K hK => ?_)
      refine value_ (w1 := ?_) (v := ?_) (by rfl) rfl ?_ ?_
      rotate_left 2
      ·go_simp
       constructor
       ·rfl
       ·rfl
      refine hK.out _ _ ⟨(World.cell?_alloc_lt _ _ _ (World.block_lt_of_cell? _ _ (((HB.out.cell (World.block_lt_of_cell? w _ hw354_0)).trans hw354_0)))).trans (((HB.out.cell (World.block_lt_of_cell? w _ hw354_0)).trans hw354_0)),(World.cell?_alloc_lt _ _ _ (World.block_lt_of_cell? _ _ (((HB.out.cell (World.block_lt_of_cell? w _ hw354_1)).trans hw354_1)))).trans (((HB.out.cell (World.block_lt_of_cell? w _ hw354_1)).trans hw354_1)),(World.cell?_alloc_lt _ _ _ (World.block_lt_of_cell? _ _ (((HB.out.cell (World.block_lt_of_cell? w _ hw354_2)).trans hw354_2)))).trans (((HB.out.cell (World.block_lt_of_cell? w _ hw354_2)).trans hw354_2)),(World.cell?_alloc_lt _ _ _ (World.block_lt_of_cell? _ _ (((HB.out.cell (World.block_lt_of_cell? w _ hw355_0)).trans hw355_0)))).trans (((HB.out.cell (World.block_lt_of_cell? w _ hw355_0)).trans hw355_0)),(World.cell?_alloc_lt _ _ _ (World.block_lt_of_cell? _ _ (((HB.out.cell (World.block_lt_of_cell? w _ hw355_1)).trans hw355_1)))).trans (((HB.out.cell (World.block_lt_of_cell? w _ hw355_1)).trans hw355_1)),(World.cell?_alloc_lt _ _ _ (World.block_lt_of_cell? _ _ (((HB.out.cell (World.block_lt_of_cell? w _ hw355_2)).trans hw355_2)))).trans (((HB.out.cell (World.block_lt_of_cell? w _ hw355_2)).trans hw355_2)),(World.cell?_alloc_lt _ _ _ (World.block_lt_of_cell? _ _ (((HB.out.cell (World.block_lt_of_cell? w _ hw356_0)).trans hw356_0)))).trans (((HB.out.cell (World.block_lt_of_cell? w _ hw356_0)).trans hw356_0)),(World.cell?_alloc_lt _ _ _ (World.block_lt_of_cell? _ _ (((HB.out.cell (World.block_lt_of_cell? w _ hw356_1)).trans hw356_1)))).trans (((HB.out.cell (World.block_lt_of_cell? w _ hw356_1)).trans hw356_1)),(World.cell?_alloc_lt _ _ _ (World.block_lt_of_cell? _ _ (((HB.out.cell (World.block_lt_of_cell? w _ hw356_2)).trans hw356_2)))).trans (((HB.out.cell (World.block_lt_of_cell? w _ hw356_2)).trans hw356_2))⟩ (fun hHeld => ?_)
      clear hK K
      refine norm_ (a' := ?_) ?_ ?_
      rotate_left
      ·show Act.put _ (some 28) _ = _
       simp only [Act.put,List.setIfInBounds_toArray,List.set_cons_zero,List.set_cons_succ,i64_w,i32_w]
       rfl
      refine one_ (i:=18) (N:=some 29) #[true,true,true,true,true,true,true,true,true,true,true,true,true,true,true,true,true,true,true,false] rfl rfl (one_of HT_.out (by kernel_rfl)) (by decide) (fun K hK => ?_)
      refine Kd.R_append_step k65 (w0:=w) w.heap.size (by rfl) (.tmp 11) (.tmp 28) 30 65 (.agg #[(.int .i64 0),(.int .i64 0),(.int .u32 0)]) 24 rfl Tryz.underlying30 info65 rfl (by decide) (by omega) u3 x3_1 (⟨(rd_T45 l0 x4_1).f0,(rd_T45 l0 x4_1).f1,(rd_T45 l0 x4_1).f2⟩ : S65) [.int .i64 ((rd_T45 l0 x4_1).f0),.int .i64 ((rd_T45 l0 x4_1).f1),.int .u32 ((rd_T45 l0 x4_1).f2)] (fun _ => True) (fun _ => False) rfl rfl ?aP (fun _ hk => hk.elim) ?aF ?aO ?aB ?aS ?aL ?_
      (case aP => exact k65_mkM _ _ _ (⟨(rd_T45 l0 x4_1).f0,(rd_T45 l0 x4_1).f1,(rd_T45 l0 x4_1).f2⟩ : S65))
      (case aB => exact (by repeat (first | (with_reducible first | exact HB.out | apply below_alloc | apply pw_below_drewN | apply below_drew1) | exact HB.out)))
      (case aF => exact (fun _ _ => trivial))
      (case aO => exact (by (with_reducible repeat (first | apply Kd.R_alloc | apply Kd.R_drewN | apply Kd.R_drew));exact HO_3.out))
      (case aS => exact (below_size (by repeat (first | (with_reducible first | exact HB.out | apply below_alloc | apply pw_below_drewN | apply below_drew1) | exact HB.out))))
      (case aL => have:=LMc4.out;omega)
      intro v358 w6 ho hb hg hat
      rw [← Ny357.out] at ho
      have n0_:=Aside0.mk (hb)
      have n1_:=Aside0.mk (ho)
      clear HB
      clear HO_3
      have HB:=n0_
      have HO359:=n1_
      clear n0_ n1_
      clear ho hb hg hat
      refine hK.out _ _ ⟨((HB.out.cell (World.block_lt_of_cell? w _ hw354_0)).trans hw354_0),((HB.out.cell (World.block_lt_of_cell? w _ hw354_1)).trans hw354_1),((HB.out.cell (World.block_lt_of_cell? w _ hw354_2)).trans hw354_2),((HB.out.cell (World.block_lt_of_cell? w _ hw355_0)).trans hw355_0),((HB.out.cell (World.block_lt_of_cell? w _ hw355_1)).trans hw355_1),((HB.out.cell (World.block_lt_of_cell? w _ hw355_2)).trans hw355_2),((HB.out.cell (World.block_lt_of_cell? w _ hw356_0)).trans hw356_0),((HB.out.cell (World.block_lt_of_cell? w _ hw356_1)).trans hw356_1),((HB.out.cell (World.block_lt_of_cell? w _ hw356_2)).trans hw356_2)⟩ (fun hHeld => ?_)
      clear hK K
      refine norm_ (a' := ?_) ?_ ?_
      rotate_left
      ·show Act.put _ (some 29) _ = _
       simp only [Act.put,List.setIfInBounds_toArray,List.set_cons_zero,List.set_cons_succ,i64_w,i32_w]
       rfl
      refine pure_ (i:=19) (N:=some 3) (v := ?_) (a' := ?_) #[true,true,true,true,true,true,true,true,true,true,true,true,true,true,true,true,true,true,true,true] rfl rfl (any_of HT_.out (by kernel_rfl)) (fun _ _ _ h => h) (Or.inl ⟨by rfl,?_⟩) ?_ ?_
      rotate_left
      ·intro w'
       go_simp
       with_reducible rfl
      rotate_left
      ·simp only [Act.put,List.setIfInBounds_toArray,List.set_cons_zero,List.set_cons_succ,i64_w,i32_w]
       rfl
      refine done_ (done_of HT_.out (by kernel_rfl)) ?_
      try go_wp2
      go_roundg k1
      case measure => have:=HK1.out;omega
      case rel => exact ⟨(y357),(wrap64 (x4_1 + 1)),(by first | rfl | (simp;done) | (simp [*];done)),H',⟨by have:=HK1.out;omega⟩,⟨by (with_reducible repeat (first | apply Kd.R_alloc | apply Kd.R_drewN | apply Kd.R_drew));exact HO359.out⟩,⟨by repeat (first | (with_reducible first | exact HB.out | apply below_alloc | apply pw_below_drewN | apply below_drew1) | exact HB.out)⟩⟩
     ·rw [if_neg c4] at H
      exact absurd H (by simp)
    ·rw [if_neg c3] at H
     exact absurd H (by simp)
   ·rw [if_neg c2] at H
    have c2b0 : decide (x4_1 < (l0.length : Int)) = false:=decide_eq_false c2
    clear c2
    obtain rfl:=Option.some.inj H
    go_wp2
    go_ret
    exact ⟨_,by first | rfl | (simp [errW_none,errW_some] <;> rfl) | (simp [*,errW_none,errW_some] <;> rfl) | (simp [errW_none,errW_some];exact isEmpty_bne _),by (with_reducible repeat (first | apply Kd.R_alloc | apply Kd.R_drewN | apply Kd.R_drew));exact HO_3.out,by repeat (first | (with_reducible first | exact HB.out | apply below_alloc | apply pw_below_drewN | apply below_drew1) | exact HB.out)⟩

/-! ### thwartlaw13_to: function 11 -/
def thwartlaw13_to.f (k : Nat) (a0_0 : Int) (l0_1 : List (S45)) : Option (Int × (List (S65))):=(thwartlaw13_segs.f k l0_1).bind fun t362 => (some (a0_0,t362))
theorem thwartlaw13_to.mono : ∀ a0 a1 k,LeO (thwartlaw13_to.f k a0 a1) (thwartlaw13_to.f (k + 1) a0 a1):=by
 intro a0 a1 k
 unfold thwartlaw13_to.f
 repeat' first
   | (with_reducible exact thwartlaw13_segs.mono _ _)
   | (with_reducible exact LeO.refl _)
   | (with_reducible exact LeO.none _)
   | (with_reducible refine LeO.ite ?_ ?_)
   | (with_reducible refine LeO.bind ?_ (fun _ => ?_))
   | exact thwartlaw13_segs.mono _ _
   | exact LeO.none _
   | refine LeO.ite ?_ ?_
   | refine LeO.bind ?_ (fun _ => ?_)
set_option maxHeartbeats 8000000 in
set_option maxRecDepth 100000 in
theorem thwartlaw13_to.calls (k : Nat) (a0_0 : Int) (A0_1 : Option Addr) (c0_1 : Nat) (l0_1 : List (S45)) (r1 : Int) (r2 : List (S65)) (w : World) (hr0_1 : Kd.C k45 w A0_1 l0_1.length l0_1) (hc0_1 : l0_1.length ≤ c0_1) (h : thwartlaw13_to.f k a0_0 l0_1 = some (r1,r2)) :
  Calls Tryz.prog 11 #[.agg #[.int .i64 a0_0,.slice A0_1 l0_1.length c0_1]] w fun e w' => ∃ v1_ : Value,e = .returned (.agg #[.int .i64 r1,v1_]) ∧ Kd.R k65 65 w' w.heap.size (fun _ => True) v1_ r2 ∧ Below w.heap.size w w' := by
 have hu25:=Tryz.underlying25
 have hu32:=Tryz.underlying32
 have HR0_1:=Aside0.mk hr0_1
 have HC0_1:=Aside0.mk hc0_1
 clear hr0_1 hc0_1
 have HB:=Aside0.mk (Below.refl w.heap.size w)
 have H : ((thwartlaw13_segs.f k l0_1).bind fun t362 => (some (a0_0,t362))) = some (r1,r2):=h
 clear h
 replace H:=Option.bind_eq_some_iff.mp H
 obtain ⟨t362,A20,H⟩:=H
 replace H : (some (a0_0,t362)) = some (r1,r2):=H
 have A2:=Aside0.mk A20
 clear A20
 simp only [Option.some.injEq,Prod.mk.injEq] at H
 obtain ⟨rfl,rfl⟩:=H
 go_enter Tryz.func11,Tryz.ntmps11
 try go_wp2_with (first | ((with_reducible refine gate_dst (N:=1) rfl ?_);refine box_event ?hg (N:=1) ?hd (cs := #[.int .i64 a0_0,.slice A0_1 l0_1.length c0_1]) (t:=25) ?hr ?_;(case hd => rfl);(case hg => rfl);(case hr => first | (go_simp;done) | (go_simp;rfl));intro gb360 hg w3 hbox hb;have n0_:=Aside0.mk (below_step (by repeat (first | (with_reducible first | exact HB.out | apply below_alloc | apply pw_below_drewN | apply below_drew1) | exact HB.out)) hb);have n1_:=Aside0.mk (hbox);have n2_:=Aside0.mk ((by rw [hg];exact (below_size (by repeat (first | (with_reducible first | exact HB.out | apply below_alloc | apply pw_below_drewN | apply below_drew1) | exact HB.out))) : w.heap.size ≤ gb360));have n3_:=Aside0.mk ((by rw [hg];exact (below_size (by repeat (first | (with_reducible first | exact HB.out | apply below_alloc | apply pw_below_drewN | apply below_drew1) | exact HB.out))) : w.heap.size ≤ gb360));clear HB;have HB:=n0_;have BK360:=n1_;have GW360:=n2_;have GE360:=n3_;clear n0_ n1_ n2_ n3_;clear hb hbox hg) | ((with_reducible refine gate_dst (N:=2) rfl ?_);refine box_event ?hg (N:=2) ?hd (cs := #[.int .i64 0,.slice none 0 0]) (t:=32) ?hr ?_;(case hd => rfl);(case hg => rfl);(case hr => first | (go_simp;done) | (go_simp;rfl));intro gb361 hg w4 hbox hb;have n0_:=Aside0.mk (blk_below (g:=gb360) (o := .cells #[.int .i64 a0_0,.slice A0_1 l0_1.length c0_1] 25 (0,0)) (by (with_reducible repeat (first | refine blk_drewN ?_ _ | refine blk_drew ?_ | refine blk_alloc ?_ _));exact BK360.out) hb);have n1_:=Aside0.mk (below_step (by repeat (first | (with_reducible first | exact HB.out | apply below_alloc | apply pw_below_drewN | apply below_drew1 | refine below_set ?_ GE360.out) | exact HB.out)) hb);have n2_:=Aside0.mk (hbox);have n3_:=Aside0.mk ((by rw [hg];exact (below_size (by repeat (first | (with_reducible first | exact HB.out | apply below_alloc | apply pw_below_drewN | apply below_drew1 | refine below_set ?_ GE360.out) | exact HB.out))) : w.heap.size ≤ gb361));have n4_:=Aside0.mk ((by rw [hg];exact (below_size (by repeat (first | (with_reducible first | exact HB.out | apply below_alloc | apply pw_below_drewN | apply below_drew1 | refine below_set ?_ GE360.out) | exact HB.out))) : w.heap.size ≤ gb361));have n5_:=Aside0.mk ((by rw [hg];exact Nat.ne_of_lt (blk_lt (g:=gb360) (o := .cells #[.int .i64 a0_0,.slice A0_1 l0_1.length c0_1] 25 (0,0)) (by (with_reducible repeat (first | refine blk_drewN ?_ _ | refine blk_drew ?_ | refine blk_alloc ?_ _));exact BK360.out)) : gb360 ≠ gb361));have n6_:=Aside0.mk ((by rw [hg];exact Nat.ne_of_gt (blk_lt (g:=gb360) (o := .cells #[.int .i64 a0_0,.slice A0_1 l0_1.length c0_1] 25 (0,0)) (by (with_reducible repeat (first | refine blk_drewN ?_ _ | refine blk_drew ?_ | refine blk_alloc ?_ _));exact BK360.out)) : gb361 ≠ gb360));clear BK360;clear HB;have BK360:=n0_;have HB:=n1_;have BK361:=n2_;have GW361:=n3_;have GE361:=n4_;have NB360_361:=n5_;have NB361_360:=n6_;clear n0_ n1_ n2_ n3_ n4_ n5_ n6_;clear hb hbox hg))
 have n0_:=Aside0.mk (blk_drew BK360.out)
 have n1_:=Aside0.mk (blk_drew BK361.out)
 have n2_:=Aside0.mk (below_drew1 HB.out)
 clear BK360
 clear BK361
 clear HB
 have BK360:=n0_
 have BK361:=n1_
 have HB:=n2_
 clear n0_ n1_ n2_
 refine start_ (n:=7) (S:=fun w' => w'.cell? ⟨gb360,0,none⟩ = some (.int .i64 a0_0) ∧ w'.cell? ⟨gb360,1,none⟩ = some (.slice A0_1 l0_1.length c0_1)) (ds:=[]) #[false,false,false,false,false,false,false] (by kernel_rfl) rfl rfl ⟨(blk_cell BK360.out 0).trans rfl,(blk_cell BK360.out 1).trans rfl⟩ (fun hHeld => ?_)
 generalize w4.drew = w5 at BK360 BK361 HB hHeld ⊢
 refine pure_ (i:=0) (N:=some 3) (v := ?_) (a' := ?_) #[true,false,false,false,false,false,false] rfl rfl (by kernel_rfl) (fun _ _ _ h => h) (Or.inl ⟨by rfl,?_⟩) ?_ ?_
 rotate_left
 ·intro w'
  go_simp
  with_reducible rfl
 rotate_left
 ·simp only [Act.put,List.setIfInBounds_toArray,List.set_cons_zero,List.set_cons_succ,i64_w,i32_w]
  rfl
 refine pure_ (i:=2) (N:=some 5) (v := ?_) (a' := ?_) #[true,false,true,false,false,false,false] rfl rfl (by kernel_rfl) (fun _ _ _ h => h) (Or.inl ⟨by rfl,?_⟩) ?_ ?_
 rotate_left
 ·intro w'
  go_simp
  with_reducible rfl
 rotate_left
 ·simp only [Act.put,List.setIfInBounds_toArray,List.set_cons_zero,List.set_cons_succ,i64_w,i32_w]
  rfl
 refine take_ (i:=1) (N:=some 4) (v := ?_) (a' := ?_) #[true,true,true,false,false,false,false] rfl rfl (by kernel_rfl) (fun _ _ _ h => h) (Or.inl ⟨by rfl,?_⟩) hHeld ?_ ?_
 rotate_left
 ·rintro w' ⟨s0,s1⟩
  go_simp
  with_reducible rfl
 rotate_left
 ·simp only [Act.put,List.setIfInBounds_toArray,List.set_cons_zero,List.set_cons_succ,i64_w,i32_w]
  rfl
 refine take_ (i:=3) (N:=some 6) (v := ?_) (a' := ?_) #[true,true,true,true,false,false,false] rfl rfl (by kernel_rfl) (fun _ _ _ h => h) (Or.inl ⟨by rfl,?_⟩) hHeld ?_ ?_
 rotate_left
 ·rintro w' ⟨s0,s1⟩
  go_simp
  with_reducible rfl
 rotate_left
 ·simp only [Act.put,List.setIfInBounds_toArray,List.set_cons_zero,List.set_cons_succ,i64_w,i32_w]
  rfl
 refine one_ (i:=4) (N:=some 7) #[true,true,true,true,true,false,false] rfl rfl (by kernel_rfl) (by decide) (fun K hK => ?_)
 refine goes_ Tryz.func21 (by kernel_rfl) rfl #[.slice A0_1 l0_1.length c0_1] (by rfl) rfl rfl (by (try simp only [List.map_toArray,List.map_cons,List.map_nil]);first | done | rfl | (simp only [List.length_drop,List.length_take];rfl)) ?_
 with_reducible refine (thwartlaw13_segs.calls k _ _ l0_1 t362 _ ?side1 ?side2 A2.out).mono ?_
 (case side1 => repeat (first | exact (Kd.C_below HR0_1.out HB.out) | (with_reducible refine Kd.C_alloc ?_ _) | (with_reducible refine Kd.C_drewN ?_ _) | (with_reducible refine Kd.C_drew ?_)))
 (case side2 => exact HC0_1.out)
 rintro e w6 ⟨v363,rfl,ho0,hb⟩
 refine ⟨_,rfl,?_⟩
 have n0_:=Aside0.mk (Kd.R_lower ho0 (below_size (by repeat (first | (with_reducible first | exact HB.out | apply below_alloc | apply pw_below_drewN | apply below_drew1 | refine below_set ?_ GE360.out | refine below_set ?_ GE361.out) | exact HB.out))))
 have n1_:=Aside0.mk (blk_below (g:=gb360) (o := .cells #[.int .i64 a0_0,.slice A0_1 l0_1.length c0_1] 25 (0,0)) (by (with_reducible repeat (first | refine blk_drewN ?_ _ | refine blk_drew ?_ | refine blk_alloc ?_ _));exact BK360.out) hb)
 have n2_:=Aside0.mk (blk_below (g:=gb361) (o := .cells #[.int .i64 0,.slice none 0 0] 32 (0,0)) (by (with_reducible repeat (first | refine blk_drewN ?_ _ | refine blk_drew ?_ | refine blk_alloc ?_ _));exact BK361.out) hb)
 have n3_:=Aside0.mk (below_step (by repeat (first | (with_reducible first | exact HB.out | apply below_alloc | apply pw_below_drewN | apply below_drew1 | refine below_set ?_ GE360.out | refine below_set ?_ GE361.out) | exact HB.out)) hb)
 clear BK360
 clear BK361
 clear HB
 have HO364:=n0_
 have BK360:=n1_
 have BK361:=n2_
 have HB:=n3_
 clear n0_ n1_ n2_ n3_
 (try clear hb)
 (try clear hb2)
 (try clear hk)
 (try clear hi)
 (try clear ho0)
 obtain ⟨Ao7,co7,eo7⟩:=Kd.R_slice HO364.out
 (first | subst eo7 | (injection eo7 with f1_ f2_ f3_;have f4_:=f1_.symm;have f5_:=f3_.symm;clear f1_ f2_ f3_;subst f4_;subst f5_))
 refine hK.out _ _ ⟨(blk_cell BK360.out 0).trans rfl,(blk_cell BK360.out 1).trans rfl⟩ (fun hHeld => ?_)
 clear hK K
 refine norm_ (a' := ?_) ?_ ?_
 rotate_left
 ·show Act.put _ (some 7) _ = _
  simp only [Act.put,List.setIfInBounds_toArray,List.set_cons_zero,List.set_cons_succ,i64_w,i32_w]
  rfl
 refine pure_ (i:=5) (N:=some 8) (v := ?_) (a' := ?_) #[true,true,true,true,true,true,false] rfl rfl (by kernel_rfl) (fun _ _ _ h => h) (Or.inl ⟨by rfl,?_⟩) ?_ ?_
 rotate_left
 ·intro w'
  go_simp
  with_reducible rfl
 rotate_left
 ·simp only [Act.put,List.setIfInBounds_toArray,List.set_cons_zero,List.set_cons_succ,i64_w,i32_w]
  rfl
 refine one_ (i:=6) (N:=none) #[true,true,true,true,true,true,true] rfl rfl (by kernel_rfl) (by decide) (fun K hK => ?_)
 have hs8 : w6.cell? ⟨gb361,0,none⟩ = some (.int .i64 0):=(blk_cell BK361.out 0).trans rfl
 have hfs8:=blk_frozen BK361.out 0
 have hns8_0:=NB360_361.out
 have hms8_0:=NB361_360.out
 have hs9 : w6.cell? ⟨gb361,1,none⟩ = some (.slice none 0 0):=(blk_cell BK361.out 1).trans rfl
 have hfs9:=blk_frozen BK361.out 1
 have hns9_0:=NB360_361.out
 have hms9_0:=NB361_360.out
 refine skip_ (w1 := ?_) (by rfl) rfl ?_ ?_
 rotate_left
 ·go_simp
  rfl
 refine hK.out _ _ ⟨((cell_far (p:=⟨gb361,_,none⟩) NB360_361.out _).trans (((cell_far (p:=⟨gb361,_,none⟩) NB360_361.out _).trans (hHeld.1)))),((cell_far (p:=⟨gb361,_,none⟩) NB360_361.out _).trans (((cell_far (p:=⟨gb361,_,none⟩) NB360_361.out _).trans (hHeld.2))))⟩ (fun hHeld => ?_)
 clear hK K
 refine done_ (by kernel_rfl) ?_
 try go_wp2
 refine bodyPost_ret (results_cell_row rfl _ _ gb361 32 #[.int .i64 a0_0,.slice Ao7 t362.length co7] (0,0) _ rfl (by (with_reducible repeat (first | refine blk_drewN ?_ _ | refine blk_drew ?_ | refine blk_alloc ?_ _));refine blk_put (cs := #[.int .i64 a0_0,.slice none 0 0]) ?_ 1 _ rfl;(with_reducible repeat (first | refine blk_drewN ?_ _ | refine blk_drew ?_ | refine blk_alloc ?_ _));refine blk_put (cs := #[.int .i64 0,.slice none 0 0]) ?_ 0 _ rfl;(with_reducible repeat (first | refine blk_drewN ?_ _ | refine blk_drew ?_ | refine blk_alloc ?_ _));exact BK361.out) Tryz.underlying32 rfl (by kernel_rfl)) rfl ?_
 exact ⟨_,by first | rfl | (simp [errW_none,errW_some] <;> rfl) | (simp [*,errW_none,errW_some] <;> rfl) | (simp [errW_none,errW_some];exact isEmpty_bne _),by (with_reducible repeat (first | apply Kd.R_alloc | apply Kd.R_drewN | apply Kd.R_drew));exact Kd.R_mono (Kd.R_far (p:=⟨gb361,1,none⟩) (Kd.R_far (p:=⟨gb361,0,none⟩) (Kd.R_types HO364.out BK361.out (by decide)) (fun _ hk => hk.2) (.int .i64 a0_0)) (fun _ hk => hk.2) (.slice Ao7 t362.length co7)) (fun _ hk => trivial),by repeat (first | (with_reducible first | exact HB.out | apply below_alloc | apply pw_below_drewN | apply below_drew1 | refine below_set ?_ GE360.out | refine below_set ?_ GE361.out) | exact HB.out)⟩

-- NOT PRINTED: function 3 (thwartlaw13_PublishWaste)

-- NOT PRINTED: function 41 (slices_Clone_int_int)

-- NOT PRINTED: function 13 (remote_Remote_Script)

-- NOT PRINTED: function 4 (thwartlaw13_PublishOnce)

-- NOT PRINTED: function 5 (thwartlaw13_PublishBack)

-- NOT PRINTED: function 62 (thwartref07_Remote_fate)

-- NOT PRINTED: function 52 (thwartref07_Remote_List)

/-- A state of type 57 at block g of W;what its slices lead to came in by w0. -/
def IsS57 (w0 W : World) (g : Nat) (f0 : List (S137)) (f1 : List Int) (f2 : Int) : Prop := ∃ A0 c0,∃ A1 c1,W.heap[g]? = some (.cells #[.slice A0 f0.length c0,.slice A1 f1.length c1,.int .i64 f2] 57 (0,0)) ∧ w0.heap.size ≤ g ∧ Kd.C k137 w0 A0 f0.length f0 ∧ Kd.C (Kd.int .i64) w0 A1 f1.length f1
theorem IsS57.grown {w0 W : World} {g : Nat} {f0 : List (S137)} {f1 : List Int} {f2 : Int} {W1 : World} {row : Option Nat} (h : IsS57 w0 W g f0 f1 f2) (hw : W.grownBy W1 row) (hne : some g ≠ row) : IsS57 w0 W1 g f0 f1 f2:=by
 obtain ⟨A0,c0,A1,c1,hb,hg,hr0,hr1⟩:=h
 exact ⟨A0,c0,A1,c1,blk_grown hb hw hne,hg,hr0,hr1⟩
theorem IsS57.own_neN {w0 W : World} {g : Nat} {f0 : List (S137)} {f1 : List Int} {f2 : Int} {α : Type} {d : Kd α} {e : Nat} {base : Nat} {ok : Nat → Prop} {v : Value} {xs : List α} (h : IsS57 w0 W g f0 f1 f2) (ho : Kd.N d e W base ok v xs) (ht : e ≠ 57) : some g ≠ v.ownBlock:=by
 obtain ⟨A0,c0,A1,c1,hb,hg,hr0,hr1⟩:=h
 exact Kd.N_ne ho hb ht
theorem IsS57.fresh {w0 W : World} {g : Nat} {f0 : List (S137)} {f1 : List Int} {f2 : Int} (h : IsS57 w0 W g f0 f1 f2) : ∀ k,W.heap.size ≤ k → k ≠ g:=by
 obtain ⟨A0,c0,A1,c1,hb,hg,hr0,hr1⟩:=h
 exact Kd.freshB hb
theorem IsS57.kept {w0 W : World} {g : Nat} {f0 : List (S137)} {f1 : List Int} {f2 : Int} {W1 : World} {S : Nat → Prop} (h : IsS57 w0 W g f0 f1 f2) (hk : Kept W W1 S) (hne : ¬ S g) : IsS57 w0 W1 g f0 f1 f2:=by
 obtain ⟨A0,c0,A1,c1,hb,hg,hr0,hr1⟩:=h
 exact ⟨A0,c0,A1,c1,blk_kept hb hk hne,hg,hr0,hr1⟩
theorem IsS57.below {w0 W : World} {g : Nat} {f0 : List (S137)} {f1 : List Int} {f2 : Int} {W1 : World} (h : IsS57 w0 W g f0 f1 f2) (hw : Below W.heap.size W W1) : IsS57 w0 W1 g f0 f1 f2:=h.grown (grown_of_below hw none) (by simp)
theorem IsS57.alloc {w0 W : World} {g : Nat} {f0 : List (S137)} {f1 : List Int} {f2 : Int} (h : IsS57 w0 W g f0 f1 f2) (o : Obj) : IsS57 w0 (W.alloc o) g f0 f1 f2:=h.below (below_alloc (Below.refl _ _) o)
theorem IsS57.drewN {w0 W : World} {g : Nat} {f0 : List (S137)} {f1 : List Int} {f2 : Int} (h : IsS57 w0 W g f0 f1 f2) (m : Nat) : IsS57 w0 (W.drewN m) g f0 f1 f2:=h
theorem IsS57.drew {w0 W : World} {g : Nat} {f0 : List (S137)} {f1 : List Int} {f2 : Int} (h : IsS57 w0 W g f0 f1 f2) : IsS57 w0 W.drew g f0 f1 f2:=h
theorem IsS57.at_ {w0 W : World} {g : Nat} {f0 : List (S137)} {f1 : List Int} {f2 : Int} {w' : World} {m : Nat} (hq : W.drewN m = w') (h : IsS57 w0 W g f0 f1 f2) : IsS57 w0 w' g f0 f1 f2:=by subst hq;exact IsS57.drewN h m
theorem IsS57.apart {w0 W : World} {g : Nat} {f0 : List (S137)} {f1 : List Int} {f2 : Int} {α : Type} {d : Kd α} {e : Nat} {base : Nat} {ok : Nat → Prop} {v : Value} {xs : List α} (h : IsS57 w0 W g f0 f1 f2) (ho : d.R e W base ok v xs) (ht : ∀ q,q ∈ e :: d.E → q ≠ 57) : d.R e W base (fun k => ok k ∧ k ≠ g) v xs:=by
 obtain ⟨A0,c0,A1,c1,hb,hg,hr0,hr1⟩:=h
 exact Kd.R_types ho hb ht
theorem IsS57.own_ne {w0 W : World} {g : Nat} {f0 : List (S137)} {f1 : List Int} {f2 : Int} {α : Type} {d : Kd α} {e : Nat} {base : Nat} {ok : Nat → Prop} {v : Value} {xs : List α} (h : IsS57 w0 W g f0 f1 f2) (ho : d.R e W base ok v xs) (ht : e ≠ 57) : some g ≠ v.ownBlock:=by
 obtain ⟨A0,c0,A1,c1,hb,hg,hr0,hr1⟩:=h
 exact Kd.R_ne ho hb ht
theorem IsS57.apartQ {w0 W : World} {g : Nat} {f0 : List (S137)} {f1 : List Int} {f2 : Int} {α : Type} {d : Kd α} {e : Nat} {base : Nat} {ok : Nat → Prop} {v : Value} {xs : List α} (h : IsS57 w0 W g f0 f1 f2) (ho : d.Q e W base ok v xs) (ht : ∀ q,q ∈ e :: d.E → q ≠ 57) : d.Q e W base (fun k => ok k ∧ k ≠ g) v xs:=by
 obtain ⟨A0,c0,A1,c1,hb,hg,hr0,hr1⟩:=h
 exact Kd.Q_types ho hb ht
theorem IsS57.own_neQ {w0 W : World} {g : Nat} {f0 : List (S137)} {f1 : List Int} {f2 : Int} {α : Type} {d : Kd α} {e : Nat} {base : Nat} {ok : Nat → Prop} {v : Value} {xs : List α} (h : IsS57 w0 W g f0 f1 f2) (ho : d.Q e W base ok v xs) (ht : e ≠ 57) : some g ≠ v.ownBlock:=by
 obtain ⟨A0,c0,A1,c1,hb,hg,hr0,hr1⟩:=h
 exact Kd.Q_ne ho hb ht
theorem IsS57.apartS {w0 W : World} {g : Nat} {f0 : List (S137)} {f1 : List Int} {f2 : Int} {α : Type} {d : Kd α} {e : Nat} {base : Nat} {ok : Nat → Prop} {v : Value} {xs : List α} (h : IsS57 w0 W g f0 f1 f2) (ho : d.S e W base ok v xs) (ht : ∀ q,q ∈ e :: d.E → q ≠ 57) : d.S e W base (fun k => ok k ∧ k ≠ g) v xs:=by
 obtain ⟨A0,c0,A1,c1,hb,hg,hr0,hr1⟩:=h
 exact Kd.S_types ho hb ht
theorem IsS57.own_neS {w0 W : World} {g : Nat} {f0 : List (S137)} {f1 : List Int} {f2 : Int} {α : Type} {d : Kd α} {e : Nat} {base : Nat} {ok : Nat → Prop} {v : Value} {xs : List α} (h : IsS57 w0 W g f0 f1 f2) (ho : d.S e W base ok v xs) (ht : e ≠ 57) : some g ≠ v.ownBlock:=by
 obtain ⟨A0,c0,A1,c1,hb,hg,hr0,hr1⟩:=h
 exact Kd.S_ne ho hb ht
theorem IsS57.lt {w0 W : World} {g : Nat} {f0 : List (S137)} {f1 : List Int} {f2 : Int} (h : IsS57 w0 W g f0 f1 f2) : g < W.heap.size:=by
 obtain ⟨A0,c0,A1,c1,hb,hg,hr0,hr1⟩:=h
 exact blk_lt hb
theorem IsS57.ge {w0 W : World} {g : Nat} {f0 : List (S137)} {f1 : List Int} {f2 : Int} (h : IsS57 w0 W g f0 f1 f2) : w0.heap.size ≤ g:=by
 obtain ⟨A0,c0,A1,c1,hb,hg,hr0,hr1⟩:=h
 exact hg
theorem IsS57.ne_blk {w0 W : World} {g : Nat} {f0 : List (S137)} {f1 : List Int} {f2 : Int} {a : Nat} {cs : Array Value} {t : TypeId} {fr : Nat × Nat} (h : IsS57 w0 W g f0 f1 f2) (hb2 : W.heap[a]? = some (.cells cs t fr)) (ht : t ≠ 57) : g ≠ a:=by
 obtain ⟨A0,c0,A1,c1,hb,hg,hr0,hr1⟩:=h
 rintro rfl
 rw [hb] at hb2
 injection hb2 with hb2
 injection hb2 with _ ht2
 exact ht ht2.symm
theorem IsS57.far {w0 W : World} {g : Nat} {f0 : List (S137)} {f1 : List Int} {f2 : Int} {p : Addr} (h : IsS57 w0 W g f0 f1 f2) (hne : g ≠ p.block) (u : Value) : IsS57 w0 (W.setCell p u) g f0 f1 f2:=by
 obtain ⟨A0,c0,A1,c1,hb,hg,hr0,hr1⟩:=h
 exact ⟨A0,c0,A1,c1,blk_far hb hne u,hg,hr0,hr1⟩
theorem cellS57_0 {W : World} {g : Nat} {A0 : Option Addr} {c0 : Nat} {A1 : Option Addr} {c1 : Nat} {f0 : List (S137)} {f1 : List Int} {f2 : Int} (h : W.heap[g]? = some (.cells #[.slice A0 f0.length c0,.slice A1 f1.length c1,.int .i64 f2] 57 (0,0))) : W.cell? ⟨g,0,none⟩ = some (.slice A0 f0.length c0):=(blk_cell h 0).trans rfl
theorem cellS57_1 {W : World} {g : Nat} {A0 : Option Addr} {c0 : Nat} {A1 : Option Addr} {c1 : Nat} {f0 : List (S137)} {f1 : List Int} {f2 : Int} (h : W.heap[g]? = some (.cells #[.slice A0 f0.length c0,.slice A1 f1.length c1,.int .i64 f2] 57 (0,0))) : W.cell? ⟨g,1,none⟩ = some (.slice A1 f1.length c1):=(blk_cell h 1).trans rfl
theorem cellS57_2 {W : World} {g : Nat} {A0 : Option Addr} {c0 : Nat} {A1 : Option Addr} {c1 : Nat} {f0 : List (S137)} {f1 : List Int} {f2 : Int} (h : W.heap[g]? = some (.cells #[.slice A0 f0.length c0,.slice A1 f1.length c1,.int .i64 f2] 57 (0,0))) : W.cell? ⟨g,2,none⟩ = some (.int .i64 f2):=(blk_cell h 2).trans rfl
theorem IsS57.set_2 {w0 W : World} {g : Nat} {f0 : List (S137)} {f1 : List Int} {f2 : Int} (h : IsS57 w0 W g f0 f1 f2) (x : Int) : IsS57 w0 (W.setCell ⟨g,2,none⟩ (.int .i64 x)) g f0 f1 x:=by
 obtain ⟨A0,c0,A1,c1,hb,hg,hr0,hr1⟩:=h
 exact ⟨A0,c0,A1,c1,by simpa using blk_set hb 2 (.int .i64 x),hg,hr0,hr1⟩
theorem IsS57.new (w0 W : World) (A0 : Option Addr) (c0 : Nat) (A1 : Option Addr) (c1 : Nat) (f0 : List (S137)) (f1 : List Int) (f2 : Int) (hB : Below w0.heap.size w0 W) (hr0 : Kd.C k137 w0 A0 f0.length f0) (hr1 : Kd.C (Kd.int .i64) w0 A1 f1.length f1) : IsS57 w0 (W.alloc (.cells #[.slice A0 f0.length c0,.slice A1 f1.length c1,.int .i64 f2] 57)) W.heap.size f0 f1 f2:=⟨A0,c0,A1,c1,by simpa using heap_alloc_new W _,hB.size,hr0,hr1⟩

/-! ### thwartref07_Remote_at: function 87 -/
def thwartref07_Remote_at.l0 : Nat → ByteArray → Int → List (S137) → List Int → Int → Option (Int × Int)
 | 0,_,_,_,_,_ => none
 | k + 1,x1,x5,x1000,x1001,x1002 => if x5 < (x1000.length : Int) then (if 0 ≤ x5 then (if ((rd_T137 x1000 x5).f0).toList = x1.toList then (some (x5,x1002)) else (thwartref07_Remote_at.l0 k x1 (wrap64 (x5 + 1)) x1000 x1001 x1002)) else (none)) else (some ((-1),x1002))
def thwartref07_Remote_at.f (k : Nat) (s0_0 : List (S137)) (s0_1 : List Int) (s0_2 : Int) (a1 : ByteArray) : Option (Int × Int):=thwartref07_Remote_at.l0 k a1 0 s0_0 s0_1 s0_2
theorem thwartref07_Remote_at.mono_l : ∀ k,(∀ y0 y1 y2 y3 y4,LeO (thwartref07_Remote_at.l0 k y0 y1 y2 y3 y4) (thwartref07_Remote_at.l0 (k + 1) y0 y1 y2 y3 y4))
 | 0 => fun _ _ _ _ _ r h => by simp [thwartref07_Remote_at.l0] at h
 | k + 1 => by
  have ih0:=thwartref07_Remote_at.mono_l k
  ·intro y0 y1 y2 y3 y4
   unfold thwartref07_Remote_at.l0
   repeat' first
   | (with_reducible exact ih0 _ _ _ _ _)
   | (with_reducible exact LeO.refl _)
   | (with_reducible exact LeO.none _)
   | (with_reducible refine LeO.ite ?_ ?_)
   | (with_reducible refine LeO.bind ?_ (fun _ => ?_))
   | exact ih0 _ _ _ _ _
   | exact LeO.none _
   | refine LeO.ite ?_ ?_
   | refine LeO.bind ?_ (fun _ => ?_)
theorem thwartref07_Remote_at.mono : ∀ a0 a1 a2 a3 k,LeO (thwartref07_Remote_at.f k a0 a1 a2 a3) (thwartref07_Remote_at.f (k + 1) a0 a1 a2 a3):=by
 intro a0 a1 a2 a3 k
 have ih0:=thwartref07_Remote_at.mono_l k
 unfold thwartref07_Remote_at.f
 repeat' first
   | (with_reducible exact ih0 _ _ _ _ _)
   | (with_reducible exact LeO.refl _)
   | (with_reducible exact LeO.none _)
   | (with_reducible refine LeO.ite ?_ ?_)
   | (with_reducible refine LeO.bind ?_ (fun _ => ?_))
   | exact ih0 _ _ _ _ _
   | exact LeO.none _
   | refine LeO.ite ?_ ?_
   | refine LeO.bind ?_ (fun _ => ?_)
set_option maxHeartbeats 8000000 in
set_option maxRecDepth 100000 in
theorem thwartref07_Remote_at.calls (k : Nat) (g : Nat) (s0_0 : List (S137)) (s0_1 : List Int) (s0_2 : Int) (a1 : ByteArray) (r1 : Int) (r2 : Int) (w0 w : World) (hI : IsS57 w0 w g s0_0 s0_1 s0_2) (hB : Below w0.heap.size w0 w) (h : thwartref07_Remote_at.f k s0_0 s0_1 s0_2 a1 = some (r1,r2)) :
  Calls Tryz.prog 87 #[.pointer (some ⟨g,0,none⟩),.string a1] w fun e w' => e = .returned (.int .i64 r1) ∧ IsS57 w0 w' g s0_0 s0_1 r2 ∧ Below w0.heap.size w0 w' ∧ KeepBut w w' g none:=by
 have HI0:=Aside0.mk hI
 have HK:=Aside0.mk (KeepBut.refl w g none)
 have HL:=Aside0.mk hB.size
 clear hI
 have HW0:=Aside0.mk hB.size
 have HB:=Aside0.mk hB
 clear hB
 have H : (thwartref07_Remote_at.l0 k a1 0 s0_0 s0_1 s0_2) = some (r1,r2):=h
 clear h
 have H' := Aside0.mk H
 clear H
 go_enter Tryz.func87,Tryz.ntmps87
 go_wp2
 go_loopg [5] k (fun kq v5 w' => ∃ (x5_1 : Int),v5 = .int .i64 x5_1 ∧ Aside0 (thwartref07_Remote_at.l0 kq a1 x5_1 s0_0 s0_1 s0_2 = some (r1,r2)) ∧ Aside0 (kq ≤ k) ∧ Aside0 (IsS57 w0 w' g s0_0 s0_1 s0_2) ∧ Aside0 (KeepBut w w' g none) ∧ Aside0 (Below w0.heap.size w0 w'))
 case atStart => exact ⟨(0),(by first | rfl | (simp;done) | (simp [*];done)),H',⟨Nat.le_refl _⟩,⟨by repeat (first | (with_reducible first | exact HI0.out | apply IsS57.alloc | apply IsS57.drewN | apply IsS57.drew | apply IsS57.set_2) | exact HI0.out)⟩,⟨by repeat (first | (with_reducible first | exact HK.out | apply KeepBut.set_ | apply keep_drewN | apply keep_drew | apply keep_alloc) | exact HK.out)⟩,⟨by repeat (first | (with_reducible first | exact HB.out | apply below_alloc | apply pw_below_drewN | apply below_drew1 | refine below_set ?_ (IsS57.ge HI0.out)) | exact HB.out)⟩⟩
 case round =>
  clear H'
  try clear p2
  obtain ⟨x5_1,rfl,HA,HK1,HI0,HK,HB⟩:=hrel
  cases gk with
  | zero => exact absurd HA.out (by simp [thwartref07_Remote_at.l0])
  | succ k1 =>
   have H:=HA.out
   clear HA
   simp only [thwartref07_Remote_at.l0] at H
   by_cases c3 : x5_1 < (s0_0.length : Int)
   ·rw [if_pos c3] at H
    have c3b0 : decide (x5_1 < (s0_0.length : Int)) = true:=decide_eq_true c3
    clear c3
    by_cases c4 : 0 ≤ x5_1
    ·rw [if_pos c4] at H
     have c4b0 : decide (0 ≤ x5_1) = true:=decide_eq_true c4
     clear c4
     by_cases c5 : ((rd_T137 s0_0 x5_1).f0).toList = a1.toList
     ·rw [if_pos c5] at H
      have c5b0 : (((rd_T137 s0_0 x5_1).f0).toList == a1.toList) = true:=beq_iff_eq.mpr c5
      have c5b1 : (((rd_T137 s0_0 x5_1).f0).toList != a1.toList) = false:=bne_eq_false_iff_eq.mpr c5
      clear c5
      simp only [Option.some.injEq,Prod.mk.injEq] at H
      obtain ⟨rfl,rfl⟩:=H
      obtain ⟨ASz6_0,cSz6_0,ASz6_1,cSz6_1,HGz6,hgz6,HSz6_0,HSz6_1⟩:=HI0.out
      have hcz6_0:=cellS57_0 HGz6
      have hcz6_1:=cellS57_1 HGz6
      have hcz6_2:=cellS57_2 HGz6
      have hfz6_2:=blk_frozen HGz6 2
      clear HGz6 hgz6
      have p367 : 0 ≤ (x5_1 : Int):=of_decide_eq_true (by first | (with_reducible assumption) | assumption)
      have q367 : x5_1 < (s0_0.length : Int):=of_decide_eq_true (by first | (with_reducible assumption) | assumption)
      obtain ⟨ad367,e367,hx367_0,hx367_1⟩:=at_T137 HSz6_0 x5_1 p367 q367
      cases e367
      replace hx367_0:=pw_cell_below HB.out hx367_0
      replace hx367_1:=pw_cell_below HB.out hx367_1
      replace p367:=eq_true p367
      replace q367:=eq_true q367
      go_wp2
      go_ret
      exact ⟨by first | rfl | (simp [errW_none,errW_some] <;> rfl) | (simp [*,errW_none,errW_some] <;> rfl) | (simp [errW_none,errW_some];exact isEmpty_bne _),by repeat (first | (with_reducible first | exact HI0.out | apply IsS57.alloc | apply IsS57.drewN | apply IsS57.drew | apply IsS57.set_2) | exact HI0.out),by repeat (first | (with_reducible first | exact HB.out | apply below_alloc | apply pw_below_drewN | apply below_drew1 | refine below_set ?_ (IsS57.ge HI0.out)) | exact HB.out),by repeat (first | (with_reducible first | exact HK.out | apply KeepBut.set_ | apply keep_drewN | apply keep_drew | apply keep_alloc) | exact HK.out)⟩
     ·rw [if_neg c5] at H
      have c5b0 : (((rd_T137 s0_0 x5_1).f0).toList == a1.toList) = false:=beq_eq_false_iff_ne.mpr c5
      have c5b1 : (((rd_T137 s0_0 x5_1).f0).toList != a1.toList) = true:=bne_iff_ne.mpr c5
      have H' := Aside0.mk H
      clear H
      obtain ⟨ASz7_0,cSz7_0,ASz7_1,cSz7_1,HGz7,hgz7,HSz7_0,HSz7_1⟩:=HI0.out
      have hcz7_0:=cellS57_0 HGz7
      have hcz7_1:=cellS57_1 HGz7
      have hcz7_2:=cellS57_2 HGz7
      have hfz7_2:=blk_frozen HGz7 2
      clear HGz7 hgz7
      have p367 : 0 ≤ (x5_1 : Int):=of_decide_eq_true (by first | (with_reducible assumption) | assumption)
      have q367 : x5_1 < (s0_0.length : Int):=of_decide_eq_true (by first | (with_reducible assumption) | assumption)
      obtain ⟨ad367,e367,hx367_0,hx367_1⟩:=at_T137 HSz7_0 x5_1 p367 q367
      cases e367
      replace hx367_0:=pw_cell_below HB.out hx367_0
      replace hx367_1:=pw_cell_below HB.out hx367_1
      replace p367:=eq_true p367
      replace q367:=eq_true q367
      go_wp2
      go_roundg k1
      case measure => have:=HK1.out;omega
      case rel => exact ⟨(wrap64 (x5_1 + 1)),(by first | rfl | (simp;done) | (simp [*];done)),H',⟨by have:=HK1.out;omega⟩,⟨by repeat (first | (with_reducible first | exact HI0.out | apply IsS57.alloc | apply IsS57.drewN | apply IsS57.drew | apply IsS57.set_2) | exact HI0.out)⟩,⟨by repeat (first | (with_reducible first | exact HK.out | apply KeepBut.set_ | apply keep_drewN | apply keep_drew | apply keep_alloc) | exact HK.out)⟩,⟨by repeat (first | (with_reducible first | exact HB.out | apply below_alloc | apply pw_below_drewN | apply below_drew1 | refine below_set ?_ (IsS57.ge HI0.out)) | exact HB.out)⟩⟩
    ·rw [if_neg c4] at H
     exact absurd H (by simp)
   ·rw [if_neg c3] at H
    have c3b0 : decide (x5_1 < (s0_0.length : Int)) = false:=decide_eq_false c3
    clear c3
    simp only [Option.some.injEq,Prod.mk.injEq] at H
    obtain ⟨rfl,rfl⟩:=H
    obtain ⟨ASz8_0,cSz8_0,ASz8_1,cSz8_1,HGz8,hgz8,HSz8_0,HSz8_1⟩:=HI0.out
    have hcz8_0:=cellS57_0 HGz8
    have hcz8_1:=cellS57_1 HGz8
    have hcz8_2:=cellS57_2 HGz8
    have hfz8_2:=blk_frozen HGz8 2
    clear HGz8 hgz8
    go_wp2
    go_ret
    exact ⟨by first | rfl | (simp [errW_none,errW_some] <;> rfl) | (simp [*,errW_none,errW_some] <;> rfl) | (simp [errW_none,errW_some];exact isEmpty_bne _),by repeat (first | (with_reducible first | exact HI0.out | apply IsS57.alloc | apply IsS57.drewN | apply IsS57.drew | apply IsS57.set_2) | exact HI0.out),by repeat (first | (with_reducible first | exact HB.out | apply below_alloc | apply pw_below_drewN | apply below_drew1 | refine below_set ?_ (IsS57.ge HI0.out)) | exact HB.out),by repeat (first | (with_reducible first | exact HK.out | apply KeepBut.set_ | apply keep_drewN | apply keep_drew | apply keep_alloc) | exact HK.out)⟩

-- NOT PRINTED: function 53 (thwartref07_Remote_Get)

end Go.Proofs.YtlnbekaldemebaaGreatDoor.Print
