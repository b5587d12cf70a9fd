/- Written by a program of mine (give.py, over the kit's print) out of the translation: contracts of the Go functions. Lean checks it. -/
import Derived.Test.YthndpknocofioaaGreatDoorPrint0
import Derived.Test.YthndpknocofioaaGreatDoorPrint5
import Derived.Test.YthndpknocofioaaGreatDoorPrint7
namespace Go.Proofs.YthndpknocofioaaGreatDoor.Print
open Go.RowKit Go.Proofs.YthndpknocofioaaGreatDoorW.PrintWords Go.Proofs.YthndpknocofioaaGreatDoorW.PrintLast Go.Proofs.YthndpknocofioaaGreatDoorW.PrintMore
attribute [local go_sem] max2_int min2_int max_two min_two max_three min_three max_four min_four   -- for this text's walks alone
set_option linter.unusedVariables false
set_option linter.unusedSimpArgs false

/-! ### hint_Of: function 59 -/
mutual
def hint_Of.l0 : Nat → ByteArray → List (S52) → Int → Option ((List (S52)) × Int)
 | 0,_,_,_ => none
 | k + 1,x0,x4,x5 => if 0 ≤ x5 then (if x5 ≤ (x0.size : Int) then ((frame_Take.f k (x0.extract (x5 : Int).toNat x0.size)).bind fun bt171 => (if bt171.2.2 = 0 then (if 0 ≤ (bt171.1.length : Int) then (if ((bt171.1.length : Int) : Int).toNat ≤ 5864062014805 then (hint_Of.l1 k x0 x4 x5 bt171.1 bt171.2.1 (wrap64 (x5 + bt171.2.1)) (List.replicate ((bt171.1.length : Int) : Int).toNat z52) (wrap64 ((bt171.1.length : Int) - 1))) else (none)) else (none)) else (some (x4,x5)))) else (none)) else (none)
def hint_Of.l1 : Nat → ByteArray → List (S52) → Int → List (S50) → Int → Int → List (S52) → Int → Option ((List (S52)) × Int)
 | 0,_,_,_,_,_,_,_,_ => none
 | k + 1,x0,x4,x5,x6,x7,x9,x10,x11 => if x11 ≥ 0 then (if 0 ≤ x11 then (if x11 < (x6.length : Int) then ((record_Bytes.f k ((rd_T50 x6 x11).f0) ((rd_T50 x6 x11).f1) ((rd_T50 x6 x11).f2) ((rd_T50 x6 x11).f3)).bind fun bt180 => (if x11 < (x10.length : Int) then (hint_Of.l1 k x0 x4 x5 x6 x7 (wrap64 (x9 - (bt180.1.size : Int))) (x10.set (x11 : Int).toNat (⟨(rd_T50 x6 x11).f1,wrap64 (x9 - (bt180.1.size : Int)),(bt180.1.size : Int),(rd_T50 x6 x11).f0,(rd_T50 x6 x11).f3⟩ : S52)) (wrap64 (x11 - 1))) else (none))) else (none)) else (none)) else (if x4.length + x10.length < 2932031007402 then (hint_Of.l0 k x0 (x4 ++ x10) (wrap64 (x5 + x7))) else (none))
end
def hint_Of.f (k : Nat) (a0 : ByteArray) : Option ((List (S52)) × Int):=hint_Of.l0 k a0 ([] : List (S52)) 0
theorem hint_Of.mono_l : ∀ k,(∀ y0 y1 y2,LeO (hint_Of.l0 k y0 y1 y2) (hint_Of.l0 (k + 1) y0 y1 y2)) ∧ (∀ y0 y1 y2 y3 y4 y5 y6 y7,LeO (hint_Of.l1 k y0 y1 y2 y3 y4 y5 y6 y7) (hint_Of.l1 (k + 1) y0 y1 y2 y3 y4 y5 y6 y7))
 | 0 => ⟨fun _ _ _ r h => by simp [hint_Of.l0] at h,fun _ _ _ _ _ _ _ _ r h => by simp [hint_Of.l1] at h⟩
 | k + 1 => by
  obtain ⟨ih0,ih1⟩:=hint_Of.mono_l k
  refine ⟨?_,?_⟩
  ·intro y0 y1 y2
   unfold hint_Of.l0
   repeat' first
   | (with_reducible exact ih0 _ _ _)
   | (with_reducible exact ih1 _ _ _ _ _ _ _ _)
   | (with_reducible exact frame_Take.mono _ _)
   | (with_reducible exact record_Bytes.mono _ _ _ _ _)
   | (with_reducible exact LeO.refl _)
   | (with_reducible exact LeO.none _)
   | (with_reducible refine LeO.ite ?_ ?_)
   | (with_reducible refine LeO.bind ?_ (fun _ => ?_))
   | exact ih0 _ _ _
   | exact ih1 _ _ _ _ _ _ _ _
   | exact frame_Take.mono _ _
   | exact record_Bytes.mono _ _ _ _ _
   | exact LeO.none _
   | refine LeO.ite ?_ ?_
   | refine LeO.bind ?_ (fun _ => ?_)
  ·intro y0 y1 y2 y3 y4 y5 y6 y7
   unfold hint_Of.l1
   repeat' first
   | (with_reducible exact ih0 _ _ _)
   | (with_reducible exact ih1 _ _ _ _ _ _ _ _)
   | (with_reducible exact frame_Take.mono _ _)
   | (with_reducible exact record_Bytes.mono _ _ _ _ _)
   | (with_reducible exact LeO.refl _)
   | (with_reducible exact LeO.none _)
   | (with_reducible refine LeO.ite ?_ ?_)
   | (with_reducible refine LeO.bind ?_ (fun _ => ?_))
   | exact ih0 _ _ _
   | exact ih1 _ _ _ _ _ _ _ _
   | exact frame_Take.mono _ _
   | exact record_Bytes.mono _ _ _ _ _
   | exact LeO.none _
   | refine LeO.ite ?_ ?_
   | refine LeO.bind ?_ (fun _ => ?_)
theorem hint_Of.mono : ∀ a0 k,LeO (hint_Of.f k a0) (hint_Of.f (k + 1) a0):=by
 intro a0 k
 obtain ⟨ih0,ih1⟩:=hint_Of.mono_l k
 unfold hint_Of.f
 repeat' first
   | (with_reducible exact ih0 _ _ _)
   | (with_reducible exact ih1 _ _ _ _ _ _ _ _)
   | (with_reducible exact frame_Take.mono _ _)
   | (with_reducible exact record_Bytes.mono _ _ _ _ _)
   | (with_reducible exact LeO.refl _)
   | (with_reducible exact LeO.none _)
   | (with_reducible refine LeO.ite ?_ ?_)
   | (with_reducible refine LeO.bind ?_ (fun _ => ?_))
   | exact ih0 _ _ _
   | exact ih1 _ _ _ _ _ _ _ _
   | exact frame_Take.mono _ _
   | exact record_Bytes.mono _ _ _ _ _
   | exact LeO.none _
   | refine LeO.ite ?_ ?_
   | refine LeO.bind ?_ (fun _ => ?_)
def hint_Of.T13 : Bool × List (List Nat × List Nat):=(true,[([],[]),([],[]),([],[]),([],[]),([2,3],[2,3]),([4],[4]),([5],[5]),([],[]),([],[]),([8],[8]),([],[]),([],[]),([10,11],[10,11]),([12],[12]),([13],[13]),([],[]),([],[]),([15,16],[15,16]),([17],[17]),([18],[18]),([6,7,9,14,19],[6,7,9,14,19]),([0,1,0,1,2,3,4,5,6,7,8,9,10,11,12,13,14,15,16,17,18,19,20],[0,1]),([21,20,0,1,2,3,4,5,6,7,8,9,10,11,12,13,14,15,16,17,18,19,20],[20,21])])
def hint_Of.B13 : List Nat:=[0,0,0,0,12,28,60,0,0,256,0,0,3072,7168,15360,0,0,98304,229376,491520,1048572,2097151,4194303]
theorem hint_Of.tab13 : rtab .any (opsOf Tryz.f59 13) = hint_Of.T13:=by kernel_rfl
theorem hint_Of.bits13 : waitsOk hint_Of.T13.2 hint_Of.B13 = true:=by kernel_rfl
set_option maxHeartbeats 8000000 in
set_option maxRecDepth 100000 in
theorem hint_Of.calls (k : Nat) (a0 : ByteArray) (r1 : List (S52)) (r2 : Int) (w : World) (h : hint_Of.f k a0 = some (r1,r2)) :
  Calls Tryz.prog 59 #[.string a0] w fun e w' => ∃ v0_ : Value,e = .returned (.tuple #[v0_,.int .i64 r2]) ∧ Kd.R k52 52 w' w.heap.size (fun _ => True) v0_ r1 ∧ Below w.heap.size w w' := by
 have hu50:=Tryz.underlying50
 have hu52:=Tryz.underlying52
 have HB:=Aside0.mk (Below.refl w.heap.size w)
 have H : (hint_Of.l0 k a0 ([] : List (S52)) 0) = some (r1,r2):=h
 clear h
 have H' := Aside0.mk H
 clear H
 go_enter Tryz.func59,Tryz.ntmps59
 go_wp2
 go_loopg [4,5] k (fun kq v4 v5 w' => ∃ (x4_1 : List (S52)) (x5_1 : Int),v5 = .int .i64 x5_1 ∧ Aside0 (hint_Of.l0 kq a0 x4_1 x5_1 = some (r1,r2)) ∧ Aside0 (kq ≤ k) ∧ Aside0 (Kd.R k52 52 w' w.heap.size (fun _ => True) v4 x4_1) ∧ Aside0 (Below w.heap.size w w'))
 case atStart => exact ⟨(([] : List (S52))),(0),(by first | rfl | (simp;done) | (simp [*];done)),H',⟨Nat.le_refl _⟩,⟨by first | exact Kd.R_nil _ _ _ _ _ | exact Kd.N_nil _ _ _ _ _ | exact Kd.V_nil _ _ _ _ _ | exact Kd.Q_nil _ _ _ _ _ | exact Kd.S_nil _ _ _ _ _⟩,⟨by repeat (first | (with_reducible first | exact HB.out | apply below_alloc | apply pw_below_drewN | apply below_drew1) | exact HB.out)⟩⟩
 case round =>
  clear H'
  obtain ⟨x4_1,x5_1,rfl,HA,HK1,HO_4,HB⟩:=hrel
  cases gk with
  | zero => exact absurd HA.out (by simp [hint_Of.l0])
  | succ k1 =>
   have H:=HA.out
   clear HA
   simp only [hint_Of.l0] at H
   by_cases c2 : 0 ≤ x5_1
   ·rw [if_pos c2] at H
    have c2b0:=eq_true c2
    have c2b1 : decide (0 ≤ x5_1) = true:=decide_eq_true c2
    clear c2
    by_cases c3 : x5_1 ≤ (a0.size : Int)
    ·rw [if_pos c3] at H
     have c3b0:=eq_true c3
     have c3b1 : decide (x5_1 ≤ (a0.size : Int)) = true:=decide_eq_true c3
     clear c3
     replace H:=Option.bind_eq_some_iff.mp H
     obtain ⟨⟨t171,t172,t173⟩,A40,H⟩:=H
     replace H : (if t173 = 0 then (if 0 ≤ (t171.length : Int) then (if ((t171.length : Int) : Int).toNat ≤ 5864062014805 then (hint_Of.l1 k1 a0 x4_1 x5_1 t171 t172 (wrap64 (x5_1 + t172)) (List.replicate ((t171.length : Int) : Int).toNat z52) (wrap64 ((t171.length : Int) - 1))) else (none)) else (none)) else (some (x4_1,x5_1))) = some (r1,r2):=H
     have A4:=Aside0.mk A40
     clear A40
     by_cases c5 : t173 = 0
     ·rw [if_pos c5] at H
      have c5b0 : (t173 == 0) = true:=beq_iff_eq.mpr c5
      have c5b1 : (t173 != 0) = false:=bne_eq_false_iff_eq.mpr c5
      clear c5
      by_cases c6 : 0 ≤ (t171.length : Int)
      ·rw [if_pos c6] at H
       have c6b0:=eq_true c6
       have c6b1 : decide (0 ≤ (t171.length : Int)) = true:=decide_eq_true c6
       clear c6
       by_cases c7 : ((t171.length : Int) : Int).toNat ≤ 5864062014805
       ·rw [if_pos c7] at H
        have c7b0:=eq_true c7
        have c7b1 : decide (((t171.length : Int) : Int).toNat ≤ 5864062014805) = true:=decide_eq_true c7
        clear c7
        obtain ⟨y176,hy176⟩ : ∃ y_ : List (S52),y_ = (List.replicate ((t171.length : Int) : Int).toNat z52):=⟨_,rfl⟩
        replace H : (hint_Of.l1 k1 a0 x4_1 x5_1 t171 t172 (wrap64 (x5_1 + t172)) y176 (wrap64 ((t171.length : Int) - 1))) = some (r1,r2):=by first | (rw [hy176];with_reducible exact H) | (have H2_:=(Option.bind_some _ _).symm.trans H;rw [hy176];with_reducible exact H2_) | (have H2_:=(Option.bind_some _ _).symm.trans H;with_reducible exact H2_) | with_reducible exact H | (rw [hy176];exact H) | exact H
        have Ny176:=Aside0.mk hy176
        clear hy176
        have H' := Aside0.mk H
        clear H
        go_wp2_with (first | ((with_reducible refine gate_callee (f:=96) rfl ?_);refine goesL_ (some 18) rfl rfl Tryz.func96 (by kernel_rfl) rfl #[.string (a0.extract (x5_1 : Int).toNat a0.size)] rfl (by (try simp only [List.map_toArray,List.map_cons,List.map_nil]);first | done | rfl | (simp only [List.length_drop,List.length_take];rfl)) ?_;(with_reducible refine (frame_Take.calls k1 (a0.extract (x5_1 : Int).toNat a0.size) t171 t172 t173 _ A4.out).mono ?_);rintro e w8 ⟨v174,rfl,ho0,hb⟩;refine ⟨_,rfl,?_⟩;have n0_:=Aside0.mk (Kd.R_below (by (with_reducible repeat (first | apply Kd.R_alloc | apply Kd.R_drewN | apply Kd.R_drew));exact HO_4.out) hb);have n1_:=Aside0.mk (Kd.R_lower ho0 (below_size (by repeat (first | (with_reducible first | exact HB.out | apply below_alloc | apply pw_below_drewN | apply below_drew1) | exact HB.out))));have n2_:=Aside0.mk (below_step (by repeat (first | (with_reducible first | exact HB.out | apply below_alloc | apply pw_below_drewN | apply below_drew1) | exact HB.out)) hb);clear HO_4;clear HB;have HO_4:=n0_;have HO175:=n1_;have HB:=n2_;clear n0_ n1_ n2_;(try clear hb);(try clear hb2);(try clear hk);(try clear hi);(try clear ho0);obtain ⟨Ao9,co9,eo9⟩:=Kd.R_slice HO175.out;subst eo9) | ((with_reducible refine gate_dst (N:=31) rfl ?_);refine Kd.R_make k52 _ 52 rfl (N:=31) rfl 33 _ _ rfl (t171.length : Int) rfl rfl Tryz.underlying33 (.agg #[(.string ⟨#[]⟩),(.int .i64 0),(.int .i64 0),(.int .u64 0),(.bool false)]) 48 info52 rfl (by decide) (by omega) z52 (ok:=fun _ => True) (okp:=fun _ => True) (k52_mkM _ _ _ z52 ) (fun _ hk => hk) trivial (of_decide_eq_true (by first | (with_reducible assumption) | assumption)) (Nat.le_trans (Nat.mul_le_mul_right _ (of_decide_eq_true (by first | (with_reducible assumption) | assumption) : (t171.length : Int).toNat ≤ 5864062014805)) (by omega)) (Below.refl _ _) (Nat.le_refl _) ?_;intro v177 w10 ho11 hb hg_ hnew_;clear hg_ hnew_;(first | rw [← Ny176.out] at ho11 | (simp only [Int.reduceToNat] at ho11;rw [← Ny176.out] at ho11));have n0_:=Aside0.mk (Kd.R_elder' (by (with_reducible repeat (first | apply Kd.R_alloc | apply Kd.R_drewN | apply Kd.R_drew));exact HO_4.out) (Kd.R_base ho11) hb);have n1_:=Aside0.mk (Kd.R_below (by (with_reducible repeat (first | apply Kd.R_alloc | apply Kd.R_drewN | apply Kd.R_drew));exact HO175.out) hb);have n2_:=Aside0.mk (Kd.R_lower (Kd.R_new' ho11 (Kd.R_lt (by (with_reducible repeat (first | apply Kd.R_alloc | apply Kd.R_drewN | apply Kd.R_drew));exact HO_4.out))) (below_size (by repeat (first | (with_reducible first | exact HB.out | apply below_alloc | apply pw_below_drewN | apply below_drew1) | exact HB.out))));have n3_:=Aside0.mk (below_step (by repeat (first | (with_reducible first | exact HB.out | apply below_alloc | apply pw_below_drewN | apply below_drew1) | exact HB.out)) hb);clear HO_4;clear HO175;clear HB;have HO_4:=n0_;have HO175:=n1_;have HO178:=n2_;have HB:=n3_;clear n0_ n1_ n2_ n3_;clear hb ho11))
        go_loopg [9,11] k1 (fun kq v9 v11 w' => ∃ (x9_2 : Int) (x10_2 : List (S52)) (x11_2 : Int),v9 = .int .i64 x9_2 ∧ v11 = .int .i64 x11_2 ∧ Aside0 (hint_Of.l1 kq a0 x4_1 x5_1 t171 t172 x9_2 x10_2 x11_2 = some (r1,r2)) ∧ Aside0 (kq ≤ k1) ∧ Aside0 (Kd.R k52 52 w' w.heap.size (fun k_ => some k_ ≠ (v177 : Value).ownBlock) u4 x4_1) ∧ Aside0 (Kd.R k50 50 w' w.heap.size (fun _ => True) (.slice Ao9 t171.length co9) t171) ∧ Aside0 (Kd.R k52 52 w' w.heap.size (fun k_ => some k_ ≠ (u4 : Value).ownBlock) v177 x10_2) ∧ Aside0 (Below w.heap.size w w'))
        case atStart => exact ⟨(wrap64 (x5_1 + t172)),(y176),(wrap64 ((t171.length : Int) - 1)),(by first | rfl | (simp;done) | (simp [*];done)),(by first | rfl | (simp;done) | (simp [*];done)),H',⟨Nat.le_refl _⟩,⟨by (with_reducible repeat (first | apply Kd.R_alloc | apply Kd.R_drewN | apply Kd.R_drew));exact Kd.R_mono HO_4.out (fun _ hk => hk.2)⟩,⟨by (with_reducible repeat (first | apply Kd.R_alloc | apply Kd.R_drewN | apply Kd.R_drew));exact HO175.out⟩,⟨by (with_reducible repeat (first | apply Kd.R_alloc | apply Kd.R_drewN | apply Kd.R_drew));exact Kd.R_mono HO178.out (fun _ hk => hk.2)⟩,⟨by repeat (first | (with_reducible first | exact HB.out | apply below_alloc | apply pw_below_drewN | apply below_drew1) | exact HB.out)⟩⟩
        case round =>
         clear H'
         try clear c2
         try clear c2b0
         try clear c2b1
         try clear p2
         try clear c3
         try clear c3b0
         try clear c3b1
         try clear c5
         try clear c5b0
         try clear c5b1
         try clear c6
         try clear c6b0
         try clear c6b1
         try clear p6
         try clear c7
         try clear c7b0
         try clear c7b1
         try clear c9
         obtain ⟨x9_2,x10_2,x11_2,rfl,rfl,HA,HK2,HO_4,HO_6,HO_10,HB⟩:=hrel
         cases gk with
         | zero => exact absurd HA.out (by simp [hint_Of.l1])
         | succ k2 =>
          have H:=HA.out
          clear HA
          simp only [hint_Of.l1] at H
          by_cases c12 : x11_2 ≥ 0
          ·rw [if_pos c12] at H
           have c12b0 : decide (0 ≤ x11_2) = true:=decide_eq_true c12
           clear c12
           by_cases c13 : 0 ≤ x11_2
           ·rw [if_pos c13] at H
            have c13b0 : decide (0 ≤ x11_2) = true:=decide_eq_true c13
            clear c13
            by_cases c14 : x11_2 < (t171.length : Int)
            ·rw [if_pos c14] at H
             have c14b0 : decide (x11_2 < (t171.length : Int)) = true:=decide_eq_true c14
             clear c14
             replace H:=Option.bind_eq_some_iff.mp H
             obtain ⟨⟨t180,t181⟩,A150,H⟩:=H
             replace H : (if x11_2 < (x10_2.length : Int) then (hint_Of.l1 k2 a0 x4_1 x5_1 t171 t172 (wrap64 (x9_2 - (t180.size : Int))) (x10_2.set (x11_2 : Int).toNat (⟨(rd_T50 t171 x11_2).f1,wrap64 (x9_2 - (t180.size : Int)),(t180.size : Int),(rd_T50 t171 x11_2).f0,(rd_T50 t171 x11_2).f3⟩ : S52)) (wrap64 (x11_2 - 1))) else (none)) = some (r1,r2):=H
             have A15:=Aside0.mk A150
             clear A150
             by_cases c16 : x11_2 < (x10_2.length : Int)
             ·rw [if_pos c16] at H
              have c16b0 : decide (x11_2 < (x10_2.length : Int)) = true:=decide_eq_true c16
              clear c16
              obtain ⟨y185,hy185⟩ : ∃ y_ : List (S52),y_ = (x10_2.set (x11_2 : Int).toNat (⟨(rd_T50 t171 x11_2).f1,wrap64 (x9_2 - (t180.size : Int)),(t180.size : Int),(rd_T50 t171 x11_2).f0,(rd_T50 t171 x11_2).f3⟩ : S52)):=⟨_,rfl⟩
              replace H : (hint_Of.l1 k2 a0 x4_1 x5_1 t171 t172 (wrap64 (x9_2 - (t180.size : Int))) y185 (wrap64 (x11_2 - 1))) = some (r1,r2):=by first | (rw [hy185];with_reducible exact H) | (have H2_:=(Option.bind_some _ _).symm.trans H;rw [hy185];with_reducible exact H2_) | (have H2_:=(Option.bind_some _ _).symm.trans H;with_reducible exact H2_) | with_reducible exact H | (rw [hy185];exact H) | exact H
              have Ny185:=Aside0.mk hy185
              clear hy185
              have H' := Aside0.mk H
              clear H
              have p179 : 0 ≤ (x11_2 : Int):=of_decide_eq_true (by first | (with_reducible assumption) | assumption)
              have q179 : x11_2 < (t171.length : Int):=of_decide_eq_true (by first | (with_reducible assumption) | assumption)
              obtain ⟨ad179,e179,hx179_0,hx179_1,hx179_2,hx179_3⟩:=at_T50 (Kd.R_reads' HO_6.out).2.2 x11_2 p179 q179
              cases e179
              replace p179:=eq_true p179
              replace q179:=eq_true q179
              try go_wp2_with (first | ((with_reducible refine gate_callee (f:=97) rfl ?_);refine goesL_ (some 44) rfl rfl Tryz.func97 (by kernel_rfl) rfl #[.agg #[.int .u64 ((rd_T50 t171 x11_2).f0),.string ((rd_T50 t171 x11_2).f1),.string ((rd_T50 t171 x11_2).f2),.bool ((rd_T50 t171 x11_2).f3)]] rfl (by (try simp only [List.map_toArray,List.map_cons,List.map_nil]);first | done | rfl | (simp only [List.length_drop,List.length_take];rfl)) ?_;(with_reducible refine (record_Bytes.calls k2 ((rd_T50 t171 x11_2).f0) ((rd_T50 t171 x11_2).f1) ((rd_T50 t171 x11_2).f2) ((rd_T50 t171 x11_2).f3) t180 t181 _ A15.out).mono ?_);rintro e w18 ⟨rfl,hb⟩;refine ⟨_,rfl,?_⟩;have n0_:=Aside0.mk (Kd.R_below (by (with_reducible repeat (first | apply Kd.R_alloc | apply Kd.R_drewN | apply Kd.R_drew));exact HO_4.out) hb);have n1_:=Aside0.mk (Kd.R_below (by (with_reducible repeat (first | apply Kd.R_alloc | apply Kd.R_drewN | apply Kd.R_drew));exact HO_6.out) hb);have n2_:=Aside0.mk (Kd.R_below (by (with_reducible repeat (first | apply Kd.R_alloc | apply Kd.R_drewN | apply Kd.R_drew));exact HO_10.out) hb);have n3_:=Aside0.mk (below_step (by repeat (first | (with_reducible first | exact HB.out | apply below_alloc | apply pw_below_drewN | apply below_drew1) | exact HB.out)) hb);clear HO_4;clear HO_6;clear HO_10;clear HB;have HO_4:=n0_;have HO_6:=n1_;have HO_10:=n2_;have HB:=n3_;clear n0_ n1_ n2_ n3_;(try clear hb);(try clear hb2);(try clear hk);(try clear hi)))
              have n0_:=Aside0.mk (Kd.R_drew HO_4.out)
              have n1_:=Aside0.mk (Kd.R_drew HO_6.out)
              have n2_:=Aside0.mk (Kd.R_drew HO_10.out)
              have n3_:=Aside0.mk (below_drew1 HB.out)
              clear HO_4
              clear HO_6
              clear HO_10
              clear HB
              have HO_4:=n0_
              have HO_6:=n1_
              have HO_10:=n2_
              have HB:=n3_
              clear n0_ n1_ n2_ n3_
              have p182 : 0 ≤ (x11_2 : Int):=of_decide_eq_true (by first | (with_reducible assumption) | assumption)
              have q182 : x11_2 < (t171.length : Int):=of_decide_eq_true (by first | (with_reducible assumption) | assumption)
              obtain ⟨ad182,e182,hx182_0,hx182_1,hx182_2,hx182_3⟩:=at_T50 (Kd.R_reads' HO_6.out).2.2 x11_2 p182 q182
              obtain rfl : ad179 = ad182:=(by injection e182)
              replace p182:=eq_true p182
              replace q182:=eq_true q182
              have p183 : 0 ≤ (x11_2 : Int):=of_decide_eq_true (by first | (with_reducible assumption) | assumption)
              have q183 : x11_2 < (t171.length : Int):=of_decide_eq_true (by first | (with_reducible assumption) | assumption)
              obtain ⟨ad183,e183,hx183_0,hx183_1,hx183_2,hx183_3⟩:=at_T50 (Kd.R_reads' HO_6.out).2.2 x11_2 p183 q183
              obtain rfl : ad179 = ad183:=(by injection e183)
              replace p183:=eq_true p183
              replace q183:=eq_true q183
              have p184 : 0 ≤ (x11_2 : Int):=of_decide_eq_true (by first | (with_reducible assumption) | assumption)
              have q184 : x11_2 < (t171.length : Int):=of_decide_eq_true (by first | (with_reducible assumption) | assumption)
              obtain ⟨ad184,e184,hx184_0,hx184_1,hx184_2,hx184_3⟩:=at_T50 (Kd.R_reads' HO_6.out).2.2 x11_2 p184 q184
              obtain rfl : ad179 = ad184:=(by injection e184)
              replace p184:=eq_true p184
              replace q184:=eq_true q184
              have p17 : 0 ≤ (x11_2 : Int):=of_decide_eq_true (by first | (with_reducible assumption) | assumption)
              have q17 : (x11_2 : Int) < ((x10_2.length : Int) : Int):=of_decide_eq_true (by first | (with_reducible assumption) | assumption)
              obtain ⟨go17,co17,eo17,gb17,gl17,cl17,HG17⟩:=Kd.R_form HO_10.out (by omega)
              (first | cases eo17 | (injection eo17 with ea_ en_ ec_;(first | subst ea_ | (injection ea_ with ea_;subst ea_));subst ec_;clear en_))
              have GB17:=Aside0.mk gb17
              have GG17:=Aside0.mk HG17
              clear gb17 gl17 HG17
              obtain ⟨ce17,hcl17,hM17,hcc17,hfr17⟩:=Kd.R_elem HO_10.out z52 (x11_2 : Int) p17 q17
              obtain rfl:=k52_openM hM17
              have hx17_0 : World.cell? _ ⟨go17,(x11_2 : Int).toNat * 5,none⟩ = some (.string ((rd_T52 x10_2 x11_2).f0)):=hcc17 0 _ rfl
              have hx17_1 : World.cell? _ ⟨go17,(x11_2 : Int).toNat * 5 + 1,none⟩ = some (.int .i64 ((rd_T52 x10_2 x11_2).f1)):=hcc17 1 _ rfl
              have hx17_2 : World.cell? _ ⟨go17,(x11_2 : Int).toNat * 5 + 2,none⟩ = some (.int .i64 ((rd_T52 x10_2 x11_2).f2)):=hcc17 2 _ rfl
              have hx17_3 : World.cell? _ ⟨go17,(x11_2 : Int).toNat * 5 + 3,none⟩ = some (.int .u64 ((rd_T52 x10_2 x11_2).f3)):=hcc17 3 _ rfl
              have hx17_4 : World.cell? _ ⟨go17,(x11_2 : Int).toNat * 5 + 4,none⟩ = some (.bool ((rd_T52 x10_2 x11_2).f4)):=hcc17 4 _ rfl
              have hf17_0 : World.frozen? _ ⟨go17,(x11_2 : Int).toNat * 5,none⟩ = false:=hfr17 0
              have hf17_1 : World.frozen? _ ⟨go17,(x11_2 : Int).toNat * 5 + 1,none⟩ = false:=hfr17 1
              have hf17_2 : World.frozen? _ ⟨go17,(x11_2 : Int).toNat * 5 + 2,none⟩ = false:=hfr17 2
              have hf17_3 : World.frozen? _ ⟨go17,(x11_2 : Int).toNat * 5 + 3,none⟩ = false:=hfr17 3
              have hf17_4 : World.frozen? _ ⟨go17,(x11_2 : Int).toNat * 5 + 4,none⟩ = false:=hfr17 4
              clear hcl17 hcc17 hfr17 hM17
              replace p17:=eq_true p17
              replace q17:=eq_true q17
              obtain ⟨ce20,hcl20,hM20,hcc20,hfr20⟩:=Kd.R_elem HO_10.out z52 (x11_2 : Int) (of_decide_eq_true (by first | (with_reducible assumption) | assumption)) (by have h_ : (x11_2 : Int) < ((x10_2.length : Int) : Int):=of_decide_eq_true (by first | (with_reducible assumption) | assumption);first | exact h_ | (have e_:=(Kd.R_reads' HO_10.out).1;omega) | simpa using h_)
              obtain rfl:=k52_openM hM20
              have HP20:=(Kd.R_seg HO_10.out (x11_2 : Int) (of_decide_eq_true (by first | (with_reducible assumption) | assumption)) (by have h_ : (x11_2 : Int) < ((x10_2.length : Int) : Int):=of_decide_eq_true (by first | (with_reducible assumption) | assumption);first | exact h_ | (have e_:=(Kd.R_reads' HO_10.out).1;omega) | simpa using h_) (seg:=[.string ((rd_T50 t171 x11_2).f1),.int .i64 (wrap64 (x9_2 - (t180.size : Int))),.int .i64 (t180.size : Int),.int .u64 ((rd_T50 t171 x11_2).f0),.bool ((rd_T50 t171 x11_2).f3)]) (j:=0) hcl20 hcc20 (show 5 ≤ 5 from by decide) (x' := (⟨(rd_T50 t171 x11_2).f1,wrap64 (x9_2 - (t180.size : Int)),(t180.size : Int),(rd_T50 t171 x11_2).f0,(rd_T50 t171 x11_2).f3⟩ : S52)) (k52_mkM _ _ _ (⟨(rd_T50 t171 x11_2).f1,wrap64 (x9_2 - (t180.size : Int)),(t180.size : Int),(rd_T50 t171 x11_2).f0,(rd_T50 t171 x11_2).f3⟩ : S52) ) (fun _ hk => hk)).1
              rw [← Ny185.out] at HP20
              have HQ20:=Aside0.mk HP20
              clear hcl20 hcc20 hfr20 hM20 HP20
              refine start_ (n:=23) (S:=fun w' => w'.cell? (ad179.add ((x11_2).toNat * 4)) = some (.int .u64 ((rd_T50 t171 x11_2).f0)) ∧ w'.cell? ⟨(ad179.add ((x11_2).toNat * 4)).block,(ad179.add ((x11_2).toNat * 4)).off + 1,none⟩ = some (.string ((rd_T50 t171 x11_2).f1)) ∧ w'.cell? ⟨(ad179.add ((x11_2).toNat * 4)).block,(ad179.add ((x11_2).toNat * 4)).off + 2,none⟩ = some (.string ((rd_T50 t171 x11_2).f2)) ∧ w'.cell? ⟨(ad179.add ((x11_2).toNat * 4)).block,(ad179.add ((x11_2).toNat * 4)).off + 3,none⟩ = some (.bool ((rd_T50 t171 x11_2).f3)) ∧ w'.cell? (ad179.add ((x11_2).toNat * 4)) = some (.int .u64 ((rd_T50 t171 x11_2).f0)) ∧ w'.cell? ⟨(ad179.add ((x11_2).toNat * 4)).block,(ad179.add ((x11_2).toNat * 4)).off + 1,none⟩ = some (.string ((rd_T50 t171 x11_2).f1)) ∧ w'.cell? ⟨(ad179.add ((x11_2).toNat * 4)).block,(ad179.add ((x11_2).toNat * 4)).off + 2,none⟩ = some (.string ((rd_T50 t171 x11_2).f2)) ∧ w'.cell? ⟨(ad179.add ((x11_2).toNat * 4)).block,(ad179.add ((x11_2).toNat * 4)).off + 3,none⟩ = some (.bool ((rd_T50 t171 x11_2).f3)) ∧ w'.cell? (ad179.add ((x11_2).toNat * 4)) = some (.int .u64 ((rd_T50 t171 x11_2).f0)) ∧ w'.cell? ⟨(ad179.add ((x11_2).toNat * 4)).block,(ad179.add ((x11_2).toNat * 4)).off + 1,none⟩ = some (.string ((rd_T50 t171 x11_2).f1)) ∧ w'.cell? ⟨(ad179.add ((x11_2).toNat * 4)).block,(ad179.add ((x11_2).toNat * 4)).off + 2,none⟩ = some (.string ((rd_T50 t171 x11_2).f2)) ∧ w'.cell? ⟨(ad179.add ((x11_2).toNat * 4)).block,(ad179.add ((x11_2).toNat * 4)).off + 3,none⟩ = some (.bool ((rd_T50 t171 x11_2).f3))) (ds:=[22]) #[false,false,false,false,false,false,false,false,false,false,false,false,false,false,false,false,false,false,false,false,false,false,false] (by kernel_rfl) rfl rfl ⟨hx182_0,hx182_1,hx182_2,hx182_3,hx183_0,hx183_1,hx183_2,hx183_3,hx184_0,hx184_1,hx184_2,hx184_3⟩ (fun hHeld => ?_);refine with_tabW hint_Of.tab13 hint_Of.bits13 (fun HT_ HW_ => ?_)
              generalize w18.drew = w19 at HO_4 HO_6 HO_10 HB GG17 HQ20 hf17_0 hf17_1 hf17_2 hf17_3 hf17_4 hx17_0 hx17_1 hx17_2 hx17_3 hx17_4 hx182_0 hx182_1 hx182_2 hx182_3 hx183_0 hx183_1 hx183_2 hx183_3 hx184_0 hx184_1 hx184_2 hx184_3 hHeld ⊢
              refine pure_ (i:=0) (N:=some 51) (v := ?_) (a' := ?_) #[true,false,false,false,false,false,false,false,false,false,false,false,false,false,false,false,false,false,false,false,false,false,false] rfl rfl (any_of HT_.out (by kernel_rfl)) (fun _ _ _ h => h) (Or.inl ⟨by rfl,?_⟩) ?_ ?_
              rotate_left
              ·intro w'
               go_simp
               with_reducible rfl
              rotate_left
              ·simp only [Act.put,List.setIfInBounds_toArray,List.set_cons_zero,List.set_cons_succ,i64_w,i32_w]
               rfl
              refine pure_ (i:=1) (N:=some 52) (v := ?_) (a' := ?_) #[true,true,false,false,false,false,false,false,false,false,false,false,false,false,false,false,false,false,false,false,false,false,false] rfl rfl (any_of HT_.out (by kernel_rfl)) (fun _ _ _ h => h) (Or.inl ⟨by rfl,?_⟩) ?_ ?_
              rotate_left
              ·intro w'
               go_simp
               with_reducible rfl
              rotate_left
              ·simp only [Act.put,List.setIfInBounds_toArray,List.set_cons_zero,List.set_cons_succ,i64_w,i32_w]
               rfl
              refine pure_ (i:=2) (N:=some 53) (v := ?_) (a' := ?_) #[true,true,true,false,false,false,false,false,false,false,false,false,false,false,false,false,false,false,false,false,false,false,false] rfl rfl (any_of HT_.out (by kernel_rfl)) (fun _ _ _ h => h) (Or.inl ⟨by rfl,?_⟩) ?_ ?_
              rotate_left
              ·intro w'
               go_simp
               with_reducible rfl
              rotate_left
              ·simp only [Act.put,List.setIfInBounds_toArray,List.set_cons_zero,List.set_cons_succ,i64_w,i32_w]
               rfl
              refine pure_ (i:=3) (N:=some 54) (v := ?_) (a' := ?_) #[true,true,true,true,false,false,false,false,false,false,false,false,false,false,false,false,false,false,false,false,false,false,false] rfl rfl (any_of HT_.out (by kernel_rfl)) (fun _ _ _ h => h) (Or.inl ⟨by rfl,?_⟩) ?_ ?_
              rotate_left
              ·intro w'
               go_simp
               with_reducible rfl
              rotate_left
              ·simp only [Act.put,List.setIfInBounds_toArray,List.set_cons_zero,List.set_cons_succ,i64_w,i32_w]
               rfl
              refine pure_ (i:=4) (N:=some 55) (v := ?_) (a' := ?_) #[true,true,true,true,true,false,false,false,false,false,false,false,false,false,false,false,false,false,false,false,false,false,false] rfl rfl (any_of HT_.out (by kernel_rfl)) (fun _ _ _ h => h) (Or.inl ⟨by rfl,?_⟩) ?_ ?_
              rotate_left
              ·intro w'
               go_simp
               with_reducible rfl
              rotate_left
              ·simp only [Act.put,List.setIfInBounds_toArray,List.set_cons_zero,List.set_cons_succ,i64_w,i32_w]
               rfl
              refine pure_ (i:=5) (N:=some 56) (v := ?_) (a' := ?_) #[true,true,true,true,true,true,false,false,false,false,false,false,false,false,false,false,false,false,false,false,false,false,false] rfl rfl (any_of HT_.out (by kernel_rfl)) (fun _ _ _ h => h) (Or.inl ⟨by rfl,?_⟩) ?_ ?_
              rotate_left
              ·intro w'
               go_simp
               with_reducible rfl
              rotate_left
              ·simp only [Act.put,List.setIfInBounds_toArray,List.set_cons_zero,List.set_cons_succ,i64_w,i32_w]
               rfl
              refine pure_ (i:=7) (N:=some 58) (v := ?_) (a' := ?_) #[true,true,true,true,true,true,false,true,false,false,false,false,false,false,false,false,false,false,false,false,false,false,false] rfl rfl (any_of HT_.out (by kernel_rfl)) (fun _ _ _ h => h) (Or.inl ⟨by rfl,?_⟩) ?_ ?_
              rotate_left
              ·intro w'
               go_simp
               with_reducible rfl
              rotate_left
              ·simp only [Act.put,List.setIfInBounds_toArray,List.set_cons_zero,List.set_cons_succ,i64_w,i32_w]
               rfl
              refine pure_ (i:=8) (N:=some 59) (v := ?_) (a' := ?_) #[true,true,true,true,true,true,false,true,true,false,false,false,false,false,false,false,false,false,false,false,false,false,false] rfl rfl (any_of HT_.out (by kernel_rfl)) (fun _ _ _ h => h) (Or.inl ⟨by rfl,?_⟩) ?_ ?_
              rotate_left
              ·intro w'
               go_simp
               with_reducible rfl
              rotate_left
              ·simp only [Act.put,List.setIfInBounds_toArray,List.set_cons_zero,List.set_cons_succ,i64_w,i32_w]
               rfl
              refine pure_ (i:=9) (N:=some 60) (v := ?_) (a' := ?_) #[true,true,true,true,true,true,false,true,true,true,false,false,false,false,false,false,false,false,false,false,false,false,false] rfl rfl (any_of HT_.out (by kernel_rfl)) (fun _ _ _ h => h) (Or.inl ⟨by rfl,?_⟩) ?_ ?_
              rotate_left
              ·intro w'
               go_simp
               with_reducible rfl
              rotate_left
              ·simp only [Act.put,List.setIfInBounds_toArray,List.set_cons_zero,List.set_cons_succ,i64_w,i32_w]
               rfl
              refine pure_ (i:=10) (N:=some 61) (v := ?_) (a' := ?_) #[true,true,true,true,true,true,false,true,true,true,true,false,false,false,false,false,false,false,false,false,false,false,false] rfl rfl (any_of HT_.out (by kernel_rfl)) (fun _ _ _ h => h) (Or.inl ⟨by rfl,?_⟩) ?_ ?_
              rotate_left
              ·intro w'
               go_simp
               with_reducible rfl
              rotate_left
              ·simp only [Act.put,List.setIfInBounds_toArray,List.set_cons_zero,List.set_cons_succ,i64_w,i32_w]
               rfl
              refine pure_ (i:=11) (N:=some 62) (v := ?_) (a' := ?_) #[true,true,true,true,true,true,false,true,true,true,true,true,false,false,false,false,false,false,false,false,false,false,false] rfl rfl (any_of HT_.out (by kernel_rfl)) (fun _ _ _ h => h) (Or.inl ⟨by rfl,?_⟩) ?_ ?_
              rotate_left
              ·intro w'
               go_simp
               with_reducible rfl
              rotate_left
              ·simp only [Act.put,List.setIfInBounds_toArray,List.set_cons_zero,List.set_cons_succ,i64_w,i32_w]
               rfl
              refine pure_ (i:=12) (N:=some 63) (v := ?_) (a' := ?_) #[true,true,true,true,true,true,false,true,true,true,true,true,true,false,false,false,false,false,false,false,false,false,false] rfl rfl (any_of HT_.out (by kernel_rfl)) (fun _ _ _ h => h) (Or.inl ⟨by rfl,?_⟩) ?_ ?_
              rotate_left
              ·intro w'
               go_simp
               with_reducible rfl
              rotate_left
              ·simp only [Act.put,List.setIfInBounds_toArray,List.set_cons_zero,List.set_cons_succ,i64_w,i32_w]
               rfl
              refine pure_ (i:=13) (N:=some 64) (v := ?_) (a' := ?_) #[true,true,true,true,true,true,false,true,true,true,true,true,true,true,false,false,false,false,false,false,false,false,false] rfl rfl (any_of HT_.out (by kernel_rfl)) (fun _ _ _ h => h) (Or.inl ⟨by rfl,?_⟩) ?_ ?_
              rotate_left
              ·intro w'
               go_simp
               with_reducible rfl
              rotate_left
              ·simp only [Act.put,List.setIfInBounds_toArray,List.set_cons_zero,List.set_cons_succ,i64_w,i32_w]
               rfl
              refine pure_ (i:=15) (N:=some 66) (v := ?_) (a' := ?_) #[true,true,true,true,true,true,false,true,true,true,true,true,true,true,false,true,false,false,false,false,false,false,false] rfl rfl (any_of HT_.out (by kernel_rfl)) (fun _ _ _ h => h) (Or.inl ⟨by rfl,?_⟩) ?_ ?_
              rotate_left
              ·intro w'
               go_simp
               with_reducible rfl
              rotate_left
              ·simp only [Act.put,List.setIfInBounds_toArray,List.set_cons_zero,List.set_cons_succ,i64_w,i32_w]
               rfl
              refine pure_ (i:=16) (N:=some 67) (v := ?_) (a' := ?_) #[true,true,true,true,true,true,false,true,true,true,true,true,true,true,false,true,true,false,false,false,false,false,false] rfl rfl (any_of HT_.out (by kernel_rfl)) (fun _ _ _ h => h) (Or.inl ⟨by rfl,?_⟩) ?_ ?_
              rotate_left
              ·intro w'
               go_simp
               with_reducible rfl
              rotate_left
              ·simp only [Act.put,List.setIfInBounds_toArray,List.set_cons_zero,List.set_cons_succ,i64_w,i32_w]
               rfl
              refine pure_ (i:=17) (N:=some 68) (v := ?_) (a' := ?_) #[true,true,true,true,true,true,false,true,true,true,true,true,true,true,false,true,true,true,false,false,false,false,false] rfl rfl (any_of HT_.out (by kernel_rfl)) (fun _ _ _ h => h) (Or.inl ⟨by rfl,?_⟩) ?_ ?_
              rotate_left
              ·intro w'
               go_simp
               with_reducible rfl
              rotate_left
              ·simp only [Act.put,List.setIfInBounds_toArray,List.set_cons_zero,List.set_cons_succ,i64_w,i32_w]
               rfl
              refine pure_ (i:=18) (N:=some 69) (v := ?_) (a' := ?_) #[true,true,true,true,true,true,false,true,true,true,true,true,true,true,false,true,true,true,true,false,false,false,false] rfl rfl (any_of HT_.out (by kernel_rfl)) (fun _ _ _ h => h) (Or.inl ⟨by rfl,?_⟩) ?_ ?_
              rotate_left
              ·intro w'
               go_simp
               with_reducible rfl
              rotate_left
              ·simp only [Act.put,List.setIfInBounds_toArray,List.set_cons_zero,List.set_cons_succ,i64_w,i32_w]
               rfl
              refine take_ (i:=6) (N:=some 57) (v := ?_) (a' := ?_) #[true,true,true,true,true,true,true,true,true,true,true,true,true,true,false,true,true,true,true,false,false,false,false] rfl rfl (take_ofW HT_.out HW_.out (by kernel_rfl)) (fun _ _ _ h => h) (Or.inl ⟨by rfl,?_⟩) hHeld ?_ ?_
              rotate_left
              ·rintro w' ⟨s0,s1,s2,s3,s4,s5,s6,s7,s8,s9,s10,s11⟩
               go_simp
               with_reducible rfl
              rotate_left
              ·simp only [Act.put,List.setIfInBounds_toArray,List.set_cons_zero,List.set_cons_succ,i64_w,i32_w]
               rfl
              refine take_ (i:=14) (N:=some 65) (v := ?_) (a' := ?_) #[true,true,true,true,true,true,true,true,true,true,true,true,true,true,true,true,true,true,true,false,false,false,false] rfl rfl (take_ofW HT_.out HW_.out (by kernel_rfl)) (fun _ _ _ h => h) (Or.inl ⟨by rfl,?_⟩) hHeld ?_ ?_
              rotate_left
              ·rintro w' ⟨s0,s1,s2,s3,s4,s5,s6,s7,s8,s9,s10,s11⟩
               go_simp
               with_reducible rfl
              rotate_left
              ·simp only [Act.put,List.setIfInBounds_toArray,List.set_cons_zero,List.set_cons_succ,i64_w,i32_w]
               rfl
              refine take_ (i:=19) (N:=some 70) (v := ?_) (a' := ?_) #[true,true,true,true,true,true,true,true,true,true,true,true,true,true,true,true,true,true,true,true,false,false,false] rfl rfl (take_ofW HT_.out HW_.out (by kernel_rfl)) (fun _ _ _ h => h) (Or.inl ⟨by rfl,?_⟩) hHeld ?_ ?_
              rotate_left
              ·rintro w' ⟨s0,s1,s2,s3,s4,s5,s6,s7,s8,s9,s10,s11⟩
               go_simp
               with_reducible rfl
              rotate_left
              ·simp only [Act.put,List.setIfInBounds_toArray,List.set_cons_zero,List.set_cons_succ,i64_w,i32_w]
               rfl
              refine pure_ (i:=20) (N:=some 71) (v := ?_) (a' := ?_) #[true,true,true,true,true,true,true,true,true,true,true,true,true,true,true,true,true,true,true,true,true,false,false] rfl rfl (any_of HT_.out (by kernel_rfl)) (fun _ _ _ h => h) (Or.inl ⟨by rfl,?_⟩) ?_ ?_
              rotate_left
              ·intro w'
               go_simp
               with_reducible rfl
              rotate_left
              ·simp only [Act.put,List.setIfInBounds_toArray,List.set_cons_zero,List.set_cons_succ,i64_w,i32_w]
               rfl
              refine pure_ (i:=21) (N:=some 72) (v := ?_) (a' := ?_) #[true,true,true,true,true,true,true,true,true,true,true,true,true,true,true,true,true,true,true,true,true,true,false] rfl rfl (any_of HT_.out (by kernel_rfl)) (fun _ _ _ h => h) (Or.inl ⟨by rfl,?_⟩) ?_ ?_
              rotate_left
              ·intro w'
               go_simp
               with_reducible rfl
              rotate_left
              ·simp only [Act.put,List.setIfInBounds_toArray,List.set_cons_zero,List.set_cons_succ,i64_w,i32_w]
               rfl
              refine last_ (i:=22) (N:=none) #[true,true,true,true,true,true,true,true,true,true,true,true,true,true,true,true,true,true,true,true,true,true,true] rfl rfl (one_of HT_.out (by kernel_rfl)) (by decide) (fun K hK => ?_)
              refine skip_ (w1 := ?_) (by rfl) rfl ?_ ?_
              rotate_left
              ·go_simp
               rfl
              refine hK.out _ _ ?_
              clear hK K
              refine done_ (done_of HT_.out (by kernel_rfl)) ?_
              try go_wp2
              go_roundg k2
              case measure => have:=HK1.out;have:=HK2.out;omega
              case rel => exact ⟨(wrap64 (x9_2 - (t180.size : Int))),(y185),(wrap64 (x11_2 - 1)),(by first | rfl | (simp;done) | (simp [*];done)),(by first | rfl | (simp;done) | (simp [*];done)),H',⟨by have:=HK1.out;have:=HK2.out;omega⟩,⟨by (with_reducible repeat (first | apply Kd.R_alloc | apply Kd.R_drewN | apply Kd.R_drew));exact Kd.R_mono (Kd.R_far (p:=⟨go17,(x11_2 : Int).toNat * 5 + 4,none⟩) (Kd.R_far (p:=⟨go17,(x11_2 : Int).toNat * 5 + 3,none⟩) (Kd.R_far (p:=⟨go17,(x11_2 : Int).toNat * 5 + 2,none⟩) (Kd.R_far (p:=⟨go17,(x11_2 : Int).toNat * 5 + 1,none⟩) (Kd.R_far (p:=⟨go17,(x11_2 : Int).toNat * 5,none⟩) (Kd.R_mono HO_4.out (fun k_ hk => (⟨hk,fun e_ => hk (by rw [e_];rfl)⟩ : _ ∧ k_ ≠ go17))) (fun _ hk => hk.2) (.string ((rd_T50 t171 x11_2).f1))) (fun _ hk => hk.2) (.int .i64 (wrap64 (x9_2 - (t180.size : Int))))) (fun _ hk => hk.2) (.int .i64 (t180.size : Int))) (fun _ hk => hk.2) (.int .u64 ((rd_T50 t171 x11_2).f0))) (fun _ hk => hk.2) (.bool ((rd_T50 t171 x11_2).f3))) (fun _ hk => hk.1)⟩,⟨by (with_reducible repeat (first | apply Kd.R_alloc | apply Kd.R_drewN | apply Kd.R_drew));exact Kd.R_mono (Kd.R_far (p:=⟨go17,(x11_2 : Int).toNat * 5 + 4,none⟩) (Kd.R_far (p:=⟨go17,(x11_2 : Int).toNat * 5 + 3,none⟩) (Kd.R_far (p:=⟨go17,(x11_2 : Int).toNat * 5 + 2,none⟩) (Kd.R_far (p:=⟨go17,(x11_2 : Int).toNat * 5 + 1,none⟩) (Kd.R_far (p:=⟨go17,(x11_2 : Int).toNat * 5,none⟩) (Kd.R_types HO_6.out GG17.out (by decide)) (fun _ hk => hk.2) (.string ((rd_T50 t171 x11_2).f1))) (fun _ hk => hk.2) (.int .i64 (wrap64 (x9_2 - (t180.size : Int))))) (fun _ hk => hk.2) (.int .i64 (t180.size : Int))) (fun _ hk => hk.2) (.int .u64 ((rd_T50 t171 x11_2).f0))) (fun _ hk => hk.2) (.bool ((rd_T50 t171 x11_2).f3))) (fun _ hk => trivial)⟩,⟨by (with_reducible repeat (first | apply Kd.R_alloc | apply Kd.R_drewN | apply Kd.R_drew));exact HQ20.out⟩,⟨by repeat (first | (with_reducible first | exact HB.out | apply below_alloc | apply pw_below_drewN | apply below_drew1 | refine below_set ?_ GB17.out | refine below_set ?_ GB17.out | refine below_set ?_ GB17.out | refine below_set ?_ GB17.out | refine below_set ?_ GB17.out) | exact HB.out)⟩⟩
             ·rw [if_neg c16] at H
              exact absurd H (by simp)
            ·rw [if_neg c14] at H
             exact absurd H (by simp)
           ·rw [if_neg c13] at H
            exact absurd H (by simp)
          ·rw [if_neg c12] at H
           have c12b0 : decide (0 ≤ x11_2) = false:=decide_eq_false c12
           clear c12
           by_cases c21 : x4_1.length + x10_2.length < 2932031007402
           ·rw [if_pos c21] at H
            have LMc21:=Aside0.mk c21
            clear c21
            obtain ⟨y186,hy186⟩ : ∃ y_ : List (S52),y_ = (x4_1 ++ x10_2):=⟨_,rfl⟩
            replace H : (hint_Of.l0 k2 a0 y186 (wrap64 (x5_1 + t172))) = some (r1,r2):=by first | (rw [hy186];with_reducible exact H) | (have H2_:=(Option.bind_some _ _).symm.trans H;rw [hy186];with_reducible exact H2_) | (have H2_:=(Option.bind_some _ _).symm.trans H;with_reducible exact H2_) | with_reducible exact H | (rw [hy186];exact H) | exact H
            have Ny186:=Aside0.mk hy186
            clear hy186
            have H' := Aside0.mk H
            clear H
            obtain ⟨Ao23,co23,eo23⟩:=Kd.R_slice HO_10.out
            subst eo23
            go_wp2_with (first | ((with_reducible refine gate_builtin (b := .append) (xs := #[.tmp 73,.tmp 74]) rfl ?_);at_builtin;refine Kd.R_append_rows k52 (w0:=w) w.heap.size rfl (.tmp 73) (.tmp 74) 33 52 (.agg #[(.string ⟨#[]⟩),(.int .i64 0),(.int .i64 0),(.int .u64 0),(.bool false)]) 48 rfl Tryz.underlying33 info52 rfl (by decide) (by omega) u4 x4_1 x10_2 _ _ _ (fun k_ => some k_ ≠ (.slice Ao23 x10_2.length co23 : Value).ownBlock) (fun _ => False) rfl rfl ?aO ?aR (fun _ _ h => h) (fun _ h => h.elim) ?aF ?aB ?aS ?aL ?_;(case aR => repeat (first | exact (Kd.R_reads' HO_10.out).2.2 | (with_reducible refine Kd.C_alloc ?_ _) | (with_reducible refine Kd.C_drewN ?_ _) | (with_reducible refine Kd.C_drew ?_)));(case aB => exact (by repeat (first | (with_reducible first | exact HB.out | apply below_alloc | apply pw_below_drewN | apply below_drew1) | exact HB.out)));(case aF => exact (fun k_ hk => Kd.fresh' (Kd.R_lt (by (with_reducible repeat (first | apply Kd.R_alloc | apply Kd.R_drewN | apply Kd.R_drew));exact HO_10.out)) k_ hk));(case aO => exact (by (with_reducible repeat (first | apply Kd.R_alloc | apply Kd.R_drewN | apply Kd.R_drew));exact HO_4.out));(case aS => exact (below_size (by repeat (first | (with_reducible first | exact HB.out | apply below_alloc | apply pw_below_drewN | apply below_drew1) | exact HB.out))));(case aL => have:=LMc21.out;omega);intro v187 w22 ho hb hg hat;rw [← Ny186.out] at ho;have n0_:=Aside0.mk (Kd.R_over' (by (with_reducible repeat (first | apply Kd.R_alloc | apply Kd.R_drewN | apply Kd.R_drew));exact HO_6.out) (Kd.R_typed (by (with_reducible repeat (first | apply Kd.R_alloc | apply Kd.R_drewN | apply Kd.R_drew));exact HO_4.out)) (by decide) hg);have n1_:=Aside0.mk (Kd.R_after (ok:=(fun _ => True)) (by (with_reducible repeat (first | apply Kd.R_alloc | apply Kd.R_drewN | apply Kd.R_drew));exact Kd.R_mono HO_10.out (fun _ hk => ⟨trivial,hk⟩)) hg hat);have n2_:=Aside0.mk (hb);have n3_:=Aside0.mk (ho);clear HO_6;clear HO_10;clear HB;clear HO_4;have HO_6:=n0_;have HO_10:=n1_;have HB:=n2_;have HO188:=n3_;clear n0_ n1_ n2_ n3_;clear ho hb hg hat))
            go_roundg k2
            case measure => have:=HK1.out;have:=HK2.out;omega
            case rel => exact ⟨(y186),(wrap64 (x5_1 + t172)),(by first | rfl | (simp;done) | (simp [*];done)),H',⟨by have:=HK1.out;have:=HK2.out;omega⟩,⟨by (with_reducible repeat (first | apply Kd.R_alloc | apply Kd.R_drewN | apply Kd.R_drew));exact Kd.R_mono HO188.out (fun _ hk => trivial)⟩,⟨by repeat (first | (with_reducible first | exact HB.out | apply below_alloc | apply pw_below_drewN | apply below_drew1) | exact HB.out)⟩⟩
           ·rw [if_neg c21] at H
            exact absurd H (by simp)
       ·rw [if_neg c7] at H
        exact absurd H (by simp)
      ·rw [if_neg c6] at H
       exact absurd H (by simp)
     ·rw [if_neg c5] at H
      have c5b0 : (t173 == 0) = false:=beq_eq_false_iff_ne.mpr c5
      have c5b1 : (t173 != 0) = true:=bne_iff_ne.mpr c5
      simp only [Option.some.injEq,Prod.mk.injEq] at H
      obtain ⟨rfl,rfl⟩:=H
      go_wp2_with (first | ((with_reducible refine gate_callee (f:=96) rfl ?_);refine goesL_ (some 18) rfl rfl Tryz.func96 (by kernel_rfl) rfl #[.string (a0.extract (x5_1 : Int).toNat a0.size)] rfl (by (try simp only [List.map_toArray,List.map_cons,List.map_nil]);first | done | rfl | (simp only [List.length_drop,List.length_take];rfl)) ?_;(with_reducible refine (frame_Take.calls k1 (a0.extract (x5_1 : Int).toNat a0.size) t171 t172 t173 _ A4.out).mono ?_);rintro e w24 ⟨v174,rfl,ho0,hb⟩;refine ⟨_,rfl,?_⟩;have n0_:=Aside0.mk (Kd.R_below (by (with_reducible repeat (first | apply Kd.R_alloc | apply Kd.R_drewN | apply Kd.R_drew));exact HO_4.out) hb);have n1_:=Aside0.mk (Kd.R_lower ho0 (below_size (by repeat (first | (with_reducible first | exact HB.out | apply below_alloc | apply pw_below_drewN | apply below_drew1) | exact HB.out))));have n2_:=Aside0.mk (below_step (by repeat (first | (with_reducible first | exact HB.out | apply below_alloc | apply pw_below_drewN | apply below_drew1) | exact HB.out)) hb);clear HO_4;clear HB;have HO_4:=n0_;have HO175:=n1_;have HB:=n2_;clear n0_ n1_ n2_;(try clear hb);(try clear hb2);(try clear hk);(try clear hi);(try clear ho0)))
      go_ret2
      exact ⟨_,by first | rfl | (simp [errW_none,errW_some] <;> rfl) | (simp [*,errW_none,errW_some] <;> rfl) | (simp [errW_none,errW_some];exact isEmpty_bne _),by (with_reducible repeat (first | apply Kd.R_alloc | apply Kd.R_drewN | apply Kd.R_drew));exact HO_4.out,by repeat (first | (with_reducible first | exact HB.out | apply below_alloc | apply pw_below_drewN | apply below_drew1) | exact HB.out)⟩
    ·rw [if_neg c3] at H
     exact absurd H (by simp)
   ·rw [if_neg c2] at H
    exact absurd H (by simp)

-- NOT PRINTED: function 16 (segment_Write)

-- NOT PRINTED: function 98 (disk_Disk_Read)

-- NOT PRINTED: function 62 (segment_bytes)

-- NOT PRINTED: function 60 (disk_Disk_change)

-- NOT PRINTED: function 63 (disk_Disk_Cut)

-- NOT PRINTED: function 20 (segment_Load)

-- NOT PRINTED: function 12 (segment_Hints)

-- NOT PRINTED: function 18 (disk_Disk_Remove)

-- NOT PRINTED: function 36 (disk_Disk_Sync)

/-! ### hint_right: function 100 -/
theorem hint_within.calls (n a b : Int) (r : Bool) (w : World) (hr : (decide (a ≤ n) && decide (n ≤ b)) = r) :
    Calls Tryz.prog 142 #[.int .i64 n, .int .i64 a, .int .i64 b] w fun e w' => e = .returned (.bool r) ∧ w' = w := by
  by_cases h : a ≤ n
  · have h0 := eq_true h
    have h1 : decide (a ≤ n) = true := decide_eq_true h
    rw [h1, Bool.true_and] at hr
    have HR := Aside0.mk hr
    clear hr
    go_enter Tryz.func142, Tryz.ntmps142
    go_wp2
    go_ret
    exact ⟨by rw [← HR.out]; rfl, rfl⟩
  · have h0 := eq_false h
    have h1 : decide (a ≤ n) = false := decide_eq_false h
    rw [h1, Bool.false_and] at hr
    have HR := Aside0.mk hr
    clear hr
    go_enter Tryz.func142, Tryz.ntmps142
    go_wp2
    go_ret
    exact ⟨by rw [← HR.out]; rfl, rfl⟩
def hint_right.f (a0_0 : ByteArray) (a0_1 a0_2 a0_3 : Int) (a0_4 : Bool) : Option Bool :=
  some ((decide (1 ≤ (a0_0.size : Int)) && decide ((a0_0.size : Int) ≤ 40)) && ((decide (0 ≤ a0_1) && decide (a0_1 ≤ 1048576)) && ((decide (1 ≤ a0_2) && decide (a0_2 ≤ 400)) && (decide (1 ≤ a0_3) && decide (a0_3 ≤ 1099511627776)))))
set_option maxHeartbeats 1600000 in
set_option maxRecDepth 100000 in
theorem hint_right.calls (a0_0 : ByteArray) (a0_1 a0_2 a0_3 : Int) (a0_4 : Bool) (r : Bool) (w : World) (h : hint_right.f a0_0 a0_1 a0_2 a0_3 a0_4 = some r) :
    Calls Tryz.prog 100 #[.agg #[.string a0_0, .int .i64 a0_1, .int .i64 a0_2, .int .u64 a0_3, .bool a0_4]] w fun e w' => e = .returned (.bool r) ∧ Below w.heap.size w w' := by
  have hr := Option.some.inj h
  clear h
  generalize e1 : (decide (1 ≤ (a0_0.size : Int)) && decide ((a0_0.size : Int) ≤ 40)) = b1 at hr
  generalize e2 : (decide (0 ≤ a0_1) && decide (a0_1 ≤ 1048576)) = b2 at hr
  generalize e3 : (decide (1 ≤ a0_2) && decide (a0_2 ≤ 400)) = b3 at hr
  have H1 := Aside0.mk e1
  have H2 := Aside0.mk e2
  have H3 := Aside0.mk e3
  have HR := Aside0.mk hr
  have HB := Aside0.mk ((Below.refl w.heap.size w).alloc (Nat.le_refl _) (.cells #[.string a0_0, .int .i64 a0_1, .int .i64 a0_2, .int .u64 a0_3, .bool a0_4] 52))
  clear e1 e2 e3 hr
  go_enter Tryz.func100, Tryz.ntmps100
  go_wp2_with fail
  refine (hint_within.calls _ 1 40 b1 _ H1.out).mono ?_
  rintro e w1 ⟨rfl, rfl⟩
  cases b1 with
  | false =>
    go_wp2_with fail
    go_ret
    exact ⟨by rw [← HR.out]; rfl, HB.out⟩
  | true =>
    go_wp2_with fail
    refine (hint_within.calls _ 0 1048576 b2 _ H2.out).mono ?_
    rintro e w1 ⟨rfl, rfl⟩
    cases b2 with
    | false =>
      go_wp2_with fail
      go_ret
      exact ⟨by rw [← HR.out]; rfl, HB.out⟩
    | true =>
      go_wp2_with fail
      refine (hint_within.calls _ 1 400 b3 _ H3.out).mono ?_
      rintro e w1 ⟨rfl, rfl⟩
      cases b3 with
      | false =>
        go_wp2_with fail
        go_ret
        exact ⟨by rw [← HR.out]; rfl, HB.out⟩
      | true =>
        by_cases h4 : 1 ≤ a0_3
        · have h4a := eq_true h4
          have h4b : decide (1 ≤ a0_3) = true := decide_eq_true h4
          have hr := HR.out
          rw [h4b] at hr
          clear HR
          have HR := Aside0.mk hr
          clear hr
          go_wp2_with fail
          go_ret
          exact ⟨by rw [← HR.out]; rfl, HB.out⟩
        · have h4a := eq_false h4
          have h4b : decide (1 ≤ a0_3) = false := decide_eq_false h4
          have hr := HR.out
          rw [h4b] at hr
          clear HR
          have HR := Aside0.mk hr
          clear hr
          go_wp2_with fail
          go_ret
          exact ⟨by rw [← HR.out]; rfl, HB.out⟩

/-! ### hint_flag: function 114 -/
def hint_flag.f (a0 : Bool) : Option (Int):=if a0 = true then (some 1) else (some 0)
set_option maxHeartbeats 8000000 in
set_option maxRecDepth 100000 in
theorem hint_flag.calls (a0 : Bool) (r : Int) (w : World) (h : hint_flag.f a0 = some r) :
  Calls Tryz.prog 114 #[.bool a0] w fun e w' => e = .returned (.int .u64 r) ∧ Drawn0 w w' := by
 have H : (if a0 = true then (some 1) else (some 0)) = some r:=h
 clear h
 by_cases c2 : a0 = true
 ·subst c2
  have H1 : (some 1) = some r:=by rw [if_pos rfl] at H;exact H
  clear H
  have H:=H1
  clear H1
  obtain rfl:=Option.some.inj H
  go_enter Tryz.func114,Tryz.ntmps114
  go_wp2
  go_ret
  exact ⟨by first | rfl | (simp;done) | (simp [*];done),by repeat (first | exact Drawn0.refl _ | apply Drawn0.step)⟩
 ·replace c2:=Bool.eq_false_iff.mpr c2
  subst c2
  have H1 : (some 0) = some r:=by rw [if_neg (show ¬ (false = true) by decide)] at H;exact H
  clear H
  have H:=H1
  clear H1
  obtain rfl:=Option.some.inj H
  go_enter Tryz.func114,Tryz.ntmps114
  go_wp2
  go_ret
  exact ⟨by first | rfl | (simp;done) | (simp [*];done),by repeat (first | exact Drawn0.refl _ | apply Drawn0.step)⟩

end Go.Proofs.YthndpknocofioaaGreatDoor.Print
